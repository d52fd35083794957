/- What the laws lean on. -/
import Derived.Test.YteaahhokaffmdaaGreatDoorPt12
import Derived.Test.YteaahhokaffmdaaGreatDoorShelfS
import Derived.IntWalk
import Derived.Maps.OwnSet
import Derived.Maps.OwnOps
import Derived.Maps.RangeWalk
import Derived.Maps.AppendAt
import Derived.Deep.AppendLies
import Derived.Sort.KeysCollected
import Derived.Sort.OwnSorted
import Derived.Sort.OwnSortedInts
namespace Go.Proofs.YteaahhokaffmdaaGreatDoor
set_option linter.unusedVariables false
set_option linter.unusedSimpArgs false
section
section
section
open Go.RowKit
set_option maxHeartbeats 4000000
theorem mksB_len {l : List MK} (h : mksB l = true) : l.length ≤ 4096 := by
 unfold mksB at h
 simp only [Bool.and_eq_true, decide_eq_true_eq] at h
 exact h.1
theorem mksB_from {l : List MK} (h : mksB l = true) : mksFrom 0 l = true := by
 unfold mksB at h
 simp only [Bool.and_eq_true, decide_eq_true_eq] at h
 exact h.2
theorem MK.ok_of {m : MK} (h : m.ok = true) : 1 ≤ m.key.size ∧ m.key.size ≤ 64 ∧ m.known ≤ 2147483647 := by
 unfold MK.ok at h
 simp only [Bool.and_eq_true, decide_eq_true_eq] at h
 omega
def prevM (l : List MK) (i : Nat) : Int := if i = 0 then 0 else match l[i - 1]? with | some x => x.known | none => 0
theorem prevM_succ {l : List MK} {i : Nat} {x : MK} (h : l[i]? = some x) : prevM l (i + 1) = x.known := by
 unfold prevM
 rw [if_neg (by omega), Nat.add_sub_cancel, h]
theorem prevM_lt {l : List MK} (h : mksB l = true) {i : Nat} {x : MK} (hx : l[i]? = some x) : 0 ≤ prevM l i ∧ prevM l i < x.known := by
 have h2 := mksB_from h
 unfold prevM
 by_cases hi : i = 0
 ·rw [if_pos hi]
  have := mksFrom_get l 0 i x h2 hx
  omega
 ·rw [if_neg hi]
  have hl := (List.getElem?_eq_some_iff.1 hx).1
  have hy : l[i - 1]? = some l[i - 1] := List.getElem?_eq_getElem (by omega)
  rw [hy]
  have h3 := mksFrom_get l 0 (i - 1) _ h2 hy
  have h4 := mksFrom_lt l 0 (i - 1) i _ x h2 hy hx (by omega)
  exact ⟨by show 0 ≤ l[i - 1].known; omega, h4⟩
theorem mkQ {W : World} {b : Nat} {x : MK} {t : TypeId} (h : BlkAt W b (mkV x) t) : W.cell? ⟨b, 0, none⟩ = some (.string x.key) ∧ W.cell? ⟨b, 1, none⟩ = some (.int .i64 x.known) ∧ W.cell? ⟨b, 2, none⟩ = some (.bool x.void) :=
 ⟨h.cell rfl, h.cell rfl, h.cell rfl⟩
theorem aChk_ok (l : List MK) (hv : mksB l = true) (A : Option Addr) (cp : Nat) (w : World) (h : MkAt w A l) : Calls Tryz.prog 39 #[.slice A l.length cp] w (RetB (.int .i64 0) w) := by
 have hl := mksB_len hv
 have HV := Lib.hid hv
 clear hv
 go_enter Tryz.func39, Tryz.ntmps39
 go_wp2
 go_loopw [3, 11] (fun lv iv wr => ∃ i : Nat, i ≤ l.length ∧ iv = .int .i64 i ∧ lv = .int .i64 (prevM l i) ∧ MkAt wr A l ∧ Below w.heap.size w wr) (fun _ iv _ => l.length - (intOf iv).toNat)
 case atStart => exact ⟨0, by omega, rfl, rfl, h, Below.refl _ _⟩
 case round =>
  obtain ⟨i, hi, rfl, rfl, hS, hB⟩ := hrel
  clear h
  by_cases hlt : i < l.length
  ·obtain ⟨b, o, x, rfl, hx, hbl, hsm, q0, q1, q2⟩ := hS.get hlt
   have hp := prevM_lt HV.out hx
   obtain ⟨hp1, hp2⟩ := hp
   have hk := MK.ok_of (mksFrom_get l 0 i x (mksB_from HV.out) hx).1
   obtain ⟨hk1, hk2, hk3⟩ := hk
   have g0 : ((x.key.size : Int) == 0) = false := by rw [beq_eq_false_iff_ne]; omega
   have HX := Lib.hid hx
   have HB2 := Lib.hid (BlkAt.new wr (mkV x) 94)
   have HS := Lib.hid hS
   have hB2 := bal hB (.cells (mkV x) 94)
   obtain ⟨p0, p1, p2⟩ := mkQ HB2.out
   clear hx hS
   go_wp2_with ((with_reducible refine wpl_store_new rfl 94 _ _ rfl (mkV x) ?_ ?_ (rowMk _) ?_ ?_); exact rfl; exact rfl; exact rfl)
   go_roundw
   case rel => exact ⟨i + 1, by omega, by go_num, by rw [prevM_succ HX.out], HS.out.below (bal0 _ _), hB2⟩
   case measure => simp [intOf]; omega
  ·go_wp2
   go_ret
   exact ⟨rfl, hB⟩
end
section
open Go.RowKit
set_option maxHeartbeats 4000000
def ListP (L : List Int) (w : World) (e : Ending) (w' : World) : Prop :=
 ∃ v, e = .returned (.tuple #[v, .int .i64 0]) ∧ OwnL w w' 3 1 v L.length (L.map (.int .i64))
theorem OwnL.eqv {W0 W : World} {e : TypeId} {sz : Nat} {v : Value} {n n' : Nat} {xs xs' : List Value} (h : OwnL W0 W e sz v n xs) (hn : n = n') (hx : xs = xs') : OwnL W0 W e sz v n' xs' := by
 subst hn hx
 exact h
end
end
section
section
open Go.RowKit Go.Maps
set_option maxHeartbeats 4000000
theorem lawS : Keyed Tryz.prog 9 := string_keyed Tryz.underlying9
structure MapC (D : DataW Unit) (f : ByteArray → Option Nat) : Prop where
 map : IsMap D
 no : ∀ key, f key = none → has D (.string key.data.toList) = false
 yes : ∀ key i, f key = some i → ∀ z, D.atKey (.string key.data.toList) z = .lit (.int .i64 (i : Int))
theorem data_inj {a b : ByteArray} (h : a.data.toList = b.data.toList) : a = b := by
 cases a
 cases b
 simp at h
 rw [h]
theorem MapC.put {D : DataW Unit} {f g : ByteArray → Option Nat} (h : MapC D f) (k0 : ByteArray) (i : Nat) (h1 : g k0 = some i) (h2 : ∀ key, key ≠ k0 → g key = f key) : MapC (D.put (.string k0.data.toList) (.lit (.int .i64 (i : Int)))) g := by
 refine ⟨h.map.put _ _, fun key hk => ?_, fun key j hk z => ?_⟩
 ·by_cases e : key = k0
  ·subst e
   rw [h1] at hk
   cases hk
  ·rw [has_put_other (fun e2 => e (data_inj (by injection e2)))]
   exact h.no key (by rw [← h2 key e]; exact hk)
 ·by_cases e : key = k0
  ·subst e
   rw [h1] at hk
   injection hk with hk
   subst hk
   exact atKey_put_same h.map (by simp [WideAt.IsKeyLit]) _ _
  ·rw [atKey_put_other (fun e2 => e (data_inj (by injection e2)))]
   exact h.yes key j (by rw [← h2 key e]; exact hk) z
theorem MapC.del {D : DataW Unit} {f g : ByteArray → Option Nat} (h : MapC D f) (k0 : ByteArray) (h1 : g k0 = none) (h2 : ∀ key, key ≠ k0 → g key = f key) : MapC (D.del (.string k0.data.toList)) g := by
 refine ⟨h.map.del _, fun key hk => ?_, fun key j hk z => ?_⟩
 ·by_cases e : key = k0
  ·subst e
   exact has_del_same
  ·rw [has_del_other (fun e2 => e (data_inj (by injection e2)))]
   exact h.no key (by rw [← h2 key e]; exact hk)
 ·by_cases e : key = k0
  ·subst e
   rw [h1] at hk
   cases hk
  ·rw [atKey_del_other (fun e2 => e (data_inj (by injection e2)))]
   exact h.yes key j (by rw [← h2 key e]; exact hk) z
theorem MapC.congr {D : DataW Unit} {f g : ByteArray → Option Nat} (h : MapC D f) (e : ∀ key, g key = f key) : MapC D g := ⟨h.map, fun key hk => h.no key (by rw [← e]; exact hk), fun key i hk => h.yes key i (by rw [← e]; exact hk)⟩
theorem MapC.nil (f : ByteArray → Option Nat) (h : ∀ key, f key = none) : MapC (.map []) f := ⟨isMap_empty, fun key _ => rfl, fun key i hk => by rw [h] at hk; cases hk⟩
def CntP (l : List MK) (k : Int) (w : World) (e : Ending) (w' : World) : Prop :=
 ∃ (B n : Nat) (D : DataW Unit), e = .returned (.map (some B)) ∧ w'.ownsMap Tryz.prog 9 (plainElem Tryz.prog 3) B n D ∧ n ≤ l.length ∧ MapC D (fun key => cntN l k key l.length) ∧ w.heap.size ≤ B ∧ Below w.heap.size w w'
theorem wf64n {x : Nat} (h : x ≤ 100000) : (Lit.int .i64 (x : Int)).wf = true := WalkArith.wf_i64 (by omega)
set_option maxRecDepth 100000 in
theorem cnt_ok (l : List MK) (hv : mksB l = true) (k : Int) (A : Option Addr) (cp : Nat) (w : World) (h : MkAt w A l) : Calls Tryz.prog 61 #[.slice A l.length cp, .int .i64 k] w (CntP l k w) := by
 have hl := mksB_len hv
 have H := Lib.hid h
 have HV := Lib.hid (mksB_from hv)
 clear hv h
 have hmm := @run_makeMap Tryz.prog
 go_enter Tryz.func61, Tryz.ntmps61
 go_wp2_with fail
 go_loopw [11] (fun iv wr => ∃ (i : Nat) (D : DataW Unit), i ≤ l.length ∧ iv = .int .i64 i ∧ wr.ownsMap Tryz.prog 9 (plainElem Tryz.prog 3) w.heap.size i D ∧ MapC D (fun key => cntN l k key i) ∧ Below w.heap.size w wr) (fun iv _ => l.length - (intOf iv).toNat)
 case atStart => exact ⟨0, .map [], by omega, rfl, World.ownsMap_made _ _ _ _, MapC.nil _ (fun key => cntN_zero ..), bal0 _ _⟩
 case round =>
  obtain ⟨i, D, hi, rfl, hown, hM, hB⟩ := hrel
  have HM := Lib.hid hM
  clear hM
  by_cases hlt : i < l.length
  ·obtain ⟨b, o, x, rfl, hx, hbl, hsm, q0, q1, q2⟩ := (H.out.below hB).get hlt
   have hown1 := hown.alloc (.cells (mkV x) 94)
   obtain ⟨p0, p1, p2⟩ := mkQ (BlkAt.new wr (mkV x) 94)
   have hkey : keyOf Tryz.prog 9 (.string x.key) = some (.string x.key.data.toList) := WideMaps.keyOf_string_mk Tryz.underlying9 hsm
   have hB2 := bal hB (.cells (mkV x) 94)
   have hBs := hB.size
   have HX := Lib.hid hx
   have HO := Lib.hid hown1
   have HKE := Lib.hid hkey
   have HB2 := Lib.hid hB2
   clear hx hown hown1 hkey hB2
   by_cases hk : k < x.known
   ·have HK := Lib.hid hk
    go_wp2_with ((with_reducible refine wpl_store_new rfl 94 _ _ rfl (mkV x) ?_ ?_ (rowMk _) ?_ ?_); exact rfl; exact rfl; exact rfl)
    go_ret
    exact ⟨w.heap.size, i, D, rfl, HO.out, hi, HM.out.congr (fun key => cntN_stop HV.out HX.out HK.out hi key), Nat.le_refl _, HB2.out⟩
   ·have g0 : decide (k < x.known) = false := by simpa using hk
    have HK := Lib.hid (Int.not_lt.1 hk)
    clear hk
    cases hvd : x.void
    ·have HVD := Lib.hid hvd
     rw [hvd] at p2
     clear hvd
     go_wp2_with (first
      | ((with_reducible refine wpl_store_new rfl 94 _ _ rfl (mkV x) ?_ ?_ (rowMk _) ?_ ?_); exact rfl; exact rfl; exact rfl)
      | (at_mapUpdate; refine wpList_mapUpdate_own _ rfl _ _ _ 89 rfl 9 3 lawS Tryz.underlying89 _ w.heap.size i _ rfl HO.out (by unfold maxLen; omega) _ _ _ rfl rfl HKE.out _ [] (plainElem_int Tryz.underlying3 (wf64n (by omega))) ?_; intro w1 hown1 hgrow1))
     go_roundw
     case rel => exact ⟨i + 1, _, by omega, by go_num, hown1, HM.out.put x.key i (cntN_set HX.out HK.out HVD.out) (fun key hne => cntN_miss HX.out (fun e => hne e.symm)), HB2.out.grown hgrow1 HB2.out.size (fun j hj => by cases hj; exact Nat.le_refl _)⟩
     case measure => simp [intOf]; omega
    ·have HVD := Lib.hid hvd
     rw [hvd] at p2
     clear hvd
     go_wp2_with (first
      | ((with_reducible refine wpl_store_new rfl 94 _ _ rfl (mkV x) ?_ ?_ (rowMk _) ?_ ?_); exact rfl; exact rfl; exact rfl)
      | (at_delete; refine wpList_delete_own _ rfl _ _ 89 9 rfl 3 lawS Tryz.underlying89 _ w.heap.size i _ rfl HO.out _ _ rfl HKE.out ?_; intro w1 hown1 hturn1))
     go_roundw
     case rel => exact ⟨i + 1, _, by omega, by go_num, hown1.mono (by omega), HM.out.del x.key (cntN_void HX.out HK.out HVD.out) (fun key hne => cntN_miss HX.out (fun e => hne e.symm)), HB2.out.grown hturn1.grown HB2.out.size (fun j hj => by cases hj; exact Nat.le_refl _)⟩
     case measure => simp [intOf]; omega
  ·have hie : i = l.length := by omega
   go_wp2
   go_ret
   exact ⟨w.heap.size, i, D, rfl, hown, hi, HM.out.congr (fun key => by rw [hie]), Nat.le_refl _, hB⟩
end
section
open Go.RowKit Go.Maps
set_option maxHeartbeats 4000000
structure CollI (f : ByteArray → Option Nat) (left : Lit → Bool) (out : List Int) : Prop where
 nodup : out.Nodup
 mem : ∀ i : Int, i ∈ out ↔ ∃ key j, f key = some j ∧ i = (j : Int) ∧ left (.string key.data.toList) = false
theorem CollI.start {D : DataW Unit} {f : ByteArray → Option Nat} (h : MapC D f) : CollI f (has D) [] := ⟨List.nodup_nil, fun i => by
 constructor
 ·intro hi
  simp at hi
 ·rintro ⟨key, j, h1, -, h2⟩
  have := has_true_of_atKey (h.yes key j h1)
  rw [this] at h2
  cases h2⟩
theorem CollI.step {D : DataW Unit} {f : ByteArray → Option Nat} {left : Lit → Bool} {out : List Int} (h : CollI f left out) (hM : MapC D f) (inj : ∀ k1 k2 j, f k1 = some j → f k2 = some j → k1 = k2) {x : List UInt8} {c : Int} (hl : left (.string x) = true) (hat : ∀ zd, D.atKey (.string x) zd = .lit (.int .i64 c)) :
  CollI f (fun z => left z && !z.sameKey (.string x)) (out ++ [c]) := by
 obtain ⟨key, rfl⟩ : ∃ key : ByteArray, key.data.toList = x := ⟨⟨x.toArray⟩, by simp⟩
 have hhas := has_true_of_atKey hat
 obtain ⟨j, hj⟩ : ∃ j, f key = some j := by
  cases hf : f key with
  | none =>
   rw [hM.no key hf] at hhas
   cases hhas
  | some j => exact ⟨j, rfl⟩
 have hc : c = (j : Int) := by
  have h1 := hat (.lit (.int .i64 0))
  rw [hM.yes key j hj] at h1
  injection h1 with h1
  injection h1 with h1 h2
  exact h2.symm
 subst hc
 have hnew : (j : Int) ∉ out := fun hx => by
  obtain ⟨k2, j2, h1, h2, h3⟩ := (h.mem _).1 hx
  obtain rfl : j = j2 := by omega
  have := inj _ _ _ hj h1
  subst this
  rw [hl] at h3
  cases h3
 refine ⟨List.nodup_append.2 ⟨h.nodup, by simp, fun a ha b hb e => ?_⟩, fun i => ?_⟩
 ·simp at hb
  subst hb e
  exact hnew ha
 ·rw [List.mem_append]
  constructor
  ·rintro (hi | hi)
   ·obtain ⟨k2, j2, h1, h2, h3⟩ := (h.mem _).1 hi
    exact ⟨k2, j2, h1, h2, by simp [h3]⟩
   ·simp at hi
    exact ⟨key, j, hj, hi, by simp [Lit.sameKey]⟩
  ·rintro ⟨k2, j2, h1, h2, h3⟩
   by_cases e : k2 = key
   ·subst e
    rw [hj] at h1
    injection h1 with h1
    subst h1
    exact .inr (by simp [h2])
   ·refine .inl ((h.mem _).2 ⟨k2, j2, h1, h2, ?_⟩)
    have hs : (Lit.string k2.data.toList).sameKey (.string key.data.toList) = false := sameKey_ne (fun e2 => e (data_inj (by injection e2)))
    rw [hs] at h3
    simpa using h3
theorem cnt_inj {ms : List MK} {k : Int} {n : Nat} (k1 k2 : ByteArray) (j : Nat) (h1 : cntN ms k k1 n = some j) (h2 : cntN ms k k2 n = some j) : k1 = k2 := by
 obtain ⟨m, a1, a2, -⟩ := cntN_key h1
 obtain ⟨m2, b1, b2, -⟩ := cntN_key h2
 rw [a1] at b1
 injection b1 with b1
 subst b1
 rw [← a2, b2]
theorem CollI.sorted {ms : List MK} {k : Int} {left : Lit → Bool} {out : List Int} (h : CollI (fun key => cntN ms k key ms.length) left out) (hl : ∀ kl, left kl = false) : out.mergeSort (fun x y => decide (x ≤ y)) = vis ms k := by
 have hasc : (vis ms k).Pairwise (· < ·) := visF_asc _
 have hp : out.Perm (vis ms k) := by
  refine (List.perm_ext_iff_of_nodup h.nodup (hasc.imp (fun h => by omega))).2 fun i => ?_
  rw [h.mem]
  constructor
  ·rintro ⟨key, j, h1, rfl, -⟩
   exact (cntN_vis j).1 ⟨key, h1⟩
  ·intro hi
   have hi2 := hi
   unfold vis at hi2
   obtain ⟨j, rfl, -, -⟩ := (visF_mem i _).1 hi2
   obtain ⟨key, hkey⟩ := (cntN_vis j).2 hi
   exact ⟨key, j, hkey, rfl, hl _⟩
 have tr : ∀ a b c : Int, decide (a ≤ b) = true → decide (b ≤ c) = true → decide (a ≤ c) = true := fun a b c h1 h2 => by simp only [decide_eq_true_eq] at *; omega
 have tot : ∀ a b : Int, (decide (a ≤ b) || decide (b ≤ a)) = true := fun a b => by simp only [Bool.or_eq_true, decide_eq_true_eq]; omega
 refine List.Perm.eq_of_pairwise (le := fun a b => decide (a ≤ b) = true) (fun a b _ _ h1 h2 => ?_) (List.pairwise_mergeSort tr tot out) (hasc.imp (fun h => by simp; omega)) ((List.mergeSort_perm out _).trans hp)
 simp only [decide_eq_true_eq] at h1 h2
 omega
section
variable {P : Program} {ops : Array Oper} {rest : List Oper} {o : Oper} {a : Act} {Q : Exit → Act → World → Prop}
theorem wpl_pushB {T E : TypeId} {sz bytes : Nat} (hel : ElT P T E sz bytes) (hgd : o.guard = none) (s x : Operand) (ho : o.op = .call { callee := .builtin .append, args := #[s, x], argTypes := #[T, T] })
  {W : World} {B : Nat} {v : Value} {n : Nat} {xs : List Value} (hO : W.ownsRow B E sz v n xs) (hBW : B ≤ W.heap.size) (hs : a.eval s = v) (news : Array Value) (hx : a.eval x = .slice (some ⟨W.heap.size, 0, none⟩) 1 1) (hl : news.size = sz) (h1 : news.toList.all (·.oneCell') = true)
  (hn : n ≤ 100000) (hb : bytes ≤ 10000)
  (h : ∀ v' w', w'.ownsRow B E sz v' (n + 1) (xs ++ news.toList) → (W.alloc (.cells news E)).grownBy w' v.ownBlock → wpList P ops Q rest (a.put o.dst v') w') : wpList P ops Q (o :: rest) a (W.alloc (.cells news E)) := by
 obtain ⟨i, z, hi, hz, hsz, hby, hzs⟩ := hel.info
 refine wpList_append_own _ hgd s x T ho B E i z sz bytes hel.sl hi hz hsz hby hzs hel.pos v n xs hs (hO.alloc _) ⟨W.heap.size, 0, none⟩ 1 1 news.toList hx (by simp [hl]) (fun j u hj => ?_) (fun u hu => ?_) (by unfold maxLen; omega) ?_ (by simp; omega) ?_
 ·rw [Go.WideShapes.add_plain, Nat.zero_add, World.cell?_alloc_new]
  simpa using hj
 ·exact List.all_eq_true.1 h1 u hu
 ·have : (n + 1) * bytes ≤ 100001 * 10000 := Nat.mul_le_mul (by omega) hb
  omega
 ·intro v' w' hown hg _
  exact h v' w' hown hg
end
open Go.Sort in
set_option maxRecDepth 100000 in
theorem sVis_ok (l : List MK) (hv : mksB l = true) (k : Int) (A : Option Addr) (cp : Nat) (w : World) (h : MkAt w A l) : Calls Tryz.prog 33 #[.slice A l.length cp, .int .i64 k] w (ListP (vis l k) w) := by
 have hl := mksB_len hv
 have H := Lib.hid h
 have HV := Lib.hid hv
 clear hv h
 go_enter Tryz.func33, Tryz.ntmps33
 go_wp2_with fail
 refine (aChk_ok l HV.out A cp _ H.out).mono ?_
 rintro e w1 ⟨rfl, hb1⟩
 have HB1 := Lib.hid hb1
 clear hb1
 go_wp2_with fail
 refine (cnt_ok l HV.out k A cp _ (H.out.below HB1.out)).mono ?_
 rintro e w2 ⟨B, n, D, rfl, hown, hn, hM, hBB, hb2⟩
 have HB2 := Lib.hid (bnext HB1.out hb2)
 have hs2 := HB2.out.size
 have hs1 := HB1.out.size
 have HM := Lib.hid hM
 have HOWN := Lib.hid hown
 have hBl := hown.lt
 have hsz := hown.size_le
 clear hb2 hM hown HB1
 go_wp2_with (at_range; refine wpList_range_own _ rfl _ 89 rfl 9 3 lawS Tryz.underlying89 _ B n _ rfl HOWN.out ?_; intro w3 hrg3 hg3 hs3)
 have HB3 : Hid (Below w.heap.size w w3) := Lib.hid (HB2.out.grown hg3 hs2 (fun j hj => by cases hj))
 have hr3 : w2.heap.size < w3.heap.size := by omega
 have HR3 := Lib.hid hrg3
 clear hrg3 hg3 hs3 HOWN
 go_frame
 go_loopw [7] (fun ov wr => ∃ (left : Lit → Bool) (cnt : Nat) (out : List Int), wr.ranges Tryz.prog 9 (plainElem Tryz.prog 3) B w2.heap.size n D left cnt ∧ CollI (fun key => cntN l k key l.length) left out ∧ out.length + cnt ≤ n ∧ wr.ownsRow w3.heap.size 3 1 ov out.length (out.map (.int .i64)) ∧ w3.heap.size ≤ wr.heap.size ∧ Below w.heap.size w wr) (fun _ wr => wr.rangeLeft B w2.heap.size)
 case atStart => exact ⟨_, _, [], HR3.out, CollI.start HM.out, by simpa using hsz, World.ownsRow_nil .., Nat.le_refl _, HB3.out⟩
 case round =>
  obtain ⟨left, cnt, out, hrg, hC, hcnt, hown, hws, hB⟩ := hrel
  have HC := Lib.hid hC
  have HO := Lib.hid hown
  have HR := Lib.hid hrg
  have HB := Lib.hid hB
  clear hC hown hrg hB HR3 HB3
  go_wp2_with (at_next; refine wpList_next_ranges _ rfl _ rfl 9 lawS _ encStr (Value.int .i64) (fun key kl hk => by obtain ⟨x, hx, _⟩ := Maps.keyOf_str Tryz.underlying9 hk; exact ⟨x, hx⟩) (fun v y hv => by obtain ⟨c, rfl, _⟩ := plainElem_int_inv Tryz.underlying3 hv; exact ⟨c, rfl⟩) B w2.heap.size n _ _ _ rfl HR.out ?_ ?_)
  ·intro _ hl0
   have HL0 := Lib.hid hl0
   clear hl0
   have hS := HC.out.sorted HL0.out
   rcases HO.out.2 with ⟨rfl, h0⟩ | ⟨g, cap, cur, rfl, hbase, hb, h1, h2, h3, h4⟩
   ·have hv0 : vis l k = [] := by
     rw [← hS, List.eq_nil_of_length_eq_zero h0, List.mergeSort_nil]
    have HV0 := Lib.hid hv0
    have Z := Lib.hid (show (0 : Nat) = out.length from h0.symm)
    clear hS hv0 h0
    have hc := Tryz.slices_Sort_int_none none 0 wr
    go_wp2_with (go_at_call 62; refine hc.mono ?_; rintro e w' ⟨rfl, rfl⟩)
    go_ret2
    exact ⟨_, rfl, HB.out, by rw [HV0.out]; exact World.ownsRow_nil ..⟩
   ·have hH := holds_of_blockI hb (by simpa using h4)
    have hgl : g < wr.heap.size := (Array.getElem?_eq_some_iff.1 hb).1
    have hc := Tryz.slices_Sort_int g 0 cap out wr hH hgl (by omega)
    have hlen : (vis l k).length = out.length := by rw [← hS, List.length_mergeSort]
    rw [hS] at hc
    have FIN : Hid (∀ nn os, OwnL w (grow (putRow (Value.int .i64) (Sort.ahead wr nn) g 0 (vis l k).toArray) os) 3 1 (.slice (some ⟨g, 0, none⟩) out.length cap) (vis l k).length ((vis l k).map (.int .i64))) := Lib.hid (fun nn os => by
     have h5 := ownsRow_sortedI (n := nn) (os := os) hlen (Nat.le_trans (show w.heap.size ≤ w3.heap.size by omega) hbase) hb h1 h2 h3
     exact ⟨HB.out.grown (grownBy_sortedI _) HB.out.size (fun j hj => by cases hj; omega), by rw [hlen]; exact h5⟩)
    clear hS hH hlen hb h1 h2 h3 h4
    go_wp2_with (go_at_call 62; refine hc.mono ?_; rintro e w' ⟨rfl, nn, os, rfl⟩)
    go_ret2
    exact ⟨_, rfl, FIN.out _ _⟩
  ·intro x c kl yd yp w4 cnt4 hkey hlk hv4 hat hrg4 hlt hg4 hs4 hen
   obtain ⟨x', ex, rfl, -⟩ := Maps.keyOf_str Tryz.underlying9 hkey
   obtain rfl : x = x' := encStr_inj ex
   obtain ⟨c', ec, ez, -⟩ := plainElem_int_inv Tryz.underlying3 hv4
   obtain rfl : c = c' := by injection ec
   have hat2 : ∀ zd, D.atKey (.string x) zd = .lit (.int .i64 c) := fun zd => by rw [hat zd]; exact (congrArg Prod.fst ez)
   have hC2 := HC.out.step HM.out (fun k1 k2 j => cnt_inj k1 k2 j) hlk hat2
   have hO4 := HO.out.kept hg4 (.inr (fun e => by have := (HO.out.lt _ e).1; omega))
   have hB4 : Below w.heap.size w w4 := HB.out.grown hg4 HB.out.size (fun j hj => by cases hj; omega)
   have hw4 : w3.heap.size ≤ w4.heap.size := by omega
   have HC2 := Lib.hid hC2
   have HO4 := Lib.hid hO4
   have HB4 := Lib.hid hB4
   have HR4 := Lib.hid hrg4
   have HR0 := Lib.hid HR.out
   clear hC2 hO4 hB4 hrg4 hat hat2 hv4 hkey hs4 ez
   go_wp2_with (at_builtin; refine wpl_pushB elInt rfl _ _ rfl HO4.out hw4 rfl #[.int .i64 c] rfl rfl rfl (by omega) (by decide) ?_; intro v' w5 hO5 hg5)
   have hR5 := (HR4.out.alloc (.cells #[.int .i64 c] 3)).kept hg5 (fun e => by have := (HO4.out.lt _ e.symm).1; omega) (fun e => by have := (HO4.out.lt _ e.symm).1; omega)
   have hB5 : Below w.heap.size w w5 := ((bal HB4.out (.cells #[.int .i64 c] 3)).grown hg5 (bal HB4.out (.cells #[.int .i64 c] 3)).size (fun j hj => by have := (HO4.out.lt _ hj).1; omega))
   go_roundw
   case rel => exact ⟨_, cnt4, out ++ [c], hR5, HC2.out, by simp; omega, by simpa using hO5, by have := hg5.size; simp at this; omega, hB5⟩
   case measure => rw [hR5.left_eq, HR0.out.left_eq]; omega
end
end
end
section
open Go.RowKit
set_option maxHeartbeats 4000000
def mkErr (l : List MK) : Int := if mksB l = true then 0 else 130
theorem mksFrom_drop (l : List MK) {i : Nat} {x : MK} (hx : l[i]? = some x) (last : Int) : mksFrom last (l.drop i) = (x.ok && decide (last < x.known) && mksFrom x.known (l.drop (i + 1))) := by
 obtain ⟨hl, e⟩ := List.getElem?_eq_some_iff.1 hx
 rw [List.drop_eq_getElem_cons hl, e]
 rfl
theorem mkErr_long {l : List MK} (h : ¬ l.length ≤ 4096) : mkErr l = 130 := by
 unfold mkErr mksB
 rw [decide_eq_false h, Bool.false_and]
 rfl
theorem mkErr_from {l : List MK} (h : l.length ≤ 4096) : mkErr l = if mksFrom 0 l = true then 0 else 130 := by
 unfold mkErr mksB
 rw [decide_eq_true h, Bool.true_and]
theorem mk_bad {l : List MK} (h : l.length ≤ 4096) {i : Nat} {x : MK} {last : Int} (hx : l[i]? = some x) (he : mksFrom 0 l = mksFrom last (l.drop i)) (hb : (x.ok && decide (last < x.known)) = false) : mkErr l = 130 := by
 rw [mkErr_from h, he, mksFrom_drop l hx, hb, Bool.false_and]
 rfl
theorem mk_next {l : List MK} {i : Nat} {x : MK} {last : Int} (hx : l[i]? = some x) (he : mksFrom 0 l = mksFrom last (l.drop i)) (hb : (x.ok && decide (last < x.known)) = true) : mksFrom 0 l = mksFrom (prevM l (i + 1)) (l.drop (i + 1)) := by
 rw [he, mksFrom_drop l hx, hb, Bool.true_and, prevM_succ hx]
theorem mk_end {l : List MK} (h : l.length ≤ 4096) {last : Int} (he : mksFrom 0 l = mksFrom last (l.drop l.length)) : mkErr l = 0 := by
 rw [mkErr_from h, he, List.drop_of_length_le (Nat.le_refl _)]
 rfl
theorem MK.ok_iff {x : MK} : x.ok = true ↔ (1 ≤ x.key.size ∧ x.key.size ≤ 64) ∧ x.known ≤ 2147483647 := by
 unfold MK.ok
 simp
 try omega
theorem aChk_any (l : List MK) (A : Option Addr) (cp : Nat) (w : World) (h : MkAt w A l) {v : Int} (hv : mkErr l = v) : Calls Tryz.prog 39 #[.slice A l.length cp] w (RetB (.int .i64 v) w) := by
 have hln := h.ln
 have HV := Lib.hid hv
 clear hv
 by_cases hl : l.length ≤ 4096
 ·go_enter Tryz.func39, Tryz.ntmps39
  go_wp2
  go_loopw [3, 11] (fun lv iv wr => ∃ i : Nat, i ≤ l.length ∧ iv = .int .i64 i ∧ lv = .int .i64 (prevM l i) ∧ mksFrom 0 l = mksFrom (prevM l i) (l.drop i) ∧ MkAt wr A l ∧ Below w.heap.size w wr) (fun _ iv _ => l.length - (intOf iv).toNat)
  case atStart => exact ⟨0, by omega, rfl, rfl, rfl, h, Below.refl _ _⟩
  case round =>
   obtain ⟨i, hi, rfl, rfl, hE, hS, hB⟩ := hrel
   have HE := Lib.hid hE
   clear h hE
   by_cases hlt : i < l.length
   ·obtain ⟨b, o, x, rfl, hx, hbl, hsm, q0, q1, q2⟩ := hS.get hlt
    unfold maxLen at hsm
    have HX := Lib.hid hx
    have HB2 := Lib.hid (BlkAt.new wr (mkV x) 94)
    have HS := Lib.hid hS
    have hB2 := bal hB (.cells (mkV x) 94)
    obtain ⟨p0, p1, p2⟩ := mkQ HB2.out
    obtain ⟨pm, hpm⟩ : ∃ pm, prevM l i = pm := ⟨_, rfl⟩
    have HPM := Lib.hid hpm
    rw [hpm]
    clear hx hS hpm
    cases hc : (x.ok && decide (pm < x.known))
    ·have HC := Lib.hid hc
     have hbad : ¬ ((1 ≤ x.key.size ∧ x.key.size ≤ 64) ∧ x.known ≤ 2147483647 ∧ pm < x.known) := by
      rintro ⟨h1, h2, h3⟩
      rw [MK.ok_iff.2 ⟨h1, h2⟩, decide_eq_true h3] at hc
      exact absurd hc (by decide)
     have HBD := Lib.hid hbad
     have hres : v = 130 := by rw [← HV.out]; exact mk_bad hl HX.out HE.out (by rw [HPM.out]; exact HC.out)
     subst hres
     clear hc hbad
     by_cases c1 : x.key.size = 0
     ·have g0 : ((x.key.size : Int) == 0) = true := by rw [beq_iff_eq]; omega
      go_wp2_with ((with_reducible refine wpl_store_new rfl 94 _ _ rfl (mkV x) ?_ ?_ (rowMk _) ?_ ?_); exact rfl; exact rfl; exact rfl)
      go_ret
      exact ⟨rfl, hB2⟩
     have g0 : ((x.key.size : Int) == 0) = false := by rw [beq_eq_false_iff_ne]; omega
     go_wp2_with ((with_reducible refine wpl_store_new rfl 94 _ _ rfl (mkV x) ?_ ?_ (rowMk _) ?_ ?_); exact rfl; exact rfl; exact rfl)
     all_goals first
      | (go_ret; exact ⟨rfl, hB2⟩)
      | exact absurd ⟨⟨by omega, by omega⟩, by omega, by omega⟩ HBD.out
    ·have HC := Lib.hid hc
     rw [Bool.and_eq_true, MK.ok_iff, decide_eq_true_eq] at hc
     obtain ⟨⟨⟨hk1, hk2⟩, hk3⟩, hk4⟩ := hc
     have g0 : ((x.key.size : Int) == 0) = false := by rw [beq_eq_false_iff_ne]; omega
     go_wp2_with ((with_reducible refine wpl_store_new rfl 94 _ _ rfl (mkV x) ?_ ?_ (rowMk _) ?_ ?_); exact rfl; exact rfl; exact rfl)
     go_roundw
     case rel => exact ⟨i + 1, by omega, by go_num, by rw [prevM_succ HX.out], mk_next HX.out HE.out (by rw [HPM.out]; exact HC.out), HS.out.below (bal0 _ _), hB2⟩
     case measure => simp [intOf]; omega
   ·go_wp2
    go_ret
    obtain rfl : i = l.length := by omega
    exact ⟨ret_int (by rw [← HV.out, mk_end hl HE.out]), hB⟩
 ·have hres : v = 130 := by rw [← HV.out]; exact mkErr_long hl
  subst hres
  go_enter Tryz.func39, Tryz.ntmps39
  go_wp2
  go_ret
  exact ⟨rfl, Below.refl _ _⟩
structure SlG (e : TypeId) (sz : Nat) (v : Value) (n : Nat) (xs : List Value) (X : List Ent) : Prop where
 len : xs.length = n * sz
 is : (v = .slice none 0 0 ∧ n = 0 ∧ X = []) ∨ ∃ g cap cur, v = .slice (some ⟨g, 0, none⟩) n cap ∧ X = [(g, cur, e)] ∧ n ≤ cap ∧ cap ≤ maxLen ∧ cur.size = cap * sz ∧ cur.toList.take (n * sz) = xs
theorem SlG.nil (e : TypeId) (sz : Nat) : SlG e sz (.slice none 0 0) 0 [] [] := ⟨by simp, .inl ⟨rfl, rfl, rfl⟩⟩
end
section
open Go.RowKit
set_option maxHeartbeats 4000000
theorem FmtR.len {n : Int} {s : ByteArray} {e : Int} (h : FmtR n s e) : s.size ≤ 10 := by
 rcases h with ⟨y, m, d, -, rfl, -⟩ | ⟨-, rfl, -⟩
 ·exact Nat.le_of_eq rfl
 ·decide
noncomputable def dayL (n : Int) : List UInt8 := (Classical.choose (fmt_ex n)).data.toList
theorem dayL_is (n : Int) : ∃ e, FmtR n (bs (dayL n)) e := by
 obtain ⟨e, he⟩ := Classical.choose_spec (fmt_ex n)
 exact ⟨e, by unfold dayL; rw [bs_of]; exact he⟩
theorem dayL_len (n : Int) : (dayL n).length ≤ 10 := by
 obtain ⟨e, h⟩ := dayL_is n
 have := h.len
 rwa [bs_size] at this
noncomputable def QT.mark (q : QT) : MK := ⟨bs (q.key (dayL q.day)), q.known, q.void⟩
theorem key_cat (s i t : List UInt8) : bs s ++ ⟨#[44]⟩ ++ bs i ++ ⟨#[44]⟩ ++ bs t = bs (s ++ 44 :: (i ++ 44 :: t)) := by
 rw [show (⟨#[44]⟩ : ByteArray) = bs [44] from rfl, bs_append, bs_append, bs_append, bs_append]
 simp
theorem no63 {n : Nat} (h : n ≤ 9223372036854775807) : (9223372036854775807 < n) = False := by rw [eq_iff_iff, iff_false]; omega
set_option maxRecDepth 100000 in
theorem qkey_any (s i : List UInt8) (d : Int) (hs : s.length ≤ 1000) (hi : i.length ≤ 1000) (w : World) : Calls Tryz.prog 63 #[.string (bs s), .string (bs i), .int .i64 d] w (RetB (.string (bs (s ++ 44 :: (i ++ 44 :: dayL d)))) w) := by
 have F := Fr.start w
 obtain ⟨e, he⟩ := dayL_is d
 have g1 := fun w => dfmt_is he w
 have ht := dayL_len d
 rw [← key_cat]
 generalize dayL d = t at *
 rw [← bs_size] at hs hi ht
 clear he
 generalize bs s = A at *
 generalize bs i = I at *
 generalize bs t = T at *
 have k1 := no63 (n := A.size + 1) (by omega)
 have k2 := no63 (n := A.size + 1 + I.size) (by omega)
 have k3 := no63 (n := A.size + 1 + I.size + 1) (by omega)
 have k4 := no63 (n := A.size + 1 + I.size + 1 + T.size) (by omega)
 clear hs hi ht
 go_enter Tryz.func63, Tryz.ntmps63
 go_wp2_with (first | go_skip | ((go_at_call 53); (with_reducible refine fr_call F (g1 _) ?_); (clear F; intro W F); (try dsimp only)) | refine aYQ ?_ | (refine aTQ ?_; clear F; intro W F) | refine aNQ ?_)
 go_ret
 exact ⟨rfl, F.below⟩
structure QuAt (W : World) (A : Option Addr) (L : List QT) : Prop where
 recs : RecsAt W A 72 (L.map fun q => (qC q).toList)
 a : ∀ q ∈ L, q.a < bp 32
 b : ∀ q ∈ L, q.b < bp 32
 s1 : ∀ q ∈ L, q.src.length ≤ 9223372036854775807
 s2 : ∀ q ∈ L, q.ins.length ≤ 9223372036854775807
 s3 : ∀ q ∈ L, q.cur.length ≤ 9223372036854775807
theorem QuAt.below {W W' : World} {A : Option Addr} {L : List QT} (h : QuAt W A L) (hb : Below W.heap.size W W') : QuAt W' A L := ⟨h.recs.below hb, h.a, h.b, h.s1, h.s2, h.s3⟩
theorem QuAt.ln {W : World} {A : Option Addr} {L : List QT} (h : QuAt W A L) : L.length ≤ 9223372036854775807 := by simpa using h.recs.ln
theorem QuAt.get {W : World} {A : Option Addr} {L : List QT} (h : QuAt W A L) {i : Nat} (hi : i < L.length) : ∃ b o q, A = some ⟨b, o, none⟩ ∧ L[i]? = some q ∧ (L.map fun q => (qC q).toList)[i]? = some (qC q).toList ∧ q ∈ L ∧ b < W.heap.size := by
 have hx : L[i]? = some L[i] := List.getElem?_eq_getElem hi
 have hm : (L.map fun q => (qC q).toList)[i]? = some (qC L[i]).toList := by rw [List.getElem?_map, hx, Option.map_some]
 obtain ⟨b, o, hA, hlt, hc⟩ := h.recs.rows i _ hm
 exact ⟨b, o, L[i], hA, hx, hm, List.getElem_mem hi, hlt⟩
theorem QuAt.cell {W : World} {b o i k : Nat} {L : List QT} {q : QT} {v : Value} (h : QuAt W (some ⟨b, o, none⟩) L) (hq : L[i]? = some q) (hv : (qC q)[k]? = some v) : W.cell? ⟨b, o + i * 72 + k, none⟩ = some v := by
 obtain ⟨b', o', hA, hlt, hc⟩ := h.recs.rows i (qC q).toList (by rw [List.getElem?_map, hq, Option.map_some])
 cases hA
 exact hc k v (by rw [Array.getElem?_toList]; exact hv)
theorem Fr.nil {w W : World} (h : Below w.heap.size w W) : Fr w W [] := ⟨h, by simp, by simp, by simp⟩
section
variable {P : Program} {a : Act} {w u W : World} {K : Act → World → Prop} {Q : Exit → Act → World → Prop} {e : TypeId} {sz n k bytes : Nat} {v : Value} {xs : List Value} {X : List Ent} {cs : Array Value} {t T : TypeId} {x s : Operand} {ops : Array Oper} {rest : List Oper} {dst : Option Tmp} {ty : TypeId} {pos : String} {af : Array Edge} {gd : Option (Nat × Bool)} {news : Array Value} {o : Oper} {E : Prop} {y : Ent}
theorem SlG.owned (S : SlG e sz v n xs X) (h : Fr u W X) : W.ownsRow u.heap.size e sz v n xs := by
 refine ⟨S.len, ?_⟩
 rcases S.is with ⟨h1, h2, -⟩ | ⟨g, cap, cur, h1, h2, h3, h4, h5, h6⟩
 ·exact .inl ⟨h1, h2⟩
 ·subst h2
  have hg := h.blk (g, cur, e) (by simp)
  have hg2 := h.own (g, cur, e) (by simp)
  exact .inr ⟨g, cap, cur, h1, hg2, hg.blk, h3, h4, h5, h6⟩
theorem SlG.ownL (S : SlG e sz v n xs X) (h : Fr u W X) : OwnL u W e sz v n xs := ⟨h.below, S.owned h⟩
theorem wPush (hop : o.op = .call { callee := .builtin .append, args := #[s, x], argTypes := #[T, T] }) (hel : ElT P T e sz bytes) (hm : n + 1 ≤ maxLen) (hb : (n + 1) * bytes ≤ 140737488355328) (S : SlG e sz v n xs X) (h : Fr u W ((k, news, e) :: X)) (hs : a.eval s = v) (hx : a.eval x = .slice (some ⟨k, 0, none⟩) 1 1) (hl : news.size = sz) (h1 : news.toList.all (·.oneCell') = true)
  (hk : ∀ v' X' W', SlG e sz v' (n + 1) (xs ++ news.toList) X' → Fr u W' X' → K (a.put o.dst v') W') : o.wp P a W K Q := by
 obtain ⟨i, z, hi, hz, hsz, hby, hzs⟩ := hel.info
 have hkW := h.here
 have hown := S.owned h.tl
 refine wp_append_own _ s x T hop u.heap.size e i z sz bytes hel.sl hi hz hsz hby hzs hel.pos v n xs hs hown ⟨k, 0, none⟩ 1 1 news.toList hx (by simp [hl]) (fun j y hj => ?_) (fun y hy => ?_) hm hb h.below.size ?_
 ·rw [Go.WideShapes.add_plain, Nat.zero_add]
  exact hkW.cell (by simpa using hj)
 ·exact List.all_eq_true.1 h1 y hy
 ·intro v' w' hown' hg hnil
  have hbl : Below u.heap.size u w' := by
   refine ⟨hg.os.trans h.below.os, hg.tape.trans h.below.tape, hg.output.trans h.below.output, Nat.le_trans h.below.size hg.size, fun q hq => ?_⟩
   refine (hg.block q (Nat.lt_of_lt_of_le hq h.below.size) (fun e2 => ?_)).trans (h.below.block q hq)
   rcases S.is with ⟨h1, -, -⟩ | ⟨g, cap, cur, h1, h2, -⟩
   ·subst h1; cases e2
   ·subst h1
    injection e2 with e2
    subst h2
    have := h.own (g, cur, e) (by simp)
    have : u.heap.size ≤ g := this
    have e3 : q = g := e2
    omega
  rcases hown'.2 with ⟨h1, h2⟩ | ⟨g, cap, cur, h1, h2, h3, h4, h5, h6, h7⟩
  ·omega
  ·refine hk v' [(g, cur, e)] w' ⟨hown'.1, .inr ⟨g, cap, cur, h1, rfl, h4, h5, h6, h7⟩⟩ ⟨hbl, fun y hy => ?_, fun y hy => ?_, by simp⟩
   ·simp at hy
    subst hy
    exact ⟨h3⟩
   ·simp at hy
    subst hy
    exact h2
theorem wPush1 (hop : o.op = .call { callee := .builtin .append, args := #[s, x], argTypes := #[T, T] }) (hel : ElT P T e sz bytes) (hm : n + 1 ≤ maxLen) (hb : (n + 1) * bytes ≤ 140737488355328) (S : SlG e sz v n xs X) (h : Fr u W ((k, news, e) :: y :: X)) (hs : a.eval s = v) (hx : a.eval x = .slice (some ⟨k, 0, none⟩) 1 1) (hl : news.size = sz) (h1 : news.toList.all (·.oneCell') = true)
  (hk : ∀ v' X' W', SlG e sz v' (n + 1) (xs ++ news.toList) X' → Fr u W' X' → BlkAt W' y.1 y.2.1 y.2.2 → K (a.put o.dst v') W') : o.wp P a W K Q := by
 obtain ⟨i, z, hi, hz, hsz, hby, hzs⟩ := hel.info
 have hkW := h.here
 have hX := h.tl.tl
 have hy := h.blk y (by simp)
 have hdis := h.tl.dis
 have hown := S.owned hX
 refine wp_append_own _ s x T hop u.heap.size e i z sz bytes hel.sl hi hz hsz hby hzs hel.pos v n xs hs hown ⟨k, 0, none⟩ 1 1 news.toList hx (by simp [hl]) (fun j y hj => ?_) (fun y hy => ?_) hm hb h.below.size ?_
 ·rw [Go.WideShapes.add_plain, Nat.zero_add]
  exact hkW.cell (by simpa using hj)
 ·exact List.all_eq_true.1 h1 y hy
 ·intro v' w' hown' hg hnil
  have hne : ∀ q : Nat, (∀ g cur, X = [(g, cur, e)] → q ≠ g) → some q ≠ v.ownBlock := by
   intro q hq e2
   rcases S.is with ⟨h1, -, -⟩ | ⟨g, cap, cur, h1, h2, -⟩
   ·subst h1; cases e2
   ·subst h1
    injection e2 with e2
    exact hq g cur h2 e2
  have hbl : Below u.heap.size u w' := by
   refine ⟨hg.os.trans h.below.os, hg.tape.trans h.below.tape, hg.output.trans h.below.output, Nat.le_trans h.below.size hg.size, fun q hq => ?_⟩
   refine (hg.block q (Nat.lt_of_lt_of_le hq h.below.size) (hne q (fun g cur hx2 e2 => ?_))).trans (h.below.block q hq)
   have := hX.own (g, cur, e) (by rw [hx2]; simp)
   have : u.heap.size ≤ g := this
   omega
  have hyb : BlkAt w' y.1 y.2.1 y.2.2 := by
   refine ⟨(hg.block y.1 hy.lt (hne y.1 (fun g cur hx2 e2 => ?_))).trans hy.blk⟩
   rw [hx2] at hdis
   simp at hdis
   exact hdis e2
  rcases hown'.2 with ⟨h1, h2⟩ | ⟨g, cap, cur, h1, h2, h3, h4, h5, h6, h7⟩
  ·omega
  ·refine hk v' [(g, cur, e)] w' ⟨hown'.1, .inr ⟨g, cap, cur, h1, rfl, h4, h5, h6, h7⟩⟩ ⟨hbl, fun y hy => ?_, fun y hy => ?_, by simp⟩ hyb
   ·simp at hy
    subst hy
    exact ⟨h3⟩
   ·simp at hy
    subst hy
    exact h2
theorem sPush1 (hgd : o.guard = none) (s x : Operand) (hop : o.op = .call { callee := .builtin .append, args := #[s, x], argTypes := #[T, T] }) (hel : ElT P T e sz bytes) (hm : n + 1 ≤ maxLen) (hb : (n + 1) * bytes ≤ 140737488355328) (S : SlG e sz v n xs X) (h : Fr u W ((k, news, e) :: y :: X)) (hs : a.eval s = v) (hx : a.eval x = .slice (some ⟨k, 0, none⟩) 1 1) (hl : news.size = sz) (h1 : news.toList.all (·.oneCell') = true)
  (hk : ∀ v' X' W', SlG e sz v' (n + 1) (xs ++ news.toList) X' → Fr u W' X' → BlkAt W' y.1 y.2.1 y.2.2 → K (a.put o.dst v') W') : if Region.wanted o (yielded ops a.tmps) = true then o.wp P a W K Q else E := by
 rw [if_pos (by simp [Region.wanted, hgd])]
 exact wPush1 hop hel hm hb S h hs hx hl h1 hk
theorem fPushB (hel : ElT P T e sz bytes) (hm : n + 1 ≤ maxLen) (hb : (n + 1) * bytes ≤ 140737488355328) (S : SlG e sz v n xs X) (h : Fr u W ((k, news, e) :: X)) (hw : Region.wanted ⟨dst, .call { callee := .builtin .append, args := #[s, x], argTypes := #[T, T] }, ty, pos, af, gd⟩ (yielded ops a.tmps) = true) (hs : a.eval s = v) (hx : a.eval x = .slice (some ⟨k, 0, none⟩) 1 1) (hl : news.size = sz) (h1 : news.toList.all (·.oneCell') = true)
  (hk : ∀ v' X' W', SlG e sz v' (n + 1) (xs ++ news.toList) X' → Fr u W' X' → wpList P ops Q rest (a.put dst v') W') : wpList P ops Q (⟨dst, .call { callee := .builtin .append, args := #[s, x], argTypes := #[T, T] }, ty, pos, af, gd⟩ :: rest) a W :=
 wpList_want hw fun K hK => wPush rfl hel hm hb S h hs hx hl h1 (fun v' X' W' S' F' => hK _ _ (hk v' X' W' S' F'))
end
theorem elMk : ElT Tryz.prog 66 94 3 32 := ElT.of (z := .agg #[.string ⟨#[]⟩, .int .i64 0, .bool false]) Tryz.underlying66 (by kernel_rfl) rfl (by decide)
noncomputable def mkCs (l : List QT) : List Value := ((l.map QT.mark).map fun m => (mkV m).toList).flatten
theorem mkCs_snoc {L : List QT} {i : Nat} {q : QT} (h : L[i]? = some q) : mkCs (L.take (i + 1)) = mkCs (L.take i) ++ (mkV q.mark).toList := by
 obtain ⟨hl, e⟩ := List.getElem?_eq_some_iff.1 h
 unfold mkCs
 rw [List.take_succ_eq_append_getElem hl, e]
 simp
def MksP (L : List QT) (w : World) (e : Ending) (w' : World) : Prop := ∃ v, e = .returned v ∧ OwnL w w' 94 3 v L.length (mkCs L)
theorem mkqB {W : World} {b : Nat} {q : QT} {t : TypeId} (h : BlkAt W b (qC q) t) : W.cell? ⟨b, 0, none⟩ = some (.string (bs q.src)) ∧ W.cell? ⟨b, 1, none⟩ = some (.string (bs q.ins)) ∧ W.cell? ⟨b, 3, none⟩ = some (.int .i64 q.day) ∧ W.cell? ⟨b, 70, none⟩ = some (.int .i64 q.known) ∧ W.cell? ⟨b, 71, none⟩ = some (.bool q.void) :=
 ⟨h.cell (q_src q), h.cell (q_ins q), h.cell (q_day q), h.cell (q_known q), h.cell (q_void q)⟩
theorem mkq {u W : World} {b : Nat} {q : QT} {X : List Ent} {t : TypeId} (F : Fr u W ((b, qC q, t) :: X)) : W.cell? ⟨b, 0, none⟩ = some (.string (bs q.src)) ∧ W.cell? ⟨b, 1, none⟩ = some (.string (bs q.ins)) ∧ W.cell? ⟨b, 3, none⟩ = some (.int .i64 q.day) ∧ W.cell? ⟨b, 70, none⟩ = some (.int .i64 q.known) ∧ W.cell? ⟨b, 71, none⟩ = some (.bool q.void) :=
 ⟨F.here.cell (q_src q), F.here.cell (q_ins q), F.here.cell (q_day q), F.here.cell (q_known q), F.here.cell (q_void q)⟩
def QT.short (q : QT) : Prop := q.src.length ≤ 1000 ∧ q.ins.length ≤ 1000
set_option maxRecDepth 100000 in
theorem qmarks_any {L : List QT} {A : Option Addr} {cp : Nat} {w : World} (hL : L.length ≤ 1000000000000) (hsh : ∀ q ∈ L, q.short) (h : QuAt w A L) : Calls Tryz.prog 34 #[.slice A L.length cp] w (MksP L w) := by
 have F := Fr.start w
 have HA := Lib.hid h
 have HSH := Lib.hid hsh
 clear h hsh
 go_enter Tryz.func34, Tryz.ntmps34
 go_wp2_with (first | go_skip | refine aYQ ?_ | (refine aTQ ?_; clear F; intro W F) | refine aNQ ?_)
 go_loopw [3, 8] (fun ov iv wr => ∃ (i : Nat) (X : List Ent), i ≤ L.length ∧ iv = .int .i64 i ∧ SlG 94 3 ov i (mkCs (L.take i)) X ∧ Fr w wr X) (fun _ iv _ => L.length - (intOf iv).toNat)
 case atStart => exact ⟨0, [], by omega, rfl, SlG.nil _ _, F⟩
 case round =>
  clear F
  obtain ⟨i, X, hi, rfl, S, F⟩ := hrel
  by_cases hlt : i < L.length
  ·obtain ⟨b, o, q, rfl, hq, hr, hm, hbl⟩ := HA.out.get hlt
   have HR := Lib.hid hr
   have HQ := Lib.hid hq
   have HS := Lib.hid S
   have hsh := HSH.out q hm
   have gk := fun w => qkey_any q.src q.ins q.day hsh.1 hsh.2 w
   clear hr hq hm S hsh
   go_wp2_with (first | go_skip | ((with_reducible apply fLo F (hr := HA.out.recs) (hi := HR.out)); exact rfl; (rw [qC_size]; decide); exact rfl; exact rowQ _) | refine aYQ ?_ | (refine aTQ ?_; clear F; intro W F) | refine aNQ ?_)
   (clear F; intro b5 W F; try simp only [Act.put, z6, z1, z2])
   go_upto_region 5 with (first | go_skip | refine aYQ ?_ | (refine aTQ ?_; clear F; intro W F) | refine aNQ ?_)
   have HF := Lib.hid F.drew
   have HD := Lib.hid (mkq F.drew)
   clear F
   go_region_held3 (fun W => W.cell? ⟨b5, 0, none⟩ = some (.string (bs q.src)) ∧ W.cell? ⟨b5, 1, none⟩ = some (.string (bs q.ins)) ∧ W.cell? ⟨b5, 3, none⟩ = some (.int .i64 q.day) ∧ W.cell? ⟨b5, 70, none⟩ = some (.int .i64 q.known) ∧ W.cell? ⟨b5, 71, none⟩ = some (.bool q.void))
    ((first | (with_reducible exact HD.out) | (with_reducible exact mkq H5.out) | (with_reducible exact mkq (H5.out.alloc _ _).tl) | (with_reducible exact mkqB HB5.out)))
    (first
    | (go_at_call 63; (with_reducible refine fr_call HF.out (gk _) ?_); intro W5 F5; have H5 := Lib.hid F5; clear F5)
    | (refine sPush1 (by rfl) _ _ (by rfl) elMk (by unfold maxLen; omega) (by omega) HS.out (H5.out.alloc _ _) (by rfl) (by rfl) (by rfl) (by rfl) ?_; intro v' X' W' S' F' B5; have HB5 := Lib.hid B5; clear B5))
   all_goals
    go_wp2_with fail
    go_roundw
    case rel => exact ⟨i + 1, X', by omega, by go_num, by rw [mkCs_snoc HQ.out]; exact S', F'⟩
    case measure => simp [intOf]; omega
  ·obtain rfl : i = L.length := by omega
   rw [List.take_length] at S
   go_wp2_with (first | go_skip | refine aYQ ?_ | (refine aTQ ?_; clear F; intro W F) | refine aNQ ?_)
   go_ret
   exact ⟨_, rfl, S.ownL F⟩
end
section
open Go.RowKit
set_option maxHeartbeats 4000000
noncomputable def bkErr (L : List QT) : Int := if L.all QT.ok = true then mkErr (L.map QT.mark) else 141
theorem QuAt.wf {W : World} {A : Option Addr} {L : List QT} (h : QuAt W A L) {q : QT} (hq : q ∈ L) : q.wf := ⟨h.a q hq, h.b q hq, h.s1 q hq, h.s2 q hq, h.s3 q hq⟩
theorem ok_short {q : QT} (h : q.ok = true) : q.short := by
 unfold QT.ok QT.right at h
 rw [Bool.and_eq_true, Bool.and_eq_true, Bool.and_eq_true] at h
 obtain ⟨⟨h1, h2, -⟩, -⟩ := h
 unfold nameB at h1
 unfold paperB at h2
 simp only [Bool.and_eq_true, decide_eq_true_eq] at h1 h2
 exact ⟨by have := h1.1.1.2; omega, by have := h2.2; omega⟩
theorem mark_small {q : QT} (h : q.short) : q.mark.key.size ≤ maxLen := by
 have := dayL_len q.day
 obtain ⟨h1, h2⟩ := h
 unfold QT.mark QT.key maxLen
 dsimp only
 rw [bs_size]
 simp only [List.length_append, List.length_cons]
 omega
theorem MksP.at {L : List QT} {w W : World} {v : Value} (h : OwnL w W 94 3 v L.length (mkCs L)) (hL : L.length ≤ 1000000000000) (hsh : ∀ q ∈ L, q.short) : ∃ A cp, v = .slice A L.length cp ∧ MkAt W A (L.map QT.mark) := by
 obtain ⟨hn, A, cap, hv, hr, -⟩ := h.recs (fun x hx => by
  obtain ⟨m, -, rfl⟩ := List.mem_map.1 hx
  rfl) (by decide) (by simp; omega)
 refine ⟨A, cap, hv, hr, fun x hx => ?_⟩
 obtain ⟨q, hq, rfl⟩ := List.mem_map.1 hx
 exact mark_small (hsh q hq)
theorem bk_bad {L : List QT} {i : Nat} {q : QT} (hq : L[i]? = some q) (h : q.ok = false) : bkErr L = 141 := by
 unfold bkErr
 rw [if_neg]
 intro h2
 rw [List.all_eq_true] at h2
 obtain ⟨hl, e⟩ := List.getElem?_eq_some_iff.1 hq
 have := h2 q (e ▸ List.getElem_mem hl)
 rw [h] at this
 cases this
theorem all_snoc {L : List QT} {i : Nat} {q : QT} (hq : L[i]? = some q) (h : q.ok = true) (ha : (L.take i).all QT.ok = true) : (L.take (i + 1)).all QT.ok = true := by
 obtain ⟨hl, e⟩ := List.getElem?_eq_some_iff.1 hq
 rw [List.take_succ_eq_append_getElem hl, List.all_append, ha, e]
 simp [h]
set_option maxRecDepth 100000 in
theorem qcheck_any {L : List QT} {A : Option Addr} {cp : Nat} {w : World} (hL : L.length ≤ 1000000000000) (h : QuAt w A L) {v : Int} (hv : bkErr L = v) : Calls Tryz.prog 14 #[.slice A L.length cp] w (RetB (.int .i64 v) w) := by
 have F := Fr.start w
 have HA := Lib.hid h
 have HV := Lib.hid hv
 clear h hv
 go_enter Tryz.func14, Tryz.ntmps14
 go_wp2_with (first | go_skip | refine aYQ ?_ | (refine aTQ ?_; clear F; intro W F) | refine aNQ ?_)
 go_loopw [7] (fun iv wr => ∃ i : Nat, i ≤ L.length ∧ iv = .int .i64 i ∧ (L.take i).all QT.ok = true ∧ Fr w wr []) (fun iv _ => L.length - (intOf iv).toNat)
 case atStart => exact ⟨0, by omega, rfl, by simp, F⟩
 case round =>
  clear F
  obtain ⟨i, hi, rfl, ha, F⟩ := hrel
  have HP := Lib.hid ha
  clear ha
  by_cases hlt : i < L.length
  ·obtain ⟨b, o, q, rfl, hq, hr, hm, hbl⟩ := HA.out.get hlt
   have HR := Lib.hid hr
   have HQ := Lib.hid hq
   have hwf := HA.out.wf hm
   obtain ⟨c1, h1⟩ : ∃ c, q.right = c := ⟨_, rfl⟩
   obtain ⟨c2, h2⟩ : ∃ c, knB q.known = c := ⟨_, rfl⟩
   have g1 := fun w => right_any hwf h1 w
   have g2 := fun w => qknown_any h2 w
   have hok : q.ok = (c1 && c2) := by unfold QT.ok; rw [h1, h2]
   have HO := Lib.hid hok
   clear hr hq hm hwf h1 h2 hok
   cases c1
   ·have hres : v = 141 := by rw [← HV.out]; exact bk_bad HQ.out HO.out
    subst hres
    go_wp2_with (first | go_skip | ((with_reducible apply fLo F (hr := HA.out.recs) (hi := HR.out)); exact rfl; (rw [qC_size]; decide); exact rfl; exact rowQ _) | refine aYQ ?_ | (refine aTQ ?_; clear F; intro W F) | refine aNQ ?_)
    (clear F; intro b4 W F; try simp only [Act.put, z6, z1, z2])
    go_wp2_with (first | go_skip | ((go_at_call 37); (with_reducible refine fr_call F (g1 _) ?_); (clear F; intro W F); (try dsimp only)) | refine aYQ ?_ | (refine aTQ ?_; clear F; intro W F) | refine aNQ ?_)
    go_ret
    exact ⟨rfl, F.below⟩
   cases c2
   ·have hres : v = 141 := by rw [← HV.out]; exact bk_bad HQ.out HO.out
    subst hres
    go_wp2_with (first | go_skip | ((with_reducible apply fLo F (hr := HA.out.recs) (hi := HR.out)); exact rfl; (rw [qC_size]; decide); exact rfl; exact rowQ _) | refine aYQ ?_ | (refine aTQ ?_; clear F; intro W F) | refine aNQ ?_)
    (clear F; intro b4 W F; try simp only [Act.put, z6, z1, z2])
    go_wp2_with (first | go_skip | ((go_at_call 37); (with_reducible refine fr_call F (g1 _) ?_); (clear F; intro W F); (try dsimp only)) | ((go_at_call 38); (with_reducible refine fr_call F (g2 _) ?_); (clear F; intro W F); (try dsimp only)) | refine aYQ ?_ | (refine aTQ ?_; clear F; intro W F) | refine aNQ ?_)
    go_ret
    exact ⟨rfl, F.below⟩
   go_wp2_with (first | go_skip | ((with_reducible apply fLo F (hr := HA.out.recs) (hi := HR.out)); exact rfl; (rw [qC_size]; decide); exact rfl; exact rowQ _) | refine aYQ ?_ | (refine aTQ ?_; clear F; intro W F) | refine aNQ ?_)
   (clear F; intro b4 W F; try simp only [Act.put, z6, z1, z2])
   go_wp2_with (first | go_skip | ((go_at_call 37); (with_reducible refine fr_call F (g1 _) ?_); (clear F; intro W F); (try dsimp only)) | ((go_at_call 38); (with_reducible refine fr_call F (g2 _) ?_); (clear F; intro W F); (try dsimp only)) | refine aYQ ?_ | (refine aTQ ?_; clear F; intro W F) | refine aNQ ?_)
   go_roundw
   case rel => exact ⟨i + 1, by omega, by go_num, all_snoc HQ.out HO.out HP.out, Fr.nil F.below⟩
   case measure => simp [intOf]; omega
  ·obtain rfl : i = L.length := by omega
   have hall := HP.out
   rw [List.take_length] at hall
   have hsh : ∀ q ∈ L, q.short := fun q hq => ok_short (List.all_eq_true.1 hall q hq)
   have hmv : mkErr (L.map QT.mark) = v := by rw [← HV.out]; unfold bkErr; rw [if_pos hall]
   have HS := Lib.hid hsh
   have HM := Lib.hid hmv
   clear hall hsh hmv
   go_wp2_with (first | go_skip | (go_at_call 34; refine (qmarks_any hL HS.out (HA.out.below F.below)).mono ?_; rintro e W2 ⟨mv, rfl, hO⟩; have F2 := F.next hO.below; clear F; obtain ⟨A2, cp2, rfl, hMk⟩ := MksP.at hO hL HS.out; have GK := aChk_any _ A2 cp2 _ hMk HM.out; rw [List.length_map] at GK; clear hO hMk; have F := F2; clear F2) | (go_at_call 39; (with_reducible refine fr_call F GK ?_); (clear F; intro W F); (try dsimp only)) | refine aYQ ?_ | (refine aTQ ?_; clear F; intro W F) | refine aNQ ?_)
   go_ret
   exact ⟨rfl, F.below⟩
theorem slQuo : SlT Tryz.prog 22 33 72 := ⟨Tryz.underlying22, by kernel_rfl⟩
theorem elQuo : ElT Tryz.prog 22 33 72 336 := ElT.of (z := .agg (qC q0)) Tryz.underlying22 (by rw [qZ]; kernel_rfl) (qC_size _) (by decide)
def qCs (l : List QT) : List Value := (l.map fun q => (qC q).toList).flatten
theorem qCs_snoc (l : List QT) (q : QT) : qCs (l ++ [q]) = qCs l ++ (qC q).toList := by simp [qCs]
def atI (L : List QT) (i : Int) : List QT := match L[i.toNat]? with | some q => [q] | none => []
def atIs (L : List QT) (I : List Int) : List QT := I.flatMap (atI L)
theorem atIs_snoc {L : List QT} {I : List Int} {j : Nat} {i : Int} {q : QT} (hj : I[j]? = some i) (hq : L[i.toNat]? = some q) : atIs L (I.take (j + 1)) = atIs L (I.take j) ++ [q] := by
 obtain ⟨hl, e⟩ := List.getElem?_eq_some_iff.1 hj
 rw [List.take_succ_eq_append_getElem hl, e]
 simp [atIs, atI, hq]
theorem atIs_len {L : List QT} : ∀ {I : List Int}, (∀ i ∈ I, i.toNat < L.length) → (atIs L I).length = I.length
 | [], _ => rfl
 | i :: I, h => by
  have h1 := h i (by simp)
  have ih := atIs_len (I := I) (fun x hx => h x (by simp [hx]))
  unfold atIs at ih ⊢
  rw [List.flatMap_cons, List.length_append, ih, List.length_cons]
  unfold atI
  rw [List.getElem?_eq_getElem h1]
  simp
  omega
noncomputable def visQ (L : List QT) (k : Int) : List QT := atIs L (vis (L.map QT.mark) k)
theorem vis_lt {L : List QT} {k i : Int} (h : i ∈ vis (L.map QT.mark) k) : 0 ≤ i ∧ i.toNat < L.length := by
 unfold vis at h
 obtain ⟨j, rfl, h1, -⟩ := (visF_mem i _).1 h
 rw [List.length_map] at h1
 exact ⟨by omega, by simpa using h1⟩
theorem flatC_q (q : QT) : flatC [.agg (qC q)] = qC q := by simp [flatC, Value.cells]
def VisP (V : List QT) (er : Int) (w : World) (e : Ending) (w' : World) : Prop := ∃ v, e = .returned (.tuple #[v, .int .i64 er]) ∧ OwnL w w' 33 72 v V.length (qCs V)
theorem OwnL.rebase {w W W' : World} {e : TypeId} {sz n : Nat} {v : Value} {xs : List Value} (h : OwnL W W' e sz v n xs) (hb : Below w.heap.size w W) : OwnL w W' e sz v n xs := by
 refine ⟨bnext hb h.below, h.own.1, ?_⟩
 rcases h.own.2 with h1 | ⟨g, cap, cur, h1, h2, h3⟩
 ·exact .inl h1
 ·exact .inr ⟨g, cap, cur, h1, Nat.le_trans hb.size h2, h3⟩
theorem ints_flat : ∀ I : List Int, I.map (Value.int .i64) = (I.map fun i => [Value.int .i64 i]).flatten
 | [] => rfl
 | i :: I => by
  have := ints_flat I
  simp [this]
theorem q_all (q : QT) : [Value.agg (qC q)].all (fun v => v.cells.size == 72) = true := by simp [Value.cells, qC_size]
theorem q_one (q : QT) : (flatC [.agg (qC q)]).toList.all (·.oneCell') = true := by
 rw [flatC_q]
 have := (rowQ q).one
 simpa using this
theorem q_flat (q : QT) : (flatC [.agg (qC q)]).size = 72 := by rw [flatC_q, qC_size]
theorem OwnL.ints {W W' : World} {v : Value} {I : List Int} (h : OwnL W W' 3 1 v I.length (I.map (.int .i64))) (hl : I.length ≤ 9223372036854775807) : ∃ A cp, v = .slice A I.length cp ∧ RecsAt W' A 1 (I.map fun i => [.int .i64 i]) := by
 rw [ints_flat] at h
 obtain ⟨hn, A, cap, hv, hr, -⟩ := h.recs (fun x hx => by obtain ⟨y, -, rfl⟩ := List.mem_map.1 hx; rfl) (by decide) (by simpa using hl)
 exact ⟨A, cap, hv, hr⟩
theorem RecsAt.int {w W : World} {A : Option Addr} {I : List Int} {j : Nat} {i : Int} {X : List Ent} (h : RecsAt w A 1 (I.map fun i => [.int .i64 i])) (hj : I[j]? = some i) (F : Fr w W X) : ∃ b o, A = some ⟨b, o, none⟩ ∧ W.cell? ⟨b, o + j, none⟩ = some (.int .i64 i) := by
 obtain ⟨b, o, hA, hlt, hc⟩ := (h.below F.below).rows j [.int .i64 i] (by rw [List.getElem?_map, hj]; rfl)
 refine ⟨b, o, hA, ?_⟩
 have := hc 0 _ rfl
 rwa [Nat.mul_one] at this
theorem bk_ok {L : List QT} (h : bkErr L = 0) : L.all QT.ok = true ∧ mksB (L.map QT.mark) = true ∧ L.length ≤ 4096 := by
 unfold bkErr at h
 by_cases h1 : L.all QT.ok = true
 ·rw [if_pos h1] at h
  unfold mkErr at h
  by_cases h2 : mksB (L.map QT.mark) = true
  ·have := mksB_len h2
   rw [List.length_map] at this
   exact ⟨h1, h2, this⟩
  ·rw [if_neg h2] at h
   exact absurd h (by decide)
 ·rw [if_neg h1] at h
  exact absurd h (by decide)
set_option maxRecDepth 100000 in
theorem qvis_any {L : List QT} {A : Option Addr} {cp : Nat} {k : Int} {w : World} (hL : L.length ≤ 1000000000000) (h : QuAt w A L) {er : Int} (her : bkErr L = er) : Calls Tryz.prog 9 #[.slice A L.length cp, .int .i64 k] w (VisP (if er = 0 then visQ L k else []) er w) := by
 have F := Fr.start w
 have HA := Lib.hid h
 have g1 := fun W (hb : Below w.heap.size w W) => qcheck_any (cp := cp) hL (h.below hb) her
 clear h
 by_cases h0 : er = 0
 ·rw [if_pos h0]
  subst h0
  obtain ⟨hok, hmv, hl⟩ := bk_ok her
  have hsh : ∀ q ∈ L, q.short := fun q hq => ok_short (List.all_eq_true.1 hok q hq)
  have HS := Lib.hid hsh
  have HM := Lib.hid hmv
  have HIL0 : Hid ((vis (L.map QT.mark) k).length ≤ 4096) := Lib.hid (by have := visF_len (ms := L.map QT.mark) (k := k) (L.map QT.mark).length; rw [List.length_map] at this; unfold vis; rw [List.length_map]; omega)
  clear hok hmv hsh her
  go_enter Tryz.func9, Tryz.ntmps9
  go_wp2_with (first | go_skip | ((go_at_call 14); (with_reducible refine fr_call F (g1 _ F.below) ?_); (clear F; intro W F); (try dsimp only)) | (go_at_call 34; refine (qmarks_any hL HS.out (HA.out.below F.below)).mono ?_; rintro e W2 ⟨mv, rfl, hO⟩; have F2 := F.next hO.below; clear F; obtain ⟨A2, cp2, rfl, hMk⟩ := MksP.at hO hL HS.out; have GK := sVis_ok _ HM.out k A2 cp2 _ hMk; rw [List.length_map] at GK; clear hO hMk; have F := F2; clear F2) | (go_at_call 33; refine GK.mono ?_; rintro e W2 ⟨iv, rfl, hO⟩; have F2 := F.next hO.below; clear F; have hlv : (vis (L.map QT.mark) k).length ≤ 9223372036854775807 := (Nat.le_trans HIL0.out (by decide)); obtain ⟨A3, cp3, rfl, hI⟩ := hO.ints hlv; have HI := Lib.hid hI; clear hI hO GK g1; have F := F2; clear F2; (try dsimp only)) | refine aYQ ?_ | (refine aTQ ?_; clear F; intro W F) | refine aNQ ?_)
  have HW := Lib.hid F.below
  have HA2 := Lib.hid (HA.out.below F.below)
  have hvl : ∀ i ∈ vis (L.map QT.mark) k, 0 ≤ i ∧ i.toNat < L.length := fun i hi => vis_lt hi
  have HR0 : Hid (visQ L k = atIs L (vis (L.map QT.mark) k)) := Lib.hid rfl
  generalize vis (L.map QT.mark) k = I at *
  have HVL := Lib.hid hvl
  have HIL := HIL0
  clear hvl HA HS HM F HIL0
  have F := Fr.start W2
  have hIl : I.length ≤ 9223372036854775807 := by have := HI.out.ln; simpa using this
  go_loopw [9, 26] (fun ov jv wr => ∃ (j : Nat) (X : List Ent), j ≤ I.length ∧ jv = .int .i64 j ∧ SlG 33 72 ov j (qCs (atIs L (I.take j))) X ∧ Fr W2 wr X) (fun _ jv _ => I.length - (intOf jv).toNat)
  case atStart => exact ⟨0, [], by omega, rfl, SlG.nil _ _, F⟩
  case round =>
   clear F
   obtain ⟨j, X, hj, rfl, S, F⟩ := hrel
   have HS := Lib.hid S
   clear S
   by_cases hlt : j < I.length
   ·have hji : I[j]? = some I[j] := List.getElem?_eq_getElem hlt
    obtain ⟨b3, o3, rfl, c0⟩ := HI.out.int hji F
    obtain ⟨hi0, hi1⟩ := HVL.out I[j] (List.getElem_mem hlt)
    obtain ⟨n, hn⟩ : ∃ n : Nat, I[j] = (n : Int) := ⟨I[j].toNat, by omega⟩
    rw [hn] at c0 hji hi1
    rw [Int.toNat_natCast] at hi1
    obtain ⟨b, o, q, rfl, hq, hr, hm, hbl⟩ := HA2.out.get hi1
    have HR := Lib.hid hr
    have HJ := Lib.hid (atIs_snoc hji (by rw [Int.toNat_natCast]; exact hq))
    have hjl : (qCs (atIs L (I.take j)) ++ (flatC [.agg (qC q)]).toList) = qCs (atIs L (I.take (j + 1))) := by rw [HJ.out, qCs_snoc, flatC_q]
    have HJL := Lib.hid hjl
    have hsm : I.length ≤ 4096 := HIL.out
    clear hr hq hm hji hi0 hn hjl
    go_wp2_with (first | go_skip | ((with_reducible apply fLo F (hr := HA2.out.recs) (hi := HR.out)); exact rfl; (rw [qC_size]; decide); exact rfl; exact rowQ _) | ((with_reducible apply fSli F slQuo); exact rfl; exact rfl; exact rfl; decide; decide; (go_simp; exact rfl); (exact q_all q)) | refine aYQ ?_ | (refine aTQ ?_; clear F; intro W F) | refine aNQ ?_)
    (clear F; intro b35 W F; try simp only [Act.put, z6, z1, z2])
    go_wp2_with (first | go_skip | ((with_reducible apply fPushB elQuo (n := j) (by unfold maxLen; omega) (by omega) HS.out F); exact rfl; exact rfl; exact rfl; exact q_flat q; exact q_one q; (clear F HS); (intro v' X' W' S' F')) | refine aYQ ?_ | (refine aTQ ?_; clear F; intro W F) | refine aNQ ?_)
    go_roundw
    case rel => exact ⟨j + 1, X', by omega, by go_num, by rw [← HJL.out]; exact S', F'⟩
    case measure => simp [intOf]; omega
   ·obtain rfl : j = I.length := by omega
    have S := HS.out
    rw [List.take_length] at S
    go_wp2_with (first | go_skip | refine aYQ ?_ | (refine aTQ ?_; clear F; intro W F) | refine aNQ ?_)
    go_ret2
    exact ⟨_, rfl, ((S.ownL F).rebase HW.out).eqv (by rw [HR0.out, atIs_len (fun i hi => (HVL.out i hi).2)]) (by rw [HR0.out])⟩
 ·rw [if_neg h0]
  have t0 : (er != 0) = true := by rw [bne_iff_ne]; exact h0
  clear her h0
  go_enter Tryz.func9, Tryz.ntmps9
  go_wp2_with (first | go_skip | ((go_at_call 14); (with_reducible refine fr_call F (g1 _ F.below) ?_); (clear F; intro W F); (try dsimp only)) | refine aYQ ?_ | (refine aTQ ?_; clear F; intro W F) | refine aNQ ?_)
  go_ret2
  exact ⟨_, rfl, (SlG.nil _ _).ownL F⟩
end
section
open Go.RowKit
theorem pre_len {u p : Nat} {a b : List UInt8} (hu : u < 10 ^ 15) (h : pointL (Lib.decDigits u) p = (a, b)) : a.length ≤ 15 := by
 have hl := dec_len 14 u hu
 unfold pointL at h
 dsimp only at h
 rw [Prod.mk.injEq] at h
 obtain ⟨h1, -⟩ := h
 subst h1
 rw [List.length_take]
 split
 ·rw [List.length_append, List.length_replicate]; omega
 ·omega
theorem txt_rdG {z : Int} {p : Nat} {a b t : List UInt8} (h : pointL (Lib.decDigits z.natAbs) p = (a, b)) {k : Nat} (hk : b = t ++ List.replicate k 48) :
  rdR (txtS (decide (z < 0)) a t) p true = (if 15 < a.length then (0, 0, false) else rdF (a ++ t) t.length (decide (z < 0))) ∧ (rdF (a ++ t) t.length (decide (z < 0))).2.2 = true ∧ numL (a ++ t) * 10 ^ (p - t.length) = z.natAbs ∧ t.length ≤ p ∧ (a.head? ≠ some 45) := by
 obtain ⟨h1, h2, h3, h4, h5, h6⟩ := point_facts _ h
 have htl : t.length + k = p := by rw [← h5, hk, List.length_append, List.length_replicate]
 have htd : t.all isD = true := by
  rw [hk, List.all_append, Bool.and_eq_true] at h2
  exact h2.1
 have hnum : numL (a ++ t) * 10 ^ k = z.natAbs := by rw [← h6, hk, ← List.append_assoc, numL_tail]
 have hG := fun neg : Bool => rdG_ok (a := a) (b := t) (p := p) (neg := neg) h1 htd h3 h4 (by omega)
 have hh45 : a.head? ≠ some 45 := by
  intro hh
  cases a with
  | nil => exact absurd rfl h3
  | cons c l =>
   rw [List.head?_cons, Option.some.injEq] at hh
   subst hh
   rw [List.all_cons] at h1
   exact absurd h1 (by simp [isD])
 refine ⟨?_, ?_, by rw [show p - t.length = k by omega]; exact hnum, by omega, hh45⟩
 ·unfold rdR txtS
  by_cases hz : z < 0
  ·rw [decide_eq_true hz, if_pos rfl, List.singleton_append, List.head?_cons, List.tail_cons, if_pos ⟨rfl, rfl⟩]
   exact hG true
  ·rw [decide_eq_false hz, show (if false = true then [45] else ([] : List UInt8)) = [] from rfl, List.nil_append, if_neg]
   ·exact hG false
   ·rintro ⟨-, hh⟩
    have e : (if t = [] then a else a ++ 46 :: t).head? = a.head? := by
     split
     ·rfl
     ·cases a with
      | nil => exact absurd rfl h3
      | cons c l => rfl
    rw [e] at hh
    exact hh45 hh
 ·rw [rdF_ok]
  by_cases hz : z < 0
  ·rw [decide_eq_false (p := numL (a ++ t) = 0)]
   ·simp
   ·intro h0
    rw [h0, Nat.zero_mul] at hnum
    omega
  ·rw [decide_eq_false hz]
   rfl
theorem rd_low {z : Int} {p : Nat} {a b t : List UInt8} (hp9 : p ≤ 9) (hz : z.natAbs < 10 ^ 15) (h : pointL (Lib.decDigits z.natAbs) p = (a, b)) {k : Nat} (hk : b = t ++ List.replicate k 48) :
  prsR (txtS (decide (z < 0)) a t) p = (lowN z ((10 ^ p : Nat) : Int), lowD z ((10 ^ p : Nat) : Int), 0) := by
 obtain ⟨h1, h2, h3, h4, -⟩ := txt_rdG h hk
 have ha := pre_len hz h
 rw [prs_rd (by omega) (by omega), h1, if_neg (by omega)]
 unfold prsO
 rw [if_pos h2]
 unfold rdF at h2 ⊢
 split
 ·rename_i hq
  rw [if_pos hq] at h2
  exact absurd h2 (by decide)
 ·dsimp only
  have hc : (0 : Int) < ((10 ^ (p - t.length) : Nat) : Int) := by exact_mod_cast Nat.pow_pos (by decide)
  have hd : (0 : Int) < ((10 ^ t.length : Nat) : Int) := by exact_mod_cast Nat.pow_pos (by decide)
  have e2 : ((10 ^ t.length : Nat) : Int) * ((10 ^ (p - t.length) : Nat) : Int) = ((10 ^ p : Nat) : Int) := by
   rw [← Int.natCast_mul, ← Nat.pow_add, Nat.add_sub_cancel' h4]
  have e1 : (if decide (z < 0) = true then -(numL (a ++ t) : Int) else (numL (a ++ t) : Int)) * ((10 ^ (p - t.length) : Nat) : Int) = z := by
   have h3' : (numL (a ++ t) : Int) * ((10 ^ (p - t.length) : Nat) : Int) = (z.natAbs : Int) := by rw [← h3, Int.natCast_mul]
   by_cases hz : z < 0
   ·rw [decide_eq_true hz, if_pos rfl, Int.neg_mul, h3']; omega
   ·rw [decide_eq_false hz, if_neg (by decide), h3']; omega
  obtain ⟨k1, k2⟩ := low_scale (n := if decide (z < 0) = true then -(numL (a ++ t) : Int) else (numL (a ++ t) : Int)) hd hc
  rw [e1, e2] at k1 k2
  rw [k1, k2]
theorem txt_back {n d : Int} {p : Nat} (h : okZ n d) (hp9 : p ≤ 9) (hx : n * ((10 ^ p : Nat) : Int) % d = 0) (hz : (n * ((10 ^ p : Nat) : Int) / d).natAbs < 10 ^ 15) :
  ∃ s, txtR (okZ n d) n d p = (s, 0) ∧ prsR s p = (n, d, 0) ∧ s.length ≤ (fmtL (n * ((10 ^ p : Nat) : Int) / d).natAbs (decide (n * ((10 ^ p : Nat) : Int) / d < 0)) p).length ∧ (0 ≤ n → s.head? ≠ some 45) := by
 obtain ⟨z, hzz⟩ : ∃ z, n * ((10 ^ p : Nat) : Int) / d = z := ⟨_, rfl⟩
 rw [hzz] at hz ⊢
 obtain ⟨a, b, hq⟩ : ∃ a b, pointL (Lib.decDigits z.natAbs) p = (a, b) := ⟨_, _, rfl⟩
 obtain ⟨t, ht⟩ : ∃ t, Lib.trimRightB b 48 = t := ⟨_, rfl⟩
 obtain ⟨k, hk⟩ := trim_zeros b
 rw [ht] at hk
 have ha := pre_len hz hq
 obtain ⟨-, hd, -⟩ := okZ_iff.1 h
 have hP : (0 : Int) < ((10 ^ p : Nat) : Int) := by exact_mod_cast Nat.pow_pos (by decide)
 have hzd : z * d = n * ((10 ^ p : Nat) : Int) := by rw [← hzz]; exact Int.ediv_mul_cancel (Int.dvd_of_emod_eq_zero hx)
 refine ⟨txtS (decide (z < 0)) a t, ?_, ?_, ?_, fun h0 => ?_⟩
 ·unfold txtR
  have hc : chkE (okZ n d) (p : Int) = 0 := by
   unfold chkE
   rw [if_neg (by simpa using h), if_neg (by omega)]
  rw [if_neg (by simp [hc])]
  dsimp only
  rw [Int.toNat_natCast, if_neg (by simpa using hx), hzz]
  unfold txtZ
  dsimp only
  rw [hq, ht, if_neg (by simpa using ha)]
  unfold txtS
  by_cases h0 : z < 0
  ·rw [decide_eq_true h0, if_pos h0, if_pos rfl]
  ·rw [decide_eq_false h0, if_neg h0]
   rfl
 ·rw [rd_low hp9 hz hq hk]
  have hs := mkR_ok (n := z) hP
  obtain ⟨e1, e2⟩ := low_mul (n := z) hP
  have hg := low_gcd (n := z) hP
  have hpos := lowD_pos (n := z) hP
  obtain ⟨s1, s2⟩ := low_scale (n := n) hd hP
  obtain ⟨t1, t2⟩ := low_self h
  obtain ⟨u1, u2⟩ := low_scale (n := z) hP hd
  rw [hzd, Int.mul_comm ((10 ^ p : Nat) : Int) d] at u1 u2
  rw [← u1, ← u2, s1, s2, t1, t2]
 ·unfold fmtL
  rw [hq]
  show (txtS (decide (z < 0)) a t).length ≤ (txtS (decide (z < 0)) a b).length
  have hl : t.length ≤ b.length := by rw [hk, List.length_append]; omega
  unfold txtS
  rw [List.length_append, List.length_append]
  by_cases h0 : t = []
  ·rw [if_pos h0]
   have hle : a.length ≤ (if b = [] then a else a ++ 46 :: b).length := by
    split
    ·exact Nat.le_refl _
    ·rw [List.length_append]; omega
   omega
  ·have hb : b ≠ [] := by
    intro h1
    have h2 := List.length_pos_iff.2 h0
    rw [h1, List.length_nil] at hl
    omega
   rw [if_neg h0, if_neg hb, List.length_append, List.length_append, List.length_cons, List.length_cons]
   omega
 ·obtain ⟨-, -, -, -, h45⟩ := txt_rdG hq hk
  obtain ⟨-, -, h3, -⟩ := point_facts _ hq
  have hz0 : ¬ z < 0 := by
   intro h1
   have := Int.mul_neg_of_neg_of_pos h1 hd
   have h2 := Int.mul_nonneg h0 (Int.le_of_lt hP)
   omega
  unfold txtS
  rw [decide_eq_false hz0, if_neg (by decide), List.nil_append]
  intro hh
  refine h45 ?_
  rw [← hh]
  split
  ·rfl
  ·cases a with
   | nil => exact absurd rfl h3
   | cons c l => rfl
end
section
open Go.RowKit
set_option maxHeartbeats 4000000
theorem makeOf_any {n d : Int} {r : Int × Int × Int} (h1 : -9223372036854775808 ≤ n) (h2 : n < 9223372036854775808) (h3 : -9223372036854775808 ≤ d) (h4 : d < 9223372036854775808) (hr : mkR n d = r) (w : World) : Calls Tryz.prog 32 #[.int .i64 n, .int .i64 d] w (RetB (.agg (RC r.1 r.2.1)) w) := by
 have F := Fr.start w
 have g1 := fun w => rofR h1 h2 h3 h4 hr w
 obtain ⟨rn, rd, re⟩ := r
 dsimp only at g1 ⊢
 clear h1 h2 h3 h4 hr
 go_enter Tryz.func32, Tryz.ntmps32
 go_wp2_with (first | go_skip | refine aY3 ?_ | ((with_reducible apply fSli F slInt); exact rfl; exact rfl; exact rfl; decide; decide; (go_simp; exact rfl); exact rfl) | (refine aT3 ?_; clear F; intro W F) | refine aN3 ?_)
 (clear F; intro b4 W F; try simp only [Act.put, z6, z1, z2])
 go_wp2_with (first | go_skip | ((go_at_call 60); (with_reducible refine fr_call F (g1 _) ?_); (clear F; intro W F); (try dsimp only)) | refine aY3 ?_ | ((with_reducible apply fSli F slInt); exact rfl; exact rfl; exact rfl; decide; decide; (go_simp; exact rfl); exact rfl) | (refine aT3 ?_; clear F; intro W F) | refine aN3 ?_)
 (clear F; intro b5 W F; try simp only [Act.put, z6, z1, z2])
 go_wp2_with (first | go_skip | refine aY3 ?_ | ((with_reducible apply fSli F slInt); exact rfl; exact rfl; exact rfl; decide; decide; (go_simp; exact rfl); exact rfl) | (refine aT3 ?_; clear F; intro W F) | refine aN3 ?_)
 exact bodyPost_ret (res_c rfl rfl (Fr.get F tL) (rowRC _ _)) rfl ⟨rfl, F.below⟩
end
section
open Go.RowKit
theorem Fr.mids {w W : World} {L : List Ent} {x : Ent} (As : List (List Ent)) (h : Fr w W (x :: As.foldr (· ++ ·) L)) : Fr w W (As.foldr (· ++ ·) (x :: L)) := by
 have hp : (As.foldr (· ++ ·) (x :: L)).Perm (x :: As.foldr (· ++ ·) L) := by
  clear h
  induction As with
  | nil => exact List.Perm.refl _
  | cons A As ih => exact (List.Perm.append_left A ih).trans List.perm_middle
 exact ⟨h.below, fun y hy => h.blk y (hp.subset hy), fun y hy => h.own y (hp.subset hy), (hp.map _).nodup_iff.2 h.dis⟩
section
variable {l : Array Bool} {L : List (Nat × Nat)} {i c n N B b M : Nat} {w u : World}
theorem wtS2 {wt : Nat → Bool} {L : List (Nat × Nat)} (h : Wt l L) (hd : ∀ j, wt j = true → l.getD j false = true) (hc : (L.all fun p => p.1 != i || (wt p.2 || L.any fun q => q.2 == p.2 && wt q.1)) = true := by kernel_rfl) : Wt (l.setIfInBounds i true) L := by
 intro p hp hl
 by_cases hi : p.1 = i
 ·have := List.all_eq_true.1 hc p hp
  rw [hi] at this
  simp only [bne_self_eq_false, Bool.false_or, Bool.or_eq_true, List.any_eq_true, Bool.and_eq_true, beq_iff_eq] at this
  rcases this with h1 | ⟨q, hq, h2, h3⟩
  ·exact getD_still (hd _ h1)
  ·exact getD_still (by have := h q hq (hd _ h3); rwa [h2] at this)
 ·rw [getD_keep (Ne.symm hi)] at hl
  exact getD_still (h p hp hl)
end
theorem dTt {p : Prop} (h : p := by (repeat' apply And.intro) <;> first
 | exact True.intro
 | with_reducible rfl
 | with_reducible assumption
 | with_reducible exact wtS2 hw hd
 | exact tS2
 | exact tS1) : p := h
theorem dKn {p : Prop} (h : p := by
  (apply Exists.intro; refine And.intro ?dE ?_; rotate_left; (repeat apply Exists.intro); refine And.intro rfl ?_
   case dE => exact dE
   refine And.intro dF ?_
   refine And.intro (onS hH ?_ rfl) ?_
   · first | exact rfl | exact ⟨rfl, hq⟩
   · exact dTt)) : p := h
theorem oRn {p : Prop} (h : p := by (go_simp; exact hK _ _ dKn)) : p := h
theorem oQn {p : Prop} (h : p := by (refine ⟨?_⟩; go_simp; exact hK _ _ dKn)) : p := h
theorem oPn {p : Prop} (h : p := by (refine ow rfl rfl fun K hK => ?_; refine ⟨?_⟩; go_simp; exact hK _ _ dKn)) : p := h
end
section
theorem right_parts {q : QT} (h : q.right = true) : nameB q.src = true ∧ paperB q.ins = true ∧ codeB q.cur = true ∧ (0 ≤ q.day ∧ q.day ≤ 73048) ∧ (if q.void = true then q.noP else q.price) = true := by
 unfold QT.right at h
 simp only [Bool.and_eq_true, decide_eq_true_eq] at h
 exact ⟨h.1, h.2.1, h.2.2.1, h.2.2.2.1, h.2.2.2.2⟩
end
end Go.Proofs.YteaahhokaffmdaaGreatDoor
