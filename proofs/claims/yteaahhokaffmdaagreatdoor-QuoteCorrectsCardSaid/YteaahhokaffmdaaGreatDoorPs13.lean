/- What the laws lean on. -/
import Derived.Test.YteaahhokaffmdaaGreatDoorPs11
import Derived.Test.YteaahhokaffmdaaGreatDoorShelfS
import Derived.IntWalk
import Derived.Maps.OwnSet
import Derived.Maps.OwnOps
import Derived.Maps.RangeWalk
import Derived.Maps.AppendAt
import Derived.Deep.AppendLies
import Derived.Sort.KeysCollected
import Derived.Sort.OwnSorted
import Derived.Sort.OwnSortedInts
namespace Go.Proofs.YteaahhokaffmdaaGreatDoor
set_option linter.unusedVariables false
set_option linter.unusedSimpArgs false
section
section
section
open Go.RowKit
set_option maxHeartbeats 4000000
theorem mksB_len {l : List MK} (h : mksB l = true) : l.length ≤ 4096 := by
  unfold mksB at h
  simp only [Bool.and_eq_true, decide_eq_true_eq] at h
  exact h.1
theorem mksB_from {l : List MK} (h : mksB l = true) : mksFrom 0 l = true := by
  unfold mksB at h
  simp only [Bool.and_eq_true, decide_eq_true_eq] at h
  exact h.2
theorem MK.ok_of {m : MK} (h : m.ok = true) : 1 ≤ m.key.size ∧ m.key.size ≤ 64 ∧ m.known ≤ 2147483647 := by
  unfold MK.ok at h
  simp only [Bool.and_eq_true, decide_eq_true_eq] at h
  omega
def prevM (l : List MK) (i : Nat) : Int := if i = 0 then 0 else match l[i - 1]? with | some x => x.known | none => 0
theorem prevM_succ {l : List MK} {i : Nat} {x : MK} (h : l[i]? = some x) : prevM l (i + 1) = x.known := by
  unfold prevM
  rw [if_neg (by omega), Nat.add_sub_cancel, h]
theorem prevM_lt {l : List MK} (h : mksB l = true) {i : Nat} {x : MK} (hx : l[i]? = some x) : 0 ≤ prevM l i ∧ prevM l i < x.known := by
  have h2 := mksB_from h
  unfold prevM
  by_cases hi : i = 0
  · rw [if_pos hi]
    have := mksFrom_get l 0 i x h2 hx
    omega
  · rw [if_neg hi]
    have hl := (List.getElem?_eq_some_iff.1 hx).1
    have hy : l[i - 1]? = some l[i - 1] := List.getElem?_eq_getElem (by omega)
    rw [hy]
    have h3 := mksFrom_get l 0 (i - 1) _ h2 hy
    have h4 := mksFrom_lt l 0 (i - 1) i _ x h2 hy hx (by omega)
    exact ⟨by show 0 ≤ l[i - 1].known; omega, h4⟩
theorem mkQ {W : World} {b : Nat} {x : MK} {t : TypeId} (h : BlkAt W b (mkV x) t) : W.cell? ⟨b, 0, none⟩ = some (.string x.key) ∧ W.cell? ⟨b, 1, none⟩ = some (.int .i64 x.known) ∧ W.cell? ⟨b, 2, none⟩ = some (.bool x.void) :=
  ⟨h.cell rfl, h.cell rfl, h.cell rfl⟩
theorem aChk_ok (l : List MK) (hv : mksB l = true) (A : Option Addr) (cp : Nat) (w : World) (h : MkAt w A l) : Calls Tryz.prog 39 #[.slice A l.length cp] w (RetB (.int .i64 0) w) := by
  have hl := mksB_len hv
  have HV := Lib.hid hv
  clear hv
  go_enter Tryz.func39, Tryz.ntmps39
  go_wp2
  go_loopw [3, 11] (fun lv iv wr => ∃ i : Nat, i ≤ l.length ∧ iv = .int .i64 i ∧ lv = .int .i64 (prevM l i) ∧ MkAt wr A l ∧ Below w.heap.size w wr) (fun _ iv _ => l.length - (intOf iv).toNat)
  case atStart => exact ⟨0, by omega, rfl, rfl, h, Below.refl _ _⟩
  case round =>
    obtain ⟨i, hi, rfl, rfl, hS, hB⟩ := hrel
    clear h
    by_cases hlt : i < l.length
    · obtain ⟨b, o, x, rfl, hx, hbl, hsm, q0, q1, q2⟩ := hS.get hlt
      have hp := prevM_lt HV.out hx
      obtain ⟨hp1, hp2⟩ := hp
      have hk := MK.ok_of (mksFrom_get l 0 i x (mksB_from HV.out) hx).1
      obtain ⟨hk1, hk2, hk3⟩ := hk
      have g0 : ((x.key.size : Int) == 0) = false := by rw [beq_eq_false_iff_ne]; omega
      have HX := Lib.hid hx
      have HB2 := Lib.hid (BlkAt.new wr (mkV x) 94)
      have HS := Lib.hid hS
      have hB2 := bal hB (.cells (mkV x) 94)
      obtain ⟨p0, p1, p2⟩ := mkQ HB2.out
      clear hx hS
      go_wp2_with ((with_reducible refine wpl_store_new rfl 94 _ _ rfl (mkV x) ?_ ?_ (rowMk _) ?_ ?_); exact rfl; exact rfl; exact rfl)
      go_roundw
      case rel => exact ⟨i + 1, by omega, by go_num, by rw [prevM_succ HX.out], HS.out.below (bal0 _ _), hB2⟩
      case measure => simp [intOf]; omega
    · go_wp2
      go_ret
      exact ⟨rfl, hB⟩
end
section
open Go.RowKit
set_option maxHeartbeats 4000000
def ListP (L : List Int) (w : World) (e : Ending) (w' : World) : Prop :=
  ∃ v, e = .returned (.tuple #[v, .int .i64 0]) ∧ OwnL w w' 3 1 v L.length (L.map (.int .i64))
theorem OwnL.eqv {W0 W : World} {e : TypeId} {sz : Nat} {v : Value} {n n' : Nat} {xs xs' : List Value} (h : OwnL W0 W e sz v n xs) (hn : n = n') (hx : xs = xs') : OwnL W0 W e sz v n' xs' := by
  subst hn hx
  exact h
end
end
section
section
open Go.RowKit Go.Maps
set_option maxHeartbeats 4000000
theorem lawS : Keyed Tryz.prog 9 := string_keyed Tryz.underlying9
structure MapC (D : DataW Unit) (f : ByteArray → Option Nat) : Prop where
  map : IsMap D
  no : ∀ key, f key = none → has D (.string key.data.toList) = false
  yes : ∀ key i, f key = some i → ∀ z, D.atKey (.string key.data.toList) z = .lit (.int .i64 (i : Int))
theorem data_inj {a b : ByteArray} (h : a.data.toList = b.data.toList) : a = b := by
  cases a
  cases b
  simp at h
  rw [h]
theorem MapC.put {D : DataW Unit} {f g : ByteArray → Option Nat} (h : MapC D f) (k0 : ByteArray) (i : Nat) (h1 : g k0 = some i) (h2 : ∀ key, key ≠ k0 → g key = f key) : MapC (D.put (.string k0.data.toList) (.lit (.int .i64 (i : Int)))) g := by
  refine ⟨h.map.put _ _, fun key hk => ?_, fun key j hk z => ?_⟩
  · by_cases e : key = k0
    · subst e
      rw [h1] at hk
      cases hk
    · rw [has_put_other (fun e2 => e (data_inj (by injection e2)))]
      exact h.no key (by rw [← h2 key e]; exact hk)
  · by_cases e : key = k0
    · subst e
      rw [h1] at hk
      injection hk with hk
      subst hk
      exact atKey_put_same h.map (by simp [WideAt.IsKeyLit]) _ _
    · rw [atKey_put_other (fun e2 => e (data_inj (by injection e2)))]
      exact h.yes key j (by rw [← h2 key e]; exact hk) z
theorem MapC.del {D : DataW Unit} {f g : ByteArray → Option Nat} (h : MapC D f) (k0 : ByteArray) (h1 : g k0 = none) (h2 : ∀ key, key ≠ k0 → g key = f key) : MapC (D.del (.string k0.data.toList)) g := by
  refine ⟨h.map.del _, fun key hk => ?_, fun key j hk z => ?_⟩
  · by_cases e : key = k0
    · subst e
      exact has_del_same
    · rw [has_del_other (fun e2 => e (data_inj (by injection e2)))]
      exact h.no key (by rw [← h2 key e]; exact hk)
  · by_cases e : key = k0
    · subst e
      rw [h1] at hk
      cases hk
    · rw [atKey_del_other (fun e2 => e (data_inj (by injection e2)))]
      exact h.yes key j (by rw [← h2 key e]; exact hk) z
theorem MapC.congr {D : DataW Unit} {f g : ByteArray → Option Nat} (h : MapC D f) (e : ∀ key, g key = f key) : MapC D g := ⟨h.map, fun key hk => h.no key (by rw [← e]; exact hk), fun key i hk => h.yes key i (by rw [← e]; exact hk)⟩
theorem MapC.nil (f : ByteArray → Option Nat) (h : ∀ key, f key = none) : MapC (.map []) f := ⟨isMap_empty, fun key _ => rfl, fun key i hk => by rw [h] at hk; cases hk⟩
def CntP (l : List MK) (k : Int) (w : World) (e : Ending) (w' : World) : Prop :=
  ∃ (B n : Nat) (D : DataW Unit), e = .returned (.map (some B)) ∧ w'.ownsMap Tryz.prog 9 (plainElem Tryz.prog 3) B n D ∧ n ≤ l.length ∧ MapC D (fun key => cntN l k key l.length) ∧ w.heap.size ≤ B ∧ Below w.heap.size w w'
theorem wf64n {x : Nat} (h : x ≤ 100000) : (Lit.int .i64 (x : Int)).wf = true := WalkArith.wf_i64 (by omega)
set_option maxRecDepth 100000 in
theorem cnt_ok (l : List MK) (hv : mksB l = true) (k : Int) (A : Option Addr) (cp : Nat) (w : World) (h : MkAt w A l) : Calls Tryz.prog 61 #[.slice A l.length cp, .int .i64 k] w (CntP l k w) := by
  have hl := mksB_len hv
  have H := Lib.hid h
  have HV := Lib.hid (mksB_from hv)
  clear hv h
  have hmm := @run_makeMap Tryz.prog
  go_enter Tryz.func61, Tryz.ntmps61
  go_wp2_with fail
  go_loopw [11] (fun iv wr => ∃ (i : Nat) (D : DataW Unit), i ≤ l.length ∧ iv = .int .i64 i ∧ wr.ownsMap Tryz.prog 9 (plainElem Tryz.prog 3) w.heap.size i D ∧ MapC D (fun key => cntN l k key i) ∧ Below w.heap.size w wr) (fun iv _ => l.length - (intOf iv).toNat)
  case atStart => exact ⟨0, .map [], by omega, rfl, World.ownsMap_made _ _ _ _, MapC.nil _ (fun key => cntN_zero ..), bal0 _ _⟩
  case round =>
    obtain ⟨i, D, hi, rfl, hown, hM, hB⟩ := hrel
    have HM := Lib.hid hM
    clear hM
    by_cases hlt : i < l.length
    · obtain ⟨b, o, x, rfl, hx, hbl, hsm, q0, q1, q2⟩ := (H.out.below hB).get hlt
      have hown1 := hown.alloc (.cells (mkV x) 94)
      obtain ⟨p0, p1, p2⟩ := mkQ (BlkAt.new wr (mkV x) 94)
      have hkey : keyOf Tryz.prog 9 (.string x.key) = some (.string x.key.data.toList) := WideMaps.keyOf_string_mk Tryz.underlying9 hsm
      have hB2 := bal hB (.cells (mkV x) 94)
      have hBs := hB.size
      have HX := Lib.hid hx
      have HO := Lib.hid hown1
      have HKE := Lib.hid hkey
      have HB2 := Lib.hid hB2
      clear hx hown hown1 hkey hB2
      by_cases hk : k < x.known
      · have HK := Lib.hid hk
        go_wp2_with ((with_reducible refine wpl_store_new rfl 94 _ _ rfl (mkV x) ?_ ?_ (rowMk _) ?_ ?_); exact rfl; exact rfl; exact rfl)
        go_ret
        exact ⟨w.heap.size, i, D, rfl, HO.out, hi, HM.out.congr (fun key => cntN_stop HV.out HX.out HK.out hi key), Nat.le_refl _, HB2.out⟩
      · have g0 : decide (k < x.known) = false := by simpa using hk
        have HK := Lib.hid (Int.not_lt.1 hk)
        clear hk
        cases hvd : x.void
        · have HVD := Lib.hid hvd
          rw [hvd] at p2
          clear hvd
          go_wp2_with (first
            | ((with_reducible refine wpl_store_new rfl 94 _ _ rfl (mkV x) ?_ ?_ (rowMk _) ?_ ?_); exact rfl; exact rfl; exact rfl)
            | (at_mapUpdate; refine wpList_mapUpdate_own _ rfl _ _ _ 89 rfl 9 3 lawS Tryz.underlying89 _ w.heap.size i _ rfl HO.out (by unfold maxLen; omega) _ _ _ rfl rfl HKE.out _ [] (plainElem_int Tryz.underlying3 (wf64n (by omega))) ?_; intro w1 hown1 hgrow1))
          go_roundw
          case rel => exact ⟨i + 1, _, by omega, by go_num, hown1, HM.out.put x.key i (cntN_set HX.out HK.out HVD.out) (fun key hne => cntN_miss HX.out (fun e => hne e.symm)), HB2.out.grown hgrow1 HB2.out.size (fun j hj => by cases hj; exact Nat.le_refl _)⟩
          case measure => simp [intOf]; omega
        · have HVD := Lib.hid hvd
          rw [hvd] at p2
          clear hvd
          go_wp2_with (first
            | ((with_reducible refine wpl_store_new rfl 94 _ _ rfl (mkV x) ?_ ?_ (rowMk _) ?_ ?_); exact rfl; exact rfl; exact rfl)
            | (at_delete; refine wpList_delete_own _ rfl _ _ 89 9 rfl 3 lawS Tryz.underlying89 _ w.heap.size i _ rfl HO.out _ _ rfl HKE.out ?_; intro w1 hown1 hturn1))
          go_roundw
          case rel => exact ⟨i + 1, _, by omega, by go_num, hown1.mono (by omega), HM.out.del x.key (cntN_void HX.out HK.out HVD.out) (fun key hne => cntN_miss HX.out (fun e => hne e.symm)), HB2.out.grown hturn1.grown HB2.out.size (fun j hj => by cases hj; exact Nat.le_refl _)⟩
          case measure => simp [intOf]; omega
    · have hie : i = l.length := by omega
      go_wp2
      go_ret
      exact ⟨w.heap.size, i, D, rfl, hown, hi, HM.out.congr (fun key => by rw [hie]), Nat.le_refl _, hB⟩
end
section
open Go.RowKit Go.Maps
set_option maxHeartbeats 4000000
structure CollI (f : ByteArray → Option Nat) (left : Lit → Bool) (out : List Int) : Prop where
  nodup : out.Nodup
  mem : ∀ i : Int, i ∈ out ↔ ∃ key j, f key = some j ∧ i = (j : Int) ∧ left (.string key.data.toList) = false
theorem CollI.start {D : DataW Unit} {f : ByteArray → Option Nat} (h : MapC D f) : CollI f (has D) [] := ⟨List.nodup_nil, fun i => by
  constructor
  · intro hi
    simp at hi
  · rintro ⟨key, j, h1, -, h2⟩
    have := has_true_of_atKey (h.yes key j h1)
    rw [this] at h2
    cases h2⟩
theorem CollI.step {D : DataW Unit} {f : ByteArray → Option Nat} {left : Lit → Bool} {out : List Int} (h : CollI f left out) (hM : MapC D f) (inj : ∀ k1 k2 j, f k1 = some j → f k2 = some j → k1 = k2) {x : List UInt8} {c : Int} (hl : left (.string x) = true) (hat : ∀ zd, D.atKey (.string x) zd = .lit (.int .i64 c)) :
    CollI f (fun z => left z && !z.sameKey (.string x)) (out ++ [c]) := by
  obtain ⟨key, rfl⟩ : ∃ key : ByteArray, key.data.toList = x := ⟨⟨x.toArray⟩, by simp⟩
  have hhas := has_true_of_atKey hat
  obtain ⟨j, hj⟩ : ∃ j, f key = some j := by
    cases hf : f key with
    | none =>
      rw [hM.no key hf] at hhas
      cases hhas
    | some j => exact ⟨j, rfl⟩
  have hc : c = (j : Int) := by
    have h1 := hat (.lit (.int .i64 0))
    rw [hM.yes key j hj] at h1
    injection h1 with h1
    injection h1 with h1 h2
    exact h2.symm
  subst hc
  have hnew : (j : Int) ∉ out := fun hx => by
    obtain ⟨k2, j2, h1, h2, h3⟩ := (h.mem _).1 hx
    obtain rfl : j = j2 := by omega
    have := inj _ _ _ hj h1
    subst this
    rw [hl] at h3
    cases h3
  refine ⟨List.nodup_append.2 ⟨h.nodup, by simp, fun a ha b hb e => ?_⟩, fun i => ?_⟩
  · simp at hb
    subst hb e
    exact hnew ha
  · rw [List.mem_append]
    constructor
    · rintro (hi | hi)
      · obtain ⟨k2, j2, h1, h2, h3⟩ := (h.mem _).1 hi
        exact ⟨k2, j2, h1, h2, by simp [h3]⟩
      · simp at hi
        exact ⟨key, j, hj, hi, by simp [Lit.sameKey]⟩
    · rintro ⟨k2, j2, h1, h2, h3⟩
      by_cases e : k2 = key
      · subst e
        rw [hj] at h1
        injection h1 with h1
        subst h1
        exact .inr (by simp [h2])
      · refine .inl ((h.mem _).2 ⟨k2, j2, h1, h2, ?_⟩)
        have hs : (Lit.string k2.data.toList).sameKey (.string key.data.toList) = false := sameKey_ne (fun e2 => e (data_inj (by injection e2)))
        rw [hs] at h3
        simpa using h3
theorem cnt_inj {ms : List MK} {k : Int} {n : Nat} (k1 k2 : ByteArray) (j : Nat) (h1 : cntN ms k k1 n = some j) (h2 : cntN ms k k2 n = some j) : k1 = k2 := by
  obtain ⟨m, a1, a2, -⟩ := cntN_key h1
  obtain ⟨m2, b1, b2, -⟩ := cntN_key h2
  rw [a1] at b1
  injection b1 with b1
  subst b1
  rw [← a2, b2]
theorem CollI.sorted {ms : List MK} {k : Int} {left : Lit → Bool} {out : List Int} (h : CollI (fun key => cntN ms k key ms.length) left out) (hl : ∀ kl, left kl = false) : out.mergeSort (fun x y => decide (x ≤ y)) = vis ms k := by
  have hasc : (vis ms k).Pairwise (· < ·) := visF_asc _
  have hp : out.Perm (vis ms k) := by
    refine (List.perm_ext_iff_of_nodup h.nodup (hasc.imp (fun h => by omega))).2 fun i => ?_
    rw [h.mem]
    constructor
    · rintro ⟨key, j, h1, rfl, -⟩
      exact (cntN_vis j).1 ⟨key, h1⟩
    · intro hi
      have hi2 := hi
      unfold vis at hi2
      obtain ⟨j, rfl, -, -⟩ := (visF_mem i _).1 hi2
      obtain ⟨key, hkey⟩ := (cntN_vis j).2 hi
      exact ⟨key, j, hkey, rfl, hl _⟩
  have tr : ∀ a b c : Int, decide (a ≤ b) = true → decide (b ≤ c) = true → decide (a ≤ c) = true := fun a b c h1 h2 => by simp only [decide_eq_true_eq] at *; omega
  have tot : ∀ a b : Int, (decide (a ≤ b) || decide (b ≤ a)) = true := fun a b => by simp only [Bool.or_eq_true, decide_eq_true_eq]; omega
  refine List.Perm.eq_of_pairwise (le := fun a b => decide (a ≤ b) = true) (fun a b _ _ h1 h2 => ?_) (List.pairwise_mergeSort tr tot out) (hasc.imp (fun h => by simp; omega)) ((List.mergeSort_perm out _).trans hp)
  simp only [decide_eq_true_eq] at h1 h2
  omega
section
variable {P : Program} {ops : Array Oper} {rest : List Oper} {o : Oper} {a : Act} {Q : Exit → Act → World → Prop}
theorem wpl_pushB {T E : TypeId} {sz bytes : Nat} (hel : ElT P T E sz bytes) (hgd : o.guard = none) (s x : Operand) (ho : o.op = .call { callee := .builtin .append, args := #[s, x], argTypes := #[T, T] })
    {W : World} {B : Nat} {v : Value} {n : Nat} {xs : List Value} (hO : W.ownsRow B E sz v n xs) (hBW : B ≤ W.heap.size) (hs : a.eval s = v) (news : Array Value) (hx : a.eval x = .slice (some ⟨W.heap.size, 0, none⟩) 1 1) (hl : news.size = sz) (h1 : news.toList.all (·.oneCell') = true)
    (hn : n ≤ 100000) (hb : bytes ≤ 10000)
    (h : ∀ v' w', w'.ownsRow B E sz v' (n + 1) (xs ++ news.toList) → (W.alloc (.cells news E)).grownBy w' v.ownBlock → wpList P ops Q rest (a.put o.dst v') w') : wpList P ops Q (o :: rest) a (W.alloc (.cells news E)) := by
  obtain ⟨i, z, hi, hz, hsz, hby, hzs⟩ := hel.info
  refine wpList_append_own _ hgd s x T ho B E i z sz bytes hel.sl hi hz hsz hby hzs hel.pos v n xs hs (hO.alloc _) ⟨W.heap.size, 0, none⟩ 1 1 news.toList hx (by simp [hl]) (fun j u hj => ?_) (fun u hu => ?_) (by unfold maxLen; omega) ?_ (by simp; omega) ?_
  · rw [Go.WideShapes.add_plain, Nat.zero_add, World.cell?_alloc_new]
    simpa using hj
  · exact List.all_eq_true.1 h1 u hu
  · have : (n + 1) * bytes ≤ 100001 * 10000 := Nat.mul_le_mul (by omega) hb
    omega
  · intro v' w' hown hg _
    exact h v' w' hown hg
end
open Go.Sort in
set_option maxRecDepth 100000 in
theorem sVis_ok (l : List MK) (hv : mksB l = true) (k : Int) (A : Option Addr) (cp : Nat) (w : World) (h : MkAt w A l) : Calls Tryz.prog 33 #[.slice A l.length cp, .int .i64 k] w (ListP (vis l k) w) := by
  have hl := mksB_len hv
  have H := Lib.hid h
  have HV := Lib.hid hv
  clear hv h
  go_enter Tryz.func33, Tryz.ntmps33
  go_wp2_with fail
  refine (aChk_ok l HV.out A cp _ H.out).mono ?_
  rintro e w1 ⟨rfl, hb1⟩
  have HB1 := Lib.hid hb1
  clear hb1
  go_wp2_with fail
  refine (cnt_ok l HV.out k A cp _ (H.out.below HB1.out)).mono ?_
  rintro e w2 ⟨B, n, D, rfl, hown, hn, hM, hBB, hb2⟩
  have HB2 := Lib.hid (bnext HB1.out hb2)
  have hs2 := HB2.out.size
  have hs1 := HB1.out.size
  have HM := Lib.hid hM
  have HOWN := Lib.hid hown
  have hBl := hown.lt
  have hsz := hown.size_le
  clear hb2 hM hown HB1
  go_wp2_with (at_range; refine wpList_range_own _ rfl _ 89 rfl 9 3 lawS Tryz.underlying89 _ B n _ rfl HOWN.out ?_; intro w3 hrg3 hg3 hs3)
  have HB3 : Hid (Below w.heap.size w w3) := Lib.hid (HB2.out.grown hg3 hs2 (fun j hj => by cases hj))
  have hr3 : w2.heap.size < w3.heap.size := by omega
  have HR3 := Lib.hid hrg3
  clear hrg3 hg3 hs3 HOWN
  go_frame
  go_loopw [7] (fun ov wr => ∃ (left : Lit → Bool) (cnt : Nat) (out : List Int), wr.ranges Tryz.prog 9 (plainElem Tryz.prog 3) B w2.heap.size n D left cnt ∧ CollI (fun key => cntN l k key l.length) left out ∧ out.length + cnt ≤ n ∧ wr.ownsRow w3.heap.size 3 1 ov out.length (out.map (.int .i64)) ∧ w3.heap.size ≤ wr.heap.size ∧ Below w.heap.size w wr) (fun _ wr => wr.rangeLeft B w2.heap.size)
  case atStart => exact ⟨_, _, [], HR3.out, CollI.start HM.out, by simpa using hsz, World.ownsRow_nil .., Nat.le_refl _, HB3.out⟩
  case round =>
    obtain ⟨left, cnt, out, hrg, hC, hcnt, hown, hws, hB⟩ := hrel
    have HC := Lib.hid hC
    have HO := Lib.hid hown
    have HR := Lib.hid hrg
    have HB := Lib.hid hB
    clear hC hown hrg hB HR3 HB3
    go_wp2_with (at_next; refine wpList_next_ranges _ rfl _ rfl 9 lawS _ encStr (Value.int .i64) (fun key kl hk => by obtain ⟨x, hx, _⟩ := Maps.keyOf_str Tryz.underlying9 hk; exact ⟨x, hx⟩) (fun v y hv => by obtain ⟨c, rfl, _⟩ := plainElem_int_inv Tryz.underlying3 hv; exact ⟨c, rfl⟩) B w2.heap.size n _ _ _ rfl HR.out ?_ ?_)
    · intro _ hl0
      have HL0 := Lib.hid hl0
      clear hl0
      have hS := HC.out.sorted HL0.out
      rcases HO.out.2 with ⟨rfl, h0⟩ | ⟨g, cap, cur, rfl, hbase, hb, h1, h2, h3, h4⟩
      · have hv0 : vis l k = [] := by
          rw [← hS, List.eq_nil_of_length_eq_zero h0, List.mergeSort_nil]
        have HV0 := Lib.hid hv0
        have Z := Lib.hid (show (0 : Nat) = out.length from h0.symm)
        clear hS hv0 h0
        have hc := Tryz.slices_Sort_int_none none 0 wr
        go_wp2_with (go_at_call 62; refine hc.mono ?_; rintro e w' ⟨rfl, rfl⟩)
        go_ret2
        exact ⟨_, rfl, HB.out, by rw [HV0.out]; exact World.ownsRow_nil ..⟩
      · have hH := holds_of_blockI hb (by simpa using h4)
        have hgl : g < wr.heap.size := (Array.getElem?_eq_some_iff.1 hb).1
        have hc := Tryz.slices_Sort_int g 0 cap out wr hH hgl (by omega)
        have hlen : (vis l k).length = out.length := by rw [← hS, List.length_mergeSort]
        rw [hS] at hc
        have FIN : Hid (∀ nn os, OwnL w (grow (putRow (Value.int .i64) (Sort.ahead wr nn) g 0 (vis l k).toArray) os) 3 1 (.slice (some ⟨g, 0, none⟩) out.length cap) (vis l k).length ((vis l k).map (.int .i64))) := Lib.hid (fun nn os => by
          have h5 := ownsRow_sortedI (n := nn) (os := os) hlen (Nat.le_trans (show w.heap.size ≤ w3.heap.size by omega) hbase) hb h1 h2 h3
          exact ⟨HB.out.grown (grownBy_sortedI _) HB.out.size (fun j hj => by cases hj; omega), by rw [hlen]; exact h5⟩)
        clear hS hH hlen hb h1 h2 h3 h4
        go_wp2_with (go_at_call 62; refine hc.mono ?_; rintro e w' ⟨rfl, nn, os, rfl⟩)
        go_ret2
        exact ⟨_, rfl, FIN.out _ _⟩
    · intro x c kl yd yp w4 cnt4 hkey hlk hv4 hat hrg4 hlt hg4 hs4 hen
      obtain ⟨x', ex, rfl, -⟩ := Maps.keyOf_str Tryz.underlying9 hkey
      obtain rfl : x = x' := encStr_inj ex
      obtain ⟨c', ec, ez, -⟩ := plainElem_int_inv Tryz.underlying3 hv4
      obtain rfl : c = c' := by injection ec
      have hat2 : ∀ zd, D.atKey (.string x) zd = .lit (.int .i64 c) := fun zd => by rw [hat zd]; exact (congrArg Prod.fst ez)
      have hC2 := HC.out.step HM.out (fun k1 k2 j => cnt_inj k1 k2 j) hlk hat2
      have hO4 := HO.out.kept hg4 (.inr (fun e => by have := (HO.out.lt _ e).1; omega))
      have hB4 : Below w.heap.size w w4 := HB.out.grown hg4 HB.out.size (fun j hj => by cases hj; omega)
      have hw4 : w3.heap.size ≤ w4.heap.size := by omega
      have HC2 := Lib.hid hC2
      have HO4 := Lib.hid hO4
      have HB4 := Lib.hid hB4
      have HR4 := Lib.hid hrg4
      have HR0 := Lib.hid HR.out
      clear hC2 hO4 hB4 hrg4 hat hat2 hv4 hkey hs4 ez
      go_wp2_with (at_builtin; refine wpl_pushB elInt rfl _ _ rfl HO4.out hw4 rfl #[.int .i64 c] rfl rfl rfl (by omega) (by decide) ?_; intro v' w5 hO5 hg5)
      have hR5 := (HR4.out.alloc (.cells #[.int .i64 c] 3)).kept hg5 (fun e => by have := (HO4.out.lt _ e.symm).1; omega) (fun e => by have := (HO4.out.lt _ e.symm).1; omega)
      have hB5 : Below w.heap.size w w5 := ((bal HB4.out (.cells #[.int .i64 c] 3)).grown hg5 (bal HB4.out (.cells #[.int .i64 c] 3)).size (fun j hj => by have := (HO4.out.lt _ hj).1; omega))
      go_roundw
      case rel => exact ⟨_, cnt4, out ++ [c], hR5, HC2.out, by simp; omega, by simpa using hO5, by have := hg5.size; simp at this; omega, hB5⟩
      case measure => rw [hR5.left_eq, HR0.out.left_eq]; omega
end
end
end
section
open Go.RowKit
set_option maxHeartbeats 4000000
def mkErr (l : List MK) : Int := if mksB l = true then 0 else 130
theorem mksFrom_drop (l : List MK) {i : Nat} {x : MK} (hx : l[i]? = some x) (last : Int) : mksFrom last (l.drop i) = (x.ok && decide (last < x.known) && mksFrom x.known (l.drop (i + 1))) := by
  obtain ⟨hl, e⟩ := List.getElem?_eq_some_iff.1 hx
  rw [List.drop_eq_getElem_cons hl, e]
  rfl
theorem mkErr_long {l : List MK} (h : ¬ l.length ≤ 4096) : mkErr l = 130 := by
  unfold mkErr mksB
  rw [decide_eq_false h, Bool.false_and]
  rfl
theorem mkErr_from {l : List MK} (h : l.length ≤ 4096) : mkErr l = if mksFrom 0 l = true then 0 else 130 := by
  unfold mkErr mksB
  rw [decide_eq_true h, Bool.true_and]
theorem mk_bad {l : List MK} (h : l.length ≤ 4096) {i : Nat} {x : MK} {last : Int} (hx : l[i]? = some x) (he : mksFrom 0 l = mksFrom last (l.drop i)) (hb : (x.ok && decide (last < x.known)) = false) : mkErr l = 130 := by
  rw [mkErr_from h, he, mksFrom_drop l hx, hb, Bool.false_and]
  rfl
theorem mk_next {l : List MK} {i : Nat} {x : MK} {last : Int} (hx : l[i]? = some x) (he : mksFrom 0 l = mksFrom last (l.drop i)) (hb : (x.ok && decide (last < x.known)) = true) : mksFrom 0 l = mksFrom (prevM l (i + 1)) (l.drop (i + 1)) := by
  rw [he, mksFrom_drop l hx, hb, Bool.true_and, prevM_succ hx]
theorem mk_end {l : List MK} (h : l.length ≤ 4096) {last : Int} (he : mksFrom 0 l = mksFrom last (l.drop l.length)) : mkErr l = 0 := by
  rw [mkErr_from h, he, List.drop_of_length_le (Nat.le_refl _)]
  rfl
theorem MK.ok_iff {x : MK} : x.ok = true ↔ (1 ≤ x.key.size ∧ x.key.size ≤ 64) ∧ x.known ≤ 2147483647 := by
  unfold MK.ok
  simp
  try omega
theorem aChk_any (l : List MK) (A : Option Addr) (cp : Nat) (w : World) (h : MkAt w A l) {v : Int} (hv : mkErr l = v) : Calls Tryz.prog 39 #[.slice A l.length cp] w (RetB (.int .i64 v) w) := by
  have hln := h.ln
  have HV := Lib.hid hv
  clear hv
  by_cases hl : l.length ≤ 4096
  · go_enter Tryz.func39, Tryz.ntmps39
    go_wp2
    go_loopw [3, 11] (fun lv iv wr => ∃ i : Nat, i ≤ l.length ∧ iv = .int .i64 i ∧ lv = .int .i64 (prevM l i) ∧ mksFrom 0 l = mksFrom (prevM l i) (l.drop i) ∧ MkAt wr A l ∧ Below w.heap.size w wr) (fun _ iv _ => l.length - (intOf iv).toNat)
    case atStart => exact ⟨0, by omega, rfl, rfl, rfl, h, Below.refl _ _⟩
    case round =>
      obtain ⟨i, hi, rfl, rfl, hE, hS, hB⟩ := hrel
      have HE := Lib.hid hE
      clear h hE
      by_cases hlt : i < l.length
      · obtain ⟨b, o, x, rfl, hx, hbl, hsm, q0, q1, q2⟩ := hS.get hlt
        unfold maxLen at hsm
        have HX := Lib.hid hx
        have HB2 := Lib.hid (BlkAt.new wr (mkV x) 94)
        have HS := Lib.hid hS
        have hB2 := bal hB (.cells (mkV x) 94)
        obtain ⟨p0, p1, p2⟩ := mkQ HB2.out
        obtain ⟨pm, hpm⟩ : ∃ pm, prevM l i = pm := ⟨_, rfl⟩
        have HPM := Lib.hid hpm
        rw [hpm]
        clear hx hS hpm
        cases hc : (x.ok && decide (pm < x.known))
        · have HC := Lib.hid hc
          have hbad : ¬ ((1 ≤ x.key.size ∧ x.key.size ≤ 64) ∧ x.known ≤ 2147483647 ∧ pm < x.known) := by
            rintro ⟨h1, h2, h3⟩
            rw [MK.ok_iff.2 ⟨h1, h2⟩, decide_eq_true h3] at hc
            exact absurd hc (by decide)
          have HBD := Lib.hid hbad
          have hres : v = 130 := by rw [← HV.out]; exact mk_bad hl HX.out HE.out (by rw [HPM.out]; exact HC.out)
          subst hres
          clear hc hbad
          by_cases c1 : x.key.size = 0
          · have g0 : ((x.key.size : Int) == 0) = true := by rw [beq_iff_eq]; omega
            go_wp2_with ((with_reducible refine wpl_store_new rfl 94 _ _ rfl (mkV x) ?_ ?_ (rowMk _) ?_ ?_); exact rfl; exact rfl; exact rfl)
            go_ret
            exact ⟨rfl, hB2⟩
          have g0 : ((x.key.size : Int) == 0) = false := by rw [beq_eq_false_iff_ne]; omega
          go_wp2_with ((with_reducible refine wpl_store_new rfl 94 _ _ rfl (mkV x) ?_ ?_ (rowMk _) ?_ ?_); exact rfl; exact rfl; exact rfl)
          all_goals first
            | (go_ret; exact ⟨rfl, hB2⟩)
            | exact absurd ⟨⟨by omega, by omega⟩, by omega, by omega⟩ HBD.out
        · have HC := Lib.hid hc
          rw [Bool.and_eq_true, MK.ok_iff, decide_eq_true_eq] at hc
          obtain ⟨⟨⟨hk1, hk2⟩, hk3⟩, hk4⟩ := hc
          have g0 : ((x.key.size : Int) == 0) = false := by rw [beq_eq_false_iff_ne]; omega
          go_wp2_with ((with_reducible refine wpl_store_new rfl 94 _ _ rfl (mkV x) ?_ ?_ (rowMk _) ?_ ?_); exact rfl; exact rfl; exact rfl)
          go_roundw
          case rel => exact ⟨i + 1, by omega, by go_num, by rw [prevM_succ HX.out], mk_next HX.out HE.out (by rw [HPM.out]; exact HC.out), HS.out.below (bal0 _ _), hB2⟩
          case measure => simp [intOf]; omega
      · go_wp2
        go_ret
        obtain rfl : i = l.length := by omega
        exact ⟨ret_int (by rw [← HV.out, mk_end hl HE.out]), hB⟩
  · have hres : v = 130 := by rw [← HV.out]; exact mkErr_long hl
    subst hres
    go_enter Tryz.func39, Tryz.ntmps39
    go_wp2
    go_ret
    exact ⟨rfl, Below.refl _ _⟩
end
section
open Go.RowKit
set_option maxHeartbeats 4000000
section
variable {w0 u W : World} {L : List Ent} {B b N : Nat}
theorem Fr.off (F : Fr u W L) {M : Nat} (T : Tp w0 u B b M) {A L' : List Ent} {g : Nat} {cs : Array Value} {t : TypeId} (hl : Lies L A g cs t L') : g ≠ b := by
  have h1 := T.tape.lt
  have h2 := F.own (g, cs, t) (by rw [hl.eq]; simp)
  have h2 : u.heap.size ≤ g := h2
  omega
theorem tpickF (xs : List Int) {vs : List Value} {n c g : Nat} {t : TypeId} {A L' : List Ent} (F : Fr u W L) (T : Tp w0 u B b (N + 1)) (hl : Lies L A g (flatC vs) t L') (hv : vs = xs.map (Value.int .i64)) (hn : xs.length = n) (hx : 0 < xs.length) (hx2 : xs.length ≤ 1000) :
    Calls Tryz.prog 30 #[.pointer (some ⟨b, 0, none⟩), .slice (some ⟨g, 0, none⟩) n c] W (TapP (fun v => ∃ k : Int, v = .int .i64 k ∧ k ∈ xs) B b N W) :=
  tpick xs hn hx hx2 (by have := F.get hl; rw [hv, flatC_ints] at this; exact this) (F.off T hl) (T.at F)
theorem toneF (xs : List ByteArray) {vs : List Value} {n c g : Nat} {t : TypeId} {A L' : List Ent} (F : Fr u W L) (T : Tp w0 u B b (N + 1)) (hl : Lies L A g (flatC vs) t L') (hv : vs = xs.map Value.string) (hn : xs.length = n) (hx : 0 < xs.length) (hx2 : xs.length ≤ 1000) :
    Calls Tryz.prog 29 #[.pointer (some ⟨b, 0, none⟩), .slice (some ⟨g, 0, none⟩) n c] W (TapP (fun v => ∃ k : ByteArray, v = .string k ∧ k ∈ xs) B b N W) :=
  tone xs hn hx hx2 (by have := F.get hl; rw [hv, flatC_strs] at this; exact this) (F.off T hl) (T.at F)
end
end
section
open Go.RowKit
set_option maxHeartbeats 4000000
structure SlG (e : TypeId) (sz : Nat) (v : Value) (n : Nat) (xs : List Value) (X : List Ent) : Prop where
  len : xs.length = n * sz
  is : (v = .slice none 0 0 ∧ n = 0 ∧ X = []) ∨ ∃ g cap cur, v = .slice (some ⟨g, 0, none⟩) n cap ∧ X = [(g, cur, e)] ∧ n ≤ cap ∧ cap ≤ maxLen ∧ cur.size = cap * sz ∧ cur.toList.take (n * sz) = xs
theorem SlG.nil (e : TypeId) (sz : Nat) : SlG e sz (.slice none 0 0) 0 [] [] := ⟨by simp, .inl ⟨rfl, rfl, rfl⟩⟩
end
section
open Go.RowKit
set_option maxHeartbeats 4000000
theorem FmtR.len {n : Int} {s : ByteArray} {e : Int} (h : FmtR n s e) : s.size ≤ 10 := by
  rcases h with ⟨y, m, d, -, rfl, -⟩ | ⟨-, rfl, -⟩
  · exact Nat.le_of_eq rfl
  · decide
noncomputable def dayL (n : Int) : List UInt8 := (Classical.choose (fmt_ex n)).data.toList
theorem dayL_is (n : Int) : ∃ e, FmtR n (bs (dayL n)) e := by
  obtain ⟨e, he⟩ := Classical.choose_spec (fmt_ex n)
  exact ⟨e, by unfold dayL; rw [bs_of]; exact he⟩
theorem dayL_len (n : Int) : (dayL n).length ≤ 10 := by
  obtain ⟨e, h⟩ := dayL_is n
  have := h.len
  rwa [bs_size] at this
noncomputable def QT.mark (q : QT) : MK := ⟨bs (q.key (dayL q.day)), q.known, q.void⟩
theorem key_cat (s i t : List UInt8) : bs s ++ ⟨#[44]⟩ ++ bs i ++ ⟨#[44]⟩ ++ bs t = bs (s ++ 44 :: (i ++ 44 :: t)) := by
  rw [show (⟨#[44]⟩ : ByteArray) = bs [44] from rfl, bs_append, bs_append, bs_append, bs_append]
  simp
theorem no63 {n : Nat} (h : n ≤ 9223372036854775807) : (9223372036854775807 < n) = False := by rw [eq_iff_iff, iff_false]; omega
set_option maxRecDepth 100000 in
theorem qkey_any (s i : List UInt8) (d : Int) (hs : s.length ≤ 1000) (hi : i.length ≤ 1000) (w : World) : Calls Tryz.prog 63 #[.string (bs s), .string (bs i), .int .i64 d] w (RetB (.string (bs (s ++ 44 :: (i ++ 44 :: dayL d)))) w) := by
  have F := Fr.start w
  obtain ⟨e, he⟩ := dayL_is d
  have g1 := fun w => dfmt_is he w
  have ht := dayL_len d
  rw [← key_cat]
  generalize dayL d = t at *
  rw [← bs_size] at hs hi ht
  clear he
  generalize bs s = A at *
  generalize bs i = I at *
  generalize bs t = T at *
  have k1 := no63 (n := A.size + 1) (by omega)
  have k2 := no63 (n := A.size + 1 + I.size) (by omega)
  have k3 := no63 (n := A.size + 1 + I.size + 1) (by omega)
  have k4 := no63 (n := A.size + 1 + I.size + 1 + T.size) (by omega)
  clear hs hi ht
  go_enter Tryz.func63, Tryz.ntmps63
  go_wp2_with (first | go_skip | ((go_at_call 53); (with_reducible refine fr_call F (g1 _) ?_); (clear F; intro W F); (try dsimp only)))
  go_ret
  exact ⟨rfl, F.below⟩
structure QuAt (W : World) (A : Option Addr) (L : List QT) : Prop where
  recs : RecsAt W A 72 (L.map fun q => (qC q).toList)
  a : ∀ q ∈ L, q.a < bp 32
  b : ∀ q ∈ L, q.b < bp 32
  s1 : ∀ q ∈ L, q.src.length ≤ 9223372036854775807
  s2 : ∀ q ∈ L, q.ins.length ≤ 9223372036854775807
  s3 : ∀ q ∈ L, q.cur.length ≤ 9223372036854775807
theorem QuAt.below {W W' : World} {A : Option Addr} {L : List QT} (h : QuAt W A L) (hb : Below W.heap.size W W') : QuAt W' A L := ⟨h.recs.below hb, h.a, h.b, h.s1, h.s2, h.s3⟩
theorem QuAt.ln {W : World} {A : Option Addr} {L : List QT} (h : QuAt W A L) : L.length ≤ 9223372036854775807 := by simpa using h.recs.ln
theorem QuAt.get {W : World} {A : Option Addr} {L : List QT} (h : QuAt W A L) {i : Nat} (hi : i < L.length) : ∃ b o q, A = some ⟨b, o, none⟩ ∧ L[i]? = some q ∧ (L.map fun q => (qC q).toList)[i]? = some (qC q).toList ∧ q ∈ L ∧ b < W.heap.size := by
  have hx : L[i]? = some L[i] := List.getElem?_eq_getElem hi
  have hm : (L.map fun q => (qC q).toList)[i]? = some (qC L[i]).toList := by rw [List.getElem?_map, hx, Option.map_some]
  obtain ⟨b, o, hA, hlt, hc⟩ := h.recs.rows i _ hm
  exact ⟨b, o, L[i], hA, hx, hm, List.getElem_mem hi, hlt⟩
theorem QuAt.cell {W : World} {b o i k : Nat} {L : List QT} {q : QT} {v : Value} (h : QuAt W (some ⟨b, o, none⟩) L) (hq : L[i]? = some q) (hv : (qC q)[k]? = some v) : W.cell? ⟨b, o + i * 72 + k, none⟩ = some v := by
  obtain ⟨b', o', hA, hlt, hc⟩ := h.recs.rows i (qC q).toList (by rw [List.getElem?_map, hq, Option.map_some])
  cases hA
  exact hc k v (by rw [Array.getElem?_toList]; exact hv)
theorem Fr.nil {w W : World} (h : Below w.heap.size w W) : Fr w W [] := ⟨h, by simp, by simp, by simp⟩
section
variable {P : Program} {a : Act} {w u W : World} {K : Act → World → Prop} {Q : Exit → Act → World → Prop} {e : TypeId} {sz n k bytes : Nat} {v : Value} {xs : List Value} {X : List Ent} {cs : Array Value} {t T : TypeId} {x s : Operand} {ops : Array Oper} {rest : List Oper} {dst : Option Tmp} {ty : TypeId} {pos : String} {af : Array Edge} {gd : Option (Nat × Bool)} {news : Array Value} {o : Oper} {E : Prop} {y : Ent}
theorem SlG.owned (S : SlG e sz v n xs X) (h : Fr u W X) : W.ownsRow u.heap.size e sz v n xs := by
  refine ⟨S.len, ?_⟩
  rcases S.is with ⟨h1, h2, -⟩ | ⟨g, cap, cur, h1, h2, h3, h4, h5, h6⟩
  · exact .inl ⟨h1, h2⟩
  · subst h2
    have hg := h.blk (g, cur, e) (by simp)
    have hg2 := h.own (g, cur, e) (by simp)
    exact .inr ⟨g, cap, cur, h1, hg2, hg.blk, h3, h4, h5, h6⟩
theorem SlG.ownL (S : SlG e sz v n xs X) (h : Fr u W X) : OwnL u W e sz v n xs := ⟨h.below, S.owned h⟩
theorem wPush (hop : o.op = .call { callee := .builtin .append, args := #[s, x], argTypes := #[T, T] }) (hel : ElT P T e sz bytes) (hm : n + 1 ≤ maxLen) (hb : (n + 1) * bytes ≤ 140737488355328) (S : SlG e sz v n xs X) (h : Fr u W ((k, news, e) :: X)) (hs : a.eval s = v) (hx : a.eval x = .slice (some ⟨k, 0, none⟩) 1 1) (hl : news.size = sz) (h1 : news.toList.all (·.oneCell') = true)
    (hk : ∀ v' X' W', SlG e sz v' (n + 1) (xs ++ news.toList) X' → Fr u W' X' → K (a.put o.dst v') W') : o.wp P a W K Q := by
  obtain ⟨i, z, hi, hz, hsz, hby, hzs⟩ := hel.info
  have hkW := h.here
  have hown := S.owned h.tl
  refine wp_append_own _ s x T hop u.heap.size e i z sz bytes hel.sl hi hz hsz hby hzs hel.pos v n xs hs hown ⟨k, 0, none⟩ 1 1 news.toList hx (by simp [hl]) (fun j y hj => ?_) (fun y hy => ?_) hm hb h.below.size ?_
  · rw [Go.WideShapes.add_plain, Nat.zero_add]
    exact hkW.cell (by simpa using hj)
  · exact List.all_eq_true.1 h1 y hy
  · intro v' w' hown' hg hnil
    have hbl : Below u.heap.size u w' := by
      refine ⟨hg.os.trans h.below.os, hg.tape.trans h.below.tape, hg.output.trans h.below.output, Nat.le_trans h.below.size hg.size, fun q hq => ?_⟩
      refine (hg.block q (Nat.lt_of_lt_of_le hq h.below.size) (fun e2 => ?_)).trans (h.below.block q hq)
      rcases S.is with ⟨h1, -, -⟩ | ⟨g, cap, cur, h1, h2, -⟩
      · subst h1; cases e2
      · subst h1
        injection e2 with e2
        subst h2
        have := h.own (g, cur, e) (by simp)
        have : u.heap.size ≤ g := this
        have e3 : q = g := e2
        omega
    rcases hown'.2 with ⟨h1, h2⟩ | ⟨g, cap, cur, h1, h2, h3, h4, h5, h6, h7⟩
    · omega
    · refine hk v' [(g, cur, e)] w' ⟨hown'.1, .inr ⟨g, cap, cur, h1, rfl, h4, h5, h6, h7⟩⟩ ⟨hbl, fun y hy => ?_, fun y hy => ?_, by simp⟩
      · simp at hy
        subst hy
        exact ⟨h3⟩
      · simp at hy
        subst hy
        exact h2
theorem wPush1 (hop : o.op = .call { callee := .builtin .append, args := #[s, x], argTypes := #[T, T] }) (hel : ElT P T e sz bytes) (hm : n + 1 ≤ maxLen) (hb : (n + 1) * bytes ≤ 140737488355328) (S : SlG e sz v n xs X) (h : Fr u W ((k, news, e) :: y :: X)) (hs : a.eval s = v) (hx : a.eval x = .slice (some ⟨k, 0, none⟩) 1 1) (hl : news.size = sz) (h1 : news.toList.all (·.oneCell') = true)
    (hk : ∀ v' X' W', SlG e sz v' (n + 1) (xs ++ news.toList) X' → Fr u W' X' → BlkAt W' y.1 y.2.1 y.2.2 → K (a.put o.dst v') W') : o.wp P a W K Q := by
  obtain ⟨i, z, hi, hz, hsz, hby, hzs⟩ := hel.info
  have hkW := h.here
  have hX := h.tl.tl
  have hy := h.blk y (by simp)
  have hdis := h.tl.dis
  have hown := S.owned hX
  refine wp_append_own _ s x T hop u.heap.size e i z sz bytes hel.sl hi hz hsz hby hzs hel.pos v n xs hs hown ⟨k, 0, none⟩ 1 1 news.toList hx (by simp [hl]) (fun j y hj => ?_) (fun y hy => ?_) hm hb h.below.size ?_
  · rw [Go.WideShapes.add_plain, Nat.zero_add]
    exact hkW.cell (by simpa using hj)
  · exact List.all_eq_true.1 h1 y hy
  · intro v' w' hown' hg hnil
    have hne : ∀ q : Nat, (∀ g cur, X = [(g, cur, e)] → q ≠ g) → some q ≠ v.ownBlock := by
      intro q hq e2
      rcases S.is with ⟨h1, -, -⟩ | ⟨g, cap, cur, h1, h2, -⟩
      · subst h1; cases e2
      · subst h1
        injection e2 with e2
        exact hq g cur h2 e2
    have hbl : Below u.heap.size u w' := by
      refine ⟨hg.os.trans h.below.os, hg.tape.trans h.below.tape, hg.output.trans h.below.output, Nat.le_trans h.below.size hg.size, fun q hq => ?_⟩
      refine (hg.block q (Nat.lt_of_lt_of_le hq h.below.size) (hne q (fun g cur hx2 e2 => ?_))).trans (h.below.block q hq)
      have := hX.own (g, cur, e) (by rw [hx2]; simp)
      have : u.heap.size ≤ g := this
      omega
    have hyb : BlkAt w' y.1 y.2.1 y.2.2 := by
      refine ⟨(hg.block y.1 hy.lt (hne y.1 (fun g cur hx2 e2 => ?_))).trans hy.blk⟩
      rw [hx2] at hdis
      simp at hdis
      exact hdis e2
    rcases hown'.2 with ⟨h1, h2⟩ | ⟨g, cap, cur, h1, h2, h3, h4, h5, h6, h7⟩
    · omega
    · refine hk v' [(g, cur, e)] w' ⟨hown'.1, .inr ⟨g, cap, cur, h1, rfl, h4, h5, h6, h7⟩⟩ ⟨hbl, fun y hy => ?_, fun y hy => ?_, by simp⟩ hyb
      · simp at hy
        subst hy
        exact ⟨h3⟩
      · simp at hy
        subst hy
        exact h2
theorem sPush1 (hgd : o.guard = none) (s x : Operand) (hop : o.op = .call { callee := .builtin .append, args := #[s, x], argTypes := #[T, T] }) (hel : ElT P T e sz bytes) (hm : n + 1 ≤ maxLen) (hb : (n + 1) * bytes ≤ 140737488355328) (S : SlG e sz v n xs X) (h : Fr u W ((k, news, e) :: y :: X)) (hs : a.eval s = v) (hx : a.eval x = .slice (some ⟨k, 0, none⟩) 1 1) (hl : news.size = sz) (h1 : news.toList.all (·.oneCell') = true)
    (hk : ∀ v' X' W', SlG e sz v' (n + 1) (xs ++ news.toList) X' → Fr u W' X' → BlkAt W' y.1 y.2.1 y.2.2 → K (a.put o.dst v') W') : if Region.wanted o (yielded ops a.tmps) = true then o.wp P a W K Q else E := by
  rw [if_pos (by simp [Region.wanted, hgd])]
  exact wPush1 hop hel hm hb S h hs hx hl h1 hk
theorem fPushB (hel : ElT P T e sz bytes) (hm : n + 1 ≤ maxLen) (hb : (n + 1) * bytes ≤ 140737488355328) (S : SlG e sz v n xs X) (h : Fr u W ((k, news, e) :: X)) (hw : Region.wanted ⟨dst, .call { callee := .builtin .append, args := #[s, x], argTypes := #[T, T] }, ty, pos, af, gd⟩ (yielded ops a.tmps) = true) (hs : a.eval s = v) (hx : a.eval x = .slice (some ⟨k, 0, none⟩) 1 1) (hl : news.size = sz) (h1 : news.toList.all (·.oneCell') = true)
    (hk : ∀ v' X' W', SlG e sz v' (n + 1) (xs ++ news.toList) X' → Fr u W' X' → wpList P ops Q rest (a.put dst v') W') : wpList P ops Q (⟨dst, .call { callee := .builtin .append, args := #[s, x], argTypes := #[T, T] }, ty, pos, af, gd⟩ :: rest) a W :=
  wpList_want hw fun K hK => wPush rfl hel hm hb S h hs hx hl h1 (fun v' X' W' S' F' => hK _ _ (hk v' X' W' S' F'))
end
theorem elMk : ElT Tryz.prog 66 94 3 32 := ElT.of (z := .agg #[.string ⟨#[]⟩, .int .i64 0, .bool false]) Tryz.underlying66 (by kernel_rfl) rfl (by decide)
noncomputable def mkCs (l : List QT) : List Value := ((l.map QT.mark).map fun m => (mkV m).toList).flatten
theorem mkCs_snoc {L : List QT} {i : Nat} {q : QT} (h : L[i]? = some q) : mkCs (L.take (i + 1)) = mkCs (L.take i) ++ (mkV q.mark).toList := by
  obtain ⟨hl, e⟩ := List.getElem?_eq_some_iff.1 h
  unfold mkCs
  rw [List.take_succ_eq_append_getElem hl, e]
  simp
def MksP (L : List QT) (w : World) (e : Ending) (w' : World) : Prop := ∃ v, e = .returned v ∧ OwnL w w' 94 3 v L.length (mkCs L)
theorem mkqB {W : World} {b : Nat} {q : QT} {t : TypeId} (h : BlkAt W b (qC q) t) : W.cell? ⟨b, 0, none⟩ = some (.string (bs q.src)) ∧ W.cell? ⟨b, 1, none⟩ = some (.string (bs q.ins)) ∧ W.cell? ⟨b, 3, none⟩ = some (.int .i64 q.day) ∧ W.cell? ⟨b, 70, none⟩ = some (.int .i64 q.known) ∧ W.cell? ⟨b, 71, none⟩ = some (.bool q.void) :=
  ⟨h.cell (q_src q), h.cell (q_ins q), h.cell (q_day q), h.cell (q_known q), h.cell (q_void q)⟩
theorem mkq {u W : World} {b : Nat} {q : QT} {X : List Ent} {t : TypeId} (F : Fr u W ((b, qC q, t) :: X)) : W.cell? ⟨b, 0, none⟩ = some (.string (bs q.src)) ∧ W.cell? ⟨b, 1, none⟩ = some (.string (bs q.ins)) ∧ W.cell? ⟨b, 3, none⟩ = some (.int .i64 q.day) ∧ W.cell? ⟨b, 70, none⟩ = some (.int .i64 q.known) ∧ W.cell? ⟨b, 71, none⟩ = some (.bool q.void) :=
  ⟨F.here.cell (q_src q), F.here.cell (q_ins q), F.here.cell (q_day q), F.here.cell (q_known q), F.here.cell (q_void q)⟩
def QT.short (q : QT) : Prop := q.src.length ≤ 1000 ∧ q.ins.length ≤ 1000
set_option maxRecDepth 100000 in
theorem qmarks_any {L : List QT} {A : Option Addr} {cp : Nat} {w : World} (hL : L.length ≤ 1000000000000) (hsh : ∀ q ∈ L, q.short) (h : QuAt w A L) : Calls Tryz.prog 34 #[.slice A L.length cp] w (MksP L w) := by
  have F := Fr.start w
  have HA := Lib.hid h
  have HSH := Lib.hid hsh
  clear h hsh
  go_enter Tryz.func34, Tryz.ntmps34
  go_wp2_with (first | go_skip | refine aYQ ?_ | (refine aTQ ?_; clear F; intro W F) | refine aNQ ?_)
  go_loopw [3, 8] (fun ov iv wr => ∃ (i : Nat) (X : List Ent), i ≤ L.length ∧ iv = .int .i64 i ∧ SlG 94 3 ov i (mkCs (L.take i)) X ∧ Fr w wr X) (fun _ iv _ => L.length - (intOf iv).toNat)
  case atStart => exact ⟨0, [], by omega, rfl, SlG.nil _ _, F⟩
  case round =>
    clear F
    obtain ⟨i, X, hi, rfl, S, F⟩ := hrel
    by_cases hlt : i < L.length
    · obtain ⟨b, o, q, rfl, hq, hr, hm, hbl⟩ := HA.out.get hlt
      have HR := Lib.hid hr
      have HQ := Lib.hid hq
      have HS := Lib.hid S
      have hsh := HSH.out q hm
      have gk := fun w => qkey_any q.src q.ins q.day hsh.1 hsh.2 w
      clear hr hq hm S hsh
      go_wp2_with (first | go_skip | ((with_reducible apply fLo F (hr := HA.out.recs) (hi := HR.out)); exact rfl; (rw [qC_size]; decide); exact rfl; exact rowQ _) | refine aYQ ?_ | (refine aTQ ?_; clear F; intro W F) | refine aNQ ?_)
      (clear F; intro b5 W F; try simp only [Act.put, z6, z1, z2])
      go_upto_region 5 with (first | go_skip | refine aYQ ?_ | (refine aTQ ?_; clear F; intro W F) | refine aNQ ?_)
      have HF := Lib.hid F.drew
      have HD := Lib.hid (mkq F.drew)
      clear F
      go_region_held3 (fun W => W.cell? ⟨b5, 0, none⟩ = some (.string (bs q.src)) ∧ W.cell? ⟨b5, 1, none⟩ = some (.string (bs q.ins)) ∧ W.cell? ⟨b5, 3, none⟩ = some (.int .i64 q.day) ∧ W.cell? ⟨b5, 70, none⟩ = some (.int .i64 q.known) ∧ W.cell? ⟨b5, 71, none⟩ = some (.bool q.void))
        ((first | (with_reducible exact HD.out) | (with_reducible exact mkq H5.out) | (with_reducible exact mkq (H5.out.alloc _ _).tl) | (with_reducible exact mkqB HB5.out)))
        (first
        | (go_at_call 63; (with_reducible refine fr_call HF.out (gk _) ?_); intro W5 F5; have H5 := Lib.hid F5; clear F5)
        | (refine sPush1 (by rfl) _ _ (by rfl) elMk (by unfold maxLen; omega) (by omega) HS.out (H5.out.alloc _ _) (by rfl) (by rfl) (by rfl) (by rfl) ?_; intro v' X' W' S' F' B5; have HB5 := Lib.hid B5; clear B5))
      all_goals
        go_wp2_with fail
        go_roundw
        case rel => exact ⟨i + 1, X', by omega, by go_num, by rw [mkCs_snoc HQ.out]; exact S', F'⟩
        case measure => simp [intOf]; omega
    · obtain rfl : i = L.length := by omega
      rw [List.take_length] at S
      go_wp2_with (first | go_skip | refine aYQ ?_ | (refine aTQ ?_; clear F; intro W F) | refine aNQ ?_)
      go_ret
      exact ⟨_, rfl, S.ownL F⟩
end
section
open Go.RowKit
set_option maxHeartbeats 4000000
noncomputable def bkErr (L : List QT) : Int := if L.all QT.ok = true then mkErr (L.map QT.mark) else 141
theorem QuAt.wf {W : World} {A : Option Addr} {L : List QT} (h : QuAt W A L) {q : QT} (hq : q ∈ L) : q.wf := ⟨h.a q hq, h.b q hq, h.s1 q hq, h.s2 q hq, h.s3 q hq⟩
theorem ok_short {q : QT} (h : q.ok = true) : q.short := by
  unfold QT.ok QT.right at h
  rw [Bool.and_eq_true, Bool.and_eq_true, Bool.and_eq_true] at h
  obtain ⟨⟨h1, h2, -⟩, -⟩ := h
  unfold nameB at h1
  unfold paperB at h2
  simp only [Bool.and_eq_true, decide_eq_true_eq] at h1 h2
  exact ⟨by have := h1.1.1.2; omega, by have := h2.2; omega⟩
theorem mark_small {q : QT} (h : q.short) : q.mark.key.size ≤ maxLen := by
  have := dayL_len q.day
  obtain ⟨h1, h2⟩ := h
  unfold QT.mark QT.key maxLen
  dsimp only
  rw [bs_size]
  simp only [List.length_append, List.length_cons]
  omega
theorem MksP.at {L : List QT} {w W : World} {v : Value} (h : OwnL w W 94 3 v L.length (mkCs L)) (hL : L.length ≤ 1000000000000) (hsh : ∀ q ∈ L, q.short) : ∃ A cp, v = .slice A L.length cp ∧ MkAt W A (L.map QT.mark) := by
  obtain ⟨hn, A, cap, hv, hr, -⟩ := h.recs (fun x hx => by
    obtain ⟨m, -, rfl⟩ := List.mem_map.1 hx
    rfl) (by decide) (by simp; omega)
  refine ⟨A, cap, hv, hr, fun x hx => ?_⟩
  obtain ⟨q, hq, rfl⟩ := List.mem_map.1 hx
  exact mark_small (hsh q hq)
theorem bk_bad {L : List QT} {i : Nat} {q : QT} (hq : L[i]? = some q) (h : q.ok = false) : bkErr L = 141 := by
  unfold bkErr
  rw [if_neg]
  intro h2
  rw [List.all_eq_true] at h2
  obtain ⟨hl, e⟩ := List.getElem?_eq_some_iff.1 hq
  have := h2 q (e ▸ List.getElem_mem hl)
  rw [h] at this
  cases this
theorem all_snoc {L : List QT} {i : Nat} {q : QT} (hq : L[i]? = some q) (h : q.ok = true) (ha : (L.take i).all QT.ok = true) : (L.take (i + 1)).all QT.ok = true := by
  obtain ⟨hl, e⟩ := List.getElem?_eq_some_iff.1 hq
  rw [List.take_succ_eq_append_getElem hl, List.all_append, ha, e]
  simp [h]
set_option maxRecDepth 100000 in
theorem qcheck_any {L : List QT} {A : Option Addr} {cp : Nat} {w : World} (hL : L.length ≤ 1000000000000) (h : QuAt w A L) {v : Int} (hv : bkErr L = v) : Calls Tryz.prog 14 #[.slice A L.length cp] w (RetB (.int .i64 v) w) := by
  have F := Fr.start w
  have HA := Lib.hid h
  have HV := Lib.hid hv
  clear h hv
  go_enter Tryz.func14, Tryz.ntmps14
  go_wp2_with (first | go_skip | refine aYQ ?_ | (refine aTQ ?_; clear F; intro W F) | refine aNQ ?_)
  go_loopw [7] (fun iv wr => ∃ i : Nat, i ≤ L.length ∧ iv = .int .i64 i ∧ (L.take i).all QT.ok = true ∧ Fr w wr []) (fun iv _ => L.length - (intOf iv).toNat)
  case atStart => exact ⟨0, by omega, rfl, by simp, F⟩
  case round =>
    clear F
    obtain ⟨i, hi, rfl, ha, F⟩ := hrel
    have HP := Lib.hid ha
    clear ha
    by_cases hlt : i < L.length
    · obtain ⟨b, o, q, rfl, hq, hr, hm, hbl⟩ := HA.out.get hlt
      have HR := Lib.hid hr
      have HQ := Lib.hid hq
      have hwf := HA.out.wf hm
      obtain ⟨c1, h1⟩ : ∃ c, q.right = c := ⟨_, rfl⟩
      obtain ⟨c2, h2⟩ : ∃ c, knB q.known = c := ⟨_, rfl⟩
      have g1 := fun w => right_any hwf h1 w
      have g2 := fun w => qknown_any h2 w
      have hok : q.ok = (c1 && c2) := by unfold QT.ok; rw [h1, h2]
      have HO := Lib.hid hok
      clear hr hq hm hwf h1 h2 hok
      cases c1
      · have hres : v = 141 := by rw [← HV.out]; exact bk_bad HQ.out HO.out
        subst hres
        go_wp2_with (first | go_skip | ((with_reducible apply fLo F (hr := HA.out.recs) (hi := HR.out)); exact rfl; (rw [qC_size]; decide); exact rfl; exact rowQ _) | refine aYQ ?_ | (refine aTQ ?_; clear F; intro W F) | refine aNQ ?_)
        (clear F; intro b4 W F; try simp only [Act.put, z6, z1, z2])
        go_wp2_with (first | go_skip | ((go_at_call 37); (with_reducible refine fr_call F (g1 _) ?_); (clear F; intro W F); (try dsimp only)) | refine aYQ ?_ | (refine aTQ ?_; clear F; intro W F) | refine aNQ ?_)
        go_ret
        exact ⟨rfl, F.below⟩
      cases c2
      · have hres : v = 141 := by rw [← HV.out]; exact bk_bad HQ.out HO.out
        subst hres
        go_wp2_with (first | go_skip | ((with_reducible apply fLo F (hr := HA.out.recs) (hi := HR.out)); exact rfl; (rw [qC_size]; decide); exact rfl; exact rowQ _) | refine aYQ ?_ | (refine aTQ ?_; clear F; intro W F) | refine aNQ ?_)
        (clear F; intro b4 W F; try simp only [Act.put, z6, z1, z2])
        go_wp2_with (first | go_skip | ((go_at_call 37); (with_reducible refine fr_call F (g1 _) ?_); (clear F; intro W F); (try dsimp only)) | ((go_at_call 38); (with_reducible refine fr_call F (g2 _) ?_); (clear F; intro W F); (try dsimp only)) | refine aYQ ?_ | (refine aTQ ?_; clear F; intro W F) | refine aNQ ?_)
        go_ret
        exact ⟨rfl, F.below⟩
      go_wp2_with (first | go_skip | ((with_reducible apply fLo F (hr := HA.out.recs) (hi := HR.out)); exact rfl; (rw [qC_size]; decide); exact rfl; exact rowQ _) | refine aYQ ?_ | (refine aTQ ?_; clear F; intro W F) | refine aNQ ?_)
      (clear F; intro b4 W F; try simp only [Act.put, z6, z1, z2])
      go_wp2_with (first | go_skip | ((go_at_call 37); (with_reducible refine fr_call F (g1 _) ?_); (clear F; intro W F); (try dsimp only)) | ((go_at_call 38); (with_reducible refine fr_call F (g2 _) ?_); (clear F; intro W F); (try dsimp only)) | refine aYQ ?_ | (refine aTQ ?_; clear F; intro W F) | refine aNQ ?_)
      go_roundw
      case rel => exact ⟨i + 1, by omega, by go_num, all_snoc HQ.out HO.out HP.out, Fr.nil F.below⟩
      case measure => simp [intOf]; omega
    · obtain rfl : i = L.length := by omega
      have hall := HP.out
      rw [List.take_length] at hall
      have hsh : ∀ q ∈ L, q.short := fun q hq => ok_short (List.all_eq_true.1 hall q hq)
      have hmv : mkErr (L.map QT.mark) = v := by rw [← HV.out]; unfold bkErr; rw [if_pos hall]
      have HS := Lib.hid hsh
      have HM := Lib.hid hmv
      clear hall hsh hmv
      go_wp2_with (first | go_skip | (go_at_call 34; refine (qmarks_any hL HS.out (HA.out.below F.below)).mono ?_; rintro e W2 ⟨mv, rfl, hO⟩; have F2 := F.next hO.below; clear F; obtain ⟨A2, cp2, rfl, hMk⟩ := MksP.at hO hL HS.out; have GK := aChk_any _ A2 cp2 _ hMk HM.out; rw [List.length_map] at GK; clear hO hMk; have F := F2; clear F2) | (go_at_call 39; (with_reducible refine fr_call F GK ?_); (clear F; intro W F); (try dsimp only)) | refine aYQ ?_ | (refine aTQ ?_; clear F; intro W F) | refine aNQ ?_)
      go_ret
      exact ⟨rfl, F.below⟩
end
section
open Go.RowKit
set_option maxHeartbeats 4000000
theorem slQuo : SlT Tryz.prog 22 33 72 := ⟨Tryz.underlying22, by kernel_rfl⟩
theorem elQuo : ElT Tryz.prog 22 33 72 336 := ElT.of (z := .agg (qC q0)) Tryz.underlying22 (by rw [qZ]; kernel_rfl) (qC_size _) (by decide)
def qCs (l : List QT) : List Value := (l.map fun q => (qC q).toList).flatten
theorem qCs_snoc (l : List QT) (q : QT) : qCs (l ++ [q]) = qCs l ++ (qC q).toList := by simp [qCs]
def atI (L : List QT) (i : Int) : List QT := match L[i.toNat]? with | some q => [q] | none => []
def atIs (L : List QT) (I : List Int) : List QT := I.flatMap (atI L)
theorem atIs_snoc {L : List QT} {I : List Int} {j : Nat} {i : Int} {q : QT} (hj : I[j]? = some i) (hq : L[i.toNat]? = some q) : atIs L (I.take (j + 1)) = atIs L (I.take j) ++ [q] := by
  obtain ⟨hl, e⟩ := List.getElem?_eq_some_iff.1 hj
  rw [List.take_succ_eq_append_getElem hl, e]
  simp [atIs, atI, hq]
theorem atIs_len {L : List QT} : ∀ {I : List Int}, (∀ i ∈ I, i.toNat < L.length) → (atIs L I).length = I.length
  | [], _ => rfl
  | i :: I, h => by
    have h1 := h i (by simp)
    have ih := atIs_len (I := I) (fun x hx => h x (by simp [hx]))
    unfold atIs at ih ⊢
    rw [List.flatMap_cons, List.length_append, ih, List.length_cons]
    unfold atI
    rw [List.getElem?_eq_getElem h1]
    simp
    omega
noncomputable def visQ (L : List QT) (k : Int) : List QT := atIs L (vis (L.map QT.mark) k)
theorem vis_lt {L : List QT} {k i : Int} (h : i ∈ vis (L.map QT.mark) k) : 0 ≤ i ∧ i.toNat < L.length := by
  unfold vis at h
  obtain ⟨j, rfl, h1, -⟩ := (visF_mem i _).1 h
  rw [List.length_map] at h1
  exact ⟨by omega, by simpa using h1⟩
theorem flatC_q (q : QT) : flatC [.agg (qC q)] = qC q := by simp [flatC, Value.cells]
def VisP (V : List QT) (er : Int) (w : World) (e : Ending) (w' : World) : Prop := ∃ v, e = .returned (.tuple #[v, .int .i64 er]) ∧ OwnL w w' 33 72 v V.length (qCs V)
theorem OwnL.rebase {w W W' : World} {e : TypeId} {sz n : Nat} {v : Value} {xs : List Value} (h : OwnL W W' e sz v n xs) (hb : Below w.heap.size w W) : OwnL w W' e sz v n xs := by
  refine ⟨bnext hb h.below, h.own.1, ?_⟩
  rcases h.own.2 with h1 | ⟨g, cap, cur, h1, h2, h3⟩
  · exact .inl h1
  · exact .inr ⟨g, cap, cur, h1, Nat.le_trans hb.size h2, h3⟩
theorem ints_flat : ∀ I : List Int, I.map (Value.int .i64) = (I.map fun i => [Value.int .i64 i]).flatten
  | [] => rfl
  | i :: I => by
    have := ints_flat I
    simp [this]
theorem q_all (q : QT) : [Value.agg (qC q)].all (fun v => v.cells.size == 72) = true := by simp [Value.cells, qC_size]
theorem q_one (q : QT) : (flatC [.agg (qC q)]).toList.all (·.oneCell') = true := by
  rw [flatC_q]
  have := (rowQ q).one
  simpa using this
theorem q_flat (q : QT) : (flatC [.agg (qC q)]).size = 72 := by rw [flatC_q, qC_size]
theorem OwnL.ints {W W' : World} {v : Value} {I : List Int} (h : OwnL W W' 3 1 v I.length (I.map (.int .i64))) (hl : I.length ≤ 9223372036854775807) : ∃ A cp, v = .slice A I.length cp ∧ RecsAt W' A 1 (I.map fun i => [.int .i64 i]) := by
  rw [ints_flat] at h
  obtain ⟨hn, A, cap, hv, hr, -⟩ := h.recs (fun x hx => by obtain ⟨y, -, rfl⟩ := List.mem_map.1 hx; rfl) (by decide) (by simpa using hl)
  exact ⟨A, cap, hv, hr⟩
theorem RecsAt.int {w W : World} {A : Option Addr} {I : List Int} {j : Nat} {i : Int} {X : List Ent} (h : RecsAt w A 1 (I.map fun i => [.int .i64 i])) (hj : I[j]? = some i) (F : Fr w W X) : ∃ b o, A = some ⟨b, o, none⟩ ∧ W.cell? ⟨b, o + j, none⟩ = some (.int .i64 i) := by
  obtain ⟨b, o, hA, hlt, hc⟩ := (h.below F.below).rows j [.int .i64 i] (by rw [List.getElem?_map, hj]; rfl)
  refine ⟨b, o, hA, ?_⟩
  have := hc 0 _ rfl
  rwa [Nat.mul_one] at this
theorem bk_ok {L : List QT} (h : bkErr L = 0) : L.all QT.ok = true ∧ mksB (L.map QT.mark) = true ∧ L.length ≤ 4096 := by
  unfold bkErr at h
  by_cases h1 : L.all QT.ok = true
  · rw [if_pos h1] at h
    unfold mkErr at h
    by_cases h2 : mksB (L.map QT.mark) = true
    · have := mksB_len h2
      rw [List.length_map] at this
      exact ⟨h1, h2, this⟩
    · rw [if_neg h2] at h
      exact absurd h (by decide)
  · rw [if_neg h1] at h
    exact absurd h (by decide)
set_option maxRecDepth 100000 in
theorem qvis_any {L : List QT} {A : Option Addr} {cp : Nat} {k : Int} {w : World} (hL : L.length ≤ 1000000000000) (h : QuAt w A L) {er : Int} (her : bkErr L = er) : Calls Tryz.prog 9 #[.slice A L.length cp, .int .i64 k] w (VisP (if er = 0 then visQ L k else []) er w) := by
  have F := Fr.start w
  have HA := Lib.hid h
  have g1 := fun W (hb : Below w.heap.size w W) => qcheck_any (cp := cp) hL (h.below hb) her
  clear h
  by_cases h0 : er = 0
  · rw [if_pos h0]
    subst h0
    obtain ⟨hok, hmv, hl⟩ := bk_ok her
    have hsh : ∀ q ∈ L, q.short := fun q hq => ok_short (List.all_eq_true.1 hok q hq)
    have HS := Lib.hid hsh
    have HM := Lib.hid hmv
    have HIL0 : Hid ((vis (L.map QT.mark) k).length ≤ 4096) := Lib.hid (by have := visF_len (ms := L.map QT.mark) (k := k) (L.map QT.mark).length; rw [List.length_map] at this; unfold vis; rw [List.length_map]; omega)
    clear hok hmv hsh her
    go_enter Tryz.func9, Tryz.ntmps9
    go_wp2_with (first | go_skip | ((go_at_call 14); (with_reducible refine fr_call F (g1 _ F.below) ?_); (clear F; intro W F); (try dsimp only)) | (go_at_call 34; refine (qmarks_any hL HS.out (HA.out.below F.below)).mono ?_; rintro e W2 ⟨mv, rfl, hO⟩; have F2 := F.next hO.below; clear F; obtain ⟨A2, cp2, rfl, hMk⟩ := MksP.at hO hL HS.out; have GK := sVis_ok _ HM.out k A2 cp2 _ hMk; rw [List.length_map] at GK; clear hO hMk; have F := F2; clear F2) | (go_at_call 33; refine GK.mono ?_; rintro e W2 ⟨iv, rfl, hO⟩; have F2 := F.next hO.below; clear F; have hlv : (vis (L.map QT.mark) k).length ≤ 9223372036854775807 := (Nat.le_trans HIL0.out (by decide)); obtain ⟨A3, cp3, rfl, hI⟩ := hO.ints hlv; have HI := Lib.hid hI; clear hI hO GK g1; have F := F2; clear F2; (try dsimp only)) | refine aYQ ?_)
    have HW := Lib.hid F.below
    have HA2 := Lib.hid (HA.out.below F.below)
    have hvl : ∀ i ∈ vis (L.map QT.mark) k, 0 ≤ i ∧ i.toNat < L.length := fun i hi => vis_lt hi
    have HR0 : Hid (visQ L k = atIs L (vis (L.map QT.mark) k)) := Lib.hid rfl
    generalize vis (L.map QT.mark) k = I at *
    have HVL := Lib.hid hvl
    have HIL := HIL0
    clear hvl HA HS HM F HIL0
    have F := Fr.start W2
    have hIl : I.length ≤ 9223372036854775807 := by have := HI.out.ln; simpa using this
    go_loopw [9, 26] (fun ov jv wr => ∃ (j : Nat) (X : List Ent), j ≤ I.length ∧ jv = .int .i64 j ∧ SlG 33 72 ov j (qCs (atIs L (I.take j))) X ∧ Fr W2 wr X) (fun _ jv _ => I.length - (intOf jv).toNat)
    case atStart => exact ⟨0, [], by omega, rfl, SlG.nil _ _, F⟩
    case round =>
      clear F
      obtain ⟨j, X, hj, rfl, S, F⟩ := hrel
      have HS := Lib.hid S
      clear S
      by_cases hlt : j < I.length
      · have hji : I[j]? = some I[j] := List.getElem?_eq_getElem hlt
        obtain ⟨b3, o3, rfl, c0⟩ := HI.out.int hji F
        obtain ⟨hi0, hi1⟩ := HVL.out I[j] (List.getElem_mem hlt)
        obtain ⟨n, hn⟩ : ∃ n : Nat, I[j] = (n : Int) := ⟨I[j].toNat, by omega⟩
        rw [hn] at c0 hji hi1
        rw [Int.toNat_natCast] at hi1
        obtain ⟨b, o, q, rfl, hq, hr, hm, hbl⟩ := HA2.out.get hi1
        have HR := Lib.hid hr
        have HJ := Lib.hid (atIs_snoc hji (by rw [Int.toNat_natCast]; exact hq))
        have hjl : (qCs (atIs L (I.take j)) ++ (flatC [.agg (qC q)]).toList) = qCs (atIs L (I.take (j + 1))) := by rw [HJ.out, qCs_snoc, flatC_q]
        have HJL := Lib.hid hjl
        have hsm : I.length ≤ 4096 := HIL.out
        clear hr hq hm hji hi0 hn hjl
        go_wp2_with (first | go_skip | ((with_reducible apply fLo F (hr := HA2.out.recs) (hi := HR.out)); exact rfl; (rw [qC_size]; decide); exact rfl; exact rowQ _) | ((with_reducible apply fSli F slQuo); exact rfl; exact rfl; exact rfl; decide; decide; (go_simp; exact rfl); (exact q_all q)) | refine aYQ ?_)
        (clear F; intro b35 W F; try simp only [Act.put, z6, z1, z2])
        go_wp2_with (first | go_skip | ((with_reducible apply fPushB elQuo (n := j) (by unfold maxLen; omega) (by omega) HS.out F); exact rfl; exact rfl; exact rfl; exact q_flat q; exact q_one q; (clear F HS); (intro v' X' W' S' F')) | refine aYQ ?_)
        go_roundw
        case rel => exact ⟨j + 1, X', by omega, by go_num, by rw [← HJL.out]; exact S', F'⟩
        case measure => simp [intOf]; omega
      · obtain rfl : j = I.length := by omega
        have S := HS.out
        rw [List.take_length] at S
        go_wp2_with (first | go_skip | refine aYQ ?_)
        go_ret2
        exact ⟨_, rfl, ((S.ownL F).rebase HW.out).eqv (by rw [HR0.out, atIs_len (fun i hi => (HVL.out i hi).2)]) (by rw [HR0.out])⟩
  · rw [if_neg h0]
    have t0 : (er != 0) = true := by rw [bne_iff_ne]; exact h0
    clear her h0
    go_enter Tryz.func9, Tryz.ntmps9
    go_wp2_with (first | go_skip | ((go_at_call 14); (with_reducible refine fr_call F (g1 _ F.below) ?_); (clear F; intro W F); (try dsimp only)) | refine aYQ ?_)
    go_ret2
    exact ⟨_, rfl, (SlG.nil _ _).ownL F⟩
end
section
open Go.RowKit
abbrev Ents := List Ent
theorem Fr.join {u W W' : World} {L M : List Ent} (h : Fr u W L) (k : Fr W W' M) : Fr u W' (M ++ L) := by
  refine ⟨bnext h.below k.below, fun x hx => ?_, fun x hx => ?_, ?_⟩
  · rcases List.mem_append.1 hx with hx | hx
    · exact k.blk x hx
    · exact (h.blk x hx).next k.below
  · rcases List.mem_append.1 hx with hx | hx
    · exact Nat.le_trans h.below.size (k.own x hx)
    · exact h.own x hx
  · rw [List.map_append, List.nodup_append]
    refine ⟨k.dis, h.dis, fun a ha b hb e => ?_⟩
    obtain ⟨x, hx, rfl⟩ := List.mem_map.1 ha
    obtain ⟨y, hy, rfl⟩ := List.mem_map.1 hb
    have := k.own x hx
    have := (h.blk y hy).lt
    omega
section
variable {P : Program} {a : Act} {w W : World} {F X : List Ent} {K : Act → World → Prop} {Q : Exit → Act → World → Prop} {dst : Option Tmp} {ty : TypeId} {pos : String} {af : Array Edge} {gd : Option (Nat × Bool)} {s x : Operand} {T t e : TypeId} {sz bytes n m : Nat} {v : Value} {xs : List Value} {b : Nat} {ds : Array Value}
theorem gLB (h : Fr w W F) (hb : BlkAt w b ds t) (hx : a.eval x = .pointer (some ⟨b, 0, none⟩)) (hv : RowV Tryz.prog T ds) (hk : K (a.put dst (.agg ds)) W) : OpW Tryz.prog ⟨dst, .load T x, ty, pos, af, gd⟩ a W K Q := by
  obtain ⟨d, hu, hd2⟩ := hv.row.row
  exact ⟨wp_load_mid T x rfl b 0 hx ds.toList d (fun j v hj => by
    refine (h.below.cell (p := ⟨b, 0 + j, none⟩) hb.lt).trans ?_
    rw [Nat.zero_add]
    exact hb.cell (by rw [← Array.getElem?_toList]; exact hj)) hu (by cases d <;> simp_all [TypeDesc.isRow]) (by simpa using hv.row.size) hk⟩
theorem gSli0 (h : Fr w W F) (hT : SlT P t e sz) (hk : Hold (∀ b W', Fr w W' ((b, #[], e) :: F) → K (a.put dst (.slice (some ⟨b, 0, none⟩) 0 0)) W')) : OpW P ⟨dst, .buildSlice t 0 #[], ty, pos, af, gd⟩ a W K Q := by
  have hi := hT.info
  cases hie : P.info? e with
  | none => rw [hie] at hi; cases hi
  | some ie =>
    refine ⟨?_⟩
    have hr : (Instr.buildSlice t 0 #[]).run P W = .ok (.slice (some ⟨W.heap.size, 0, none⟩) 0 0) (W.alloc (.cells #[] e)) := by
      simp [Instr.buildSlice, run_underlying hT.sl, sizeOf, typeInfo, hie, newRow, Instr.fill]
      congr 2
      exact Array.eq_empty_of_size_eq_zero (by simp)
    unfold Oper.wp execOp
    simp only [Array.map_empty, Sem.run_bind, hr, Result.andThen_ok]
    exact hk _ _ (h.alloc _ _)
theorem gPushS (hel : ElT P T e sz bytes) (S : SlG e sz v n xs X) (h : Fr w W X) (ad : Addr) (c : Nat) (news : List Value) (hs : a.eval s = v) (hx : a.eval x = .slice (some ad) m c) (hl : news.length = m * sz) (hnews : ∀ j u, news[j]? = some u → W.cell? (ad.add j) = some u) (h1 : ∀ u ∈ news, u.oneCell' = true) (hm : n + m ≤ maxLen) (hb : (n + m) * bytes ≤ 140737488355328)
    (hk : ∀ v' X' W', SlG e sz v' (n + m) (xs ++ news) X' → Fr w W' X' → (∀ g cs t, BlkAt W g cs t → some g ≠ v.ownBlock → BlkAt W' g cs t) → K (a.put dst v') W') :
    OpW P ⟨dst, .call { callee := .builtin .append, args := #[s, x], argTypes := #[T, T] }, ty, pos, af, gd⟩ a W K Q := by
  obtain ⟨i, z, hi, hz, hsz, hby, hzs⟩ := hel.info
  have hown := S.owned h
  refine ⟨wp_append_own _ s x T rfl w.heap.size e i z sz bytes hel.sl hi hz hsz hby hzs hel.pos v n xs hs hown ad m c news hx hl hnews h1 hm hb h.below.size ?_⟩
  intro v' w' hown' hg hnil
  have hkeep : ∀ g cs t, BlkAt W g cs t → some g ≠ v.ownBlock → BlkAt w' g cs t := fun g cs t hB hne => ⟨(hg.block g hB.lt hne).trans hB.blk⟩
  have hbl : Below w.heap.size w w' := by
    refine ⟨hg.os.trans h.below.os, hg.tape.trans h.below.tape, hg.output.trans h.below.output, Nat.le_trans h.below.size hg.size, fun q hq => ?_⟩
    refine (hg.block q (Nat.lt_of_lt_of_le hq h.below.size) (fun e2 => ?_)).trans (h.below.block q hq)
    rcases S.is with ⟨h1, -, -⟩ | ⟨g, cap, cur, h1, h2, -⟩
    · subst h1; cases e2
    · subst h1
      injection e2 with e2
      subst h2
      have := h.own (g, cur, e) (by simp)
      have : w.heap.size ≤ g := this
      have e3 : q = g := e2
      omega
  rcases hown'.2 with ⟨h1, h2⟩ | ⟨g, cap, cur, h1, h2, h3, h4, h5, h6, h7⟩
  · exact hk v' [] w' ⟨hown'.1, .inl ⟨h1, h2, rfl⟩⟩ ⟨hbl, by simp, by simp, by simp⟩ hkeep
  · refine hk v' [(g, cur, e)] w' ⟨hown'.1, .inr ⟨g, cap, cur, h1, rfl, h4, h5, h6, h7⟩⟩ ⟨hbl, fun y hy => ?_, fun y hy => ?_, by simp⟩ hkeep
    · simp at hy
      subst hy
      exact ⟨h3⟩
    · simp at hy
      subst hy
      exact h2
theorem gPushZ (hel : ElT P T e sz bytes) (S : SlG e sz v n xs X) (h : Fr w W X) (hs : a.eval s = v) (hx : a.eval x = .slice none 0 0) (hk : K (a.put dst v) W) :
    OpW P ⟨dst, .call { callee := .builtin .append, args := #[s, x], argTypes := #[T, T] }, ty, pos, af, gd⟩ a W K Q := by
  obtain ⟨i, z, hi, hz, hsz, hby, hzs⟩ := hel.info
  have hrun := run_append_owned_none (P := P) (w := W) w.heap.size T ty e i sz hel.sl hi v n xs (S.owned h)
  refine ⟨?_⟩
  unfold Oper.wp
  simp [execOp, resolve, invoke, builtin, hs, hx, hrun, Result.andThen]
  exact hk
end
theorem SlG.zero (e : TypeId) (sz b : Nat) : SlG e sz (.slice (some ⟨b, 0, none⟩) 0 0) 0 [] [(b, #[], e)] := ⟨by simp, .inr ⟨b, 0, #[], rfl, rfl, Nat.le_refl _, Nat.zero_le _, by simp, by simp⟩⟩
theorem qCs_one {L : List QT} : ∀ u ∈ qCs L, u.oneCell' = true := by
  intro u hu
  unfold qCs at hu
  obtain ⟨l, hl, hu⟩ := List.mem_flatten.1 hu
  obtain ⟨q, -, rfl⟩ := List.mem_map.1 hl
  have := List.all_eq_true.1 (by simpa using (rowQ q).one) u hu
  exact this
section
variable {a : Act} {u w W : World} {X Y F : List Ent} {K : Act → World → Prop} {Q : Exit → Act → World → Prop} {dst : Option Tmp} {ty : TypeId} {pos : String} {af : Array Edge} {gd : Option (Nat × Bool)} {s x : Operand} {n : Nat} {v : Value} {xs : List Value} {b : Nat} {t : TypeId} {q : QT} {L : List QT}
theorem gPushB (S : SlG 33 72 v n (qCs L) Y) (hF : Fr u w Y) (hn : n ≤ 1000) (h : Fr w W [(b, #[], 33)]) (hs : a.eval s = .slice (some ⟨b, 0, none⟩) 0 0) (hx : a.eval x = v)
    (hk : ∀ v' X' W', SlG 33 72 v' n (qCs L) X' → Fr w W' X' → (∀ g cs t, BlkAt W g cs t → g ≠ b → BlkAt W' g cs t) → K (a.put dst v') W') :
    OpW Tryz.prog ⟨dst, .call { callee := .builtin .append, args := #[s, x], argTypes := #[22, 22] }, ty, pos, af, gd⟩ a W K Q := by
  rcases S.is with ⟨h1, h2, -⟩ | ⟨g, cap, cur, h1, h2, h3, h4, h5, h6⟩
  · subst h1 h2
    have hl : qCs L = [] := List.length_eq_zero_iff.1 (by rw [S.len, Nat.zero_mul])
    rw [hl] at hk
    exact gPushZ elQuo (SlG.zero _ _ b) h hs hx (hk _ _ _ (SlG.zero _ _ b) h (fun g cs t hB _ => hB))
  · subst h1 h2
    have hB := (hF.here).next h.below
    refine gPushS (m := n) elQuo (SlG.zero _ _ b) h ⟨g, 0, none⟩ cap (qCs L) hs hx S.len (fun j y hj => ?_) qCs_one (by unfold maxLen; omega) (by omega) (fun v' X' W' S' F' H' => ?_)
    · rw [Go.WideShapes.add_plain, Nat.zero_add]
      refine hB.cell ?_
      rw [← h6] at hj
      rw [← Array.getElem?_toList]
      rw [List.getElem?_take] at hj
      split at hj
      · exact hj
      · cases hj
    · rw [Nat.zero_add, List.nil_append] at S'
      exact hk v' X' W' S' F' (fun g cs t hB hne => H' g cs t hB (fun e => hne (by injection e)))
theorem gPushQ (S : SlG 33 72 v n xs X) (h : Fr w W X) (hn : n ≤ 1000) (B : BlkAt W b (flatC [.agg (qC q)]) t) (hs : a.eval s = v) (hx : a.eval x = .slice (some ⟨b, 0, none⟩) 1 1)
    (hk : ∀ v' X' W', SlG 33 72 v' (n + 1) (xs ++ (qC q).toList) X' → Fr w W' X' → K (a.put dst v') W') :
    OpW Tryz.prog ⟨dst, .call { callee := .builtin .append, args := #[s, x], argTypes := #[22, 22] }, ty, pos, af, gd⟩ a W K Q := by
  rw [flatC_q] at B
  refine gPushS (m := 1) elQuo S h ⟨b, 0, none⟩ 1 (qC q).toList hs hx (by rw [Array.length_toList, qC_size]) (fun j y hj => ?_) (fun y hy => List.all_eq_true.1 (by simpa using (rowQ q).one) y hy) (by unfold maxLen; omega) (by omega) (fun v' X' W' S' F' _ => hk v' X' W' S' F')
  rw [Go.WideShapes.add_plain, Nat.zero_add]
  exact B.cell (by rw [← Array.getElem?_toList]; exact hj)
end
end
section
open Go.RowKit
theorem pre_len {u p : Nat} {a b : List UInt8} (hu : u < 10 ^ 15) (h : pointL (Lib.decDigits u) p = (a, b)) : a.length ≤ 15 := by
  have hl := dec_len 14 u hu
  unfold pointL at h
  dsimp only at h
  rw [Prod.mk.injEq] at h
  obtain ⟨h1, -⟩ := h
  subst h1
  rw [List.length_take]
  split
  · rw [List.length_append, List.length_replicate]; omega
  · omega
theorem txt_rdG {z : Int} {p : Nat} {a b t : List UInt8} (h : pointL (Lib.decDigits z.natAbs) p = (a, b)) {k : Nat} (hk : b = t ++ List.replicate k 48) :
    rdR (txtS (decide (z < 0)) a t) p true = (if 15 < a.length then (0, 0, false) else rdF (a ++ t) t.length (decide (z < 0))) ∧ (rdF (a ++ t) t.length (decide (z < 0))).2.2 = true ∧ numL (a ++ t) * 10 ^ (p - t.length) = z.natAbs ∧ t.length ≤ p ∧ (a.head? ≠ some 45) := by
  obtain ⟨h1, h2, h3, h4, h5, h6⟩ := point_facts _ h
  have htl : t.length + k = p := by rw [← h5, hk, List.length_append, List.length_replicate]
  have htd : t.all isD = true := by
    rw [hk, List.all_append, Bool.and_eq_true] at h2
    exact h2.1
  have hnum : numL (a ++ t) * 10 ^ k = z.natAbs := by rw [← h6, hk, ← List.append_assoc, numL_tail]
  have hG := fun neg : Bool => rdG_ok (a := a) (b := t) (p := p) (neg := neg) h1 htd h3 h4 (by omega)
  have hh45 : a.head? ≠ some 45 := by
    intro hh
    cases a with
    | nil => exact absurd rfl h3
    | cons c l =>
      rw [List.head?_cons, Option.some.injEq] at hh
      subst hh
      rw [List.all_cons] at h1
      exact absurd h1 (by simp [isD])
  refine ⟨?_, ?_, by rw [show p - t.length = k by omega]; exact hnum, by omega, hh45⟩
  · unfold rdR txtS
    by_cases hz : z < 0
    · rw [decide_eq_true hz, if_pos rfl, List.singleton_append, List.head?_cons, List.tail_cons, if_pos ⟨rfl, rfl⟩]
      exact hG true
    · rw [decide_eq_false hz, show (if false = true then [45] else ([] : List UInt8)) = [] from rfl, List.nil_append, if_neg]
      · exact hG false
      · rintro ⟨-, hh⟩
        have e : (if t = [] then a else a ++ 46 :: t).head? = a.head? := by
          split
          · rfl
          · cases a with
            | nil => exact absurd rfl h3
            | cons c l => rfl
        rw [e] at hh
        exact hh45 hh
  · rw [rdF_ok]
    by_cases hz : z < 0
    · rw [decide_eq_false (p := numL (a ++ t) = 0)]
      · simp
      · intro h0
        rw [h0, Nat.zero_mul] at hnum
        omega
    · rw [decide_eq_false hz]
      rfl
theorem rd_low {z : Int} {p : Nat} {a b t : List UInt8} (hp9 : p ≤ 9) (hz : z.natAbs < 10 ^ 15) (h : pointL (Lib.decDigits z.natAbs) p = (a, b)) {k : Nat} (hk : b = t ++ List.replicate k 48) :
    prsR (txtS (decide (z < 0)) a t) p = (lowN z ((10 ^ p : Nat) : Int), lowD z ((10 ^ p : Nat) : Int), 0) := by
  obtain ⟨h1, h2, h3, h4, -⟩ := txt_rdG h hk
  have ha := pre_len hz h
  rw [prs_rd (by omega) (by omega), h1, if_neg (by omega)]
  unfold prsO
  rw [if_pos h2]
  unfold rdF at h2 ⊢
  split
  · rename_i hq
    rw [if_pos hq] at h2
    exact absurd h2 (by decide)
  · dsimp only
    have hc : (0 : Int) < ((10 ^ (p - t.length) : Nat) : Int) := by exact_mod_cast Nat.pow_pos (by decide)
    have hd : (0 : Int) < ((10 ^ t.length : Nat) : Int) := by exact_mod_cast Nat.pow_pos (by decide)
    have e2 : ((10 ^ t.length : Nat) : Int) * ((10 ^ (p - t.length) : Nat) : Int) = ((10 ^ p : Nat) : Int) := by
      rw [← Int.natCast_mul, ← Nat.pow_add, Nat.add_sub_cancel' h4]
    have e1 : (if decide (z < 0) = true then -(numL (a ++ t) : Int) else (numL (a ++ t) : Int)) * ((10 ^ (p - t.length) : Nat) : Int) = z := by
      have h3' : (numL (a ++ t) : Int) * ((10 ^ (p - t.length) : Nat) : Int) = (z.natAbs : Int) := by rw [← h3, Int.natCast_mul]
      by_cases hz : z < 0
      · rw [decide_eq_true hz, if_pos rfl, Int.neg_mul, h3']; omega
      · rw [decide_eq_false hz, if_neg (by decide), h3']; omega
    obtain ⟨k1, k2⟩ := low_scale (n := if decide (z < 0) = true then -(numL (a ++ t) : Int) else (numL (a ++ t) : Int)) hd hc
    rw [e1, e2] at k1 k2
    rw [k1, k2]
theorem txt_back {n d : Int} {p : Nat} (h : okZ n d) (hp9 : p ≤ 9) (hx : n * ((10 ^ p : Nat) : Int) % d = 0) (hz : (n * ((10 ^ p : Nat) : Int) / d).natAbs < 10 ^ 15) :
    ∃ s, txtR (okZ n d) n d p = (s, 0) ∧ prsR s p = (n, d, 0) ∧ s.length ≤ (fmtL (n * ((10 ^ p : Nat) : Int) / d).natAbs (decide (n * ((10 ^ p : Nat) : Int) / d < 0)) p).length ∧ (0 ≤ n → s.head? ≠ some 45) := by
  obtain ⟨z, hzz⟩ : ∃ z, n * ((10 ^ p : Nat) : Int) / d = z := ⟨_, rfl⟩
  rw [hzz] at hz ⊢
  obtain ⟨a, b, hq⟩ : ∃ a b, pointL (Lib.decDigits z.natAbs) p = (a, b) := ⟨_, _, rfl⟩
  obtain ⟨t, ht⟩ : ∃ t, Lib.trimRightB b 48 = t := ⟨_, rfl⟩
  obtain ⟨k, hk⟩ := trim_zeros b
  rw [ht] at hk
  have ha := pre_len hz hq
  obtain ⟨-, hd, -⟩ := okZ_iff.1 h
  have hP : (0 : Int) < ((10 ^ p : Nat) : Int) := by exact_mod_cast Nat.pow_pos (by decide)
  have hzd : z * d = n * ((10 ^ p : Nat) : Int) := by rw [← hzz]; exact Int.ediv_mul_cancel (Int.dvd_of_emod_eq_zero hx)
  refine ⟨txtS (decide (z < 0)) a t, ?_, ?_, ?_, fun h0 => ?_⟩
  · unfold txtR
    have hc : chkE (okZ n d) (p : Int) = 0 := by
      unfold chkE
      rw [if_neg (by simpa using h), if_neg (by omega)]
    rw [if_neg (by simp [hc])]
    dsimp only
    rw [Int.toNat_natCast, if_neg (by simpa using hx), hzz]
    unfold txtZ
    dsimp only
    rw [hq, ht, if_neg (by simpa using ha)]
    unfold txtS
    by_cases h0 : z < 0
    · rw [decide_eq_true h0, if_pos h0, if_pos rfl]
    · rw [decide_eq_false h0, if_neg h0]
      rfl
  · rw [rd_low hp9 hz hq hk]
    have hs := mkR_ok (n := z) hP
    obtain ⟨e1, e2⟩ := low_mul (n := z) hP
    have hg := low_gcd (n := z) hP
    have hpos := lowD_pos (n := z) hP
    obtain ⟨s1, s2⟩ := low_scale (n := n) hd hP
    obtain ⟨t1, t2⟩ := low_self h
    obtain ⟨u1, u2⟩ := low_scale (n := z) hP hd
    rw [hzd, Int.mul_comm ((10 ^ p : Nat) : Int) d] at u1 u2
    rw [← u1, ← u2, s1, s2, t1, t2]
  · unfold fmtL
    rw [hq]
    show (txtS (decide (z < 0)) a t).length ≤ (txtS (decide (z < 0)) a b).length
    have hl : t.length ≤ b.length := by rw [hk, List.length_append]; omega
    unfold txtS
    rw [List.length_append, List.length_append]
    by_cases h0 : t = []
    · rw [if_pos h0]
      have hle : a.length ≤ (if b = [] then a else a ++ 46 :: b).length := by
        split
        · exact Nat.le_refl _
        · rw [List.length_append]; omega
      omega
    · have hb : b ≠ [] := by
        intro h1
        have h2 := List.length_pos_iff.2 h0
        rw [h1, List.length_nil] at hl
        omega
      rw [if_neg h0, if_neg hb, List.length_append, List.length_append, List.length_cons, List.length_cons]
      omega
  · obtain ⟨-, -, -, -, h45⟩ := txt_rdG hq hk
    obtain ⟨-, -, h3, -⟩ := point_facts _ hq
    have hz0 : ¬ z < 0 := by
      intro h1
      have := Int.mul_neg_of_neg_of_pos h1 hd
      have h2 := Int.mul_nonneg h0 (Int.le_of_lt hP)
      omega
    unfold txtS
    rw [decide_eq_false hz0, if_neg (by decide), List.nil_append]
    intro hh
    refine h45 ?_
    rw [← hh]
    split
    · rfl
    · cases a with
      | nil => exact absurd rfl h3
      | cons c l => rfl
end
section
open Go.RowKit
section
variable {P : Program} {md : Region.Mode} {ops : Array Oper} {Q : Exit → Act → World → Prop} {n m fuel : Nat} {a : Act} {w : World} {ds : List Deferred}
theorem dg_m3 {α0 α1 α2 : Type} (f' m' : Nat) {ts1 : α0 → α1 → α2 → List Value} (H : α0 → α1 → α2 → World → Prop) (h : (∀ (x0 : α0) (x1 : α1) (x2 : α2) (W : World), H x0 x1 x2 W → wpAny P md ops Q f' (bm n m') ⟨⟨ts1 x0 x1 x2⟩, ds⟩ W) → wpAny P md ops Q fuel (bm n m) a w) (hr : (∀ (x0 : α0) (x1 : α1) (x2 : α2) (W : World), H x0 x1 x2 W → wpAny P md ops Q f' (bm n m') ⟨⟨ts1 x0 x1 x2⟩, ds⟩ W)) : wpAny P md ops Q fuel (bm n m) a w := h hr
theorem dg_m4 {α0 α1 α2 α3 : Type} (f' m' : Nat) {ts1 : α0 → α1 → α2 → α3 → List Value} (H : α0 → α1 → α2 → α3 → World → Prop) (h : (∀ (x0 : α0) (x1 : α1) (x2 : α2) (x3 : α3) (W : World), H x0 x1 x2 x3 W → wpAny P md ops Q f' (bm n m') ⟨⟨ts1 x0 x1 x2 x3⟩, ds⟩ W) → wpAny P md ops Q fuel (bm n m) a w) (hr : (∀ (x0 : α0) (x1 : α1) (x2 : α2) (x3 : α3) (W : World), H x0 x1 x2 x3 W → wpAny P md ops Q f' (bm n m') ⟨⟨ts1 x0 x1 x2 x3⟩, ds⟩ W)) : wpAny P md ops Q fuel (bm n m) a w := h hr
end
end
section
open Go.RowKit
set_option maxHeartbeats 4000000
def RatV (B : Nat) (v : Value) : Prop := ∃ n d : Int, v = .agg (RC n d) ∧ okZ n d ∧ n.natAbs ≤ B ∧ d.natAbs ≤ B
theorem RatV.le {A B : Nat} {v : Value} (h : RatV A v) (hB : A ≤ B) : RatV B v := by
  obtain ⟨n, d, h1, h2, h3, h4⟩ := h
  exact ⟨n, d, h1, h2, by omega, by omega⟩
theorem makeOf_any {n d : Int} {r : Int × Int × Int} (h1 : -9223372036854775808 ≤ n) (h2 : n < 9223372036854775808) (h3 : -9223372036854775808 ≤ d) (h4 : d < 9223372036854775808) (hr : mkR n d = r) (w : World) : Calls Tryz.prog 32 #[.int .i64 n, .int .i64 d] w (RetB (.agg (RC r.1 r.2.1)) w) := by
  have F := Fr.start w
  have g1 := fun w => rofR h1 h2 h3 h4 hr w
  obtain ⟨rn, rd, re⟩ := r
  dsimp only at g1 ⊢
  clear h1 h2 h3 h4 hr
  go_enter Tryz.func32, Tryz.ntmps32
  go_wp2_with (first | go_skip | refine aY3 ?_ | (refine aT3 ?_; clear F; intro W F) | refine aN3 ?_)
  (clear F; intro b4 W F; try simp only [Act.put, z6, z1, z2])
  go_wp2_with (first | go_skip | ((go_at_call 60); (with_reducible refine fr_call F (g1 _) ?_); (clear F; intro W F); (try dsimp only)) | refine aY3 ?_ | (refine aT3 ?_; clear F; intro W F) | refine aN3 ?_)
  (clear F; intro b5 W F; try simp only [Act.put, z6, z1, z2])
  go_wp2_with (first | go_skip | refine aY3 ?_ | (refine aT3 ?_; clear F; intro W F) | refine aN3 ?_)
  exact bodyPost_ret (res_c rfl rfl (Fr.get F tL) (rowRC _ _)) rfl ⟨rfl, F.below⟩
def OfP (n d : Int) (v : Value) : Prop := ∃ a b : Int, v = .agg (RC a b) ∧ okZ a b ∧ a * d = n * b ∧ a.natAbs ≤ n.natAbs ∧ b.natAbs ≤ d.natAbs ∧ b ∣ d
theorem makeOf_ok {n d : Int} (hn : n.natAbs ≤ 10 ^ 15) (hd : 0 < d) (hd2 : d ≤ 10 ^ 15) (w : World) : Calls Tryz.prog 32 #[.int .i64 n, .int .i64 d] w (RetP (OfP n d) w) := by
  have hb := bp15_big
  obtain ⟨h1, h2⟩ := mkR_ok (n := n) hd (by omega) (by omega)
  obtain ⟨e1, e2⟩ := low_mul (n := n) hd
  refine Calls.retP (makeOf_any (by omega) (by omega) (by omega) (by omega) h1 w) ⟨_, _, rfl, h2, ?_, lowN_abs n d, lowD_abs n d, ⟨_, e2.symm⟩⟩
  show lowN n d * d = n * lowD n d
  generalize lowN n d = A at *
  generalize lowD n d = D at *
  generalize (Int.gcd n d : Int) = g at *
  rw [← e1, ← e2, Int.mul_assoc, Int.mul_comm g D]
end
section
open Go.RowKit
theorem Fr.mids {w W : World} {L : List Ent} {x : Ent} (As : List (List Ent)) (h : Fr w W (x :: As.foldr (· ++ ·) L)) : Fr w W (As.foldr (· ++ ·) (x :: L)) := by
  have hp : (As.foldr (· ++ ·) (x :: L)).Perm (x :: As.foldr (· ++ ·) L) := by
    clear h
    induction As with
    | nil => exact List.Perm.refl _
    | cons A As ih => exact (List.Perm.append_left A ih).trans List.perm_middle
  exact ⟨h.below, fun y hy => h.blk y (hp.subset hy), fun y hy => h.own y (hp.subset hy), (hp.map _).nodup_iff.2 h.dis⟩
def due (l : Array Bool) : List (Nat × Nat) → Nat
  | [] => 0
  | p :: L => (if l.getD p.1 false = true then 0 else p.2) + due l L
section
variable {l : Array Bool} {L : List (Nat × Nat)} {i c n N B b M : Nat} {w u : World}
theorem due_set : due (l.setIfInBounds i true) L ≤ due l L := by
  induction L with
  | nil => exact Nat.le_refl _
  | cons p L ih =>
    unfold due
    by_cases h : l.getD p.1 false = true
    · rw [if_pos h, if_pos (getD_still h)]
      omega
    · rw [if_neg h]
      split <;> omega
theorem due_run (hs : i < l.size) (hoff : l.getD i false = false) (hm : (i, c) ∈ L) : due (l.setIfInBounds i true) L + c ≤ due l L := by
  induction L with
  | nil => cases hm
  | cons p L ih =>
    unfold due
    rcases List.mem_cons.1 hm with rfl | hm
    · rw [if_pos (getD_on hs), if_neg (by rw [hoff]; decide)]
      have := due_set (l := l) (L := L) (i := i)
      omega
    · have := ih hm
      by_cases h : l.getD p.1 false = true
      · rw [if_pos h, if_pos (getD_still h)]
        omega
      · rw [if_neg h]
        split <;> omega
theorem due_none (k : Nat) : due (Array.replicate k false) L ≤ (L.map (·.2)).sum := by
  induction L with
  | nil => exact Nat.le_refl _
  | cons p L ih =>
    unfold due
    rw [List.map_cons, List.sum_cons]
    split <;> omega
theorem hdw (j k : Nat) (hw : Wt l L) (hj : l.getD j false = true) (hm : L.contains (j, k) = true := by decide) : l.getD k false = true := hw (j, k) (by simpa using hm) hj
structure TpL (w u : World) (B b N : Nat) (l : Array Bool) (L : List (Nat × Nat)) : Prop where
  tp : Tp w u B b (N + due l L)
theorem tpI (k : Nat) (T : Tp w u B b M) (hc : (L.map (·.2)).sum = c) (hM : N + c ≤ M) : TpL w u B b N (Array.replicate k false) L := by
  have := due_none (L := L) k
  exact ⟨T.less (by omega)⟩
theorem tpS (T : TpL w u B b N l L) : TpL w u B b N (l.setIfInBounds i true) L := by
  have := due_set (l := l) (L := L) (i := i)
  exact ⟨T.tp.less (by omega)⟩
theorem tpC (c : Nat) (T : TpL w u B b N l L) (hoff : l.getD i false = false) (hs : l.size = n) (hi : Nat.ble (i + 1) n = true := by kernel_rfl) (hm : L.contains (i, c) = true := by decide) : Tp w u B b ((N + due (l.setIfInBounds i true) L) + c) := by
  have := due_run (L := L) (c := c) (by rw [hs]; exact Nat.le_of_ble_eq_true hi) hoff (by simpa using hm)
  exact T.tp.less (by omega)
theorem tpE (T : TpL w u B b N l L) : Tp w u B b N := T.tp.less (by omega)
theorem wtS2 {wt : Nat → Bool} {L : List (Nat × Nat)} (h : Wt l L) (hd : ∀ j, wt j = true → l.getD j false = true) (hc : (L.all fun p => p.1 != i || (wt p.2 || L.any fun q => q.2 == p.2 && wt q.1)) = true := by kernel_rfl) : Wt (l.setIfInBounds i true) L := by
  intro p hp hl
  by_cases hi : p.1 = i
  · have := List.all_eq_true.1 hc p hp
    rw [hi] at this
    simp only [bne_self_eq_false, Bool.false_or, Bool.or_eq_true, List.any_eq_true, Bool.and_eq_true, beq_iff_eq] at this
    rcases this with h1 | ⟨q, hq, h2, h3⟩
    · exact getD_still (hd _ h1)
    · exact getD_still (by have := h q hq (hd _ h3); rwa [h2] at this)
  · rw [getD_keep (Ne.symm hi)] at hl
    exact getD_still (h p hp hl)
end
theorem dTt {p : Prop} (h : p := by (repeat' apply And.intro) <;> first
  | exact True.intro
  | with_reducible rfl
  | with_reducible assumption
  | with_reducible exact wtS2 hw hd
  | exact tS2
  | exact tS1) : p := h
theorem dKt {p : Prop} (h : p := by
  (apply Exists.intro; refine And.intro ?dE ?_; rotate_left; (repeat apply Exists.intro); refine And.intro rfl ?_
   case dE => exact dE
   refine And.intro dF ?_
   refine And.intro (tpS HT) ?_
   refine And.intro (onS hH ?_ rfl) ?_
   · first | exact rfl | exact ⟨rfl, hq⟩
   · exact dTt)) : p := h
theorem oRt {p : Prop} (h : p := by (go_simp; exact hK _ _ dKt)) : p := h
theorem oQt {p : Prop} (h : p := by (refine ⟨?_⟩; go_simp; exact hK _ _ dKt)) : p := h
theorem oPt {p : Prop} (h : p := by (refine ow rfl rfl fun K hK => ?_; refine ⟨?_⟩; go_simp; exact hK _ _ dKt)) : p := h
end
section
open Go.RowKit
set_option maxHeartbeats 4000000
theorem price_top {m : Int} (h : m ∈ [9, 2000, 200000]) : 1 ≤ m ∧ m ≤ 200000 := by
  simp only [List.mem_cons, List.not_mem_nil, or_false] at h
  omega
theorem price_den {e : Int} (h : e ∈ [1, 2, 4, 10, 100, 1000, 1000000]) : 1 ≤ e ∧ e ≤ 1000000 ∧ 1000000 % e = 0 := by
  simp only [List.mem_cons, List.not_mem_nil, or_false] at h
  rcases h with rfl | rfl | rfl | rfl | rfl | rfl | rfl <;> decide
structure PrG (n d : Int) : Prop where
  ok : okZ n d
  pr : priceB (okZ n d) n d = true
  ex : n * ((10 ^ 6 : Nat) : Int) % d = 0
  lt : (n * ((10 ^ 6 : Nat) : Int) / d).natAbs < 10 ^ 15
  pos : 0 < n
def PriceV (v : Value) : Prop := ∃ n d : Int, v = .agg (RC n d) ∧ PrG n d
theorem priceV_of {n d k e : Int} (h : OfP k e (.agg (RC n d))) (ok : okZ n d) (h1 : n * e = k * d) (h2 : d ∣ e) (hk : 1 ≤ k) (hk2 : k ≤ 200000) (he : 1 ≤ e) (he2 : 1000000 % e = 0) : PriceV (.agg (RC n d)) := by
  obtain ⟨-, hd, -⟩ := okZ_iff.1 ok
  have hn : 0 < n := by
    by_cases hn : 0 < n
    · exact hn
    · have := Int.mul_nonpos_of_nonpos_of_nonneg (show n ≤ 0 by omega) (show (0 : Int) ≤ e by omega)
      have := Int.mul_pos (show 0 < k by omega) hd
      omega
  obtain ⟨q, hq⟩ := Int.dvd_trans h2 (Int.dvd_of_emod_eq_zero he2)
  have hq0 : 0 < q := by
    by_cases h : 0 < q
    · exact h
    · have := Int.mul_nonpos_of_nonneg_of_nonpos (show 0 ≤ d by omega) (show q ≤ 0 by omega)
      omega
  have hq1 : q ≤ 1000000 := by
    have := Int.mul_le_mul_of_nonneg_right (show 1 ≤ d by omega) (show 0 ≤ q by omega)
    omega
  have hnd : n ≤ 200000 * d := by
    have e1 : n ≤ n * e := by
      have := Int.mul_le_mul_of_nonneg_left (show 1 ≤ e by omega) (show 0 ≤ n by omega)
      omega
    have e2 : k * d ≤ 200000 * d := Int.mul_le_mul_of_nonneg_right hk2 (by omega)
    omega
  have hx : n * ((10 ^ 6 : Nat) : Int) = n * q * d := by
    rw [show ((10 ^ 6 : Nat) : Int) = 1000000 from rfl, hq, Int.mul_comm d q, Int.mul_assoc]
  have hz : n * ((10 ^ 6 : Nat) : Int) / d = n * q := by rw [hx, Int.mul_ediv_cancel _ (by omega)]
  have hb : (n * q).natAbs < 10 ^ 15 := by
    have h3 : n * q * e = k * 1000000 := by
      calc n * q * e = n * e * q := by rw [Int.mul_assoc, Int.mul_comm q e, ← Int.mul_assoc]
        _ = k * d * q := by rw [h1]
        _ = k * 1000000 := by rw [Int.mul_assoc, ← hq]
    have h4 : n * q ≤ n * q * e := by
      have := Int.mul_le_mul_of_nonneg_left (show 1 ≤ e by omega) (Int.mul_nonneg (show 0 ≤ n by omega) (show 0 ≤ q by omega))
      omega
    have h5 : 0 ≤ n * q := Int.mul_nonneg (by omega) (by omega)
    omega
  have h7 : n * ((10 ^ 6 : Nat) : Int) % d = 0 := by rw [hx]; exact Int.mul_emod_left _ _
  have h8 : (n * ((10 ^ 6 : Nat) : Int) / d).natAbs < 10 ^ 15 := by rw [hz]; exact hb
  obtain ⟨s, h6, -⟩ := txt_back (p := 6) ok (by decide) h7 h8
  refine ⟨n, d, rfl, ok, ?_, h7, h8, hn⟩
  unfold priceB
  rw [show ((6 : Int)) = ((6 : Nat) : Int) from rfl, h6, decide_eq_true rfl, decide_eq_true hn, decide_eq_true (show n ≤ 1000000000 * d by omega)]
  rfl
set_option maxRecDepth 100000 in
theorem tprice {B b N : Nat} {w : World} (h : TapeAt w B b (N + 3)) : Calls Tryz.prog 43 #[.pointer (some ⟨b, 0, none⟩)] w (TapP PriceV B b N w) := by
  have F := Fr.start w
  have T := Tp.start h
  clear h
  go_enter Tryz.func43, Tryz.ntmps43
  go_wp2_with (first | go_skip | ((with_reducible apply fSli F slInt); exact rfl; exact rfl; exact rfl; decide; decide; (go_simp; exact rfl); exact rfl) | ((with_reducible apply fSli F slStr); exact rfl; exact rfl; exact rfl; decide; decide; (go_simp; exact rfl); exact rfl) | (refine aTQ ?_; clear F; intro W F) | refine aNQ ?_)
  (clear F; intro b2 W F; try simp only [Act.put, z6, z1, z2])
  go_wp2_with (first | go_skip | ((with_reducible apply fSli F slInt); exact rfl; exact rfl; exact rfl; decide; decide; (go_simp; exact rfl); exact rfl) | ((with_reducible apply fSli F slStr); exact rfl; exact rfl; exact rfl; decide; decide; (go_simp; exact rfl); exact rfl) | (refine aTQ ?_; clear F; intro W F) | refine aNQ ?_)
  (clear F; intro b5 W F; try simp only [Act.put, z6, z1, z2])
  go_wp2_with (first | go_skip | ((go_at_call 30); (with_reducible refine fr_tap F T (tpickF [9, 2000, 200000] F T tL (by with_unfolding_all rfl) (by with_unfolding_all rfl) (by simp) (by simp)) ?_); (try clear F T); (rintro _ u W ⟨m, rfl, hm⟩ T F); (have hm2 := price_top hm); (clear hm); (try dsimp only)) | ((go_at_call 19); (with_reducible refine fr_tap F T (tnext _ (by omega) (by omega) (T.at F)) ?_); (try clear F T); (rintro _ u W ⟨k, rfl, hk⟩ T F); (try dsimp only)) | ((with_reducible apply fSli F slInt); exact rfl; exact rfl; exact rfl; decide; decide; (go_simp; exact rfl); exact rfl) | ((with_reducible apply fSli F slStr); exact rfl; exact rfl; exact rfl; decide; decide; (go_simp; exact rfl); exact rfl) | (refine aTQ ?_; clear F; intro W F) | refine aNQ ?_)
  (clear F; intro b10 W F; try simp only [Act.put, z6, z1, z2])
  go_wp2_with (first | go_skip | ((go_at_call 30); (with_reducible refine fr_tap F T (tpickF [1, 2, 4, 10, 100, 1000, 1000000] F T tL (by with_unfolding_all rfl) (by with_unfolding_all rfl) (by simp) (by simp)) ?_); (try clear F T); (rintro _ u W ⟨e, rfl, he⟩ T F); (have he2 := price_den he); (clear he); (try dsimp only)) | ((go_at_call 32); (with_reducible refine fr_callP F (makeOf_ok (by omega) (by omega) (by omega) _) ?_); (try clear F); (rintro _ W ⟨n, d, rfl, ho⟩ F); (try dsimp only)) | ((with_reducible apply fSli F slInt); exact rfl; exact rfl; exact rfl; decide; decide; (go_simp; exact rfl); exact rfl) | ((with_reducible apply fSli F slStr); exact rfl; exact rfl; exact rfl; decide; decide; (go_simp; exact rfl); exact rfl) | (refine aTQ ?_; clear F; intro W F) | refine aNQ ?_)
  exact bodyPost_ret (res_c rfl rfl (Fr.get F tL) (rowRC _ _)) rfl (tap_end (T.less (by omega)) F (priceV_of ⟨n, d, rfl, ho⟩ ho.1 ho.2.1 ho.2.2.2.2 (by omega) (by omega) (by omega) he2.2.2))
abbrev pAcme : List UInt8 := [65, 67, 77, 69]
abbrev pUsdgbp : List UInt8 := [85, 83, 68, 71, 66, 80]
abbrev pEurusd : List UInt8 := [69, 85, 82, 85, 83, 68]
abbrev cUsd : List UInt8 := [85, 83, 68]
abbrev cGbp : List UInt8 := [71, 66, 80]
def papersL : List (List UInt8) := [pAcme, [66, 79, 78, 68], [71, 79, 76, 68], [88, 49], pEurusd, pUsdgbp]
def codesL : List (List UInt8) := [cUsd, cUsd, [69, 85, 82], cGbp]
def srcsL : List (List UInt8) := [[97], [98], [99], [100, 52]]
theorem one_bs {xs : List ByteArray} {l : List (List UInt8)} (hx : xs = l.map bs) {s : ByteArray} (h : s ∈ xs) : ∃ p, s = bs p ∧ p ∈ l := by
  subst hx
  obtain ⟨p, hp, rfl⟩ := List.mem_map.1 h
  exact ⟨p, rfl, hp⟩
def OneV (l : List (List UInt8)) (v : Value) : Prop := ∃ s : List UInt8, v = .string (bs s) ∧ s ∈ l
theorem tpaper {B b N : Nat} {w : World} (h : TapeAt w B b (N + 1)) : Calls Tryz.prog 22 #[.pointer (some ⟨b, 0, none⟩)] w (TapP (OneV papersL) B b N w) := by
  have F := Fr.start w
  have T := Tp.start h
  clear h
  go_enter Tryz.func22, Tryz.ntmps22
  go_wp2_with (first | go_skip | ((with_reducible apply fSli F slInt); exact rfl; exact rfl; exact rfl; decide; decide; (go_simp; exact rfl); exact rfl) | ((with_reducible apply fSli F slStr); exact rfl; exact rfl; exact rfl; decide; decide; (go_simp; exact rfl); exact rfl))
  (clear F; intro b4 W F; try simp only [Act.put, z6, z1, z2])
  go_wp2_with (first | go_skip | ((go_at_call 29); (with_reducible refine fr_tap F T (toneF (papersL.map bs) F T tL (by with_unfolding_all rfl) (by with_unfolding_all rfl) (by simp [papersL]) (by simp [papersL])) ?_); (try clear F T); (rintro _ u W ⟨s, rfl, hs⟩ T F); (try dsimp only)) | ((with_reducible apply fSli F slInt); exact rfl; exact rfl; exact rfl; decide; decide; (go_simp; exact rfl); exact rfl) | ((with_reducible apply fSli F slStr); exact rfl; exact rfl; exact rfl; decide; decide; (go_simp; exact rfl); exact rfl))
  go_ret
  obtain ⟨p, rfl, hp⟩ := one_bs rfl hs
  exact tap_end T F ⟨p, rfl, hp⟩
theorem tcode {B b N : Nat} {w : World} (h : TapeAt w B b (N + 1)) : Calls Tryz.prog 45 #[.pointer (some ⟨b, 0, none⟩)] w (TapP (OneV codesL) B b N w) := by
  have F := Fr.start w
  have T := Tp.start h
  clear h
  go_enter Tryz.func45, Tryz.ntmps45
  go_wp2_with (first | go_skip | ((with_reducible apply fSli F slInt); exact rfl; exact rfl; exact rfl; decide; decide; (go_simp; exact rfl); exact rfl) | ((with_reducible apply fSli F slStr); exact rfl; exact rfl; exact rfl; decide; decide; (go_simp; exact rfl); exact rfl))
  (clear F; intro b4 W F; try simp only [Act.put, z6, z1, z2])
  go_wp2_with (first | go_skip | ((go_at_call 29); (with_reducible refine fr_tap F T (toneF (codesL.map bs) F T tL (by with_unfolding_all rfl) (by with_unfolding_all rfl) (by simp [codesL]) (by simp [codesL])) ?_); (try clear F T); (rintro _ u W ⟨s, rfl, hs⟩ T F); (try dsimp only)) | ((with_reducible apply fSli F slInt); exact rfl; exact rfl; exact rfl; decide; decide; (go_simp; exact rfl); exact rfl) | ((with_reducible apply fSli F slStr); exact rfl; exact rfl; exact rfl; decide; decide; (go_simp; exact rfl); exact rfl))
  go_ret
  obtain ⟨p, rfl, hp⟩ := one_bs rfl hs
  exact tap_end T F ⟨p, rfl, hp⟩
def srcC : Array Value := flatC (srcsL.map fun s => .string (bs s))
def SrcP (w : World) (e : Ending) (w' : World) : Prop := ∃ g, e = .returned (.slice (some ⟨g, 0, none⟩) 4 4) ∧ Below w.heap.size w w' ∧ w.heap.size ≤ g ∧ BlkAt w' g srcC 9
theorem sources_any (w : World) : Calls Tryz.prog 21 #[] w (SrcP w) := by
  have F := Fr.start w
  go_enter Tryz.func21, Tryz.ntmps21
  go_wp2_with (first | go_skip | ((with_reducible apply fSli F slInt); exact rfl; exact rfl; exact rfl; decide; decide; (go_simp; exact rfl); exact rfl) | ((with_reducible apply fSli F slStr); exact rfl; exact rfl; exact rfl; decide; decide; (go_simp; exact rfl); exact rfl))
  (clear F; intro b1 W F; try simp only [Act.put, z6, z1, z2])
  go_wp2_with (first | go_skip | ((with_reducible apply fSli F slInt); exact rfl; exact rfl; exact rfl; decide; decide; (go_simp; exact rfl); exact rfl) | ((with_reducible apply fSli F slStr); exact rfl; exact rfl; exact rfl; decide; decide; (go_simp; exact rfl); exact rfl))
  go_ret
  exact ⟨b1, rfl, F.below, F.ge, F.here⟩
abbrev Bs := List UInt8
def srcAt (k : Nat) : Bs := srcsL.getD k []
theorem src_at {k : Nat} (h : k < 4) : srcC[k]? = some (.string (bs (srcAt k))) := by
  match k, h with
  | 0, _ => rfl
  | 1, _ => rfl
  | 2, _ => rfl
  | 3, _ => rfl
theorem src_nm {k : Nat} (h : k < 4) : nameB (srcAt k) = true ∧ srcAt k ∈ srcsL := by
  match k, h with
  | 0, _ => decide
  | 1, _ => decide
  | 2, _ => decide
  | 3, _ => decide
theorem built_quo7 (s t u : List UInt8) (d : Int) (n e : Int) (k : Int) : Tryz.prog.built 33 [(0, .string (bs s)), (1, .string (bs t)), (2, .string (bs u)), (3, .int .i64 d), (4, .agg (RC n e)), (5, .int .i64 k)] = some (qC ⟨s, t, u, d, decide (n < 0), n.natAbs, decide (e < 0), e.natAbs, k, false⟩) := by kernel_rfl
section
variable {a : Act} {W : World} {K : Act → World → Prop} {Q : Exit → Act → World → Prop} {dst : Option Tmp} {ty : TypeId} {pos : String} {af : Array Edge} {gd : Option (Nat × Bool)} {x0 x1 x2 x3 x4 x5 : Operand} {s0 s1 s2 : List UInt8} {d n e k : Int}
theorem gB_quo7 (h0 : a.eval x0 = .string (bs s0)) (h1 : a.eval x1 = .string (bs s1)) (h2 : a.eval x2 = .string (bs s2)) (h3 : a.eval x3 = .int .i64 d) (h4 : a.eval x4 = .agg (RC n e)) (h5 : a.eval x5 = .int .i64 k)
    (hk : K (a.put dst (.agg (qC ⟨s0, s1, s2, d, decide (n < 0), n.natAbs, decide (e < 0), e.natAbs, k, false⟩))) W) : OpW Tryz.prog ⟨dst, .build 33 #[(0, x0), (1, x1), (2, x2), (3, x3), (4, x4), (5, x5)], ty, pos, af, gd⟩ a W K Q :=
  op_build _ _ rfl (by simp only [List.map_toArray, List.map_cons, List.map_nil, h0, h1, h2, h3, h4, h5]; exact built_quo7 s0 s1 s2 d n e k) hk
end
theorem q_gbp (q : QT) : (qC q).setIfInBounds 2 (.string ⟨#[71, 66, 80]⟩) = qC { q with cur := cGbp } := q_set2 q cGbp
structure QuoV (known : Int) (q : QT) : Prop where
  right : q.right = true
  a : q.a < bp 15
  b : q.b < bp 15
  known : q.known = known
  price : q.void = false → ∃ n d : Int, (q.x = decide (n < 0) ∧ q.a = n.natAbs ∧ q.y = decide (d < 0) ∧ q.b = d.natAbs) ∧ PrG n d
theorem paper_ok {i : Bs} (h : i ∈ papersL) : paperB i = true := by
  simp only [papersL, List.mem_cons, List.not_mem_nil, or_false] at h
  rcases h with rfl | rfl | rfl | rfl | rfl | rfl <;> decide
theorem code_ok {i : Bs} (h : i ∈ codesL) : codeB i = true := by
  simp only [codesL, List.mem_cons, List.not_mem_nil, or_false] at h
  rcases h with rfl | rfl | rfl | rfl <;> decide
theorem right_made {s i c : Bs} {day n d k : Int} (hs : nameB s = true) (hi : paperB i = true) (hc : codeB c = true) (hd : 0 ≤ day ∧ day ≤ 73048) (hn : PrG n d) : QuoV k ⟨s, i, c, day, decide (n < 0), n.natAbs, decide (d < 0), d.natAbs, k, false⟩ := by
  obtain ⟨⟨h1, h2⟩, -⟩ := okZ_iff.1 hn.ok
  refine ⟨?_, h1, h2, rfl, fun _ => ⟨n, d, ⟨rfl, rfl, rfl, rfl⟩, hn⟩⟩
  unfold QT.right QT.price
  dsimp only
  rw [sZ_z, sZ_z, hs, hi, hc, decide_eq_true hd]
  exact hn.pr
theorem void_made {s i c : Bs} {day k : Int} (hs : nameB s = true) (hi : paperB i = true) (hc : codeB c = true) (hd : 0 ≤ day ∧ day ≤ 73048) : QuoV k ⟨s, i, c, day, decide ((0 : Int) < 0), (0 : Int).natAbs, decide ((0 : Int) < 0), (0 : Int).natAbs, k, true⟩ := by
  refine ⟨?_, bp_pos 15, bp_pos 15, rfl, fun h => by cases h⟩
  unfold QT.right
  rw [hs, hi, hc, decide_eq_true hd]
  rfl
def QuoR (known : Int) (v : Value) : Prop := ∃ q : QT, v = .agg (qC q) ∧ QuoV known q
set_option maxRecDepth 100000 in
theorem tquote {B b N : Nat} {w : World} {day known : Int} (hd : 0 ≤ day ∧ day ≤ 73048) (h : TapeAt w B b (N + 9)) : Calls Tryz.prog 23 #[.pointer (some ⟨b, 0, none⟩), .int .i64 day, .int .i64 known] w (TapP (QuoR known) B b N w) := by
  have F := Fr.start w
  have T := Tp.start h
  clear h
  go_enter Tryz.func23, Tryz.ntmps23
  go_wp2_with (first | go_skip | refine aYQ ?_ | ((with_reducible apply fSli F slInt); exact rfl; exact rfl; exact rfl; decide; decide; (go_simp; exact rfl); exact rfl) | ((with_reducible apply fSli F slStr); exact rfl; exact rfl; exact rfl; decide; decide; (go_simp; exact rfl); exact rfl) | (refine aTQ ?_; clear F; intro W F) | refine aNQ ?_)
  (clear F; intro b6 W F; try simp only [Act.put, z6, z1, z2])
  go_upto_region 1 with (first | go_skip | refine aYQ ?_ | ((with_reducible apply fSli F slInt); exact rfl; exact rfl; exact rfl; decide; decide; (go_simp; exact rfl); exact rfl) | ((with_reducible apply fSli F slStr); exact rfl; exact rfl; exact rfl; decide; decide; (go_simp; exact rfl); exact rfl) | (refine aTQ ?_; clear F; intro W F) | refine aNQ ?_)
  try simp only [Act.put, z6, z1, z2]
  refine wp_region_slots mixP [7, 8, 9, 10, 11, 12, 13, 14, 15, 16, 17, 18, 19, 20, 21, 22, 23, 24] (fun l mm W => ∃ (s7 s8 s9 s10 s11 s12 s13 s14 s15 s16 s17 s18 s19 s20 s21 s22 s23 s24 : Value) (c_b7 : Array Value) (b8 b17 b7 : Nat) (u : World) (k : Nat) (i : Bs) (j : Int) (n : Int) (d : Int), mm = [s7, s8, s9, s10, s11, s12, s13, s14, s15, s16, s17, s18, s19, s20, s21, s22, s23, s24] ∧ Fr u W ((b6, qC q0, 33) :: (onl (l.getD 0 false) (b8, srcC, 9) ++ (onl (l.getD 9 false) (b17, flatC [.int .i64 0, .int .i64 0, .int .i64 0, .int .i64 1, .int .i64 2, .int .i64 5], 3) ++ (onl (l.getD 17 false) (b7, c_b7, 33))))) ∧ TpL w u B b (N+3) l [(2, 1), (6, 1), (10, 1), (14, 3)] ∧ On l 0 [s8 = .slice (some ⟨b8, 0, none⟩) 4 4, s9 = .pointer (some ⟨b, 0, none⟩), s10 = .int .i64 (k : Int) ∧ (k : Int) < 4, s11 = .pointer (some ⟨b8, k, none⟩) ∧ k < 4, s12 = .string (bs (srcAt k)) ∧ k < 4, s13 = .pointer (some ⟨b, 0, none⟩), s14 = .string (bs i) ∧ i ∈ papersL, s15 = .int .i64 day, s16 = .pointer (some ⟨b, 0, none⟩), s17 = .slice (some ⟨b17, 0, none⟩) 6 6, s18 = .int .i64 j ∧ j ∈ [0, 0, 0, 1, 2, 5], s19 = .int .i64 (IntKind.i64.wrap (day - j)), s20 = .int .i64 (max 0 (IntKind.i64.wrap (day - j))), s21 = .pointer (some ⟨b, 0, none⟩), s22 = .agg (RC n d) ∧ PrG n d, s23 = .int .i64 known, s24 = .agg (qC ⟨srcAt k, i, cUsd, max 0 (IntKind.i64.wrap (day - j)), decide (n < 0), n.natAbs, decide (d < 0), d.natAbs, known, false⟩), s7 = .pointer (some ⟨b7, 0, none⟩), c_b7 = qC ⟨srcAt k, i, cUsd, max 0 (IntKind.i64.wrap (day - j)), decide (n < 0), n.natAbs, decide (d < 0), d.natAbs, known, false⟩] ∧ Wt l [(3, 2), (4, 2), (16, 2), (18, 2), (16, 6), (18, 6), (11, 10), (12, 10), (16, 10), (18, 10), (16, 14), (18, 14), (3, 0), (18, 17)] ∧ c_b7.size = 72 ∧ True) (by kernel_rfl) (putAll_self _ _) ?_ ?_ ?_
  · exact ⟨_, _, _, _, _, _, _, _, _, _, _, _, _, _, _, _, _, _, (qC q0), 0, 0, 0, _, 0, [], 0, 0, 0, rfl, F.drew, tpI 19 (c := 6) T (by decide) (by omega), On.none _ _ _, Wt.none _ _, qC_size _, trivial⟩
  · rintro listed mm W ii hi hsz hoff ⟨s7, s8, s9, s10, s11, s12, s13, s14, s15, s16, s17, s18, s19, s20, s21, s22, s23, s24, c_b7, b8, b17, b7, u, k, i, j, n, d, rfl, HF, HT, hH, hw, hz0, -⟩ hd
    simp only [putAll, z1, z2]
    obtain rfl | rfl | rfl | rfl | rfl | rfl | rfl | rfl | rfl | rfl | rfl | rfl | rfl | rfl | rfl | rfl | rfl | rfl | rfl := dr_c19 hi
    · refine ow rfl rfl fun K hK => ?_
      rw [show listed.getD 0 false = false from hoff] at HF
      refine ⟨?_⟩
      go_simp
      refine (sources_any _).mono ?_
      rintro e W2 ⟨bN, rfl, hb1, hb2, hb3⟩
      replace HF := Fr.push HF hb1 hb2 hb3
      (try dsimp only)
      exact hK _ _ ⟨_, dE, _, _, _, _, _, _, _, _, _, _, _, _, _, _, _, _, _, _, c_b7, bN, b17, b7, u, k, i, j, n, d, rfl, by rw [getD_on (show 0 < listed.size by rw [hsz]; decide), getD_keep (show 0 ≠ 9 by decide), getD_keep (show 0 ≠ 17 by decide)]; exact Fr.mids [[(b6, qC q0, 33)]] HF, tpS HT, onS (onV 3 hH (wtF hw hoff)) rfl rfl, wtS2 hw hd, hz0, trivial⟩
    · exact oPt
    · obtain rfl : s9 = _ := dh 1 hH hd
      refine ow rfl rfl fun K hK => ?_
      have T := tpC 1 HT hoff hsz
      have F := HF
      refine ⟨?_⟩
      go_simp
      with_reducible refine fr_tap F T (tnext _ (by omega) (by omega) (T.at F)) ?_
      clear HF HT F T
      rintro _ u W ⟨k, rfl, hq⟩ HT HF
      (try dsimp only)
      exact hK _ _ ⟨_, dE, _, _, _, _, _, _, _, _, _, _, _, _, _, _, _, _, _, _, c_b7, b8, b17, b7, u, k, i, j, n, d, rfl, dF, ⟨HT⟩, onS (onV 18 (onV 16 (onV 4 (onV 3 hH (wtF hw hoff)) (wtF hw hoff)) (wtF hw hoff)) (wtF hw hoff)) ⟨rfl, hq⟩ rfl, wtS2 hw hd, hz0, trivial⟩
    · obtain rfl : s8 = _ := dh 0 hH hd
      obtain ⟨rfl, q10⟩ : s10 = _ ∧ _ := dh 2 hH hd
      have hq : k < 4 := by have := q10; omega
      refine ow rfl rfl fun K hK => ?_
      have HG := hd 0 (by kernel_rfl)
      rw [HG] at HF
      simp only [onl, if_true, z7, z8] at HF
      exact oQt
    · obtain ⟨rfl, q11⟩ : s11 = _ ∧ _ := dh 3 hH hd
      have hq : k < 4 := q11
      refine ow rfl rfl fun K hK => ?_
      have HG := hdw 3 0 hw (hd 3 (by kernel_rfl))
      rw [HG] at HF
      simp only [onl, if_true, z7, z8] at HF
      have cF := BlkAt.cell (Fr.get HF (b := b8) (cs := srcC) tL) (src_at hq)
      exact oQt
    · exact oPt
    · obtain rfl : s13 = _ := dh 5 hH hd
      refine ow rfl rfl fun K hK => ?_
      have T := tpC 1 HT hoff hsz
      have F := HF
      refine ⟨?_⟩
      go_simp
      with_reducible refine fr_tap F T (tpaper (T.at F)) ?_
      clear HF HT F T
      rintro _ u W ⟨i, rfl, hq⟩ HT HF
      (try dsimp only)
      exact hK _ _ ⟨_, dE, _, _, _, _, _, _, _, _, _, _, _, _, _, _, _, _, _, _, c_b7, b8, b17, b7, u, k, i, j, n, d, rfl, dF, ⟨HT⟩, onS (onV 18 (onV 16 hH (wtF hw hoff)) (wtF hw hoff)) ⟨rfl, hq⟩ rfl, wtS2 hw hd, hz0, trivial⟩
    · exact oPt
    · exact oPt
    · refine ow rfl rfl fun K hK => ?_
      rw [show listed.getD 9 false = false from hoff] at HF
      with_reducible apply gSli HF slInt
      · exact rfl
      · exact rfl
      · decide
      · decide
      · (go_simp; exact rfl)
      · exact rfl
      intro bN W HF
      go_simp
      exact hK _ _ ⟨_, dE, _, _, _, _, _, _, _, _, _, _, _, _, _, _, _, _, _, _, c_b7, b8, bN, b7, u, k, i, j, n, d, rfl, by rw [getD_on (show 9 < listed.size by rw [hsz]; decide), getD_keep (show 9 ≠ 0 by decide), getD_keep (show 9 ≠ 17 by decide)]; exact Fr.mids [[(b6, qC q0, 33)], onl (listed.getD 0 false) (b8, srcC, 9)] HF, tpS HT, onS hH rfl rfl, wtS2 hw hd, hz0, trivial⟩
    · obtain rfl : s16 = _ := dh 8 hH hd
      obtain rfl : s17 = _ := dh 9 hH hd
      refine ow rfl rfl fun K hK => ?_
      have HG := hd 9 (by kernel_rfl)
      rw [HG] at HF
      simp only [onl, if_true, z7, z8] at HF
      have T := tpC 1 HT hoff hsz
      have F := HF
      refine ⟨?_⟩
      go_simp
      with_reducible refine fr_tap F T (tpickF [0, 0, 0, 1, 2, 5] F T tL (by with_unfolding_all rfl) (by with_unfolding_all rfl) (by simp) (by simp)) ?_
      clear HF HT F T
      rintro _ u W ⟨j, rfl, hq⟩ HT HF
      (try dsimp only)
      exact hK _ _ ⟨_, dE, _, _, _, _, _, _, _, _, _, _, _, _, _, _, _, _, _, _, c_b7, b8, b17, b7, u, k, i, j, n, d, rfl, dF, ⟨HT⟩, onS (onV 18 (onV 16 (onV 12 (onV 11 hH (wtF hw hoff)) (wtF hw hoff)) (wtF hw hoff)) (wtF hw hoff)) ⟨rfl, hq⟩ rfl, wtS2 hw hd, hz0, trivial⟩
    · obtain rfl : s15 = _ := dh 7 hH hd
      obtain ⟨rfl, q18⟩ : s18 = _ ∧ _ := dh 10 hH hd
      exact oPt
    · obtain rfl : s19 = _ := dh 11 hH hd
      exact oPt
    · exact oPt
    · obtain rfl : s21 = _ := dh 13 hH hd
      refine ow rfl rfl fun K hK => ?_
      have T := tpC 3 HT hoff hsz
      have F := HF
      refine ⟨?_⟩
      go_simp
      with_reducible refine fr_tap F T (tprice (T.at F)) ?_
      clear HF HT F T
      rintro _ u W ⟨n, d, rfl, hq⟩ HT HF
      (try dsimp only)
      exact hK _ _ ⟨_, dE, _, _, _, _, _, _, _, _, _, _, _, _, _, _, _, _, _, _, c_b7, b8, b17, b7, u, k, i, j, n, d, rfl, dF, ⟨HT⟩, onS (onV 18 (onV 16 hH (wtF hw hoff)) (wtF hw hoff)) ⟨rfl, hq⟩ rfl, wtS2 hw hd, hz0, trivial⟩
    · exact oPt
    · obtain ⟨rfl, q12⟩ : s12 = _ ∧ _ := dh 4 hH hd
      obtain ⟨rfl, q14⟩ : s14 = _ ∧ _ := dh 6 hH hd
      obtain rfl : s20 = _ := dh 12 hH hd
      obtain ⟨rfl, q22⟩ : s22 = _ ∧ _ := dh 14 hH hd
      obtain rfl : s23 = _ := dh 15 hH hd
      refine ow rfl rfl fun K hK => ?_
      with_reducible apply gB_quo7
      · exact rfl
      · exact rfl
      · exact rfl
      · exact rfl
      · exact rfl
      · exact rfl
      exact oRt
    · refine ow rfl rfl fun K hK => ?_
      rw [show listed.getD 17 false = false from hoff] at HF
      with_reducible apply gA_quo HF
      intro bN W HF
      go_simp
      exact hK _ _ ⟨_, dE, _, _, _, _, _, _, _, _, _, _, _, _, _, _, _, _, _, _, (qC q0), b8, b17, bN, u, k, i, j, n, d, rfl, by rw [getD_on (show 17 < listed.size by rw [hsz]; decide), getD_keep (show 17 ≠ 0 by decide), getD_keep (show 17 ≠ 9 by decide)]; exact Fr.mids [[(b6, qC q0, 33)], onl (listed.getD 0 false) (b8, srcC, 9), onl (listed.getD 9 false) (b17, flatC [.int .i64 0, .int .i64 0, .int .i64 0, .int .i64 1, .int .i64 2, .int .i64 5], 3)] HF, tpS HT, onS (onV 18 hH (wtF hw hoff)) rfl rfl, wtS2 hw hd, qC_size _, trivial⟩
    · obtain rfl : s24 = _ := dh 16 hH hd
      obtain rfl : s7 = _ := dh 17 hH hd
      refine ow rfl rfl fun K hK => ?_
      have HG := hd 17 (by kernel_rfl)
      rw [HG] at HF
      simp only [onl, if_true, z7, z8] at HF
      with_reducible apply gS HF
      · exact rfl
      · exact rfl
      · exact tL
      · with_reducible exact rowQ _
      · with_reducible exact hz0.trans (qC_size _).symm
      clear HF
      intro W HF
      simp only [z7, z8, List.append_assoc, List.append_nil] at HF
      go_simp
      exact hK _ _ ⟨_, dE, _, _, _, _, _, _, _, _, _, _, _, _, _, _, _, _, _, _, (qC ⟨srcAt k, i, cUsd, max 0 (IntKind.i64.wrap (day - j)), decide (n < 0), n.natAbs, decide (d < 0), d.natAbs, known, false⟩), b8, b17, b7, u, k, i, j, n, d, rfl, dF, tpS HT, onS hH rfl rfl, wtS2 hw hd, qC_size _, trivial⟩
  rintro listed mm W ⟨s7, s8, s9, s10, s11, s12, s13, s14, s15, s16, s17, s18, s19, s20, s21, s22, s23, s24, c_b7, b8, b17, b7, u, k, i, j, n, d, rfl, HF, HT, hH, hw, hz0, -⟩ hall
  obtain ⟨rfl, rfl, ⟨rfl, q10⟩, ⟨rfl, q11⟩, ⟨rfl, q12⟩, rfl, ⟨rfl, q14⟩, rfl, rfl, rfl, ⟨rfl, q18⟩, rfl, rfl, rfl, ⟨rfl, q22⟩, rfl, rfl, rfl, e18⟩ := onA hH hall
  rw [hall 0 (by decide)] at HF
  rw [hall 9 (by decide)] at HF
  rw [hall 17 (by decide)] at HF
  simp only [onl, if_true, z7, z8] at HF
  rw [e18] at HF
  replace T := tpE HT
  clear hall hH HT e18 hw hz0 F
  have F := HF
  clear HF
  simp only [putAll, z1, z2]
  replace F := F.sub (L' := [(b6, qC q0, 33), (b7, qC ⟨srcAt k, i, cUsd, max 0 (IntKind.i64.wrap (day - j)), decide (n < 0), n.natAbs, decide (d < 0), d.natAbs, known, false⟩, 33)]) (by repeat (first | exact List.Sublist.slnil | apply List.Sublist.cons_cons | apply List.Sublist.cons))
  obtain ⟨s0, hs0⟩ : ∃ s0, srcAt k = s0 := ⟨_, rfl⟩
  obtain ⟨dy, hdy⟩ : ∃ dy, max 0 (IntKind.i64.wrap (day - j)) = dy := ⟨_, rfl⟩
  have hn0 : nameB s0 = true := by rw [← hs0]; exact (src_nm q11).1
  have hd0 : 0 ≤ dy ∧ dy ≤ 73048 := by
    rw [← hdy, IntWalk.i64_in _ (by simp only [List.mem_cons, List.not_mem_nil, or_false] at q18; omega)]
    simp only [List.mem_cons, List.not_mem_nil, or_false] at q18
    omega
  have hp0 := paper_ok q14
  rw [hs0, hdy] at F
  clear q10 q11 q12 q14 q18 hs0 hdy hd
  go_wp2_with (first | go_skip | ((with_reducible apply fSc F); exact rfl; exact rfl; (go_simp; exact rfl); (exact tL); (with_reducible exact scStr); exact rfl; (with_reducible exact q_cur _); (with_reducible exact q_gbp _); clear F; intro W F; simp only [z7, z8] at F) | ((go_at_call 44); (with_reducible refine fr_tap F T (tchance _ _ (by decide) (by decide) (T.at F)) ?_); (try clear F T); (rintro _ u W ⟨(_ | _), rfl⟩ T F); (try dsimp only)) | ((go_at_call 45); (with_reducible refine fr_tap F T (tcode (T.at F)) ?_); (try clear F T); (rintro _ u W ⟨c, rfl, hc⟩ T F); (try dsimp only)) | refine aYQ ?_ | ((with_reducible apply fSli F slInt); exact rfl; exact rfl; exact rfl; decide; decide; (go_simp; exact rfl); exact rfl) | ((with_reducible apply fSli F slStr); exact rfl; exact rfl; exact rfl; decide; decide; (go_simp; exact rfl); exact rfl) | (refine aTQ ?_; clear F; intro W F) | refine aNQ ?_)
  all_goals refine bodyPost_ret (res_c rfl rfl (Fr.get F tL) (rowQ _)) rfl (tap_end (T.less (by omega)) F ⟨_, rfl, ?_⟩)
  all_goals first
    | with_reducible exact right_made hn0 hp0 (code_ok (by decide)) hd0 q22
    | with_reducible exact void_made hn0 hp0 (code_ok (by decide)) hd0
    | with_reducible exact right_made hn0 hp0 (code_ok hc) hd0 q22
    | with_reducible exact void_made hn0 hp0 (code_ok hc) hd0
end
section
open Go.RowKit
set_option maxHeartbeats 4000000
def gb (k : Int) : UInt8 := UInt8.ofNat (48 + k).toNat
theorem gb_nat {k : Int} (h1 : 0 ≤ k) (h2 : k ≤ 9) : ((gb k).toNat : Int) = 48 + k := by
  unfold gb
  rw [UInt8.toNat_ofNat']
  omega
theorem gb_dg {k : Int} (h1 : 0 ≤ k) (h2 : k ≤ 9) : isDg (gb k) = true := by
  have := gb_nat h1 h2
  unfold isDg
  rw [decide_eq_true_eq]
  omega
theorem fmtS_list (y m d : Int) : (fmtS y m d).data.toList = [gb (y / 1000 % 10), gb (y / 100 % 10), gb (y / 10 % 10), gb (y / 1 % 10), 45, gb (m / 10 % 10), gb (m / 1 % 10), 45, gb (d / 10 % 10), gb (d / 1 % 10)] := rfl
theorem ext_list (s : ByteArray) (a b : Nat) : (s.extract a b).data.toList = (s.data.toList.drop a).take (b - a) := by
  rw [ByteArray.data_extract, Array.toList_extract]
theorem numI_of {s : ByteArray} {l : List UInt8} (h : s.data.toList = l) (hd : ∀ c ∈ l, isDg c = true) : numB s = true ∧ numI s = numV l := by
  have hb : numB s = true := by
    unfold numB
    rw [h, List.all_eq_true]
    exact hd
  refine ⟨hb, ?_⟩
  unfold numI
  rw [if_pos hb, h]
theorem parse_fmt {n y m d : Int} (h : CV n y m d) : ParseR (fmtS y m d) n 0 := by
  have y1 := h.y1
  have y2 := h.y2
  have m1 := h.m1
  have m2 := h.m2
  have d1 := h.d1
  have d2 : d ≤ 31 := by have := h.d2; have := len_bd y m; omega
  obtain ⟨a1, a2⟩ := numI_of (s := (fmtS y m d).extract 0 4) (l := [gb (y / 1000 % 10), gb (y / 100 % 10), gb (y / 10 % 10), gb (y / 1 % 10)]) (by rw [ext_list, fmtS_list]; rfl)
    (by intro c hc; simp only [List.mem_cons, List.not_mem_nil, or_false] at hc; rcases hc with rfl | rfl | rfl | rfl <;> exact gb_dg (by omega) (by omega))
  obtain ⟨b1, b2⟩ := numI_of (s := (fmtS y m d).extract 5 7) (l := [gb (m / 10 % 10), gb (m / 1 % 10)]) (by rw [ext_list, fmtS_list]; rfl)
    (by intro c hc; simp only [List.mem_cons, List.not_mem_nil, or_false] at hc; rcases hc with rfl | rfl <;> exact gb_dg (by omega) (by omega))
  obtain ⟨c1, c2⟩ := numI_of (s := (fmtS y m d).extract 8 (fmtS y m d).size) (l := [gb (d / 10 % 10), gb (d / 1 % 10)]) (by rw [ext_list, fmtS_list]; rfl)
    (by intro c hc; simp only [List.mem_cons, List.not_mem_nil, or_false] at hc; rcases hc with rfl | rfl <;> exact gb_dg (by omega) (by omega))
  simp only [numV, List.foldl] at a2 b2 c2
  rw [gb_nat (by omega) (by omega), gb_nat (by omega) (by omega), gb_nat (by omega) (by omega), gb_nat (by omega) (by omega)] at a2
  rw [gb_nat (by omega) (by omega), gb_nat (by omega) (by omega)] at b2
  rw [gb_nat (by omega) (by omega), gb_nat (by omega) (by omega)] at c2
  have hy : numI ((fmtS y m d).extract 0 4) = y := by rw [a2]; omega
  have hm : numI ((fmtS y m d).extract 5 7) = m := by rw [b2]; omega
  have hd : numI ((fmtS y m d).extract 8 (fmtS y m d).size) = d := by rw [c2]; omega
  refine .inr ⟨?_, .inl ⟨?_, rfl⟩⟩
  · unfold formB
    rw [dif_pos (show (fmtS y m d).size = 10 from rfl), a1, b1, c1, decide_eq_true (by exact ⟨rfl, rfl⟩)]
    rfl
  · rw [hy, hm, hd]
    exact h
end
section
theorem no44 {l : List UInt8} {p : UInt8 → Bool} (hp : p 44 = false) (h : l.all p = true) : (44 : UInt8) ∉ l := fun hm => by
  have := List.all_eq_true.1 h _ hm
  rw [hp] at this
  cases this
theorem name_no44 {l : List UInt8} (h : nameB l = true) : (44 : UInt8) ∉ l := by
  unfold nameB at h
  rw [Bool.and_eq_true] at h
  exact no44 (p := fun c => lowB c || digB c) (by decide) h.2
theorem paper_no44 {l : List UInt8} (h : paperB l = true) : (44 : UInt8) ∉ l := by
  unfold paperB capsB at h
  rw [Bool.and_eq_true, Bool.and_eq_true] at h
  exact no44 (p := fun c => capL c || digB c) (by decide) h.1.2
theorem day_back {n : Int} (h : 0 ≤ n ∧ n ≤ 73048) : ParseR (bs (dayL n)) n 0 ∧ (44 : UInt8) ∉ dayL n := by
  obtain ⟨e, he⟩ := dayL_is n
  rcases he with ⟨y, m, d, hc, hs, -⟩ | ⟨hn, -⟩
  · refine ⟨by rw [hs]; exact parse_fmt hc, ?_⟩
    have e2 : dayL n = (fmtS y m d).data.toList := by rw [← hs, bs_list]
    have y1 := hc.y1
    have m1 := hc.m1
    have d1 := hc.d1
    rw [e2, fmtS_list]
    have g : ∀ x : Int, 0 ≤ x → x ≤ 9 → (44 : UInt8) ≠ gb x := fun x h1 h2 e => by
      have := gb_dg h1 h2
      rw [← e] at this
      revert this
      decide
    simp only [List.mem_cons, List.not_mem_nil, or_false, not_or]
    refine ⟨?_, ?_, ?_, ?_, by decide, ?_, ?_, by decide, ?_, ?_⟩ <;> exact g _ (by omega) (by omega)
  · exact absurd h hn
theorem right_parts {q : QT} (h : q.right = true) : nameB q.src = true ∧ paperB q.ins = true ∧ codeB q.cur = true ∧ (0 ≤ q.day ∧ q.day ≤ 73048) ∧ (if q.void = true then q.noP else q.price) = true := by
  unfold QT.right at h
  simp only [Bool.and_eq_true, decide_eq_true_eq] at h
  exact ⟨h.1, h.2.1, h.2.2.1, h.2.2.2.1, h.2.2.2.2⟩
end
section
open Go.RowKit
set_option maxHeartbeats 4000000
theorem zz32 : (0 : Int).natAbs < bp 32 := bp_pos 32
theorem prs_b (s : List UInt8) (p : Int) : (prsR s p).1.natAbs < bp 32 ∧ (prsR s p).2.1.natAbs < bp 32 := by
  by_cases h : (prsR s p).2.2 = 0
  · exact okZ_b (prs_valid h).1
  · unfold prsR at h ⊢
    split
    · exact ⟨zz32, zz32⟩
    · rename_i hd
      rw [if_neg hd] at h
      dsimp only at h ⊢
      split
      · exact ⟨zz32, zz32⟩
      · rename_i hd2
        rw [if_neg hd2] at h
        unfold prsB at h ⊢
        dsimp only at h ⊢
        split
        · exact ⟨zz32, zz32⟩
        · rename_i hd3
          rw [if_neg hd3] at h
          exact absurd rfl h
end
end Go.Proofs.YteaahhokaffmdaaGreatDoor
