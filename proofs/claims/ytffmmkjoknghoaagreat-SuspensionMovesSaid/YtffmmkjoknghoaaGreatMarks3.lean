/-
  Marks that are valid: the program's map of those that count as known, and its list.
  Marks that are valid: the program's list of those that count as known.
-/
import Derived.Test.YtffmmkjoknghoaaGreatMarks
import Derived.Test.YtffmmkjoknghoaaGreatShelf
import Derived.Maps.OwnSet
import Derived.Maps.OwnOps
import Derived.Maps.RangeWalk
import Derived.Maps.AppendAt
import Derived.Deep.AppendLies
import Derived.Sort.KeysCollected
import Derived.Sort.OwnSorted
import Derived.Sort.OwnSortedInts
namespace Go.Proofs.YtffmmkjoknghoaaGreat
section
open Go.RowKit Go.Maps
set_option linter.unusedVariables false
set_option maxHeartbeats 4000000
theorem lawS : Keyed Tryz.prog 9 := string_keyed Tryz.underlying9
/-- What a map of numbers holds. -/
structure MapC (D : DataW Unit) (f : ByteArray → Option Nat) : Prop where
  map : IsMap D
  no : ∀ key, f key = none → has D (.string key.data.toList) = false
  yes : ∀ key i, f key = some i → ∀ z, D.atKey (.string key.data.toList) z = .lit (.int .i64 (i : Int))
theorem data_inj {a b : ByteArray} (h : a.data.toList = b.data.toList) : a = b := by
  cases a
  cases b
  simp at h
  rw [h]
theorem MapC.put {D : DataW Unit} {f g : ByteArray → Option Nat} (h : MapC D f) (k0 : ByteArray) (i : Nat) (h1 : g k0 = some i) (h2 : ∀ key, key ≠ k0 → g key = f key) : MapC (D.put (.string k0.data.toList) (.lit (.int .i64 (i : Int)))) g := by
  refine ⟨h.map.put _ _, fun key hk => ?_, fun key j hk z => ?_⟩
  · by_cases e : key = k0
    · subst e
      rw [h1] at hk
      cases hk
    · rw [has_put_other (fun e2 => e (data_inj (by injection e2)))]
      exact h.no key (by rw [← h2 key e]; exact hk)
  · by_cases e : key = k0
    · subst e
      rw [h1] at hk
      injection hk with hk
      subst hk
      exact atKey_put_same h.map (by simp [WideAt.IsKeyLit]) _ _
    · rw [atKey_put_other (fun e2 => e (data_inj (by injection e2)))]
      exact h.yes key j (by rw [← h2 key e]; exact hk) z
theorem MapC.del {D : DataW Unit} {f g : ByteArray → Option Nat} (h : MapC D f) (k0 : ByteArray) (h1 : g k0 = none) (h2 : ∀ key, key ≠ k0 → g key = f key) : MapC (D.del (.string k0.data.toList)) g := by
  refine ⟨h.map.del _, fun key hk => ?_, fun key j hk z => ?_⟩
  · by_cases e : key = k0
    · subst e
      exact has_del_same
    · rw [has_del_other (fun e2 => e (data_inj (by injection e2)))]
      exact h.no key (by rw [← h2 key e]; exact hk)
  · by_cases e : key = k0
    · subst e
      rw [h1] at hk
      cases hk
    · rw [atKey_del_other (fun e2 => e (data_inj (by injection e2)))]
      exact h.yes key j (by rw [← h2 key e]; exact hk) z
theorem MapC.congr {D : DataW Unit} {f g : ByteArray → Option Nat} (h : MapC D f) (e : ∀ key, g key = f key) : MapC D g := ⟨h.map, fun key hk => h.no key (by rw [← e]; exact hk), fun key i hk => h.yes key i (by rw [← e]; exact hk)⟩
theorem MapC.nil (f : ByteArray → Option Nat) (h : ∀ key, f key = none) : MapC (.map []) f := ⟨isMap_empty, fun key _ => rfl, fun key i hk => by rw [h] at hk; cases hk⟩
/-- The map that the program makes of marks. -/
def CntP (l : List MK) (k : Int) (w : World) (e : Ending) (w' : World) : Prop :=
  ∃ (B n : Nat) (D : DataW Unit), e = .returned (.map (some B)) ∧ w'.ownsMap Tryz.prog 9 (plainElem Tryz.prog 3) B n D ∧ n ≤ l.length ∧ MapC D (fun key => cntN l k key l.length) ∧ w.heap.size ≤ B ∧ Below w.heap.size w w'
theorem wf64n {x : Nat} (h : x ≤ 100000) : (Lit.int .i64 (x : Int)).wf = true := WalkArith.wf_i64 (by omega)
set_option maxRecDepth 100000 in
theorem cnt_ok (l : List MK) (hv : mksB l = true) (k : Int) (A : Option Addr) (cp : Nat) (w : World) (h : MkAt w A l) : Calls Tryz.prog 95 #[.slice A l.length cp, .int .i64 k] w (CntP l k w) := by
  have hl := mksB_len hv
  have H := Lib.hid h
  have HV := Lib.hid (mksB_from hv)
  clear hv h
  have hmm := @run_makeMap Tryz.prog
  go_enter Tryz.func95, Tryz.ntmps95
  go_wp2_with fail
  go_loopw [11] (fun iv wr => ∃ (i : Nat) (D : DataW Unit), i ≤ l.length ∧ iv = .int .i64 i ∧ wr.ownsMap Tryz.prog 9 (plainElem Tryz.prog 3) w.heap.size i D ∧ MapC D (fun key => cntN l k key i) ∧ Below w.heap.size w wr) (fun iv _ => l.length - (intOf iv).toNat)
  case atStart => exact ⟨0, .map [], by omega, rfl, World.ownsMap_made _ _ _ _, MapC.nil _ (fun key => cntN_zero ..), bal0 _ _⟩
  case round =>
    obtain ⟨i, D, hi, rfl, hown, hM, hB⟩ := hrel
    have HM := Lib.hid hM
    clear hM
    by_cases hlt : i < l.length
    · obtain ⟨b, o, x, rfl, hx, hbl, hsm, q0, q1, q2⟩ := (H.out.below hB).get hlt
      have hown1 := hown.alloc (.cells (mkV x) 119)
      obtain ⟨p0, p1, p2⟩ := mkQ (BlkAt.new wr (mkV x) 119)
      have hkey : keyOf Tryz.prog 9 (.string x.key) = some (.string x.key.data.toList) := WideMaps.keyOf_string_mk Tryz.underlying9 hsm
      have hB2 := bal hB (.cells (mkV x) 119)
      have hBs := hB.size
      have HX := Lib.hid hx
      have HO := Lib.hid hown1
      have HKE := Lib.hid hkey
      have HB2 := Lib.hid hB2
      clear hx hown hown1 hkey hB2
      by_cases hk : k < x.known
      · have HK := Lib.hid hk
        go_wp2_with ((with_reducible refine wpl_store_new rfl 119 _ _ rfl (mkV x) ?_ ?_ (rowMk _) ?_ ?_); exact rfl; exact rfl; exact rfl)
        go_ret
        exact ⟨w.heap.size, i, D, rfl, HO.out, hi, HM.out.congr (fun key => cntN_stop HV.out HX.out HK.out hi key), Nat.le_refl _, HB2.out⟩
      · have g0 : decide (k < x.known) = false := by simpa using hk
        have HK := Lib.hid (Int.not_lt.1 hk)
        clear hk
        cases hvd : x.void
        · have HVD := Lib.hid hvd
          rw [hvd] at p2
          clear hvd
          go_wp2_with (first
            | ((with_reducible refine wpl_store_new rfl 119 _ _ rfl (mkV x) ?_ ?_ (rowMk _) ?_ ?_); exact rfl; exact rfl; exact rfl)
            | (at_mapUpdate; refine wpList_mapUpdate_own _ rfl _ _ _ 151 rfl 9 3 lawS Tryz.underlying151 _ w.heap.size i _ rfl HO.out (by unfold maxLen; omega) _ _ _ rfl rfl HKE.out _ [] (plainElem_int Tryz.underlying3 (wf64n (by omega))) ?_; intro w1 hown1 hgrow1))
          go_roundw
          case rel => exact ⟨i + 1, _, by omega, by go_num, hown1, HM.out.put x.key i (cntN_set HX.out HK.out HVD.out) (fun key hne => cntN_miss HX.out (fun e => hne e.symm)), HB2.out.grown hgrow1 HB2.out.size (fun j hj => by cases hj; exact Nat.le_refl _)⟩
          case measure => simp [intOf]; omega
        · have HVD := Lib.hid hvd
          rw [hvd] at p2
          clear hvd
          go_wp2_with (first
            | ((with_reducible refine wpl_store_new rfl 119 _ _ rfl (mkV x) ?_ ?_ (rowMk _) ?_ ?_); exact rfl; exact rfl; exact rfl)
            | (at_delete; refine wpList_delete_own _ rfl _ _ 151 9 rfl 3 lawS Tryz.underlying151 _ w.heap.size i _ rfl HO.out _ _ rfl HKE.out ?_; intro w1 hown1 hturn1))
          go_roundw
          case rel => exact ⟨i + 1, _, by omega, by go_num, hown1.mono (by omega), HM.out.del x.key (cntN_void HX.out HK.out HVD.out) (fun key hne => cntN_miss HX.out (fun e => hne e.symm)), HB2.out.grown hturn1.grown HB2.out.size (fun j hj => by cases hj; exact Nat.le_refl _)⟩
          case measure => simp [intOf]; omega
    · have hie : i = l.length := by omega
      go_wp2
      go_ret
      exact ⟨w.heap.size, i, D, rfl, hown, hi, HM.out.congr (fun key => by rw [hie]), Nat.le_refl _, hB⟩
end
section
open Go.RowKit Go.Maps
set_option linter.unusedVariables false
set_option maxHeartbeats 4000000
/-- What has been collected while ranging over the map. -/
structure CollI (f : ByteArray → Option Nat) (left : Lit → Bool) (out : List Int) : Prop where
  nodup : out.Nodup
  mem : ∀ i : Int, i ∈ out ↔ ∃ key j, f key = some j ∧ i = (j : Int) ∧ left (.string key.data.toList) = false
theorem CollI.start {D : DataW Unit} {f : ByteArray → Option Nat} (h : MapC D f) : CollI f (has D) [] := ⟨List.nodup_nil, fun i => by
  constructor
  · intro hi
    simp at hi
  · rintro ⟨key, j, h1, -, h2⟩
    have := has_true_of_atKey (h.yes key j h1)
    rw [this] at h2
    cases h2⟩
theorem CollI.step {D : DataW Unit} {f : ByteArray → Option Nat} {left : Lit → Bool} {out : List Int} (h : CollI f left out) (hM : MapC D f) (inj : ∀ k1 k2 j, f k1 = some j → f k2 = some j → k1 = k2) {x : List UInt8} {c : Int} (hl : left (.string x) = true) (hat : ∀ zd, D.atKey (.string x) zd = .lit (.int .i64 c)) :
    CollI f (fun z => left z && !z.sameKey (.string x)) (out ++ [c]) := by
  obtain ⟨key, rfl⟩ : ∃ key : ByteArray, key.data.toList = x := ⟨⟨x.toArray⟩, by simp⟩
  have hhas := has_true_of_atKey hat
  obtain ⟨j, hj⟩ : ∃ j, f key = some j := by
    cases hf : f key with
    | none =>
      rw [hM.no key hf] at hhas
      cases hhas
    | some j => exact ⟨j, rfl⟩
  have hc : c = (j : Int) := by
    have h1 := hat (.lit (.int .i64 0))
    rw [hM.yes key j hj] at h1
    injection h1 with h1
    injection h1 with h1 h2
    exact h2.symm
  subst hc
  have hnew : (j : Int) ∉ out := fun hx => by
    obtain ⟨k2, j2, h1, h2, h3⟩ := (h.mem _).1 hx
    obtain rfl : j = j2 := by omega
    have := inj _ _ _ hj h1
    subst this
    rw [hl] at h3
    cases h3
  refine ⟨List.nodup_append.2 ⟨h.nodup, by simp, fun a ha b hb e => ?_⟩, fun i => ?_⟩
  · simp at hb
    subst hb e
    exact hnew ha
  · rw [List.mem_append]
    constructor
    · rintro (hi | hi)
      · obtain ⟨k2, j2, h1, h2, h3⟩ := (h.mem _).1 hi
        exact ⟨k2, j2, h1, h2, by simp [h3]⟩
      · simp at hi
        exact ⟨key, j, hj, hi, by simp [Lit.sameKey]⟩
    · rintro ⟨k2, j2, h1, h2, h3⟩
      by_cases e : k2 = key
      · subst e
        rw [hj] at h1
        injection h1 with h1
        subst h1
        exact .inr (by simp [h2])
      · refine .inl ((h.mem _).2 ⟨k2, j2, h1, h2, ?_⟩)
        have hs : (Lit.string k2.data.toList).sameKey (.string key.data.toList) = false := sameKey_ne (fun e2 => e (data_inj (by injection e2)))
        rw [hs] at h3
        simpa using h3
theorem cnt_inj {ms : List MK} {k : Int} {n : Nat} (k1 k2 : ByteArray) (j : Nat) (h1 : cntN ms k k1 n = some j) (h2 : cntN ms k k2 n = some j) : k1 = k2 := by
  obtain ⟨m, a1, a2, -⟩ := cntN_key h1
  obtain ⟨m2, b1, b2, -⟩ := cntN_key h2
  rw [a1] at b1
  injection b1 with b1
  subst b1
  rw [← a2, b2]
/-- Sorted, they are the visible ones. -/
theorem CollI.sorted {ms : List MK} {k : Int} {left : Lit → Bool} {out : List Int} (h : CollI (fun key => cntN ms k key ms.length) left out) (hl : ∀ kl, left kl = false) : out.mergeSort (fun x y => decide (x ≤ y)) = vis ms k := by
  have hasc : (vis ms k).Pairwise (· < ·) := visF_asc _
  have hp : out.Perm (vis ms k) := by
    refine (List.perm_ext_iff_of_nodup h.nodup (hasc.imp (fun h => by omega))).2 fun i => ?_
    rw [h.mem]
    constructor
    · rintro ⟨key, j, h1, rfl, -⟩
      exact (cntN_vis j).1 ⟨key, h1⟩
    · intro hi
      have hi2 := hi
      unfold vis at hi2
      obtain ⟨j, rfl, -, -⟩ := (visF_mem i _).1 hi2
      obtain ⟨key, hkey⟩ := (cntN_vis j).2 hi
      exact ⟨key, j, hkey, rfl, hl _⟩
  have tr : ∀ a b c : Int, decide (a ≤ b) = true → decide (b ≤ c) = true → decide (a ≤ c) = true := fun a b c h1 h2 => by simp only [decide_eq_true_eq] at *; omega
  have to : ∀ a b : Int, (decide (a ≤ b) || decide (b ≤ a)) = true := fun a b => by simp only [Bool.or_eq_true, decide_eq_true_eq]; omega
  refine List.Perm.eq_of_pairwise (le := fun a b => decide (a ≤ b) = true) (fun a b _ _ h1 h2 => ?_) (List.pairwise_mergeSort tr to out) (hasc.imp (fun h => by simp; omega)) ((List.mergeSort_perm out _).trans hp)
  simp only [decide_eq_true_eq] at h1 h2
  omega
theorem own_low {W : World} {B B' : Nat} {e : TypeId} {sz : Nat} {v : Value} {n : Nat} {xs : List Value} (h : W.ownsRow B e sz v n xs) (hB : B' ≤ B) : W.ownsRow B' e sz v n xs := by
  obtain ⟨h1, h2⟩ := h
  refine ⟨h1, ?_⟩
  rcases h2 with h2 | ⟨g, cap, cur, a, b, c⟩
  · exact .inl h2
  · exact .inr ⟨g, cap, cur, a, Nat.le_trans hB b, c⟩
section
variable {P : Program} {ops : Array Oper} {rest : List Oper} {o : Oper} {a : Act} {Q : Exit → Act → World → Prop}
theorem wpl_pushB {T E : TypeId} {sz bytes : Nat} (hel : ElT P T E sz bytes) (hgd : o.guard = none) (s x : Operand) (ho : o.op = .call { callee := .builtin .append, args := #[s, x], argTypes := #[T, T] })
    {W : World} {B : Nat} {v : Value} {n : Nat} {xs : List Value} (hO : W.ownsRow B E sz v n xs) (hBW : B ≤ W.heap.size) (hs : a.eval s = v) (news : Array Value) (hx : a.eval x = .slice (some ⟨W.heap.size, 0, none⟩) 1 1) (hl : news.size = sz) (h1 : news.toList.all (·.oneCell') = true)
    (hn : n ≤ 100000) (hb : bytes ≤ 10000)
    (h : ∀ v' w', w'.ownsRow B E sz v' (n + 1) (xs ++ news.toList) → (W.alloc (.cells news E)).grownBy w' v.ownBlock → wpList P ops Q rest (a.put o.dst v') w') : wpList P ops Q (o :: rest) a (W.alloc (.cells news E)) := by
  obtain ⟨i, z, hi, hz, hsz, hby, hzs⟩ := hel.info
  refine wpList_append_own _ hgd s x T ho B E i z sz bytes hel.sl hi hz hsz hby hzs hel.pos v n xs hs (hO.alloc _) ⟨W.heap.size, 0, none⟩ 1 1 news.toList hx (by simp [hl]) (fun j u hj => ?_) (fun u hu => ?_) (by unfold maxLen; omega) ?_ (by simp; omega) ?_
  · rw [Go.WideShapes.add_plain, Nat.zero_add, World.cell?_alloc_new]
    simpa using hj
  · exact List.all_eq_true.1 h1 u hu
  · have : (n + 1) * bytes ≤ 100001 * 10000 := Nat.mul_le_mul (by omega) hb
    omega
  · intro v' w' hown hg _
    exact h v' w' hown hg
end
open Go.Sort in
set_option maxRecDepth 100000 in
theorem sVis_ok (l : List MK) (hv : mksB l = true) (k : Int) (A : Option Addr) (cp : Nat) (w : World) (h : MkAt w A l) : Calls Tryz.prog 66 #[.slice A l.length cp, .int .i64 k] w (ListP (vis l k) w) := by
  have hl := mksB_len hv
  have H := Lib.hid h
  have HV := Lib.hid hv
  clear hv h
  go_enter Tryz.func66, Tryz.ntmps66
  go_wp2_with fail
  refine (aChk_ok l HV.out A cp _ H.out).mono ?_
  rintro e w1 ⟨rfl, hb1⟩
  have HB1 := Lib.hid hb1
  clear hb1
  go_wp2_with fail
  refine (cnt_ok l HV.out k A cp _ (H.out.below HB1.out)).mono ?_
  rintro e w2 ⟨B, n, D, rfl, hown, hn, hM, hBB, hb2⟩
  have HB2 := Lib.hid (bnext HB1.out hb2)
  have hs2 := HB2.out.size
  have hs1 := HB1.out.size
  have HM := Lib.hid hM
  have HOWN := Lib.hid hown
  have hBl := hown.lt
  have hsz := hown.size_le
  clear hb2 hM hown HB1
  go_wp2_with (at_range; refine wpList_range_own _ rfl _ 151 rfl 9 3 lawS Tryz.underlying151 _ B n _ rfl HOWN.out ?_; intro w3 hrg3 hg3 hs3)
  have HB3 : Hid (Below w.heap.size w w3) := Lib.hid (HB2.out.grown hg3 hs2 (fun j hj => by cases hj))
  have hr3 : w2.heap.size < w3.heap.size := by omega
  have HR3 := Lib.hid hrg3
  clear hrg3 hg3 hs3 HOWN
  go_frame
  go_loopw [7] (fun ov wr => ∃ (left : Lit → Bool) (cnt : Nat) (out : List Int), wr.ranges Tryz.prog 9 (plainElem Tryz.prog 3) B w2.heap.size n D left cnt ∧ CollI (fun key => cntN l k key l.length) left out ∧ out.length + cnt ≤ n ∧ wr.ownsRow w3.heap.size 3 1 ov out.length (out.map (.int .i64)) ∧ w3.heap.size ≤ wr.heap.size ∧ Below w.heap.size w wr) (fun _ wr => wr.rangeLeft B w2.heap.size)
  case atStart => exact ⟨_, _, [], HR3.out, CollI.start HM.out, by simpa using hsz, World.ownsRow_nil .., Nat.le_refl _, HB3.out⟩
  case round =>
    obtain ⟨left, cnt, out, hrg, hC, hcnt, hown, hws, hB⟩ := hrel
    have HC := Lib.hid hC
    have HO := Lib.hid hown
    have HR := Lib.hid hrg
    have HB := Lib.hid hB
    clear hC hown hrg hB HR3 HB3
    go_wp2_with (at_next; refine wpList_next_ranges _ rfl _ rfl 9 lawS _ encStr (Value.int .i64) (fun key kl hk => by obtain ⟨x, hx, _⟩ := Maps.keyOf_str Tryz.underlying9 hk; exact ⟨x, hx⟩) (fun v y hv => by obtain ⟨c, rfl, _⟩ := plainElem_int_inv Tryz.underlying3 hv; exact ⟨c, rfl⟩) B w2.heap.size n _ _ _ rfl HR.out ?_ ?_)
    · intro _ hl0
      have HL0 := Lib.hid hl0
      clear hl0
      have hS := HC.out.sorted HL0.out
      rcases HO.out.2 with ⟨rfl, h0⟩ | ⟨g, cap, cur, rfl, hbase, hb, h1, h2, h3, h4⟩
      · have hv0 : vis l k = [] := by
          rw [← hS, List.eq_nil_of_length_eq_zero h0, List.mergeSort_nil]
        have HV0 := Lib.hid hv0
        have Z := Lib.hid (show (0 : Nat) = out.length from h0.symm)
        clear hS hv0 h0
        have hc := Tryz.slices_Sort_int_none none 0 wr
        go_wp2_with (go_at_call 96; refine hc.mono ?_; rintro e w' ⟨rfl, rfl⟩)
        go_ret2
        exact ⟨_, rfl, HB.out, by rw [HV0.out]; exact World.ownsRow_nil ..⟩
      · have hH := holds_of_blockI hb (by simpa using h4)
        have hgl : g < wr.heap.size := (Array.getElem?_eq_some_iff.1 hb).1
        have hc := Tryz.slices_Sort_int g 0 cap out wr hH hgl (by omega)
        have hlen : (vis l k).length = out.length := by rw [← hS, List.length_mergeSort]
        rw [hS] at hc
        have FIN : Hid (∀ nn os, OwnL w (grow (putRow (Value.int .i64) (Sort.ahead wr nn) g 0 (vis l k).toArray) os) 3 1 (.slice (some ⟨g, 0, none⟩) out.length cap) (vis l k).length ((vis l k).map (.int .i64))) := Lib.hid (fun nn os => by
          have h5 := ownsRow_sortedI (n := nn) (os := os) hlen (Nat.le_trans (show w.heap.size ≤ w3.heap.size by omega) hbase) hb h1 h2 h3
          exact ⟨HB.out.grown (grownBy_sortedI _) HB.out.size (fun j hj => by cases hj; omega), by rw [hlen]; exact h5⟩)
        clear hS hH hlen hb h1 h2 h3 h4
        go_wp2_with (go_at_call 96; refine hc.mono ?_; rintro e w' ⟨rfl, nn, os, rfl⟩)
        go_ret2
        exact ⟨_, rfl, FIN.out _ _⟩
    · intro x c kl yd yp w4 cnt4 hkey hlk hv4 hat hrg4 hlt hg4 hs4 hen
      obtain ⟨x', ex, rfl, -⟩ := Maps.keyOf_str Tryz.underlying9 hkey
      obtain rfl : x = x' := encStr_inj ex
      obtain ⟨c', ec, ez, -⟩ := plainElem_int_inv Tryz.underlying3 hv4
      obtain rfl : c = c' := by injection ec
      have hat2 : ∀ zd, D.atKey (.string x) zd = .lit (.int .i64 c) := fun zd => by rw [hat zd]; exact (congrArg Prod.fst ez)
      have hC2 := HC.out.step HM.out (fun k1 k2 j => cnt_inj k1 k2 j) hlk hat2
      have hO4 := HO.out.kept hg4 (.inr (fun e => by have := (HO.out.lt _ e).1; omega))
      have hB4 : Below w.heap.size w w4 := HB.out.grown hg4 HB.out.size (fun j hj => by cases hj; omega)
      have hw4 : w3.heap.size ≤ w4.heap.size := by omega
      have HC2 := Lib.hid hC2
      have HO4 := Lib.hid hO4
      have HB4 := Lib.hid hB4
      have HR4 := Lib.hid hrg4
      have HR0 := Lib.hid HR.out
      clear hC2 hO4 hB4 hrg4 hat hat2 hv4 hkey hs4 ez
      go_wp2_with (at_builtin; refine wpl_pushB elInt rfl _ _ rfl HO4.out hw4 rfl #[.int .i64 c] rfl rfl rfl (by omega) (by decide) ?_; intro v' w5 hO5 hg5)
      have hR5 := (HR4.out.alloc (.cells #[.int .i64 c] 3)).kept hg5 (fun e => by have := (HO4.out.lt _ e.symm).1; omega) (fun e => by have := (HO4.out.lt _ e.symm).1; omega)
      have hB5 : Below w.heap.size w w5 := ((bal HB4.out (.cells #[.int .i64 c] 3)).grown hg5 (bal HB4.out (.cells #[.int .i64 c] 3)).size (fun j hj => by have := (HO4.out.lt _ hj).1; omega))
      go_roundw
      case rel => exact ⟨_, cnt4, out ++ [c], hR5, HC2.out, by simp; omega, by simpa using hO5, by have := hg5.size; simp at this; omega, hB5⟩
      case measure => rw [hR5.left_eq, HR0.out.left_eq]; omega
end
end Go.Proofs.YtffmmkjoknghoaaGreat
