/-
  Marks that are valid: the program's map of those that count as known, and its list.
-/
import Derived.Test.YtllloldheofljaaMarks2
import Derived.Test.YtllloldheofljaaShelf
import Derived.Maps.OwnSet
import Derived.Maps.OwnOps
import Derived.Maps.RangeWalk
import Derived.Maps.AppendAt
import Derived.Deep.AppendLies
import Derived.Sort.KeysCollected
import Derived.Sort.OwnSorted
namespace Go.Proofs.Ytllloldheofljaa
open Go.RowKit Go.Maps
set_option linter.unusedVariables false
set_option maxHeartbeats 4000000
theorem lawS : Keyed Try.prog 9 := string_keyed Try.underlying9
/-- What a map of numbers holds. -/
structure MapC (D : DataW Unit) (f : ByteArray → Option Nat) : Prop where
  map : IsMap D
  no : ∀ key, f key = none → has D (.string key.data.toList) = false
  yes : ∀ key i, f key = some i → ∀ z, D.atKey (.string key.data.toList) z = .lit (.int .i64 (i : Int))
theorem data_inj {a b : ByteArray} (h : a.data.toList = b.data.toList) : a = b := by
  cases a
  cases b
  simp at h
  rw [h]
theorem MapC.put {D : DataW Unit} {f g : ByteArray → Option Nat} (h : MapC D f) (k0 : ByteArray) (i : Nat) (h1 : g k0 = some i) (h2 : ∀ key, key ≠ k0 → g key = f key) : MapC (D.put (.string k0.data.toList) (.lit (.int .i64 (i : Int)))) g := by
  refine ⟨h.map.put _ _, fun key hk => ?_, fun key j hk z => ?_⟩
  · by_cases e : key = k0
    · subst e
      rw [h1] at hk
      cases hk
    · rw [has_put_other (fun e2 => e (data_inj (by injection e2)))]
      exact h.no key (by rw [← h2 key e]; exact hk)
  · by_cases e : key = k0
    · subst e
      rw [h1] at hk
      injection hk with hk
      subst hk
      exact atKey_put_same h.map (by simp [WideAt.IsKeyLit]) _ _
    · rw [atKey_put_other (fun e2 => e (data_inj (by injection e2)))]
      exact h.yes key j (by rw [← h2 key e]; exact hk) z
theorem MapC.del {D : DataW Unit} {f g : ByteArray → Option Nat} (h : MapC D f) (k0 : ByteArray) (h1 : g k0 = none) (h2 : ∀ key, key ≠ k0 → g key = f key) : MapC (D.del (.string k0.data.toList)) g := by
  refine ⟨h.map.del _, fun key hk => ?_, fun key j hk z => ?_⟩
  · by_cases e : key = k0
    · subst e
      exact has_del_same
    · rw [has_del_other (fun e2 => e (data_inj (by injection e2)))]
      exact h.no key (by rw [← h2 key e]; exact hk)
  · by_cases e : key = k0
    · subst e
      rw [h1] at hk
      cases hk
    · rw [atKey_del_other (fun e2 => e (data_inj (by injection e2)))]
      exact h.yes key j (by rw [← h2 key e]; exact hk) z
theorem MapC.congr {D : DataW Unit} {f g : ByteArray → Option Nat} (h : MapC D f) (e : ∀ key, g key = f key) : MapC D g := ⟨h.map, fun key hk => h.no key (by rw [← e]; exact hk), fun key i hk => h.yes key i (by rw [← e]; exact hk)⟩
theorem MapC.nil (f : ByteArray → Option Nat) (h : ∀ key, f key = none) : MapC (.map []) f := ⟨isMap_empty, fun key _ => rfl, fun key i hk => by rw [h] at hk; cases hk⟩
/-- The map that the program makes of marks. -/
def CntP (l : List MK) (k : Int) (w : World) (e : Ending) (w' : World) : Prop :=
  ∃ (B n : Nat) (D : DataW Unit), e = .returned (.map (some B)) ∧ w'.ownsMap Try.prog 9 (plainElem Try.prog 3) B n D ∧ n ≤ l.length ∧ MapC D (fun key => cntN l k key l.length) ∧ w.heap.size ≤ B ∧ Below w.heap.size w w'
theorem wf64n {x : Nat} (h : x ≤ 100000) : (Lit.int .i64 (x : Int)).wf = true := WalkArith.wf_i64 (by omega)
set_option maxRecDepth 100000 in
theorem cnt_ok (l : List MK) (hv : mksB l = true) (k : Int) (A : Option Addr) (cp : Nat) (w : World) (h : MkAt w A l) : Calls Try.prog 132 #[.slice A l.length cp, .int .i64 k] w (CntP l k w) := by
  have hl := mksB_len hv
  have H := Lib.hid h
  have HV := Lib.hid (mksB_from hv)
  clear hv h
  have hmm := @run_makeMap Try.prog
  go_enter Try.func132, Try.ntmps132
  go_wp2_with fail
  go_loopw [11] (fun iv wr => ∃ (i : Nat) (D : DataW Unit), i ≤ l.length ∧ iv = .int .i64 i ∧ wr.ownsMap Try.prog 9 (plainElem Try.prog 3) w.heap.size i D ∧ MapC D (fun key => cntN l k key i) ∧ Below w.heap.size w wr) (fun iv _ => l.length - (intOf iv).toNat)
  case atStart => exact ⟨0, .map [], by omega, rfl, World.ownsMap_made _ _ _ _, MapC.nil _ (fun key => cntN_zero ..), bal0 _ _⟩
  case round =>
    obtain ⟨i, D, hi, rfl, hown, hM, hB⟩ := hrel
    have HM := Lib.hid hM
    clear hM
    by_cases hlt : i < l.length
    · obtain ⟨b, o, x, rfl, hx, hbl, hsm, q0, q1, q2⟩ := (H.out.below hB).get hlt
      have hown1 := hown.alloc (.cells (mkV x) 149)
      obtain ⟨p0, p1, p2⟩ := mkQ (BlkAt.new wr (mkV x) 149)
      have hkey : keyOf Try.prog 9 (.string x.key) = some (.string x.key.data.toList) := WideMaps.keyOf_string_mk Try.underlying9 hsm
      have hB2 := bal hB (.cells (mkV x) 149)
      have hBs := hB.size
      have HX := Lib.hid hx
      have HO := Lib.hid hown1
      have HKE := Lib.hid hkey
      have HB2 := Lib.hid hB2
      clear hx hown hown1 hkey hB2
      by_cases hk : k < x.known
      · have HK := Lib.hid hk
        go_wp2_with ((with_reducible refine wpl_store_new rfl 149 _ _ rfl (mkV x) ?_ ?_ (rowMk _) ?_ ?_); exact rfl; exact rfl; exact rfl)
        go_ret
        exact ⟨w.heap.size, i, D, rfl, HO.out, hi, HM.out.congr (fun key => cntN_stop HV.out HX.out HK.out hi key), Nat.le_refl _, HB2.out⟩
      · have g0 : decide (k < x.known) = false := by simpa using hk
        have HK := Lib.hid (Int.not_lt.1 hk)
        clear hk
        cases hvd : x.void
        · have HVD := Lib.hid hvd
          rw [hvd] at p2
          clear hvd
          go_wp2_with (first
            | ((with_reducible refine wpl_store_new rfl 149 _ _ rfl (mkV x) ?_ ?_ (rowMk _) ?_ ?_); exact rfl; exact rfl; exact rfl)
            | (at_mapUpdate; refine wpList_mapUpdate_own _ rfl _ _ _ 167 rfl 9 3 lawS Try.underlying167 _ w.heap.size i _ rfl HO.out (by unfold maxLen; omega) _ _ _ rfl rfl HKE.out _ [] (plainElem_int Try.underlying3 (wf64n (by omega))) ?_; intro w1 hown1 hgrow1))
          go_roundw
          case rel => exact ⟨i + 1, _, by omega, by go_num, hown1, HM.out.put x.key i (cntN_set HX.out HK.out HVD.out) (fun key hne => cntN_miss HX.out (fun e => hne e.symm)), HB2.out.grown hgrow1 HB2.out.size (fun j hj => by cases hj; exact Nat.le_refl _)⟩
          case measure => simp [intOf]; omega
        · have HVD := Lib.hid hvd
          rw [hvd] at p2
          clear hvd
          go_wp2_with (first
            | ((with_reducible refine wpl_store_new rfl 149 _ _ rfl (mkV x) ?_ ?_ (rowMk _) ?_ ?_); exact rfl; exact rfl; exact rfl)
            | (at_delete; refine wpList_delete_own _ rfl _ _ 167 9 rfl 3 lawS Try.underlying167 _ w.heap.size i _ rfl HO.out _ _ rfl HKE.out ?_; intro w1 hown1 hturn1))
          go_roundw
          case rel => exact ⟨i + 1, _, by omega, by go_num, hown1.mono (by omega), HM.out.del x.key (cntN_void HX.out HK.out HVD.out) (fun key hne => cntN_miss HX.out (fun e => hne e.symm)), HB2.out.grown hturn1.grown HB2.out.size (fun j hj => by cases hj; exact Nat.le_refl _)⟩
          case measure => simp [intOf]; omega
    · have hie : i = l.length := by omega
      go_wp2
      go_ret
      exact ⟨w.heap.size, i, D, rfl, hown, hi, HM.out.congr (fun key => by rw [hie]), Nat.le_refl _, hB⟩
end Go.Proofs.Ytllloldheofljaa
