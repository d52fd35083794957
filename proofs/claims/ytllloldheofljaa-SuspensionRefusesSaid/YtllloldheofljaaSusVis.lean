/-
  The suspensions of a fund that count as known: the document's.
-/
import Derived.Test.YtllloldheofljaaMarks4
import Derived.Test.YtllloldheofljaaSusCheck2
import Derived.Test.YtllloldheofljaaNameWalk
namespace Go.Proofs.Ytllloldheofljaa
open Go.RowKit
set_option linter.unusedVariables false
set_option maxHeartbeats 4000000
theorem elMark : ElT Try.prog 147 149 3 32 := ElT.of (z := .agg #[.string ⟨#[]⟩, .int .i64 0, .bool false]) Try.underlying147 (by kernel_rfl) rfl (by decide)
theorem elSus : ElT Try.prog 59 72 6 64 := ElT.of (z := .agg #[.string ⟨#[]⟩, .string ⟨#[]⟩, .int .i64 0, .int .i64 0, .int .i64 0, .bool false]) Try.underlying59 (by kernel_rfl) rfl (by decide)
/-- A slice of the call's own, beside a list of suspensions. -/
structure MV (w W : World) (E : TypeId) (sz : Nat) (v : Value) (n : Nat) (xs : List Value) (A : Option Addr) (l : List SU) : Prop where
  own : OwnL w W E sz v n xs
  su : SuAt W A l
theorem MV.next {w W W' : World} {E : TypeId} {sz : Nat} {v : Value} {n : Nat} {xs : List Value} {A : Option Addr} {l : List SU} (h : MV w W E sz v n xs A l) (hb : Below W.heap.size W W') : MV w W' E sz v n xs A l := ⟨h.own.next hb, h.su.below hb⟩
theorem SuAt.q3 {W : World} {b o i : Nat} {x : SU} {l : List SU} (h : SuAt W (some ⟨b, o, none⟩) l) (hx : l[i]? = some x) : W.cell? ⟨b, o + i * 6, none⟩ = some (.string x.key) ∧ W.cell? ⟨b, o + i * 6 + 4, none⟩ = some (.int .i64 x.known) ∧ W.cell? ⟨b, o + i * 6 + 5, none⟩ = some (.bool x.void) ∧ SuAt W (some ⟨b, o, none⟩) l := by
  have := h.q hx
  exact ⟨this.1, this.2.2.2.2.1, this.2.2.2.2.2, h⟩
def mkL (l : List SU) : List (List Value) := (l.map SU.mark).map fun x => (mkV x).toList
def suL (l : List SU) : List (List Value) := l.map fun x => (suV x).toList
theorem take_next {α : Type} {l : List α} {i : Nat} {x : α} (h : l[i]? = some x) : l.take (i + 1) = l.take i ++ [x] := by
  obtain ⟨hl, e⟩ := List.getElem?_eq_some_iff.1 h
  rw [List.take_succ_eq_append_getElem hl, e]
theorem mkL_next {l : List SU} {i : Nat} {x : SU} (h : l[i]? = some x) : (mkL (l.take i)).flatten ++ (mkV x.mark).toList = (mkL (l.take (i + 1))).flatten := by
  rw [take_next h]
  simp [mkL]
theorem mkL_len (l : List SU) : ∀ x ∈ mkL l, x.length = 3 := fun x hx => by
  unfold mkL at hx
  simp at hx
  obtain ⟨a, -, rfl⟩ := hx
  rfl
theorem suL_len (l : List SU) : ∀ x ∈ suL l, x.length = 6 := fun x hx => by
  unfold suL at hx
  simp at hx
  obtain ⟨a, -, rfl⟩ := hx
  rfl
theorem suL_next (l : List SU) (x : SU) : (suL l).flatten ++ (suV x).toList = (suL (l ++ [x])).flatten := by simp [suL]
/-- A list of suspensions in a slice of the call's own. -/
def SusP (L : List SU) (w : World) (e : Ending) (w' : World) : Prop :=
  ∃ v, e = .returned v ∧ OwnL w w' 72 6 v L.length (suL L).flatten
theorem pickS_snoc {l : List SU} {fund : ByteArray} {L : List Int} {j ii : Nat} {x : SU} (hj : L[j]? = some (ii : Int)) (hx : l[ii]? = some x) (hf : x.fund = fund) : pickS l fund (L.take (j + 1)) = pickS l fund (L.take j) ++ [x] := by
  rw [take_next hj, pickS_append]
  simp [pickS, hx, hf]
theorem pickS_same {l : List SU} {fund : ByteArray} {L : List Int} {j ii : Nat} {x : SU} (hj : L[j]? = some (ii : Int)) (hx : l[ii]? = some x) (hf : x.fund ≠ fund) : pickS l fund (L.take (j + 1)) = pickS l fund (L.take j) := by
  rw [take_next hj, pickS_append]
  simp [pickS, hx, hf]
theorem vis_at {ms : List MK} {k : Int} {j : Nat} {i : Int} (h : (vis ms k)[j]? = some i) : ∃ ii : Nat, i = ii ∧ ii < ms.length := by
  have := List.mem_of_getElem? h
  unfold vis at this
  obtain ⟨ii, h1, h2, -⟩ := (visF_mem i _).1 this
  exact ⟨ii, h1, h2⟩
theorem susB_len {l : List SU} (h : susB l = true) : l.length ≤ 4096 := by
  unfold susB at h
  simp only [Bool.and_eq_true, decide_eq_true_eq] at h
  exact h.1
/-- The marks that a function has appended, read. -/
theorem MV.marks {w W : World} {v : Value} {n : Nat} {A : Option Addr} {l : List SU} (h : MV w W 149 3 v n (mkL l).flatten A l) (hl : l.length ≤ 4096) : ∃ A' cap, v = .slice A' l.length cap ∧ MkAt W A' (l.map SU.mark) := by
  have hml : (mkL l).length = l.length := by simp [mkL]
  obtain ⟨hn, A', cap, rfl, hr, -⟩ := h.own.recs (mkL_len l) (by decide) (by rw [hml]; omega)
  refine ⟨A', cap, by rw [hn, hml], hr, fun x hx => ?_⟩
  simp at hx
  obtain ⟨y, hy, rfl⟩ := hx
  exact (h.su.small y hy).1
set_option maxRecDepth 100000 in
theorem rVisS_ok (l : List SU) (hv : susB l = true) (k : Int) (fund : ByteArray) (hfu : fund.size ≤ maxLen) (A : Option Addr) (cp : Nat) (w : World) (h : SuAt w A l) : Calls Try.prog 75 #[.slice A l.length cp, .int .i64 k, .string fund] w (SusP (visS l k fund) w) := by
  have hl := susB_len hv
  have H := Lib.hid h
  have HV := Lib.hid (mksB_of hv)
  clear hv h
  go_enter Try.func75, Try.ntmps75
  go_wp2_with fail
  go_loopw [7, 8] (fun mv iv wr => ∃ i : Nat, i ≤ l.length ∧ iv = .int .i64 i ∧ OwnL w wr 149 3 mv i (mkL (l.take i)).flatten) (fun _ iv _ => l.length - (intOf iv).toNat)
  case atStart => exact ⟨0, by omega, rfl, OwnL.start ..⟩
  case round =>
    obtain ⟨i, hi, rfl, hO⟩ := hrel
    by_cases hlt : i < l.length
    · have hS := H.out.below hO.below
      obtain ⟨b, o, x, rfl, hx, hbl, hsm, q0, q1, q2, q3, q4, q5⟩ := hS.get hlt
      have HC := Lib.hid (show MV w wr 149 3 _ i _ (some ⟨b, o, none⟩) l from ⟨hO, hS⟩)
      have HCd := Lib.hid (HC.out.next ((Below.refl _ _).drew))
      have HX := Lib.hid hx
      have z1 : (0 : Int) ≤ (i : Int) := by omega
      have z2 : (i : Int) < (l.length : Int) := by omega
      clear hO hS hx q0 q1 q2 q3 q4 q5
      go_wp2_with fail
      go_region_held3 (fun W => W.cell? ⟨b, o + i * 6, none⟩ = some (.string x.key) ∧ W.cell? ⟨b, o + i * 6 + 4, none⟩ = some (.int .i64 x.known) ∧ W.cell? ⟨b, o + i * 6 + 5, none⟩ = some (.bool x.void) ∧ SuAt W (some ⟨b, o, none⟩) l)
        ((first
          | (with_reducible exact HCd.out.su.q3 HX.out)
          | (with_reducible exact (H.out.below hO'.below).q3 HX.out)
          | (exact (HCd.out.next (bal0 _ _)).su.q3 HX.out)))
        ((refine step_push elMark (by rfl) _ _ (by rfl) HCd.out.own (by rfl) #[.string x.key, .int .i64 x.known, .bool x.void] (by rfl) (by rfl) (by rfl) (by omega) (by decide) ?_; intro v' w' hO' hg))
      go_wp2_with fail
      go_roundw
      case rel => exact ⟨i + 1, by omega, by go_num, by rw [← mkL_next HX.out]; exact hO'⟩
      case measure => simp [intOf]; omega
    · have hie : i = l.length := by omega
      have hM : MV w wr 149 3 u7 i (mkL l).flatten A l := ⟨by rw [hie, List.take_length] at hO; rw [hie]; exact hO, H.out.below hO.below⟩
      obtain ⟨A', cap, hv7, hMk⟩ := hM.marks hl
      subst hv7
      have HMk := Lib.hid hMk
      have HO := Lib.hid hO
      have hc := rVis_ok _ HV.out k A' cap _ HMk.out
      rw [List.length_map] at hc
      clear hO hM hMk hie
      go_wp2_with fail
      refine hc.mono ?_
      rintro e w2 ⟨v2, rfl, hO2⟩
      obtain ⟨A2, cap2, rfl, hc2⟩ := hO2.read
      have HB2 := Lib.hid (bnext HO.out.below hO2.below)
      have HC2 := Lib.hid hc2
      obtain ⟨vs, hvs⟩ : ∃ vs, vis (l.map SU.mark) k = vs := ⟨_, rfl⟩
      rw [hvs] at HC2
      have HVS : Hid (visS l k fund = pickS l fund vs) := Lib.hid (by unfold visS; rw [hvs])
      have HAT : Hid (∀ (j : Nat) (i : Int), vs[j]? = some i → ∃ ii : Nat, i = ii ∧ ii < l.length) := Lib.hid (fun j i h => by
        subst hvs
        obtain ⟨ii, h1, h2⟩ := vis_at h
        exact ⟨ii, h1, by simpa using h2⟩)
      have hlen2 : vs.length ≤ 4096 := by
        subst hvs
        have := visF_len (ms := l.map SU.mark) (k := k) (l.map SU.mark).length
        unfold vis
        simp at this ⊢
        omega
      clear hO2 hc2 HO HMk
      rw [hvs]
      clear hvs
      go_wp2_with fail
      go_loopw [11, 12] (fun ov jv wr => ∃ j : Nat, j ≤ vs.length ∧ jv = .int .i64 j ∧ OwnL w2 wr 72 6 ov (pickS l fund (vs.take j)).length (suL (pickS l fund (vs.take j))).flatten) (fun _ jv _ => vs.length - (intOf jv).toNat)
      case atStart => exact ⟨0, by omega, rfl, OwnL.start ..⟩
      case round =>
        obtain ⟨j, hj, rfl, hO⟩ := hrel
        by_cases hlt2 : j < vs.length
        · have hvj : vs[j]? = some vs[j] := List.getElem?_eq_getElem hlt2
          obtain ⟨ii, hii, hil⟩ := HAT.out j _ hvj
          rw [hii] at hvj
          obtain ⟨g, hA2, hgl, hcell⟩ := HC2.out j (.int .i64 (ii : Int)) (by rw [List.getElem?_map, hvj]; rfl)
          subst hA2
          have c0 := (bcell hO.below g j hgl).trans hcell
          have hS := H.out.below (bnext HB2.out hO.below)
          obtain ⟨b, o, x, rfl, hx, hbl, hsm, q0, q1, q2, q3, q4, q5⟩ := hS.get hil
          have hpl := pickS_len l fund (vs.take j)
          rw [List.length_take] at hpl
          have hpl2 : (pickS l fund (vs.take j)).length ≤ 4096 := by omega
          have HO := Lib.hid hO
          have HX := Lib.hid hx
          have HVJ := Lib.hid hvj
          have z1 : (0 : Int) ≤ (ii : Int) := by omega
          have z2 : (ii : Int) < (l.length : Int) := by omega
          clear hO hx hvj hii hS hcell hpl
          by_cases hf : x.fund = fund
          · have HF := Lib.hid hf
            have t1 := key_t hf
            clear hf
            go_wp2_with (at_builtin; refine wpl_push elSus rfl _ _ rfl HO.out rfl #[.string x.key, .string x.fund, .int .i64 x.frm, .int .i64 x.til, .int .i64 x.known, .bool x.void] rfl rfl rfl (by omega) (by decide) ?_; intro v' w' hO' hg)
            go_roundw
            case rel => exact ⟨j + 1, by omega, by go_num, hO'.eqv (by rw [pickS_snoc HVJ.out HX.out HF.out]; simp) (by rw [pickS_snoc HVJ.out HX.out HF.out, ← suL_next]; rfl)⟩
            case measure => simp [intOf]; omega
          · have HF := Lib.hid hf
            have t1 := key_f hf
            clear hf
            go_wp2_with fail
            go_roundw
            case rel => exact ⟨j + 1, by omega, by go_num, HO.out.eqv (by rw [pickS_same HVJ.out HX.out HF.out]) (by rw [pickS_same HVJ.out HX.out HF.out])⟩
            case measure => simp [intOf]; omega
        · have HO := Lib.hid hO
          clear hO
          go_wp2_with fail
          go_ret
          exact ⟨_, rfl, ⟨bnext HB2.out HO.out.below, by rw [HVS.out]; exact own_low (HO.out.eqv (n' := (pickS l fund vs).length) (xs' := (suL (pickS l fund vs)).flatten) (by rw [List.take_of_length_le (by omega)]) (by rw [List.take_of_length_le (by omega)])).own HB2.out.size⟩⟩
end Go.Proofs.Ytllloldheofljaa
