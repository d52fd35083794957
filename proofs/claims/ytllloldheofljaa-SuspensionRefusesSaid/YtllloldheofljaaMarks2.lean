/-
  Marks that are valid: the document's list of those that count as known.
-/
import Derived.Test.YtllloldheofljaaMarks
import Derived.Test.YtllloldheofljaaPush
namespace Go.Proofs.Ytllloldheofljaa
open Go.RowKit
set_option linter.unusedVariables false
set_option maxHeartbeats 4000000
/-- A list of numbers and no error: the list lies in a slice of the call's own. -/
def ListP (L : List Int) (w : World) (e : Ending) (w' : World) : Prop :=
  ∃ v, e = .returned (.tuple #[v, .int .i64 0]) ∧ OwnL w w' 3 1 v L.length (L.map (.int .i64))
theorem vis_snoc {ms : List MK} {k : Int} {i : Nat} (h : visAt ms k i = true) : visF ms k (i + 1) = visF ms k i ++ [(i : Int)] := by rw [visF, if_pos h]
theorem vis_same {ms : List MK} {k : Int} {i : Nat} (h : visAt ms k i = false) : visF ms k (i + 1) = visF ms k i := by rw [visF, if_neg (by simp [h])]; simp
theorem visAt_eq {ms : List MK} {k : Int} {i : Nat} {x : MK} (h : ms[i]? = some x) : visAt ms k i = (!x.void && decide (x.known ≤ k) && decide (lastF ms k x.key ms.length = i)) := by simp [visAt, h]
theorem OwnL.eqv {W0 W : World} {e : TypeId} {sz : Nat} {v : Value} {n n' : Nat} {xs xs' : List Value} (h : OwnL W0 W e sz v n xs) (hn : n = n') (hx : xs = xs') : OwnL W0 W e sz v n' xs' := by
  subst hn hx
  exact h
set_option maxRecDepth 100000 in
theorem rVis_ok (l : List MK) (hv : mksB l = true) (k : Int) (A : Option Addr) (cp : Nat) (w : World) (h : MkAt w A l) : Calls Try.prog 111 #[.slice A l.length cp, .int .i64 k] w (ListP (vis l k) w) := by
  have hl := mksB_len hv
  have H := Lib.hid h
  have HV := Lib.hid hv
  clear hv h
  go_enter Try.func111, Try.ntmps111
  go_wp2_with fail
  refine (rMChk_ok l HV.out A cp _ H.out).mono ?_
  rintro e w1 ⟨rfl, hb1⟩
  have O1 := Lib.hid (show OwnL w w1 3 1 (.slice none 0 0) 0 [] from ⟨hb1, World.ownsRow_nil ..⟩)
  clear hb1
  go_wp2_with fail
  go_loopw [7, 8] (fun ov iv wr => ∃ i : Nat, i ≤ l.length ∧ iv = .int .i64 i ∧ OwnL w wr 3 1 ov (visF l k i).length ((visF l k i).map (.int .i64))) (fun _ iv _ => l.length - (intOf iv).toNat)
  case atStart => exact ⟨0, by omega, rfl, O1.out⟩
  case round =>
    obtain ⟨i, hi, rfl, hO⟩ := hrel
    have HO := Lib.hid hO
    clear hO O1
    by_cases hlt : i < l.length
    · obtain ⟨b, o, x, rfl, hx, hbl, hsm, q0, q1, q2⟩ := (H.out.below HO.out.below).get hlt
      have hva := visAt_eq (k := k) hx
      obtain ⟨key, known, void⟩ := x
      have HA := Lib.hid hva
      have hvl := visF_len (ms := l) (k := k) i
      have HVL := Lib.hid hvl
      clear hx hva hvl
      cases void
      · by_cases hk : known ≤ k
        · have HK := Lib.hid hk
          obtain ⟨la, hla⟩ : ∃ la, lastF l k key l.length = la := ⟨_, rfl⟩
          have hc := last_any l hl k key hsm (some ⟨b, o, none⟩) cp wr (H.out.below HO.out.below)
          rw [hla] at hc
          have HLA := Lib.hid hla
          clear hla
          by_cases hl2 : la = (i : Int)
          · have g1 : (la == (i : Int)) = true := by simpa using hl2
            have HT : Hid (visAt l k i = true) := Lib.hid (by rw [HA.out, HLA.out]; simp [HK.out, hl2])
            clear hl2
            go_wp2_with (first | (go_at_call 135; refine hc.mono ?_; rintro e w' ⟨rfl, rfl⟩) | (at_builtin; refine wpl_push elInt rfl _ _ rfl HO.out rfl #[.int .i64 (i : Int)] rfl rfl rfl (by have := HVL.out; omega) (by decide) ?_; intro v' w' hO' hg))
            go_roundw
            case rel => exact ⟨i + 1, by omega, by go_num, hO'.eqv (by rw [vis_snoc HT.out]; simp) (by rw [vis_snoc HT.out]; simp)⟩
            case measure => simp [intOf]; omega
          · have g1 : (la == (i : Int)) = false := by simpa using hl2
            have HT : Hid (visAt l k i = false) := Lib.hid (by rw [HA.out, HLA.out]; simp [hl2])
            clear hl2
            go_wp2_with (go_at_call 135; refine hc.mono ?_; rintro e w' ⟨rfl, rfl⟩)
            go_roundw
            case rel => exact ⟨i + 1, by omega, by go_num, HO.out.eqv (by rw [vis_same HT.out]) (by rw [vis_same HT.out])⟩
            case measure => simp [intOf]; omega
        · have g0 : decide (known ≤ k) = false := by simpa using hk
          have HT : Hid (visAt l k i = false) := Lib.hid (by rw [HA.out]; simp [hk])
          clear hk
          go_wp2_with fail
          go_roundw
          case rel => exact ⟨i + 1, by omega, by go_num, HO.out.eqv (by rw [vis_same HT.out]) (by rw [vis_same HT.out])⟩
          case measure => simp [intOf]; omega
      · have HT : Hid (visAt l k i = false) := Lib.hid (by rw [HA.out]; simp)
        go_wp2_with fail
        go_roundw
        case rel => exact ⟨i + 1, by omega, by go_num, HO.out.eqv (by rw [vis_same HT.out]) (by rw [vis_same HT.out])⟩
        case measure => simp [intOf]; omega
    · go_wp2
      go_ret2
      exact ⟨_, rfl, HO.out.eqv (by rw [show i = l.length by omega]; rfl) (by rw [show i = l.length by omega]; rfl)⟩
end Go.Proofs.Ytllloldheofljaa
