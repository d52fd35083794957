/-
  The walks of dates: the document's loops, and dates of numbers.
-/
import Derived.Test.YtmjegmlchonlmaaDateWalkB
import Derived.Lib.Hide
namespace Go.Proofs.Ytmjegmlchonlmaa
open Go.RowKit
set_option maxHeartbeats 1000000

theorem rfrom_in {n y m d : Int} (h : CV n y m d) (w : World) :
    Calls Try.prog 52 #[.int .i64 y, .int .i64 m, .int .i64 d] w (RetW (.tuple #[.int .i64 n, .int .i64 0]) w) := by
  obtain ⟨hn1, hn2⟩ := h.bd
  obtain ⟨h1, h2, h3, h4, h5, h6, h7⟩ := h
  have H7 := Lib.hid h7
  have hb := len_bd y m
  clear h7
  go_enter Try.func52, Try.ntmps52
  go_wp2_with fail
  refine (rlength_in h1 h2 h3 h4 _).mono ?_
  rintro e w1 ⟨rfl, rfl⟩
  go_wp2_with fail
  go_loopw [10, 11] (fun a b wr => ∃ v : Int, 2000 ≤ v ∧ v ≤ y ∧ b = .int .i64 v ∧ a = .int .i64 (d - 1 + ysI v) ∧ wr = w) (fun _ b _ => (y - intOf b).toNat)
  case atStart => exact ⟨2000, by omega, by omega, rfl, vint (by rw [show ysI 2000 = 0 by decide]; omega), rfl⟩
  case round =>
    obtain ⟨v, hv1, hv2, rfl, rfl, hw⟩ := hrel
    have hs := ys_succ v hv1
    have hy0 := ys_mono hv1
    have hy1 := ys_mono (show v ≤ 2200 by omega)
    rw [show ysI 2000 = 0 by decide] at hy0
    rw [show ysI 2200 = 73049 by decide] at hy1
    by_cases hlt : v < y
    · have hl := lp_bd v
      unfold daysY at hs
      go_wp2_with fail
      refine (days_any hv1 (by omega) _).mono ?_
      rintro e w2 ⟨rfl, rfl⟩
      unfold daysY
      go_wp2_with fail
      go_roundw
      case rel => exact ⟨v + 1, by omega, by omega, rfl, vint (by omega), trivial⟩
      case measure => simp [intOf]; omega
    · have hvy : v = y := by omega
      subst hvy
      clear hs
      go_wp2_with fail
      go_loopw [10, 12] (fun a b wr => ∃ k : Int, 1 ≤ k ∧ k ≤ m ∧ b = .int .i64 k ∧ a = .int .i64 (d - 1 + ysI v + aheadM v k) ∧ wr = w) (fun _ b _ => (m - intOf b).toNat)
      case atStart => exact ⟨1, by omega, by omega, rfl, vint (by rw [show aheadM v 1 = 0 by simp [aheadM]]; omega), rfl⟩
      case round =>
        obtain ⟨k, hk1, hk2, rfl, rfl, hw2⟩ := hrel
        have ha := ahead_bd v hk1 (by omega)
        have hl := lp_bd v
        unfold daysY at ha
        have hb2 := len_bd v k
        by_cases hlt : k < m
        · have hsu := ahead_succ v hk1 (by omega)
          go_wp2_with fail
          refine (mlength_any h1 h2 _).mono ?_
          rintro e w2 ⟨rfl, rfl⟩
          go_wp2_with fail
          go_roundw
          case rel => exact ⟨k + 1, by omega, by omega, rfl, vint (by omega), trivial⟩
          case measure => simp [intOf]; omega
        · have hkm : k = m := by omega
          subst hkm
          go_wp2_with fail
          go_ret2
          exact ⟨ret_t2 (by rw [H7.out]; omega) rfl, by first | rfl | assumption | (simp [*])⟩
end Go.Proofs.Ytmjegmlchonlmaa
