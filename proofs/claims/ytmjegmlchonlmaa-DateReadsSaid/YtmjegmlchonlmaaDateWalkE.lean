/-
  The walks of dates: the document's dates of numbers.
-/
import Derived.Test.YtmjegmlchonlmaaDateWalkD
namespace Go.Proofs.Ytmjegmlchonlmaa
open Go.RowKit
set_option maxHeartbeats 2000000

theorem rcivil_in {n y m d : Int} (h : CV n y m d) (w : World) :
    Calls Try.prog 51 #[.int .i64 n] w (RetW (.tuple #[.int .i64 y, .int .i64 m, .int .i64 d, .int .i64 0]) w) := by
  obtain ⟨hn1, hn2⟩ := h.bd
  obtain ⟨hy1, hy2⟩ := h.year
  obtain ⟨h1, h2, h3, h4, h5, h6, h7⟩ := h
  have hs := ys_succ y h1
  have H7 := Lib.hid h7
  have HS := Lib.hid hs
  clear h7 hs
  go_enter Try.func51, Try.ntmps51
  go_wp2_with fail
  refine (dout_is (b := true) (by simp; omega) _).mono ?_
  rintro e w1 ⟨rfl, rfl⟩
  go_wp2_with fail
  go_loopw [0, 2] (fun q a wr => ∃ v : Int, 2000 ≤ v ∧ v ≤ y ∧ q = .int .i64 (n - ysI v) ∧ a = .int .i64 v ∧ wr = w) (fun _ a _ => (y - intOf a).toNat)
  case atStart => exact ⟨2000, by omega, by omega, vint (by rw [show ysI 2000 = 0 by decide]; omega), rfl, rfl⟩
  case round =>
    obtain ⟨v, hv1, hv2, rfl, rfl, hw⟩ := hrel
    have hl := lp_bd v
    have hyv := ys_mono hv1
    rw [show ysI 2000 = 0 by decide] at hyv
    have hyw := ys_mono (show v ≤ 2200 by omega)
    rw [show ysI 2200 = 73049 by decide] at hyw
    by_cases hlt : v < y
    · have hle : ysI (v + 1) ≤ n := by have := ys_mono (show v + 1 ≤ y by omega); omega
      have hsv := ys_succ v hv1
      unfold daysY at hsv
      have hd : 365 + lp v ≤ n - ysI v := by omega
      have hn : n - ysI v - (365 + lp v) = n - ysI (v + 1) := by omega
      have HN := Lib.hid hn
      clear hsv hn
      go_wp2_with fail
      refine (days_any (by omega) (by omega) _).mono ?_
      rintro e w2 ⟨rfl, rfl⟩
      unfold daysY
      go_wp2_with fail
      refine (days_any (by omega) (by omega) _).mono ?_
      rintro e w2 ⟨rfl, rfl⟩
      unfold daysY
      go_wp2_with fail
      go_roundw
      case rel => exact ⟨v + 1, by omega, by omega, vint HN.out, rfl, trivial⟩
      case measure => simp [intOf]; omega
    · have hvy : v = y := by omega
      subst hvy
      have hd : n - ysI v < 365 + lp v := by have := HS.out; unfold daysY at this; omega
      go_wp2_with fail
      refine (days_any (by omega) (by omega) _).mono ?_
      rintro e w2 ⟨rfl, rfl⟩
      unfold daysY
      go_wp2_with fail
      go_loopw [0, 3] (fun q a wr => ∃ k : Int, 1 ≤ k ∧ k ≤ m ∧ q = .int .i64 (n - ysI v - aheadM v k) ∧ a = .int .i64 k ∧ wr = w) (fun _ a _ => (m - intOf a).toNat)
      case atStart => exact ⟨1, by omega, by omega, vint (by rw [show aheadM v 1 = 0 by simp [aheadM]]; omega), rfl, by first | exact hw | rfl⟩
      case round =>
        obtain ⟨k, hk1, hk2, rfl, rfl, hw2⟩ := hrel
        have ha := ahead_bd v hk1 (by omega)
        unfold daysY at ha
        have hb2 := len_bd v k
        by_cases hlt : k < m
        · have hmm := ahead_mono v hk1 hlt h4
          have hsu := ahead_succ v hk1 (by omega)
          have hd : lenM v k ≤ n - ysI v - aheadM v k := by have := H7.out; omega
          have hn : n - ysI v - aheadM v k - lenM v k = n - ysI v - aheadM v (k + 1) := by omega
          have HN := Lib.hid hn
          clear hsu hn
          go_wp2_with fail
          refine (mlength_any h1 h2 _).mono ?_
          rintro e w2 ⟨rfl, rfl⟩
          go_wp2_with fail
          refine (mlength_any h1 h2 _).mono ?_
          rintro e w2 ⟨rfl, rfl⟩
          go_wp2_with fail
          go_roundw
          case rel => exact ⟨k + 1, by omega, by omega, vint HN.out, rfl, trivial⟩
          case measure => simp [intOf]; omega
        · have hkm : k = m := by omega
          subst hkm
          have hd : n - ysI v - aheadM v k < lenM v k := by have := H7.out; omega
          have hd0 : 0 ≤ n - ysI v - aheadM v k := by have := H7.out; omega
          go_wp2_with fail
          refine (mlength_any h1 h2 _).mono ?_
          rintro e w2 ⟨rfl, rfl⟩
          go_wp2_with fail
          (try simp only [Exit.inBlock, Exit.then])
          refine bodyPost_ret (results_tmp4 rfl _ _ _) rfl ?_
          exact ⟨ret_t4 rfl rfl (by have := H7.out; omega) rfl, by first | rfl | assumption | (simp [*])⟩
theorem dcivil_out {n : Int} (h : ¬(0 ≤ n ∧ n ≤ 73048)) (w : World) :
    Calls Try.prog 46 #[.int .i64 n] w (RetW (.tuple #[.int .i64 0, .int .i64 0, .int .i64 0, .int .i64 50]) w) := by
  go_enter Try.func46, Try.ntmps46
  go_wp2_with fail
  refine (valid_is (b := false) (by simp; omega) _).mono ?_
  rintro e w1 ⟨rfl, rfl⟩
  go_wp2_with fail
  (try simp only [Exit.inBlock, Exit.then])
  refine bodyPost_ret (results_tmp4 rfl _ _ _) rfl ?_
  exact ⟨rfl, rfl⟩
theorem rcivil_out {n : Int} (h : ¬(0 ≤ n ∧ n ≤ 73048)) (w : World) :
    Calls Try.prog 51 #[.int .i64 n] w (RetW (.tuple #[.int .i64 0, .int .i64 0, .int .i64 0, .int .i64 50]) w) := by
  go_enter Try.func51, Try.ntmps51
  go_wp2_with fail
  refine (dout_is (b := false) (by simp; omega) _).mono ?_
  rintro e w1 ⟨rfl, rfl⟩
  go_wp2_with fail
  (try simp only [Exit.inBlock, Exit.then])
  refine bodyPost_ret (results_tmp4 rfl _ _ _) rfl ?_
  exact ⟨rfl, rfl⟩
end Go.Proofs.Ytmjegmlchonlmaa
