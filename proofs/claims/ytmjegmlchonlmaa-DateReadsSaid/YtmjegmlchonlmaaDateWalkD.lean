/-
  The walks of dates: dates of numbers.
-/
import Derived.Test.YtmjegmlchonlmaaDateWalkC
namespace Go.Proofs.Ytmjegmlchonlmaa
open Go.RowKit
set_option maxHeartbeats 2000000

theorem rfrom_out {y m d : Int} (h : ¬dateR y m d) (w : World) :
    Calls Try.prog 52 #[.int .i64 y, .int .i64 m, .int .i64 d] w (RetW (.tuple #[.int .i64 0, .int .i64 51]) w) := by
  unfold dateR at h
  by_cases hm : monthR y m
  · obtain ⟨h1, h2, h3, h4⟩ := hm
    by_cases hd : d < 1
    · go_enter Try.func52, Try.ntmps52
      go_wp2_with fail
      refine (rlength_in h1 h2 h3 h4 _).mono ?_
      rintro e w1 ⟨rfl, rfl⟩
      go_wp2_with fail
      go_ret2
      exact ⟨rfl, rfl⟩
    · have hd2 : lenM y m < d := by
        rcases Int.lt_or_le (lenM y m) d with hx | hx
        · exact hx
        · exact absurd ⟨⟨h1, h2, h3, h4⟩, by omega, hx⟩ h
      go_enter Try.func52, Try.ntmps52
      go_wp2_with fail
      refine (rlength_in h1 h2 h3 h4 _).mono ?_
      rintro e w1 ⟨rfl, rfl⟩
      go_wp2_with fail
      go_ret2
      exact ⟨rfl, rfl⟩
  · go_enter Try.func52, Try.ntmps52
    go_wp2_with fail
    refine (rlength_out hm _).mono ?_
    rintro e w1 ⟨rfl, rfl⟩
    go_wp2_with fail
    go_ret2
    exact ⟨rfl, rfl⟩
theorem results_tmp4 {fn : Func} {t u v x : Tmp} (h : fn.results = #[.tmp t, .tmp u, .tmp v, .tmp x]) (tmps : Array Value) (P : Program) (w : World) :
    (results fn tmps).run P w = .ok (.tuple #[tmps.getD t undef, tmps.getD u undef, tmps.getD v undef, tmps.getD x undef]) w := by
  simp [results, h]
theorem ret_t4 {k k' k2 k3 : IntKind} {a b c d a' b' c' d' : Int} (h : a = a') (h' : b = b') (h2 : c = c') (h3 : d = d') : Ending.returned (.tuple #[.int k a, .int k' b, .int k2 c, .int k3 d]) = .returned (.tuple #[.int k a', .int k' b', .int k2 c', .int k3 d']) := by rw [h, h', h2, h3]
theorem ys_up (y : Int) (h : 2000 ≤ y) : ysI y ≤ 366 * (y - 2000) := by
  unfold ysI
  split <;> omega
theorem dcivil_in {n y m d : Int} (h : CV n y m d) (w : World) :
    Calls Try.prog 46 #[.int .i64 n] w (RetW (.tuple #[.int .i64 y, .int .i64 m, .int .i64 d, .int .i64 0]) w) := by
  obtain ⟨hn1, hn2⟩ := h.bd
  obtain ⟨hy1, hy2⟩ := h.year
  obtain ⟨h1, h2, h3, h4, h5, h6, h7⟩ := h
  have hup := ys_up (y + 1) (by omega)
  have hg0 := month_guess y (n - ysI y) m h3 h4 (by omega) (by omega)
  have ha := ahead_bd y h3 h4
  have hl := lp_bd y
  unfold daysY at ha
  have hy0 := ys_mono h1
  rw [show ysI 2000 = 0 by decide] at hy0
  have H7 := Lib.hid h7
  have HG := Lib.hid hg0
  clear h7 hg0
  go_enter Try.func46, Try.ntmps46
  go_wp2_with fail
  refine (valid_is (b := true) (by simp; omega) _).mono ?_
  rintro e w1 ⟨rfl, rfl⟩
  go_wp2_with fail
  go_loopw [2] (fun a wr => ∃ v : Int, 2000 ≤ v ∧ v ≤ y ∧ a = .int .i64 v ∧ wr = w) (fun a _ => (y - intOf a).toNat)
  case atStart => exact ⟨2000 + n / 366, by omega, by omega, rfl, rfl⟩
  case round =>
    obtain ⟨v, hv1, hv2, rfl, hw⟩ := hrel
    by_cases hlt : v < y
    · have hle : ysI (v + 1) ≤ n := by have := ys_mono (show v + 1 ≤ y by omega); omega
      go_wp2_with fail
      refine (ystart_any (by omega) (by omega) _).mono ?_
      rintro e w2 ⟨rfl, rfl⟩
      go_wp2_with fail
      go_roundw
      case rel => exact ⟨v + 1, by omega, by omega, rfl, trivial⟩
      case measure => simp [intOf]; omega
    · have hvy : v = y := by omega
      subst hvy
      go_wp2_with fail
      refine (ystart_any (by omega) (by omega) _).mono ?_
      rintro e w2 ⟨rfl, rfl⟩
      go_wp2_with fail
      refine (ystart_any (by omega) (by omega) _).mono ?_
      rintro e w2 ⟨rfl, rfl⟩
      have hq0 : 0 ≤ n - ysI v := by omega
      have hq1 : n - ysI v ≤ 366 := by have := H7.out; omega
      rcases HG.out with ⟨hg, hm12 | hlt2⟩ | ⟨hg, hm2⟩
      · subst hm12
        go_wp2_with fail
        refine (dahead_any h1 h2 (by omega) (by omega) _).mono ?_
        rintro e w2 ⟨rfl, rfl⟩
        go_wp2_with fail
        (try simp only [Exit.inBlock, Exit.then])
        refine bodyPost_ret (results_tmp4 rfl _ _ _) rfl ?_
        exact ⟨ret_t4 rfl (by omega) (by have := H7.out; omega) rfl, by first | rfl | assumption | (simp [*])⟩
      · have hm12 : m < 12 ∨ m = 12 := by omega
        rcases hm12 with hm12 | rfl
        · go_wp2_with fail
          refine (dahead_any h1 h2 (by omega) (by omega) _).mono ?_
          rintro e w2 ⟨rfl, rfl⟩
          go_wp2_with fail
          refine (dahead_any h1 h2 (by omega) (by omega) _).mono ?_
          rintro e w2 ⟨rfl, rfl⟩
          go_wp2_with fail
          (try simp only [Exit.inBlock, Exit.then])
          refine bodyPost_ret (results_tmp4 rfl _ _ _) rfl ?_
          exact ⟨ret_t4 rfl (by omega) (by have := H7.out; omega) rfl, by first | rfl | assumption | (simp [*])⟩
        · go_wp2_with fail
          refine (dahead_any h1 h2 (by omega) (by omega) _).mono ?_
          rintro e w2 ⟨rfl, rfl⟩
          go_wp2_with fail
          (try simp only [Exit.inBlock, Exit.then])
          refine bodyPost_ret (results_tmp4 rfl _ _ _) rfl ?_
          exact ⟨ret_t4 rfl (by omega) (by have := H7.out; omega) rfl, by first | rfl | assumption | (simp [*])⟩
      · have hle : aheadM v m ≤ n - ysI v := by have := H7.out; omega
        have hg2 : m - 1 + 1 = m := by omega
        go_wp2_with fail
        refine (dahead_any h1 h2 (by omega) (by omega) _).mono ?_
        rintro e w2 ⟨rfl, rfl⟩
        go_wp2_with fail
        refine (dahead_any h1 h2 (by omega) (by omega) _).mono ?_
        rintro e w2 ⟨rfl, rfl⟩
        go_wp2_with fail
        (try simp only [Exit.inBlock, Exit.then])
        refine bodyPost_ret (results_tmp4 rfl _ _ _) rfl ?_
        exact ⟨ret_t4 rfl (by omega) (by have := H7.out; omega) rfl, by first | rfl | assumption | (simp [*])⟩
end Go.Proofs.Ytmjegmlchonlmaa
