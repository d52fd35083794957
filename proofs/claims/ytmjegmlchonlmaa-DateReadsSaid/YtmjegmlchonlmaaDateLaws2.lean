/-
  Laws on dates: weekdays, ends of months, days near the ends.
-/
import Derived.Test.YtmjegmlchonlmaaDateLaws
import Derived.Test.YtmjegmlchonlmaaMake2
import Derived.Test.YtmjegmlchonlmaaRow2
namespace Go.Proofs.Ytmjegmlchonlmaa
open Go.RowKit
set_option maxHeartbeats 4000000
set_option linter.unusedVariables false

/-- What a law over a tape carries: the tape with N draws left; old memory. -/
structure TS (w W : World) (N : Nat) : Prop where
  tape : TapeAt W w.heap.size w.heap.size N
  below : Below w.heap.size w W
theorem TS.draw {w W W' : World} {N N' : Nat} (h : TS w W N) (ht : TapeAt W' w.heap.size w.heap.size N') (ho : Only w.heap.size W W') : TS w W' N' :=
  ⟨ht, h.below.trans (only_to_below ho (Nat.le_refl _) h.below.size)⟩
theorem TS.next {w W W' : World} {N : Nat} (h : TS w W N) (hb : Below W.heap.size W W') : TS w W' N := ⟨h.tape.below hb, bnext h.below hb⟩
theorem TS.less {w W : World} {N M : Nat} (h : TS w W N) (hm : M ≤ N) : TapeAt W w.heap.size w.heap.size M := h.tape.less hm
theorem ts_start {w : World} {A : Option Addr} {L : List Int} {cap : Nat} (h : IntsAt w A L) :
    TS w (w.alloc (.cells #[.slice A L.length cap, .int .i64 0] 37)) 1000000000 := ⟨tape_start h, bal0 w _⟩

theorem dateWeeks_any (n : Int) (w : World) : Calls Try.prog 12 #[.int .i64 n] w (RetB (.bool true) w) := by
  obtain ⟨f1, f2⟩ := fold_lt n 73048
  have h1 : WeekR (foldI n 73048) ((foldI n 73048 + 5) % 7) 0 := .inl ⟨by omega, by omega, rfl, rfl⟩
  have h2 : WeekR (foldI n 73048 + 1) ((foldI n 73048 + 1 + 5) % 7) 0 := .inl ⟨by omega, by omega, rfl, rfl⟩
  have HF := fold_any n 73048
  generalize foldI n 73048 = k at *
  have f3 : k ≤ 73047 := by omega
  have H1 := Lib.hid h1
  have H2 := Lib.hid h2
  clear f2 h1 h2
  go_enter Try.func12, Try.ntmps12
  go_wp2_with fail
  refine (HF _ (by omega)).mono ?_
  rintro e w1 ⟨rfl, rfl⟩
  go_wp2_with fail
  refine (dweek_is H1.out _).mono ?_
  rintro e w1 ⟨rfl, rfl⟩
  go_wp2_with fail
  refine (dweek_is H2.out _).mono ?_
  rintro e w1 ⟨rfl, rfl⟩
  go_wp2_with fail
  refine (known5_any _).mono ?_
  rintro e w1 ⟨rfl, hb⟩
  go_wp2_with fail
  go_ret
  exact ⟨ret_bool (by rw [beq_iff_eq]; omega), hb⟩

/-- The day after the last of a month is the first of the next one. -/
theorem CV.first {n y m : Int} (h : CV n y m (lenM y m)) (hn : n < 73048) : ∃ y' m', CV (n + 1) y' m' 1 ∧ ((y' = y ∧ m' = m + 1) ∨ (y' = y + 1 ∧ m' = 1 ∧ m = 12)) := by
  by_cases h12 : m < 12
  · have hs := ahead_succ y h.m1 h12
    have hl := len_bd y (m + 1)
    exact ⟨y, m + 1, ⟨h.y1, h.y2, by have := h.m1; omega, by omega, by omega, by omega, by have := h.eq; omega⟩, .inl ⟨rfl, rfl⟩⟩
  · have e : m = 12 := by have := h.m2; omega
    subst e
    have hs := ys_succ y h.y1
    have ha := ahead_end y
    have hl : lenM y 12 = 31 := by simp [lenM]
    have heq := h.eq
    have hy : y ≤ 2198 := by
      rcases Int.lt_or_le 2198 y with hx | hx
      · have := ys_mono (show 2200 ≤ y + 1 by omega)
        have e2 : ysI 2200 = 73049 := by decide
        omega
      · exact hx
    have h1 : aheadM (y + 1) 1 = 0 := by simp [aheadM]
    have hl1 : lenM (y + 1) 1 = 31 := by simp [lenM]
    exact ⟨y + 1, 1, ⟨by have := h.y1; omega, by omega, by omega, by omega, by omega, by omega, by omega⟩, .inr ⟨rfl, rfl, rfl⟩⟩

theorem dateEnds_any (n : Int) (w : World) : Calls Try.prog 16 #[.int .i64 n] w (RetB (.bool true) w) := by
  obtain ⟨f1, f2⟩ := fold_lt n 73017
  obtain ⟨y, m, d, h1⟩ := cv_any (foldI n 73017) f1 (by omega)
  have hlast := h1.last
  have hb := h1.last.bd
  have hd2 := h1.d2
  have hd1 := h1.d1
  have hl := len_bd y m
  have h3 : EndR (foldI n 73017) (foldI n 73017 + lenM y m - d) 0 := .inl ⟨y, m, d, h1, rfl, rfl⟩
  have hx : foldI n 73017 + lenM y m - d < 73048 := by
    have e := h1.eq
    obtain ⟨a1, a2⟩ := ahead_bd y h1.m1 h1.m2
    have ys := ys_succ y h1.y1
    rcases Int.lt_or_le (foldI n 73017 + lenM y m - d) 73048 with hx | hx
    · exact hx
    · exfalso
      have hy2 := h1.y2
      have hym : y = 2199 := by
        rcases Int.lt_or_le y 2199 with hy | hy
        · have := ys_mono (show y + 1 ≤ 2199 by omega)
          have e2 : ysI 2199 = 72684 := by decide
          omega
        · omega
      subst hym
      have e3 : ysI 2199 = 72684 := by decide
      have e4 : lp 2199 = 0 := by decide
      rcases m12 h1.m1 h1.m2 with rfl | rfl | rfl | rfl | rfl | rfl | rfl | rfl | rfl | rfl | rfl | rfl <;> simp [aheadM, lenM] at * <;> omega
  obtain ⟨y', m', h4, -⟩ := hlast.first hx
  have hfin : foldI n 73017 ≤ foldI n 73017 + lenM y m - d := by omega
  have hlen : LenR y m (lenM y m) 0 := .inl ⟨⟨h1.y1, h1.y2, h1.m1, h1.m2⟩, rfl, rfl⟩
  have HF := fold_any n 73017
  obtain ⟨hb1, hb2⟩ := hb
  generalize foldI n 73017 = k at *
  have H1 : Hid (CivilR k y m d 0) := Lib.hid (.inl ⟨h1, rfl⟩)
  have H2 : Hid (CivilR (k + lenM y m - d) y m (lenM y m) 0) := Lib.hid (.inl ⟨hlast, rfl⟩)
  have H4 : Hid (CivilR (k + lenM y m - d + 1) y' m' 1 0) := Lib.hid (.inl ⟨h4, rfl⟩)
  have H3 := Lib.hid h3
  have HL := Lib.hid hlen
  clear f2 h1 hlast h3 h4 hlen
  generalize lenM y m = lm at *
  go_enter Try.func16, Try.ntmps16
  go_wp2_with fail
  refine (HF _ (by omega)).mono ?_
  rintro e w1 ⟨rfl, rfl⟩
  go_wp2_with fail
  refine (dend_is H3.out _).mono ?_
  rintro e w1 ⟨rfl, rfl⟩
  go_wp2_with fail
  refine (dcivil_is H1.out _).mono ?_
  rintro e w1 ⟨rfl, rfl⟩
  go_wp2_with fail
  refine (dcivil_is H2.out _).mono ?_
  rintro e w1 ⟨rfl, rfl⟩
  go_wp2_with fail
  refine (dcivil_is H4.out _).mono ?_
  rintro e w1 ⟨rfl, rfl⟩
  go_wp2_with fail
  refine (dlen_is HL.out _).mono ?_
  rintro e w1 ⟨rfl, rfl⟩
  go_wp2_with fail
  refine (known5_any _).mono ?_
  rintro e w1 ⟨rfl, hb⟩
  go_wp2_with fail
  go_ret
  exact ⟨rfl, hb⟩

set_option maxRecDepth 100000 in
theorem dateDays_any (A : Option Addr) (L : List Int) (cap : Nat) (w : World) (hL : IntsAt w A L) :
    Calls Try.prog 15 #[.slice A L.length cap] w (RetB (.bool true) w) := by
  have ht0 := ts_start (cap := cap) hL
  clear hL
  go_enter Try.func15, Try.ntmps15
  go_wp2_with fail
  refine (day_any w.heap.size w.heap.size 100000 _ (ht0.less (by omega))).mono ?_
  rintro e w1 ⟨n, hv1, hv2, rfl, ht1, ho1⟩
  have hT1 := ht0.draw ht1 ho1
  clear ht0 ht1 ho1
  obtain ⟨y, m, d, h1⟩ := cv_any n hv1 hv2
  have hd1 := h1.d1
  have hd2 : d ≤ 31 := by have := h1.d2; have := len_bd y m; omega
  have H1 : Hid (CivilR n y m d 0) := Lib.hid (.inl ⟨h1, rfl⟩)
  clear h1
  go_wp2_with fail
  refine (rcivil_is H1.out _).mono ?_
  rintro e w1' ⟨rfl, rfl⟩
  go_wp2_with fail
  refine (range_any (-30) 30 w.heap.size w.heap.size 90000 _ (hT1.less (by omega)) (by omega) (by omega) (by omega)).mono ?_
  rintro e w2 ⟨r, hr1, hr2, rfl, ht2, ho2⟩
  have hT2 := hT1.draw ht2 ho2
  clear hT1 ht2 ho2
  go_wp2_with fail
  refine (dateExact_any _ _ _ _ _ _).mono ?_
  rintro e w3 ⟨rfl, hb3⟩
  have hT3 := hT2.next hb3
  clear hT2 hb3
  go_wp2_with fail
  refine (pick_new [28, 29, 30, 31, 0, d + 1] rfl (N := 80000) (hT3.less (by omega)) (by simp) (by simp) rfl (by simp)).mono ?_
  rintro e w4 ⟨p4, -, rfl, ht4, ho4⟩
  have hT4 := hT3.draw ht4 ho4
  clear hT3 ht4 ho4
  go_wp2_with fail
  refine (pick_new [-2400, 2400, 12, -12, 1] rfl (N := 70000) (hT4.less (by omega)) (by simp) (by simp) rfl (by simp)).mono ?_
  rintro e w5 ⟨p5, -, rfl, ht5, ho5⟩
  have hT5 := hT4.draw ht5 ho5
  clear hT4 ht5 ho5
  go_wp2_with fail
  refine (dateExact_any _ _ _ _ _ _).mono ?_
  rintro e w6 ⟨rfl, hb6⟩
  have hT6 := hT5.next hb6
  clear hT5 hb6
  go_wp2_with fail
  refine (pick_new [1999, 2000, 2100, 2199, 2200, y] rfl (N := 60000) (hT6.less (by omega)) (by simp) (by simp) rfl (by simp)).mono ?_
  rintro e w7 ⟨p7, -, rfl, ht7, ho7⟩
  have hT7 := hT6.draw ht7 ho7
  clear hT6 ht7 ho7
  go_wp2_with fail
  refine (pick_new [0, 1, 2, 12, 13, m] rfl (N := 50000) (hT7.less (by omega)) (by simp) (by simp) rfl (by simp)).mono ?_
  rintro e w8 ⟨p8, -, rfl, ht8, ho8⟩
  have hT8 := hT7.draw ht8 ho8
  clear hT7 ht8 ho8
  go_wp2_with fail
  refine (dateExact_any _ _ _ _ _ _).mono ?_
  rintro e w9 ⟨rfl, hb9⟩
  have hT9 := hT8.next hb9
  clear hT8 hb9
  go_wp2_with fail
  refine (known5_any _).mono ?_
  rintro e w10 ⟨rfl, hb10⟩
  have hT10 := hT9.next hb10
  go_wp2_with fail
  go_ret
  exact ⟨rfl, hT10.below⟩
end Go.Proofs.Ytmjegmlchonlmaa
