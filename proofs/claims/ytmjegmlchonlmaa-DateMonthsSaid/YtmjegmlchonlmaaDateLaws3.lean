/-
  The law on months: months by one number, plain; the walk.
-/
import Derived.Test.YtmjegmlchonlmaaDateLaws2
namespace Go.Proofs.Ytmjegmlchonlmaa
open Go.RowKit
set_option maxHeartbeats 4000000
set_option linter.unusedVariables false

/-- Day d of month K, counted from January 2000 on, has the number n. -/
def CK (n K d : Int) : Prop := CV n (2000 + K / 12) (K % 12 + 1) d
def lenK (K : Int) : Int := lenM (2000 + K / 12) (K % 12 + 1)
theorem CV.ck {n y m d : Int} (h : CV n y m d) : CK n (12 * (y - 2000) + m - 1) d := by
  have h1 := h.m1; have h2 := h.m2
  unfold CK
  rw [show 2000 + (12 * (y - 2000) + m - 1) / 12 = y by omega, show (12 * (y - 2000) + m - 1) % 12 + 1 = m by omega]
  exact h
theorem CK.lt {n K d n' K' d' : Int} (h : CK n K d) (h' : CK n' K' d') (hk : K < K') : n < n' := by
  obtain ⟨a1, a2⟩ := h.year
  obtain ⟨b1, b2⟩ := h'.year
  have hd := h.d2
  have hd1 := h'.d1
  have e := h.eq
  have e' := h'.eq
  by_cases hy : K / 12 < K' / 12
  · have := ys_mono (show 2000 + K / 12 + 1 ≤ 2000 + K' / 12 by omega)
    omega
  · have hy2 : K / 12 = K' / 12 := by omega
    rw [hy2] at e hd
    have := ahead_mono (2000 + K' / 12) (show 1 ≤ K % 12 + 1 by omega) (show K % 12 + 1 < K' % 12 + 1 by omega) (show K' % 12 + 1 ≤ 12 by omega)
    omega
theorem CK.le {n K d n' d' : Int} (h : CK n K d) (h' : CK n' K d') (hd : d ≤ d') : n ≤ n' := by
  have e := h.eq
  have e' := h'.eq
  omega
theorem CK.same {n K d n' : Int} (h : CK n K d) (h' : CK n' K d) : n = n' := by
  have e := h.eq
  have e' := h'.eq
  omega
/-- A day that is not later has a month that is not later. -/
theorem CK.back {n K d n' K' d' : Int} (h : CK n K d) (h' : CK n' K' d') (hn : n ≤ n') : K < K' ∨ (K = K' ∧ d ≤ d') := by
  rcases Int.lt_trichotomy K K' with hx | hx | hx
  · exact .inl hx
  · subst hx
    have e := h.eq
    have e' := h'.eq
    exact .inr ⟨rfl, by omega⟩
  · have := h'.lt h hx
    omega
theorem lenK_bd (K : Int) : 28 ≤ lenK K ∧ lenK K ≤ 31 := len_bd _ _
theorem addK {n K d a : Int} (h : CK n K d) (h1 : -2400 ≤ a) (h2 : a ≤ 2400) (h3 : 0 ≤ K + a) (h4 : K + a < 2400) : ∃ v, AddR n a v 0 ∧ CK v (K + a) (min d (lenK (K + a))) := by
  have e : 12 * (2000 + K / 12 - 2000) + (K % 12 + 1) - 1 + a = K + a := by omega
  have hr : addR (2000 + K / 12) (K % 12 + 1) a := ⟨h1, h2, by omega, by omega⟩
  obtain ⟨v, hv⟩ := add_cv h.d1 hr
  have hA : AddR n a v 0 := .inl ⟨_, _, _, _, h, hr, rfl, hv, rfl⟩
  refine ⟨v, hA, ?_⟩
  rw [e] at hv
  exact hv
theorem monthRange {n y m d : Int} (h : CV n y m d) (h1 : 9497 ≤ n) (h2 : n ≤ 10500) : 312 ≤ 12 * (y - 2000) + m - 1 ∧ 12 * (y - 2000) + m - 1 ≤ 347 := by
  obtain ⟨a1, a2⟩ := h.year
  have e1 : ysI 2026 = 9497 := by decide
  have e2 : ysI 2029 = 10593 := by decide
  have m1 := h.m1; have m2 := h.m2
  have hy1 : 2026 ≤ y := by
    rcases Int.lt_or_le y 2026 with hx | hx
    · have := ys_mono (show y + 1 ≤ 2026 by omega); omega
    · exact hx
  have hy2 : y ≤ 2028 := by
    rcases Int.lt_or_le 2028 y with hx | hx
    · have := ys_mono (show 2029 ≤ y by omega); omega
    · exact hx
  omega

/-- The plain law on months. -/
theorem months_plain (n k a b : Int) (h1 : 9497 ≤ n) (h2 : n ≤ 10296) (h3 : 0 ≤ k) (h4 : k ≤ 39) (ha1 : -60 ≤ a) (ha2 : a ≤ 60) (hb1 : -60 ≤ b) (hb2 : b ≤ 60) :
    ∃ y m d x z u v : Int, CivilR n y m d 0 ∧ AddR n 0 n 0 ∧ AddR n a x 0 ∧ AddR (n + k) a z 0 ∧ x ≤ z ∧ (∀ c : Int, 0 ≤ c → c ≤ 4 → ∃ q, AddR n (a + c) q 0 ∧ x ≤ q) ∧
      AddR x b u 0 ∧ AddR n (a + b) v 0 ∧ (d ≤ 28 → u = v) := by
  obtain ⟨y, m, d, hn⟩ := cv_any n (by omega) (by omega)
  obtain ⟨y2, m2, d2, hn2⟩ := cv_any (n + k) (by omega) (by omega)
  obtain ⟨r1, r2⟩ := monthRange hn (by omega) (by omega)
  obtain ⟨s1, s2⟩ := monthRange hn2 (by omega) (by omega)
  have hK := hn.ck
  have hK2 := hn2.ck
  have hd := hn.d2
  have hciv : CivilR n y m d 0 := .inl ⟨hn, rfl⟩
  have hdl : d ≤ lenK (12 * (y - 2000) + m - 1) := by
    have := hK.d2
    exact this
  generalize 12 * (y - 2000) + m - 1 = K at *
  generalize 12 * (y2 - 2000) + m2 - 1 = K2 at *
  have hback := hK.back hK2 (by omega)
  obtain ⟨n0, g0, c0⟩ := addK hK (a := 0) (by omega) (by omega) (by omega) (by omega)
  rw [Int.add_zero, Int.min_eq_left hdl] at c0
  have e0 := c0.same hK
  subst e0
  obtain ⟨x, gx, cx⟩ := addK hK (a := a) (by omega) (by omega) (by omega) (by omega)
  obtain ⟨z, gz, cz⟩ := addK hK2 (a := a) (by omega) (by omega) (by omega) (by omega)
  have hxz : x ≤ z := by
    rcases hback with hlt | ⟨rfl, hle⟩
    · have := cx.lt cz (by omega); omega
    · exact cx.le cz (by omega)
  obtain ⟨v, gv, cv⟩ := addK hK (a := a + b) (by omega) (by omega) (by omega) (by omega)
  obtain ⟨u, gu, cu⟩ := addK cx (a := b) (by omega) (by omega) (by omega) (by omega)
  refine ⟨y, m, d, x, z, u, v, hciv, g0, gx, gz, hxz, fun c hc1 hc2 => ?_, gu, gv, fun h28 => ?_⟩
  · obtain ⟨q, gq, cq⟩ := addK hK (a := a + c) (by omega) (by omega) (by omega) (by omega)
    refine ⟨q, gq, ?_⟩
    by_cases e : c = 0
    · subst e
      rw [Int.add_zero] at cq
      exact cx.le cq (Int.le_refl _)
    · have := cx.lt cq (by omega); omega
  · have e1 := lenK_bd (K + a)
    have e2 := lenK_bd (K + (a + b))
    have e3 := lenK_bd (K + a + b)
    rw [Int.min_eq_left (by omega)] at cv
    rw [show min (min d (lenK (K + a))) (lenK (K + a + b)) = d by omega, show K + a + b = K + (a + b) by omega] at cu
    exact cu.same cv

set_option maxRecDepth 100000 in
theorem dateMonths_any (A : Option Addr) (L : List Int) (cap : Nat) (w : World) (hL : IntsAt w A L) :
    Calls Try.prog 13 #[.slice A L.length cap] w (RetB (.bool true) w) := by
  have ht0 := ts_start (cap := cap) hL
  clear hL
  go_enter Try.func13, Try.ntmps13
  go_wp2_with fail
  refine (next_in (N := 100000) (ht0.less (by omega)) (by omega) (by omega)).mono ?_
  rintro e w1 ⟨k0, hk0, rfl, ht1, ho1⟩
  have hT1 := ht0.draw ht1 ho1
  clear ht0 ht1 ho1
  go_wp2_with fail
  refine (next_in (N := 90000) (hT1.less (by omega)) (by omega) (by omega)).mono ?_
  rintro e w2 ⟨k, hk, rfl, ht2, ho2⟩
  have hT2 := hT1.draw ht2 ho2
  clear hT1 ht2 ho2
  go_wp2_with fail
  refine (range_any (-60) 60 w.heap.size w.heap.size 80000 _ (hT2.less (by omega)) (by omega) (by omega) (by omega)).mono ?_
  rintro e w3 ⟨a, ha1, ha2, rfl, ht3, ho3⟩
  have hT3 := hT2.draw ht3 ho3
  clear hT2 ht3 ho3
  go_wp2_with fail
  refine (range_any (-60) 60 w.heap.size w.heap.size 70000 _ (hT3.less (by omega)) (by omega) (by omega) (by omega)).mono ?_
  rintro e w4 ⟨b, hb1, hb2, rfl, ht4, ho4⟩
  have hT4 := hT3.draw ht4 ho4
  clear hT3 ht4 ho4
  obtain ⟨y, m, d, x, z, u, v, hciv, g0, gx, gz, hxz, hc, gu, gv, hfin⟩ := months_plain (9497 + (k0 : Int)) k a b (by omega) (by omega) (by omega) (by omega) ha1 ha2 hb1 hb2
  have H1 := Lib.hid hciv
  have G0 := Lib.hid g0
  have GX := Lib.hid gx
  have GZ := Lib.hid gz
  have HC := Lib.hid hc
  have GU := Lib.hid gu
  have GV := Lib.hid gv
  have HF := Lib.hid hfin
  clear hciv g0 gx gz hc gu gv hfin
  go_wp2_with fail
  refine (dadd_is G0.out _).mono ?_
  rintro e w5 ⟨rfl, rfl⟩
  go_wp2_with fail
  refine (dadd_is GX.out _).mono ?_
  rintro e w5 ⟨rfl, rfl⟩
  go_wp2_with fail
  refine (dadd_is GZ.out _).mono ?_
  rintro e w5 ⟨rfl, rfl⟩
  go_wp2_with fail
  refine (next_in (N := 60000) (hT4.less (by omega)) (by omega) (by omega)).mono ?_
  rintro e w5 ⟨c, hc, rfl, ht5, ho5⟩
  have hT5 := hT4.draw ht5 ho5
  clear hT4 ht5 ho5
  obtain ⟨q, gq, hxq⟩ := HC.out c (by omega) (by omega)
  have GQ := Lib.hid gq
  clear gq
  go_wp2_with fail
  refine (dadd_is GQ.out _).mono ?_
  rintro e w6 ⟨rfl, rfl⟩
  go_wp2_with fail
  refine (rcivil_is H1.out _).mono ?_
  rintro e w6 ⟨rfl, rfl⟩
  go_wp2_with fail
  refine (dadd_is GU.out _).mono ?_
  rintro e w6 ⟨rfl, rfl⟩
  go_wp2_with fail
  refine (dadd_is GV.out _).mono ?_
  rintro e w6 ⟨rfl, rfl⟩
  by_cases h28 : d ≤ 28
  · have huv := HF.out h28
    subst huv
    go_wp2_with fail
    refine (known5_any _).mono ?_
    rintro e w7 ⟨rfl, hb7⟩
    have hT7 := hT5.next hb7
    go_wp2_with fail
    go_ret
    exact ⟨rfl, hT7.below⟩
  · go_wp2_with fail
    refine (known5_any _).mono ?_
    rintro e w7 ⟨rfl, hb7⟩
    have hT7 := hT5.next hb7
    go_wp2_with fail
    go_ret
    exact ⟨rfl, hT7.below⟩
end Go.Proofs.Ytmjegmlchonlmaa
