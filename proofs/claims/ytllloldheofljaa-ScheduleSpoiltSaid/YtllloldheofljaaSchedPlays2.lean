/-
  The laws of schedules over a tape: ScheduleFor.
-/
import Derived.Test.YtllloldheofljaaSchedPlays
namespace Go.Proofs.Ytllloldheofljaa
open Go.RowKit
attribute [local go_sem ↓] Go.wp_at_zero Go.wp_at_succ
set_option linter.unusedVariables false
set_option maxHeartbeats 8000000
theorem wi {n : Int} (h1 : -9223372036854775808 ≤ n) (h2 : n ≤ 9223372036854775807) : IntKind.i64.wrap n = n := by
  simp [IntKind.wrap, IntKind.signed, IntKind.bits]
  omega
theorem for_ok {s : SC} {z : ZN} {c : CN} {t v : Int} (h1 : s.ok = true) (h2 : z.ok = true) (h3 : c.ok = true) (ht0 : 0 ≤ t) (ht1 : t ≤ 105190559) (h : fromP (okB s z c t) (max 0 (t / 1440 - 2)) = some v) : ForR s z c t v 0 :=
  .inr (.inr ⟨aErr_ok h1 h2 h3, ht0, ht1, .inr ⟨h, rfl⟩⟩)
theorem okB_mk {s : SC} {z : ZN} {c : CN} {t d x : Int} (hd : dealB s c d = true) (hx : dlO s z c d = some x) (ht : t ≤ x) : okB s z c t d = true := by simp [okB, hd, hx, ht]
theorem okB_x {s : SC} {z : ZN} {c : CN} {t d : Int} (h : okB s z c t d = true) : dealB s c d = true ∧ ∃ x, dlO s z c d = some x ∧ t ≤ x := by
  unfold okB at h
  cases hx : dlO s z c d with
  | none => rw [hx] at h; simp at h
  | some x =>
    rw [hx] at h
    simp only [Bool.and_eq_true, decide_eq_true_eq] at h
    exact ⟨h.1, x, rfl, h.2⟩
theorem dl_low {s : SC} {z : ZN} {c : CN} (hs : s.ok = true) (hz : z.ok = true) (h : c.all = false) (hl : c.hs.length ≤ 20) {d x : Int} (h0 : 8820 ≤ d) (h1 : d ≤ 73000) (hx : dlO s z c d = some x) : 1440 * (d - 8820) - 900 ≤ x := by
  obtain ⟨n1, n2, n3, n4, c1, c2⟩ := SC.ok_ranges hs
  obtain ⟨r, hr, hr2⟩ := dn_ex h hl s.notice.toNat d (by omega) (by omega)
  unfold dlO at hx
  rw [hr] at hx
  have hi : instFrom 0 z.off z.cs (1440 * r + s.cutoff) = some x := hx
  obtain ⟨a1, a2, a3, -⟩ := ZN.inst_spec hz hi
  have hb := ZN.offset_bd hz x
  unfold ZN.locN at a3
  omega
theorem for_ex2 {s : SC} {z : ZN} {c : CN} (hs : s.ok = true) (hz : z.ok = true) (hc : c.ok = true) (hl : c.hs.length ≤ 20) {t : Int} (h0 : 1440 * 9477 ≤ t) (h1 : t ≤ 1440 * 9530) :
    ∃ d x, fromP (okB s z c t) (max 0 (t / 1440 - 2)) = some d ∧ 9000 ≤ d ∧ d ≤ 20000 ∧ dealB s c d = true ∧ dlO s z c d = some x ∧ t ≤ x := by
  have hall := CN.ok_all hc
  obtain ⟨y, hy, hy2⟩ := deal_ex (d := t / 1440 + 8822) hs hall hl (by omega) (by omega)
  obtain ⟨y3, y4, y5, -⟩ := fromP_spec hy
  obtain ⟨x, hx⟩ := dl_some (d := y) hs hz hall hl (by omega) (by omega)
  have hx2 := dl_low hs hz hall hl (by omega) (by omega) hx
  have ho := okB_mk (t := t) y5 hx (by omega)
  obtain ⟨d, hd, hd2⟩ := fromP_ex (p := okB s z c t) (d := max 0 (t / 1440 - 2)) (x := y) (by omega) (by omega) ho
  obtain ⟨d3, d4, d5, -⟩ := fromP_spec hd
  obtain ⟨e1, x2, e2, e3⟩ := okB_x d5
  exact ⟨d, x2, hd, by omega, by omega, e1, e2, e3⟩
/-- What For finds, of an instant and a later one; and what lies before it. -/
theorem for_days {s : SC} {z : ZN} {c : CN} (hs : s.ok = true) (hz : z.ok = true) (hc : c.ok = true) (hl : c.hs.length ≤ 20) {t : Int} (h0 : 1440 * 9477 ≤ t) (h1 : t ≤ 1440 * 9520) :
    ∃ d x, ForR s z c t d 0 ∧ DlnR s z c d x 0 ∧ t ≤ x ∧ 9000 ≤ d ∧ d ≤ 20000 ∧ (∀ t2, t ≤ t2 → t2 ≤ t + 5000 → ∃ d2, ForR s z c t2 d2 0 ∧ d ≤ d2) ∧
      ∀ k, d - 40 < k → k < d → ∃ b, DealsR s z c k b 0 ∧ (b = true → ∃ y, DlnR s z c k y 0 ∧ y < t) := by
  have hall := CN.ok_all hc
  obtain ⟨d, x, hd, d1, d2, d3, d4, d5⟩ := for_ex2 hs hz hc hl h0 (by omega)
  obtain ⟨f1, f2, f3, f4⟩ := fromP_spec hd
  refine ⟨d, x, for_ok hs hz hc (by omega) (by omega) hd, dln_ok hs hz hc (by omega) (by omega) d3 d4, d5, d1, d2, fun t2 g1 g2 => ?_, fun k k1 k2 => ?_⟩
  · obtain ⟨e, y, he, e1, e2, e3, e4, e5⟩ := for_ex2 hs hz hc hl (t := t2) (by omega) (by omega)
    refine ⟨e, for_ok hs hz hc (by omega) (by omega) he, ?_⟩
    have he2 := (fromP_spec he).1
    rcases Int.lt_or_le e d with hlt | hle
    · have := f4 e (by omega) hlt
      rw [okB_mk e3 e4 (by omega)] at this
      cases this
    · exact hle
  · refine ⟨dealB s c k, .inr (.inr ⟨aErr_ok hs hz hc, (dayB_iff k).2 (by omega), rfl, rfl⟩), fun hb => ?_⟩
    obtain ⟨y, hy⟩ := dl_some (d := k) hs hz hall hl (by omega) (by omega)
    refine ⟨y, dln_ok hs hz hc (by omega) (by omega) hb hy, ?_⟩
    have hk : okB s z c t k = false := by
      by_cases hst : max 0 (t / 1440 - 2) ≤ k
      · exact f4 k hst k2
      · exact early_no hs hz (by omega) (by omega)
    rcases Int.lt_or_le y t with hlt | hle
    · exact hlt
    · rw [okB_mk hb hy hle] at hk
      cases hk
end Go.Proofs.Ytllloldheofljaa
