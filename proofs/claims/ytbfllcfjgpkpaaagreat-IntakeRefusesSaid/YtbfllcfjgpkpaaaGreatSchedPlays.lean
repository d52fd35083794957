/-
  The laws of schedules over a tape: SchedulePlays, ScheduleSpoilt.
-/
import Derived.Test.YtbfllcfjgpkpaaaGreatSchedLaws
import Derived.Test.YtbfllcfjgpkpaaaGreatMakeZone
import Derived.Test.YtbfllcfjgpkpaaaGreatRow
import Derived.Test.YtbfllcfjgpkpaaaGreatSchedPlain2
import Derived.Deep.CutBlock
import Derived.Deep.RegionHeld3
import Derived.Deep.DrawnRows
import Derived.Deep.DeepCutAuto
namespace Go.Proofs.YtbfllcfjgpkpaaaGreat
open Go.RowKit
set_option linter.unusedVariables false
set_option maxHeartbeats 8000000
theorem CAt.only {b : Nat} {W W' : World} {c : CN} {A : Option Addr} (h : CAt W c A) (hA : ∀ ad, A = some ad → ad.block ≠ b) (ho : Only b W W') : CAt W' c A :=
  ⟨h.nm, h.ints.1, fun k x hx => by
    obtain ⟨g, o, rfl, hlt, e1⟩ := h.ints.2 k x hx
    exact ⟨g, o, rfl, Nat.lt_of_lt_of_le hlt ho.size, only_cell ho hlt (hA _ rfl) e1⟩⟩
theorem lawOnly2 {w W W' : World} (h : Below w.heap.size w W) (ho : Only w.heap.size W W') : Below w.heap.size w W' := h.trans (only_to_below ho (Nat.le_refl _) h.size)
section
variable {w W W' : World} {N N' S P : Nat} {s : SC} {z : ZN} {A : Option Addr} {k : Nat} {c : CN} {Ac : Option Addr} {kc : Nat}
end
theorem next_bd {s : SC} {z : ZN} {c : CN} {d v e : Int} (h : NextR s z c d v e) (hd : 0 ≤ d) : e = 0 → 0 ≤ v ∧ v ≤ 73048 := by
  intro he
  rcases h with ⟨-, hn, -⟩ | ⟨-, -, -, hn⟩ | ⟨-, -, ⟨-, -, hn⟩ | ⟨hr, -⟩⟩
  · exact absurd he hn
  · omega
  · omega
  · have := fromP_spec hr
    omega
theorem next_ok {s : SC} {z : ZN} {c : CN} {d v : Int} (h1 : s.ok = true) (h2 : z.ok = true) (h3 : c.ok = true) (hd0 : 0 ≤ d) (hd1 : d ≤ 73048) (h : fromP (dealB s c) d = some v) : NextR s z c d v 0 :=
  .inr (.inr ⟨aErr_ok h1 h2 h3, (dayB_iff d).2 ⟨hd0, hd1⟩, .inr ⟨h, rfl⟩⟩)
theorem dln_ok {s : SC} {z : ZN} {c : CN} {d v : Int} (h1 : s.ok = true) (h2 : z.ok = true) (h3 : c.ok = true) (hd0 : 0 ≤ d) (hd1 : d ≤ 73048) (hv : dealB s c d = true) (h : dlO s z c d = some v) : DlnR s z c d v 0 := by
  refine .inr ⟨.inr (.inr (.inr ⟨aErr_ok h1 h2 h3, (dayB_iff d).2 ⟨hd0, hd1⟩, hv, rfl⟩)), ?_⟩
  obtain ⟨v2, e2, hr⟩ := dl_ex s z c d
  rcases hr.opt with ⟨h0, h1⟩ | ⟨h0, h1⟩
  · rw [h] at h1
    injection h1 with h1
    subst h1 h0
    exact hr
  · rw [h] at h1
    cases h1
theorem set_ok {s : SC} {z : ZN} {c : CN} {d v : Int} (h1 : s.ok = true) (h2 : z.ok = true) (h3 : c.ok = true) (hd0 : 0 ≤ d) (hd1 : d ≤ 73048) (hv : dealB s c d = true) (h : stepUp (biz c) s.settle.toNat d = some v) : SetR s z c d v 0 :=
  .inr ⟨.inr (.inr (.inr ⟨aErr_ok h1 h2 h3, (dayB_iff d).2 ⟨hd0, hd1⟩, hv, rfl⟩)), .inr ⟨h, rfl⟩⟩
theorem CN.ok_all {c : CN} (h : c.ok = true) : c.all = false := by
  unfold CN.ok at h
  simp only [Bool.and_eq_true, Bool.not_eq_true'] at h
  exact h.2.1
/-- Two dealing days behind each other, their deadlines and their settlement. -/
theorem two_days {s : SC} {z : ZN} {c : CN} (hs : s.ok = true) (hz : z.ok = true) (hc : c.ok = true) (hl : c.hs.length ≤ 20) {d : Int} (h0 : 9477 ≤ d) (h1 : d ≤ 9517) :
    ∃ a b x y u v : Int, 0 ≤ a ∧ a ≤ 20000 ∧ 0 ≤ b ∧ b ≤ 20000 ∧ NextR s z c d a 0 ∧ NextR s z c (a + 1) b 0 ∧ DlnR s z c a x 0 ∧ DlnR s z c b y 0 ∧ SetR s z c a u 0 ∧ SetR s z c b v 0 ∧ a < b ∧ x ≤ y ∧ u ≤ v ∧ a ≤ u := by
  have hall := CN.ok_all hc
  obtain ⟨n1, n2, n3, n4, c1, c2⟩ := SC.ok_ranges hs
  obtain ⟨a, ha, ha2⟩ := deal_ex (d := d) hs hall hl (by omega) (by omega)
  obtain ⟨a3, a4, a5, -⟩ := fromP_spec ha
  obtain ⟨b, hb, hb2⟩ := deal_ex (d := a + 1) hs hall hl (by omega) (by omega)
  obtain ⟨b3, b4, b5, -⟩ := fromP_spec hb
  obtain ⟨x, hx⟩ := dl_some (d := a) hs hz hall hl (by omega) (by omega)
  obtain ⟨y, hy⟩ := dl_some (d := b) hs hz hall hl (by omega) (by omega)
  obtain ⟨u, hu, -⟩ := up_ex hall hl s.settle.toNat a (by omega) (by omega)
  obtain ⟨v, hv, -⟩ := up_ex hall hl s.settle.toNat b (by omega) (by omega)
  exact ⟨a, b, x, y, u, v, by omega, by omega, by omega, by omega, next_ok hs hz hc (by omega) (by omega) ha, next_ok hs hz hc (by omega) (by omega) hb, dln_ok hs hz hc (by omega) (by omega) a5 hx, dln_ok hs hz hc (by omega) (by omega) b5 hy, set_ok hs hz hc (by omega) (by omega) a5 hu, set_ok hs hz hc (by omega) (by omega) b5 hv, by omega, dl_mono hz (by omega) hx hy, up_mono _ _ _ _ _ (show a ≤ b by omega) hu hv, stepUp_ge _ _ _ hu⟩
end Go.Proofs.YtbfllcfjgpkpaaaGreat
