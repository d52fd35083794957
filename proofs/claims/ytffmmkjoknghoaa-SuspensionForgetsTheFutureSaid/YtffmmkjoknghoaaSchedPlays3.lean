/-
  The laws of schedules over a tape: ScheduleWeeks.
-/
import Derived.Test.YtffmmkjoknghoaaSchedPlays
import Derived.Test.YtffmmkjoknghoaaRowMid
namespace Go.Proofs.Ytffmmkjoknghoaa
open Go.RowKit
set_option linter.unusedVariables false
set_option maxHeartbeats 8000000
theorem plainV (w : World) : Calls Try.prog 8 #[] w (RetB (.agg (pV zP none 0 cP none 0)) w) := plain_any w
theorem CAt.setRow_far {W : World} {c : CN} {A : Option Addr} (h : CAt W c A) {R : Nat} (hA : ∀ ad, A = some ad → ad.block ≠ R) (cs : Array Value) : CAt (W.setRow R cs) c A := h.setRow hA cs
/-- A weekly schedule at a day with its weekday. -/
theorem week_pack {c : CN} (hc : c.ok = true) (hl : c.hs.length ≤ 20) {n t : Int} (hn0 : 0 ≤ n) (hn1 : n ≤ 6) (h0 : 0 ≤ t) (h1 : t ≤ 20000) (ht : (t + 5) % 7 = n) :
    ∃ r, NextR ⟨2, n, 0, 0, 0⟩ zP c t r 0 ∧ fromP (biz c) t = some r ∧ NextR ⟨2, n, 0, 0, 0⟩ zP c r r 0 ∧ 0 ≤ r ∧ r ≤ 73048 := by
  have hs : SC.ok ⟨2, n, 0, 0, 0⟩ = true := mkOk (by simp [ruleOk]; omega) (by omega) (by omega) (by omega) (by omega) (by omega) (by omega)
  obtain ⟨y, y1, y2, y3⟩ := biz_near (CN.ok_all hc) hl (d := t) h0 (by omega)
  obtain ⟨r, hr, hr2⟩ := fromP_ex y1 (by omega) y3
  obtain ⟨r1, r2, r3, r4⟩ := fromP_spec hr
  have hd : dealB ⟨2, n, 0, 0, 0⟩ c r = true := dealB_of r3 (by simp [ruleB, week_deal ht h0 hr])
  have hf : fromP (dealB ⟨2, n, 0, 0, 0⟩ c) t = some r := fromP_is r1 r2 hd (fun e e1 e2 => dealB_no (r4 e e1 e2))
  exact ⟨r, next_ok hs zP_ok hc h0 (by omega) hf, hr, next_ok hs zP_ok hc (by omega) r2 (fromP_yes r2 hd), by omega, r2⟩
end Go.Proofs.Ytffmmkjoknghoaa
