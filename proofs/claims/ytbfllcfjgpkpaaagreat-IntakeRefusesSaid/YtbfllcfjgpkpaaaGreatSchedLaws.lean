/-
  The sanity check of schedules: what is known of the plain place.
  The sanity check of schedules.
  The law on arbitrary schedules and places.
-/
import Derived.Test.YtbfllcfjgpkpaaaGreatSchedPlain2
import Derived.Test.YtbfllcfjgpkpaaaGreatSchedRef
import Derived.Test.YtbfllcfjgpkpaaaGreatSchedWalkI
import Derived.Deep.RegionHeld3
import Derived.Deep.DrawnRows
namespace Go.Proofs.YtbfllcfjgpkpaaaGreat
section
open Go.RowKit
set_option maxHeartbeats 8000000
set_option linter.unusedVariables false

def zP : ZN := ⟨⟨#[117, 116, 99]⟩, 0, []⟩
def cP : CN := ⟨⟨#[99]⟩, false, false, false, false, false, true, true, []⟩
def sK : SC := ⟨2, 4, 2, 3, 720⟩
def sM : SC := ⟨3, -1, 0, 0, 0⟩
theorem zP_ok : zP.ok = true := by decide +kernel
theorem cP_ok : cP.ok = true := by decide +kernel
theorem sK_ok : sK.ok = true := by decide +kernel
theorem sM_ok : sM.ok = true := by decide +kernel
theorem zP_at (W : World) : ZAt W zP none := ⟨by decide, by decide, fun k x h => by simp [zP] at h⟩
theorem cP_at (W : World) : CAt W cP none := ⟨by decide, by decide, fun k x h => by simp [cP] at h⟩
theorem k9a : dealB sK cP 9505 = true := by decide +kernel
theorem k9b : stepDn (biz cP) 2 9505 = some 9503 := by decide +kernel
theorem k9c : fromP (okB sK zP cP 13685040) 9501 = some 9505 := by decide +kernel
theorem k9d : fromP (okB sK zP cP 13685041) 9501 = some 9512 := by decide +kernel
theorem k9e : stepUp (biz cP) 3 9505 = some 9510 := by decide +kernel
theorem k9f : dealB sM cP 9526 = true := by decide +kernel
theorem kDe : DeR sK zP cP 9505 0 := .inr (.inr (.inr ⟨aErr_ok sK_ok zP_ok cP_ok, by decide, k9a, rfl⟩))
theorem kDl : DlnR sK zP cP 9505 13685040 0 := .inr ⟨kDe, .inr ⟨9503, k9b, .inr ⟨by decide +kernel, rfl⟩⟩⟩
theorem kSt : SetR sK zP cP 9505 9510 0 := .inr ⟨kDe, .inr ⟨k9e, rfl⟩⟩
end
section
open Go.RowKit
set_option maxHeartbeats 8000000
set_option linter.unusedVariables false
theorem kDeadline (w : World) : Calls Tryz.prog 73 #[.agg #[.int .i64 2, .int .i64 4, .int .i64 2, .int .i64 3, .int .i64 720], .agg #[.string ⟨#[117, 116, 99]⟩, .int .i64 0, .slice none 0 0, .string ⟨#[99]⟩, .bool false, .bool false, .bool false, .bool false, .bool false, .bool true, .bool true, .slice none 0 0], .int .i64 9505] w (RetB (.tuple #[.int .i64 13685040, .int .i64 0]) w) := sDeadline_is kDl 0 0 (zP_at w) (cP_at w)
theorem kFor (w : World) : Calls Tryz.prog 101 #[.agg #[.int .i64 2, .int .i64 4, .int .i64 2, .int .i64 3, .int .i64 720], .agg #[.string ⟨#[117, 116, 99]⟩, .int .i64 0, .slice none 0 0, .string ⟨#[99]⟩, .bool false, .bool false, .bool false, .bool false, .bool false, .bool true, .bool true, .slice none 0 0], .int .i64 13685040] w (RetB (.tuple #[.int .i64 9505, .int .i64 0]) w) := sFor_is k9c 0 0 (zP_at w) (cP_at w) sK_ok zP_ok cP_ok (by decide) (by decide)
theorem kFor2 (w : World) : Calls Tryz.prog 101 #[.agg #[.int .i64 2, .int .i64 4, .int .i64 2, .int .i64 3, .int .i64 720], .agg #[.string ⟨#[117, 116, 99]⟩, .int .i64 0, .slice none 0 0, .string ⟨#[99]⟩, .bool false, .bool false, .bool false, .bool false, .bool false, .bool true, .bool true, .slice none 0 0], .int .i64 13685041] w (RetB (.tuple #[.int .i64 9512, .int .i64 0]) w) := sFor_is k9d 0 0 (zP_at w) (cP_at w) sK_ok zP_ok cP_ok (by decide) (by decide)
/-- The box of the schedule of the check. -/
structure KBx (w W : World) : Prop where
  blk : W.heap[w.heap.size]? = some (.cells #[.int .i64 2, .int .i64 4, .int .i64 2, .int .i64 3, .int .i64 720] 28 (0, 0))
  below : Below w.heap.size w W
theorem KBx.next {w W W' : World} (h : KBx w W) (hb : Below W.heap.size W W') : KBx w W' := ⟨(hb.block _ (Array.getElem?_eq_some_iff.1 h.blk).1).trans h.blk, bnext h.below hb⟩
theorem KBx.q {w W : World} (h : KBx w W) : W.cell? ⟨w.heap.size, 0, none⟩ = some (.int .i64 2) ∧ W.cell? ⟨w.heap.size, 1, none⟩ = some (.int .i64 4) ∧ W.cell? ⟨w.heap.size, 2, none⟩ = some (.int .i64 2) ∧ W.cell? ⟨w.heap.size, 3, none⟩ = some (.int .i64 3) ∧ W.cell? ⟨w.heap.size, 4, none⟩ = some (.int .i64 720) :=
  ⟨Joins.cell_of_block h.blk 0, Joins.cell_of_block h.blk 1, Joins.cell_of_block h.blk 2, Joins.cell_of_block h.blk 3, Joins.cell_of_block h.blk 4⟩
end
section
open Go.RowKit
attribute [local go_sem ↓] Go.wp_at_zero Go.wp_at_succ
set_option maxHeartbeats 8000000
set_option linter.unusedVariables false
/-- What the five functions return, program and document alike. -/
def DealsR (s : SC) (z : ZN) (c : CN) (d : Int) (v : Bool) (e : Int) : Prop :=
  (aErr s z c = e ∧ e ≠ 0 ∧ v = false) ∨ (aErr s z c = 0 ∧ dayB d = false ∧ v = false ∧ e = 50) ∨ (aErr s z c = 0 ∧ dayB d = true ∧ dealB s c d = v ∧ e = 0)
def NextR (s : SC) (z : ZN) (c : CN) (d v e : Int) : Prop :=
  (aErr s z c = e ∧ e ≠ 0 ∧ v = 0) ∨ (aErr s z c = 0 ∧ dayB d = false ∧ v = 0 ∧ e = 50) ∨ (aErr s z c = 0 ∧ dayB d = true ∧ ((fromP (dealB s c) d = none ∧ v = 0 ∧ e = 81) ∨ (fromP (dealB s c) d = some v ∧ e = 0)))
def ForR (s : SC) (z : ZN) (c : CN) (t v e : Int) : Prop :=
  (aErr s z c = e ∧ e ≠ 0 ∧ v = 0) ∨ (aErr s z c = 0 ∧ ¬(0 ≤ t ∧ t ≤ 105190559) ∧ v = 0 ∧ e = 71) ∨ (aErr s z c = 0 ∧ 0 ≤ t ∧ t ≤ 105190559 ∧ ((fromP (okB s z c t) (max 0 (t / 1440 - 2)) = none ∧ v = 0 ∧ e = 81) ∨ (fromP (okB s z c t) (max 0 (t / 1440 - 2)) = some v ∧ e = 0)))
theorem deals_ex (s : SC) (z : ZN) (c : CN) (d : Int) : ∃ v e, DealsR s z c d v e := by
  by_cases h : aErr s z c = 0
  · cases hd : dayB d
    · exact ⟨_, _, .inr (.inl ⟨h, hd, rfl, rfl⟩)⟩
    · exact ⟨_, _, .inr (.inr ⟨h, hd, rfl, rfl⟩)⟩
  · exact ⟨_, _, .inl ⟨rfl, h, rfl⟩⟩
theorem opt_ex (o : Option Int) : ∃ v e : Int, (o = none ∧ v = 0 ∧ e = 81) ∨ (o = some v ∧ e = 0) := by
  cases o with
  | none => exact ⟨_, _, .inl ⟨rfl, rfl, rfl⟩⟩
  | some v => exact ⟨_, _, .inr ⟨rfl, rfl⟩⟩
theorem next_ex (s : SC) (z : ZN) (c : CN) (d : Int) : ∃ v e, NextR s z c d v e := by
  by_cases h : aErr s z c = 0
  · cases hd : dayB d
    · exact ⟨_, _, .inr (.inl ⟨h, hd, rfl, rfl⟩)⟩
    · obtain ⟨v, e, h2⟩ := opt_ex (fromP (dealB s c) d)
      exact ⟨v, e, .inr (.inr ⟨h, hd, h2⟩)⟩
  · exact ⟨_, _, .inl ⟨rfl, h, rfl⟩⟩
theorem for_ex (s : SC) (z : ZN) (c : CN) (t : Int) : ∃ v e, ForR s z c t v e := by
  by_cases h : aErr s z c = 0
  · by_cases ht : 0 ≤ t ∧ t ≤ 105190559
    · obtain ⟨v, e, h2⟩ := opt_ex (fromP (okB s z c t) (max 0 (t / 1440 - 2)))
      exact ⟨v, e, .inr (.inr ⟨h, ht.1, ht.2, h2⟩)⟩
    · exact ⟨_, _, .inr (.inl ⟨h, ht, rfl, rfl⟩)⟩
  · exact ⟨_, _, .inl ⟨rfl, h, rfl⟩⟩
section
variable {w : World} {s : SC} {z : ZN} {zA : Option Addr} {c : CN} {cA : Option Addr} (zc cc : Nat)
theorem rDealsR {d e : Int} {v : Bool} (h : DealsR s z c d v e) (hz : ZAt w z zA) (hc : CAt w c cA) : Calls Tryz.prog 63 #[.agg (sV s), .agg (pV z zA zc c cA cc), .int .i64 d] w (RetB (.tuple #[.bool v, .int .i64 e]) w) := by
  rcases h with ⟨h, hn, rfl⟩ | ⟨h, hd, rfl, rfl⟩ | ⟨h, hd, hv, rfl⟩
  · exact rDeals_bad zc cc hz hc h hn
  · obtain ⟨h1, h2, h3⟩ := aErr_zero h
    exact rDeals_day zc cc hz hc h1 h2 h3 hd
  · obtain ⟨h1, h2, h3⟩ := aErr_zero h
    obtain ⟨d0, d1⟩ := (dayB_iff d).1 hd
    exact rDeals_is zc cc hz hc h1 h2 h3 d0 d1 hv
theorem sForR {t v e : Int} (h : ForR s z c t v e) (hz : ZAt w z zA) (hc : CAt w c cA) : Calls Tryz.prog 101 #[.agg (sV s), .agg (pV z zA zc c cA cc), .int .i64 t] w (RetB (.tuple #[.int .i64 v, .int .i64 e]) w) := by
  rcases h with ⟨h, hn, rfl⟩ | ⟨h, ht, rfl, rfl⟩ | ⟨h, t0, t1, hv⟩
  · exact sFor_bad zc cc hz hc h hn
  · obtain ⟨h1, h2, h3⟩ := aErr_zero h
    by_cases h0 : t < 0
    · exact sFor_lo zc cc hz hc h1 h2 h3 h0
    · exact sFor_hi zc cc hz hc h1 h2 h3 (by omega) (by omega)
  · obtain ⟨h1, h2, h3⟩ := aErr_zero h
    exact (sFor_is rfl zc cc hz hc h1 h2 h3 t0 t1).mono fun _ _ hP => AddP_of hP hv
theorem rForR {t v e : Int} (h : ForR s z c t v e) (hz : ZAt w z zA) (hc : CAt w c cA) : Calls Tryz.prog 19 #[.agg (sV s), .agg (pV z zA zc c cA cc), .int .i64 t] w (RetB (.tuple #[.int .i64 v, .int .i64 e]) w) := by
  rcases h with ⟨h, hn, rfl⟩ | ⟨h, ht, rfl, rfl⟩ | ⟨h, t0, t1, hv⟩
  · exact rFor_bad zc cc hz hc h hn
  · obtain ⟨h1, h2, h3⟩ := aErr_zero h
    by_cases h0 : t < 0
    · exact rFor_lo zc cc hz hc h1 h2 h3 h0
    · exact rFor_hi zc cc hz hc h1 h2 h3 (by omega) (by omega)
  · obtain ⟨h1, h2, h3⟩ := aErr_zero h
    rw [← for_start h1 h2 t0 t1] at hv
    exact (rFor_is rfl zc cc hz hc h1 h2 h3 t0 t1).mono fun _ _ hP => AddP_of hP hv
theorem rDeadlineV {d v e : Int} (h : DlnR s z c d v e) (hz : ZAt w z zA) (hc : CAt w c cA) : Calls Tryz.prog 20 #[.agg (sV s), .agg (pV z zA zc c cA cc), .int .i64 d] w (RetB (.tuple #[.int .i64 v, .int .i64 e]) w) := rDeadline_is h zc cc hz hc
end
theorem Bx2.next {w W W' : World} {s : SC} {z : ZN} {zA : Option Addr} {zc : Nat} {c : CN} {cA : Option Addr} {cc : Nat} (h : Bx2 w W s z zA zc c cA cc) (hb : Below W.heap.size W W') : Bx2 w W' s z zA zc c cA cc :=
  ⟨h.sb.next hb, h.pb.next hb, h.za.below hb, h.ca.below hb, bnext h.below hb⟩
theorem Bx2.q {w W : World} {s : SC} {z : ZN} {zA : Option Addr} {zc : Nat} {c : CN} {cA : Option Addr} {cc : Nat} (h : Bx2 w W s z zA zc c cA cc) : W.cell? ⟨w.heap.size, 0, none⟩ = some (.int .i64 s.period) ∧ W.cell? ⟨w.heap.size, 1, none⟩ = some (.int .i64 s.nth) ∧ W.cell? ⟨w.heap.size, 2, none⟩ = some (.int .i64 s.notice) ∧ W.cell? ⟨w.heap.size, 3, none⟩ = some (.int .i64 s.settle) ∧ W.cell? ⟨w.heap.size, 4, none⟩ = some (.int .i64 s.cutoff) :=
  ⟨h.sb.cell rfl, h.sb.cell rfl, h.sb.cell rfl, h.sb.cell rfl, h.sb.cell rfl⟩
end
end Go.Proofs.YtbfllcfjgpkpaaaGreat
