/-
  ZoneMonotone: a later local time does not have an earlier instant.
-/
import Derived.Test.YtmjegmlchonlmaaZoneLaw
import Derived.Test.YtmjegmlchonlmaaZonePlain2
import Derived.Test.YtmjegmlchonlmaaMakeZone
import Derived.Test.YtmjegmlchonlmaaRow2
namespace Go.Proofs.Ytmjegmlchonlmaa
open Go.RowKit

theorem quo_pos {a : Int} (h : 0 ≤ a) : a.tdiv 1440 = a / 1440 := Int.tdiv_eq_ediv_of_nonneg h
theorem rem_pos {a : Int} (h : 0 ≤ a) : a.tmod 1440 = a % 1440 := Int.tmod_eq_emod_of_nonneg h

theorem lawOnly {w W W' : World} (h : Below w.heap.size w W) (ho : Only w.heap.size W W') : Below w.heap.size w W' := h.trans (only_to_below ho (Nat.le_refl _) h.size)

/-- A zone just returned is laid into a box of its own. -/
theorem ZB.new {W : World} {b : Nat} {z : ZN} {A : Option Addr} {c : Nat} (hz : ZAt W z A) (hA : ∀ ad, A = some ad → ad.block ≠ b) (hb : b < W.heap.size) (t : TypeId) :
    ZB (W.alloc (.cells #[.string z.name, .int .i64 z.off, .slice A z.cs.length c] t)) b W.heap.size z A c :=
  ⟨hz.below (bal0 _ _), hA, by omega, by simp, by simp, by simp⟩

/-- The instant of a local time well within the days. -/
def InstP (z : ZN) (l : Int) (w : World) (e : Ending) (w' : World) : Prop := ∃ x : Int, instFrom 0 z.off z.cs l = some x ∧ e = .returned (.tuple #[.int .i64 x, .int .i64 0]) ∧ Below w.heap.size w w'
theorem zinst_at {z : ZN} (h : z.ok = true) (l m : Int) (hm : m = l % 1440) (h0 : 0 ≤ l) (h1 : l ≤ 105189000) (A : Option Addr) (c : Nat) (w : World) (hz : ZAt w z A) :
    Calls Try.prog 28 #[.agg #[.string z.name, .int .i64 z.off, .slice A z.cs.length c], .int .i64 (l / 1440), .int .i64 m] w (InstP z l w) := by
  subst hm
  obtain ⟨x, hx, e1, e2⟩ := ZN.inst_at h h0 h1
  refine (zInstant_any z A c (l / 1440) (l % 1440) w hz).mono ?_
  rintro e w' ⟨rfl, hb⟩
  exact ⟨x, hx, ret_pair e1 e2, hb⟩

set_option maxRecDepth 100000 in
set_option maxHeartbeats 2000000 in
theorem zoneMonotone_any (A : Option Addr) (L : List Int) (cap : Nat) (w : World) (hL : IntsAt w A L) :
    Calls Try.prog 6 #[.slice A L.length cap] w (RetB (.bool true) w) := by
  have ht0 := tape_start (cap := cap) hL
  have hw0 := bal0 w (.cells #[.slice A L.length cap, .int .i64 0] 37)
  go_enter Try.func6, Try.ntmps6
  go_wp2_with fail
  refine (day_any w.heap.size w.heap.size 100000 _ (ht0.less (by omega))).mono ?_
  rintro e w1 ⟨v, hv1, hv2, rfl, ht1, ho1⟩
  have hB1 := lawOnly hw0 ho1
  clear hw0 ho1 ht0 hL
  have hcase : v < 3 ∨ (3 ≤ v ∧ v ≤ 73044) ∨ 73044 < v := by omega
  rcases hcase with h3 | ⟨h3, h4⟩ | h3
  all_goals
    go_wp2_with fail
    refine (mkZone_any _ w.heap.size w.heap.size 90000 _ (ht1.less (by omega)) (by omega) (by omega)).mono ?_
    rintro e w2 ⟨z, A2, c2, rfl, hz2, hA2, hok, ht2, ho2⟩
    have hB2 := lawOnly hB1 ho2
    have hs2 := ht2.lt
    have hzb := ZB.new (b := w.heap.size) (c := c2) hz2 (fun ad e => by have := hA2 ad e; have := ht1.lt; omega) hs2 24
    have hB3 := bal hB2 (.cells #[.string z.name, .int .i64 z.off, .slice A2 z.cs.length c2] 24)
    have HZB := Lib.hid hzb
    clear hzb hz2 hA2 hB1 ho2 hB2 ht1
    go_wp2_with fail
    refine (range_any (-2000) 2000 w.heap.size w.heap.size 80000 _ ((ht2.alloc _).less (by omega)) (by omega) (by omega) (by omega)).mono ?_
    rintro e w3 ⟨r, hr1, hr2, rfl, ht3, ho3⟩
    have hB4 := lawOnly hB3 ho3
    have HZ3 := Lib.hid (HZB.out.only ho3)
    clear HZB hB3 ht2 ho3
    go_wp2_with fail
    refine (next_in (N := 70000) (ht3.less (by omega)) (by omega) (by omega)).mono ?_
    rintro e w4 ⟨k, hk, rfl, ht4, ho4⟩
    have hB5 := lawOnly hB4 ho4
    have HZ4 := Lib.hid (HZ3.out.only ho4)
    clear HZ3 hB4 ht3 ho4
    go_wp2_with fail
    refine (pick_new [0, 1, 59, 60, 1440, (k : Int)] rfl (N := 60000) (ht4.less (by omega)) (by simp) (by simp) rfl (by simp)).mono ?_
    rintro e w5 ⟨p, hp, rfl, ht5, ho5⟩
    have hp0 : 0 ≤ p ∧ p ≤ 2000 := by simp at hp; omega
    obtain ⟨hpa, hpb⟩ := hp0
    have hB6 := lawOnly hB5 ho5
    have hz5 := HZ4.out.only ho5
    have q0 := hz5.c0
    have q1 := hz5.c1
    have q2 := hz5.c2
    clear HZ4 hB5 ht4 ho5 hp ht5
    go_wp2_with fail
    refine (zinst_at hok _ _ (by omega) (by omega) (by omega) A2 c2 _ hz5.at_).mono ?_
    rintro e w6 ⟨x, hx, rfl, hb6⟩
    have hz6 := hz5.below hb6
    have q0 := hz6.c0
    have q1 := hz6.c1
    have q2 := hz6.c2
    have HX := Lib.hid hx
    clear hz5 hx
    go_wp2_with fail
    refine (zinst_at hok _ _ (by omega) (by omega) (by omega) A2 c2 _ hz6.at_).mono ?_
    rintro e w7 ⟨y, hy, rfl, hb7⟩
    have hxy := ZN.inst_mono hok (by omega) HX.out hy
    clear hz6 hy HX
    go_wp2_with (go_at_call 30; refine (zknown_any _).mono ?_; rintro e w8 ⟨rfl, hb8⟩)
    go_ret
    exact ⟨rfl, bnext (bnext (bnext hB6 hb6) hb7) hb8⟩
end Go.Proofs.Ytmjegmlchonlmaa
