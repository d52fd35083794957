/-
  ZoneInverse: how Local and Instant belong together; ZoneFixed: a zone without changes only shifts times.
-/
import Derived.Test.YtmjegmlchonlmaaZoneLaws2
namespace Go.Proofs.Ytmjegmlchonlmaa
open Go.RowKit

theorem ZN.locN_bd {z : ZN} (h : z.ok = true) (t : Int) : t - 900 ≤ z.locN t ∧ z.locN t ≤ t + 900 := by
  have := ZN.offset_bd h t
  unfold ZN.locN
  omega
theorem ZN.local_at {z : ZN} (h : z.ok = true) {t : Int} (h0 : 0 ≤ t) (h1 : t ≤ 105190559) (h2 : 0 ≤ z.locN t) (h3 : z.locN t ≤ 105190559) :
    z.localD t = z.locN t / 1440 ∧ z.localM t = z.locN t % 1440 ∧ z.localE t = 0 :=
  ZN.local_good (ZN.offset_good h ((instB_iff t).2 ⟨h0, h1⟩)).2 ((instB_iff _).2 ⟨h2, h3⟩)

set_option maxRecDepth 100000 in
set_option maxHeartbeats 2000000 in
theorem zoneInverse_any (A : Option Addr) (L : List Int) (cap : Nat) (w : World) (hL : IntsAt w A L) :
    Calls Try.prog 7 #[.slice A L.length cap] w (RetB (.bool true) w) := by
  have ht0 := tape_start (cap := cap) hL
  have hw0 := bal0 w (.cells #[.slice A L.length cap, .int .i64 0] 37)
  go_enter Try.func7, Try.ntmps7
  go_wp2_with fail
  refine (day_any w.heap.size w.heap.size 100000 _ (ht0.less (by omega))).mono ?_
  rintro e w1 ⟨v, hv1, hv2, rfl, ht1, ho1⟩
  have hB1 := lawOnly hw0 ho1
  clear hw0 ho1 ht0 hL
  have hcase : v < 3 ∨ (3 ≤ v ∧ v ≤ 73044) ∨ 73044 < v := by omega
  rcases hcase with h3 | ⟨h3, h4⟩ | h3
  all_goals
    go_wp2_with fail
    refine (mkZone_any _ w.heap.size w.heap.size 90000 _ (ht1.less (by omega)) (by omega) (by omega)).mono ?_
    rintro e w2 ⟨z, A2, c2, rfl, hz2, hA2, hok, ht2, ho2⟩
    have hB2 := lawOnly hB1 ho2
    have hs2 := ht2.lt
    have hzb := ZB.new (b := w.heap.size) (c := c2) hz2 (fun ad e => by have := hA2 ad e; have := ht1.lt; omega) hs2 24
    have hB3 := bal hB2 (.cells #[.string z.name, .int .i64 z.off, .slice A2 z.cs.length c2] 24)
    have HZB := Lib.hid hzb
    clear hzb hz2 hA2 hB1 ho2 hB2 ht1
    go_wp2_with fail
    refine (range_any (-2000) 2000 w.heap.size w.heap.size 80000 _ ((ht2.alloc _).less (by omega)) (by omega) (by omega) (by omega)).mono ?_
    rintro e w3 ⟨r, hr1, hr2, rfl, ht3, ho3⟩
    have hB4 := lawOnly hB3 ho3
    have hz3 := HZB.out.only ho3
    have q0 := hz3.c0
    have q1 := hz3.c1
    have q2 := hz3.c2
    clear HZB hB3 ht2 ho3 ht3
    go_wp2_with fail
    refine (zinst_at hok _ _ (by omega) (by omega) (by omega) A2 c2 _ hz3.at_).mono ?_
    rintro e w6 ⟨x, hx, rfl, hb6⟩
    have hz6 := hz3.below hb6
    have hB5 := bnext hB4 hb6
    have q0 := hz6.c0
    have q1 := hz6.c1
    have q2 := hz6.c2
    obtain ⟨s1, s2, s3, s4⟩ := ZN.inst_spec hok hx
    have s5 := ZN.locN_bd hok x
    have s6 := ZN.locN_bd hok (x - 1)
    have s7 := s4 (x - 1) (by have := ZN.locN_bd hok x; omega) (by omega)
    have s8 : 0 ≤ x - 1 := by omega
    have l1 := ZN.local_at hok s1 s2 (by omega) (by omega)
    have l2 := ZN.local_at hok s8 (by omega) (by omega) (by omega)
    obtain ⟨y, hy, -, -⟩ := ZN.inst_at hok (l := z.locN x) (by omega) (by omega)
    obtain ⟨t1, t2, t3, t4⟩ := ZN.inst_spec hok hy
    have s9 : y ≤ x := by
      by_cases hyx : y ≤ x
      · exact hyx
      · have := t4 x s1 (by omega); omega
    have S4 := Lib.hid s4
    have S10 : z.locN x ≤ 105189000 := by omega
    have S11 : 0 ≤ z.locN x := by omega
    have L1 := Lib.hid l1
    have L2 := Lib.hid l2
    have HY := Lib.hid hy
    obtain ⟨lx, hlx⟩ : ∃ lx, lx = z.locN x := ⟨_, rfl⟩
    obtain ⟨ly, hly⟩ : ∃ ly, ly = z.locN (x - 1) := ⟨_, rfl⟩
    rw [← hlx] at L1 HY S10 S11 s3
    rw [← hly] at L2 s7
    have k1 : 0 ≤ ly := by omega
    have k2 : ly ≤ 105190559 := by omega
    clear hz3 hx hb6 hB4 s4 l1 l2 hy t1 t2 t3 t4 S4 s5 s6 hlx hly
    go_wp2_with fail
    refine (zlocal_is L1.out A2 c2 _ hz6.at_).mono ?_
    rintro e w7 ⟨rfl, hb7⟩
    have hz7 := hz6.below hb7
    have hB6 := bnext hB5 hb7
    have q0 := hz7.c0
    have q1 := hz7.c1
    have q2 := hz7.c2
    clear hz6 hb7 hB5
    go_wp2_with fail
    refine (zlocal_is L2.out A2 c2 _ hz7.at_).mono ?_
    rintro e w8 ⟨rfl, hb8⟩
    have hz8 := hz7.below hb8
    have hB7 := bnext hB6 hb8
    have q0 := hz8.c0
    have q1 := hz8.c1
    have q2 := hz8.c2
    clear hz7 hb8 hB6
    go_wp2_with fail
    refine (zinst_at hok lx _ rfl S11 S10 A2 c2 _ hz8.at_).mono ?_
    rintro e w9 ⟨y', hy', rfl, hb9⟩
    have hye : y' ≤ x := by
      have := hy'.symm.trans HY.out
      simp at this
      omega
    have hB8 := bnext hB7 hb9
    clear hz8 hb9 hB7 hy' HY
    go_wp2_with (go_at_call 30; refine (zknown_any _).mono ?_; rintro e w10 ⟨rfl, hb10⟩)
    go_ret
    exact ⟨rfl, bnext hB8 hb10⟩

theorem fix_ok {off : Int} (h1 : -900 ≤ off) (h2 : off ≤ 900) : (⟨⟨#[102, 105, 120]⟩, off, []⟩ : ZN).ok = true := by
  have e : nameB (ByteArray.data ⟨#[102, 105, 120]⟩).toList = true := by decide
  unfold ZN.ok
  simp only [e]
  simp [offB, chkFrom]
  omega
theorem fix_at (w : World) (off : Int) : ZAt w ⟨⟨#[102, 105, 120]⟩, off, []⟩ none := ⟨(by decide : (ByteArray.size ⟨#[102, 105, 120]⟩) ≤ maxLen), by simp [maxLen], fun k x h => by simp at h⟩

set_option maxRecDepth 100000 in
set_option maxHeartbeats 2000000 in
theorem zoneFixed_any (o t : Int) (w : World) :
    Calls Try.prog 8 #[.int .i64 o, .int .i64 t] w (RetB (.bool true) w) := by
  obtain ⟨f1, f2⟩ := fold_lt o 1801
  obtain ⟨f3, f4⟩ := fold_lt t 105186559
  generalize hfo : foldI o 1801 = a at f1 f2
  generalize hft : foldI t 105186559 = b at f3 f4
  have hz := fun W : World => fix_at W (a - 900)
  have hok := fix_ok (off := a - 900) (by omega) (by omega)
  have hN : (⟨⟨#[102, 105, 120]⟩, a - 900, []⟩ : ZN).locN (2000 + b) = 2000 + b + (a - 900) := rfl
  have l1 := ZN.local_at hok (t := 2000 + b) (by omega) (by omega) (by rw [hN]; omega) (by rw [hN]; omega)
  rw [hN] at l1
  have i1 : instFrom 0 (a - 900) [] (2000 + b + (a - 900)) = some (2000 + b) := inst_nil_lt (by omega) (by omega)
  have i2 := ZN.inst_some hok (d := (2000 + b + (a - 900)) / 1440) (m := (2000 + b + (a - 900)) % 1440) (x := 2000 + b) ((dayB_iff _).2 (by omega)) ((minB_iff _).2 (by omega))
    (by show instFrom 0 (a - 900) [] _ = _; rw [show 1440 * ((2000 + b + (a - 900)) / 1440) + (2000 + b + (a - 900)) % 1440 = 2000 + b + (a - 900) by omega]; exact i1)
  have o1 := ZN.offset_good hok (t := 2000 + b) ((instB_iff _).2 (by omega))
  have o2 : (⟨⟨#[102, 105, 120]⟩, a - 900, []⟩ : ZN).offsetV (2000 + b) = a - 900 ∧ (⟨⟨#[102, 105, 120]⟩, a - 900, []⟩ : ZN).offsetE (2000 + b) = 0 := o1
  have C1 : ∀ W, Calls Try.prog 26 #[.agg #[.string { data := #[102, 105, 120] }, .int .i64 (a - 900), .slice none 0 0], .int .i64 (2000 + b)] W (RetB (.tuple #[.int .i64 ((2000 + b + (a - 900)) / 1440), .int .i64 ((2000 + b + (a - 900)) % 1440), .int .i64 0]) W) := fun W => zlocal_is l1 none 0 W (hz W)
  have C2 : ∀ W, Calls Try.prog 28 #[.agg #[.string { data := #[102, 105, 120] }, .int .i64 (a - 900), .slice none 0 0], .int .i64 ((2000 + b + (a - 900)) / 1440), .int .i64 ((2000 + b + (a - 900)) % 1440)] W (RetB (.tuple #[.int .i64 (2000 + b), .int .i64 0]) W) := fun W => zinst_is i2 none 0 W (hz W)
  have C3 : ∀ W, Calls Try.prog 24 #[.agg #[.string { data := #[102, 105, 120] }, .int .i64 (a - 900), .slice none 0 0], .int .i64 (2000 + b)] W (RetB (.tuple #[.int .i64 (a - 900), .int .i64 0]) W) := fun W => by
    have := zOffsetAt_any ⟨⟨#[102, 105, 120]⟩, a - 900, []⟩ none 0 (2000 + b) W (hz W)
    rw [o2.1, o2.2] at this
    exact this
  have D1 := Lib.hid C1
  have D2 := Lib.hid C2
  have D3 := Lib.hid C3
  have F1 := Lib.hid hfo
  have F2 := Lib.hid hft
  clear C1 C2 C3 o1 o2 i1 i2 l1 hN hok hz hfo hft
  go_enter Try.func8, Try.ntmps8
  go_wp2_with fail
  refine (fold_any _ _ _ (by omega)).mono ?_
  rw [F1.out]
  rintro e w' ⟨rfl, rfl⟩
  go_wp2_with fail
  refine (fold_any _ _ _ (by omega)).mono ?_
  rw [F2.out]
  rintro e w' ⟨rfl, rfl⟩
  go_wp2_with fail
  refine (D1.out _).mono ?_
  rintro e w1 ⟨rfl, hb1⟩
  have hB1 := bnext (bal0 w (.cells #[.string { data := #[102, 105, 120] }, .int .i64 (a - 900), .slice none 0 0] 24)) hb1
  have hs1 := hb1.size
  simp at hs1
  have q0 := (bcell hb1 w.heap.size 0 (by simp)).trans (World.cell?_alloc_new _ _ _ _)
  have q1 := (bcell hb1 w.heap.size 1 (by simp)).trans (World.cell?_alloc_new _ _ _ _)
  have q2 := (bcell hb1 w.heap.size 2 (by simp)).trans (World.cell?_alloc_new _ _ _ _)
  simp at q0 q1 q2
  clear hb1
  go_wp2_with fail
  refine (D2.out _).mono ?_
  rintro e w2 ⟨rfl, hb2⟩
  have hB2 := bnext hB1 hb2
  have r0 := (bcell hb2 w.heap.size 0 (by omega)).trans q0
  have r1 := (bcell hb2 w.heap.size 1 (by omega)).trans q1
  have r2 := (bcell hb2 w.heap.size 2 (by omega)).trans q2
  clear hb2 hB1 q0 q1 q2
  go_wp2_with fail
  refine (D3.out _).mono ?_
  rintro e w3 ⟨rfl, hb3⟩
  have hB3 := bnext hB2 hb3
  clear hb3 hB2 r0 r1 r2
  go_wp2_with (go_at_call 30; refine (zknown_any _).mono ?_; rintro e w4 ⟨rfl, hb4⟩)
  go_goals
  go_ret
  exact ⟨rfl, bnext hB3 hb4⟩
end Go.Proofs.Ytmjegmlchonlmaa
