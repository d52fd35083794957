/-
  The laws of schedules over a tape: ScheduleFor.
-/
import Derived.Test.YtmjegmlchonlmaaSchedPlays
namespace Go.Proofs.Ytmjegmlchonlmaa
open Go.RowKit
attribute [local go_sem ↓] Go.wp_at_zero Go.wp_at_succ
set_option linter.unusedVariables false
set_option maxHeartbeats 8000000
theorem wi {n : Int} (h1 : -9223372036854775808 ≤ n) (h2 : n ≤ 9223372036854775807) : IntKind.i64.wrap n = n := by
  simp [IntKind.wrap, IntKind.signed, IntKind.bits]
  omega
theorem for_ok {s : SC} {z : ZN} {c : CN} {t v : Int} (h1 : s.ok = true) (h2 : z.ok = true) (h3 : c.ok = true) (ht0 : 0 ≤ t) (ht1 : t ≤ 105190559) (h : fromP (okB s z c t) (max 0 (t / 1440 - 2)) = some v) : ForR s z c t v 0 :=
  .inr (.inr ⟨aErr_ok h1 h2 h3, ht0, ht1, .inr ⟨h, rfl⟩⟩)
theorem okB_mk {s : SC} {z : ZN} {c : CN} {t d x : Int} (hd : dealB s c d = true) (hx : dlO s z c d = some x) (ht : t ≤ x) : okB s z c t d = true := by simp [okB, hd, hx, ht]
theorem okB_x {s : SC} {z : ZN} {c : CN} {t d : Int} (h : okB s z c t d = true) : dealB s c d = true ∧ ∃ x, dlO s z c d = some x ∧ t ≤ x := by
  unfold okB at h
  cases hx : dlO s z c d with
  | none => rw [hx] at h; simp at h
  | some x =>
    rw [hx] at h
    simp only [Bool.and_eq_true, decide_eq_true_eq] at h
    exact ⟨h.1, x, rfl, h.2⟩
theorem dl_low {s : SC} {z : ZN} {c : CN} (hs : s.ok = true) (hz : z.ok = true) (h : c.all = false) (hl : c.hs.length ≤ 20) {d x : Int} (h0 : 8820 ≤ d) (h1 : d ≤ 73000) (hx : dlO s z c d = some x) : 1440 * (d - 8820) - 900 ≤ x := by
  obtain ⟨n1, n2, n3, n4, c1, c2⟩ := SC.ok_ranges hs
  obtain ⟨r, hr, hr2⟩ := dn_ex h hl s.notice.toNat d (by omega) (by omega)
  unfold dlO at hx
  rw [hr] at hx
  have hi : instFrom 0 z.off z.cs (1440 * r + s.cutoff) = some x := hx
  obtain ⟨a1, a2, a3, -⟩ := ZN.inst_spec hz hi
  have hb := ZN.offset_bd hz x
  unfold ZN.locN at a3
  omega
theorem for_ex2 {s : SC} {z : ZN} {c : CN} (hs : s.ok = true) (hz : z.ok = true) (hc : c.ok = true) (hl : c.hs.length ≤ 20) {t : Int} (h0 : 1440 * 9477 ≤ t) (h1 : t ≤ 1440 * 9530) :
    ∃ d x, fromP (okB s z c t) (max 0 (t / 1440 - 2)) = some d ∧ 9000 ≤ d ∧ d ≤ 20000 ∧ dealB s c d = true ∧ dlO s z c d = some x ∧ t ≤ x := by
  have hall := CN.ok_all hc
  obtain ⟨y, hy, hy2⟩ := deal_ex (d := t / 1440 + 8822) hs hall hl (by omega) (by omega)
  obtain ⟨y3, y4, y5, -⟩ := fromP_spec hy
  obtain ⟨x, hx⟩ := dl_some (d := y) hs hz hall hl (by omega) (by omega)
  have hx2 := dl_low hs hz hall hl (by omega) (by omega) hx
  have ho := okB_mk (t := t) y5 hx (by omega)
  obtain ⟨d, hd, hd2⟩ := fromP_ex (p := okB s z c t) (d := max 0 (t / 1440 - 2)) (x := y) (by omega) (by omega) ho
  obtain ⟨d3, d4, d5, -⟩ := fromP_spec hd
  obtain ⟨e1, x2, e2, e3⟩ := okB_x d5
  exact ⟨d, x2, hd, by omega, by omega, e1, e2, e3⟩
/-- What For finds, of an instant and a later one; and what lies before it. -/
theorem for_days {s : SC} {z : ZN} {c : CN} (hs : s.ok = true) (hz : z.ok = true) (hc : c.ok = true) (hl : c.hs.length ≤ 20) {t : Int} (h0 : 1440 * 9477 ≤ t) (h1 : t ≤ 1440 * 9520) :
    ∃ d x, ForR s z c t d 0 ∧ DlnR s z c d x 0 ∧ t ≤ x ∧ 9000 ≤ d ∧ d ≤ 20000 ∧ (∀ t2, t ≤ t2 → t2 ≤ t + 5000 → ∃ d2, ForR s z c t2 d2 0 ∧ d ≤ d2) ∧
      ∀ k, d - 40 < k → k < d → ∃ b, DealsR s z c k b 0 ∧ (b = true → ∃ y, DlnR s z c k y 0 ∧ y < t) := by
  have hall := CN.ok_all hc
  obtain ⟨d, x, hd, d1, d2, d3, d4, d5⟩ := for_ex2 hs hz hc hl h0 (by omega)
  obtain ⟨f1, f2, f3, f4⟩ := fromP_spec hd
  refine ⟨d, x, for_ok hs hz hc (by omega) (by omega) hd, dln_ok hs hz hc (by omega) (by omega) d3 d4, d5, d1, d2, fun t2 g1 g2 => ?_, fun k k1 k2 => ?_⟩
  · obtain ⟨e, y, he, e1, e2, e3, e4, e5⟩ := for_ex2 hs hz hc hl (t := t2) (by omega) (by omega)
    refine ⟨e, for_ok hs hz hc (by omega) (by omega) he, ?_⟩
    have he2 := (fromP_spec he).1
    rcases Int.lt_or_le e d with hlt | hle
    · have := f4 e (by omega) hlt
      rw [okB_mk e3 e4 (by omega)] at this
      cases this
    · exact hle
  · refine ⟨dealB s c k, .inr (.inr ⟨aErr_ok hs hz hc, (dayB_iff k).2 (by omega), rfl, rfl⟩), fun hb => ?_⟩
    obtain ⟨y, hy⟩ := dl_some (d := k) hs hz hall hl (by omega) (by omega)
    refine ⟨y, dln_ok hs hz hc (by omega) (by omega) hb hy, ?_⟩
    have hk : okB s z c t k = false := by
      by_cases hst : max 0 (t / 1440 - 2) ≤ k
      · exact f4 k hst k2
      · exact early_no hs hz (by omega) (by omega)
    rcases Int.lt_or_le y t with hlt | hle
    · exact hlt
    · rw [okB_mk hb hy hle] at hk
      cases hk
set_option maxRecDepth 100000 in
theorem scheduleFor_any (A0 : Option Addr) (L : List Int) (cap : Nat) (w : World) (hL : IntsAt w A0 L) :
    Calls Try.prog 17 #[.slice A0 L.length cap] w (RetB (.bool true) w) := by
  have ht0 := tape_start (cap := cap) hL
  have hw0 := bal0 w (.cells #[.slice A0 L.length cap, .int .i64 0] 37)
  go_enter Try.func17, Try.ntmps17
  go_wp2_with fail
  have hB1 := hw0
  have ht1 := ht0
  clear hw0 ht0 hL
  refine (mkSched_any w.heap.size w.heap.size 90000 _ (ht1.less (by omega))).mono ?_
  rintro e w2 ⟨s, rfl, hsok, ht2, ho2⟩
  have hB2 := lawOnly2 hB1 ho2
  clear hB1 ho2 ht1
  go_wp2_with fail
  refine (mkPlace_any 9497 w.heap.size w.heap.size 80000 _ (ht2.less (by omega)) (by omega) (by omega)).mono ?_
  rintro e w3 ⟨z, A, k, c, Ac, kc, rfl, hz, hc, hzA, hcA, hzok, hcok, hc20, ht3, ho3⟩
  have hB3 := lawOnly2 hB2 ho3
  have hl2 := ht2.lt
  have hS := SPl.new s k kc (o1 := #[.int .i64 0, .int .i64 0, .int .i64 0, .int .i64 0, .int .i64 0]) (o2 := #[.string ⟨#[]⟩, .int .i64 0, .slice none 0 0, .string ⟨#[]⟩, .bool false, .bool false, .bool false, .bool false, .bool false, .bool false, .bool false, .slice none 0 0]) ht3 hz hc (fun ad e => by have := hzA ad e; omega) (fun ad e => by have := hcA ad e; omega) hB3
  have b1 : BlkAt ((w3.alloc (.cells #[.int .i64 0, .int .i64 0, .int .i64 0, .int .i64 0, .int .i64 0] 62)).alloc (.cells #[.string ⟨#[]⟩, .int .i64 0, .slice none 0 0, .string ⟨#[]⟩, .bool false, .bool false, .bool false, .bool false, .bool false, .bool false, .bool false, .slice none 0 0] 68)) w3.heap.size (sV ⟨0, 0, 0, 0, 0⟩) 62 := (BlkAt.new _ _ _).al _
  have b2 : BlkAt (((w3.alloc (.cells #[.int .i64 0, .int .i64 0, .int .i64 0, .int .i64 0, .int .i64 0] 62)).alloc (.cells #[.string ⟨#[]⟩, .int .i64 0, .slice none 0 0, .string ⟨#[]⟩, .bool false, .bool false, .bool false, .bool false, .bool false, .bool false, .bool false, .slice none 0 0] 68)).setRow w3.heap.size (sV s)) (w3.heap.size + 1) #[.string ⟨#[]⟩, .int .i64 0, .slice none 0 0, .string ⟨#[]⟩, .bool false, .bool false, .bool false, .bool false, .bool false, .bool false, .bool false, .slice none 0 0] 68 := (BlkAt.newAt _ _ _ (by simp)).setFar _ (by omega)
  have HS := Lib.hid hS
  have HSO := Lib.hid hsok
  have HZO := Lib.hid hzok
  have HCO := Lib.hid hcok
  clear hS hz hc hzA hcA hB2 hB3 ho3 ht2 ht3 hsok hzok hcok
  go_wp2_with (first | ((with_reducible refine wpl_store rfl 62 _ _ rfl _ (sV s) ?_ ?_ b1 (rowS _) ?_ ?_); exact rfl; exact rfl; exact rfl) | ((with_reducible refine wpl_store rfl 68 _ _ rfl _ (pV z A k c Ac kc) ?_ ?_ b2 (rowP ..) ?_ ?_); exact rfl; exact rfl; exact rfl))
  clear b1 b2
  refine (near2_any 9497 20 w.heap.size w.heap.size 70000 _ (HS.out.tape.less (by omega)) (by omega) (by omega) (by omega) (by omega)).mono ?_
  rintro e w4 ⟨d0, hd1, hd2, hd3, hd4, rfl, ht4, ho4⟩
  have HA4 := Lib.hid (HS.out.only ht4 ho4)
  clear HS ht4 ho4
  go_wp2_with fail
  refine (next_in (n := 1440) (N := 60000) (HA4.out.tape.less (by omega)) (by omega) (by omega)).mono ?_
  rintro e w5 ⟨m, hm, rfl, ht5, ho5⟩
  have HA5 := Lib.hid (HA4.out.only ht5 ho5)
  clear HA4 ht5 ho5
  obtain ⟨d, x, r1, r2, hx, hda, hdb, r3, r4⟩ := for_days HSO.out HZO.out HCO.out hc20 (t := 1440 * d0 + m) (by omega) (by omega)
  have R1 := Lib.hid r1
  have R2 := Lib.hid r2
  have R3 := Lib.hid r3
  have R4 := Lib.hid r4
  clear r1 r2 r3 r4
  go_wp2_with (first | ((with_reducible refine wpl_load rfl 62 _ rfl _ ?_ HA5.out.sb (rowS _) ?_); exact rfl) | ((with_reducible refine wpl_load rfl 68 _ rfl _ ?_ HA5.out.pb (rowP ..) ?_); exact rfl))
  refine (sForR k kc R1.out HA5.out.za HA5.out.ca).mono ?_
  rintro e w6 ⟨rfl, hb6⟩
  have HA6 := Lib.hid (HA5.out.next hb6)
  clear HA5 hb6 R1
  go_wp2_with fail
  have HD := Lib.hid HA6.out.drew
  have HD0 : Hid (SPl w _ 40000 w3.heap.size (w3.heap.size + 1) s z A k c Ac kc) := Lib.hid (HD.out.less (by omega))
  go_region_held3 (fun W => (W.cell? ⟨w3.heap.size, 0, none⟩ = some (.int .i64 s.period) ∧ W.cell? ⟨w3.heap.size, 1, none⟩ = some (.int .i64 s.nth) ∧ W.cell? ⟨w3.heap.size, 2, none⟩ = some (.int .i64 s.notice) ∧ W.cell? ⟨w3.heap.size, 3, none⟩ = some (.int .i64 s.settle) ∧ W.cell? ⟨w3.heap.size, 4, none⟩ = some (.int .i64 s.cutoff)) ∧ (W.cell? ⟨w3.heap.size + 1, 0, none⟩ = some (.string z.name) ∧ W.cell? ⟨w3.heap.size + 1, 1, none⟩ = some (.int .i64 z.off) ∧ W.cell? ⟨w3.heap.size + 1, 2, none⟩ = some (.slice A z.cs.length k) ∧ W.cell? ⟨w3.heap.size + 1, 3, none⟩ = some (.string c.name) ∧ W.cell? ⟨w3.heap.size + 1, 4, none⟩ = some (.bool c.w0) ∧ W.cell? ⟨w3.heap.size + 1, 5, none⟩ = some (.bool c.w1) ∧ W.cell? ⟨w3.heap.size + 1, 6, none⟩ = some (.bool c.w2) ∧ W.cell? ⟨w3.heap.size + 1, 7, none⟩ = some (.bool c.w3) ∧ W.cell? ⟨w3.heap.size + 1, 8, none⟩ = some (.bool c.w4) ∧ W.cell? ⟨w3.heap.size + 1, 9, none⟩ = some (.bool c.w5) ∧ W.cell? ⟨w3.heap.size + 1, 10, none⟩ = some (.bool c.w6) ∧ W.cell? ⟨w3.heap.size + 1, 11, none⟩ = some (.slice Ac c.hs.length kc)) ∧ SPl w W 40000 w3.heap.size (w3.heap.size + 1) s z A k c Ac kc)
    ((first
      | (with_reducible exact HA9.out.q)
      | (with_reducible exact HA8.out.q)
      | (with_reducible exact HA7.out.q)
      | (exact (HA7.out.next (bal0 _ _)).q)
      | (with_reducible exact HD0.out.q)))
    (first
      | (go_at_call 37; refine (next_in (n := 5000) (N := 50000) (HD.out.tape.less (by omega)) (by omega) (by omega)).mono ?_; rintro e w7 ⟨n5, hn5, rfl, ht7, ho7⟩; have HA7 := Lib.hid (HD0.out.only (ht7.less (show 40000 ≤ 50000 by omega)) ho7))
      | (go_at_call 38; refine (pick_new [0, 1, 60, (n5 : Int)] rfl (N := 50000 - 1) (ht7.less (by omega)) (by simp) (by simp) rfl (by simp)).mono ?_; rintro e w8 ⟨p, hp, rfl, ht8, ho8⟩; have HA8 := Lib.hid (HA7.out.only (ht8.less (show 40000 ≤ 50000 - 1 by omega)) ho8); have hp2 : 0 ≤ p ∧ p ≤ 5000 := (by simp at hp; omega); clear hp; obtain ⟨hp3, hp4⟩ := hp2; have hw := wi (n := 1440 * d0 + m + p) (by omega) (by omega); obtain ⟨dd, r5, hdd⟩ := R3.out (1440 * d0 + m + p) (by omega) (by omega); have R5 := Lib.hid r5; clear r5)
      | (go_at_call 63; refine (sForR k kc R5.out HA8.out.za HA8.out.ca).mono ?_; rintro e w9 ⟨rfl, hb9⟩; have HA9 := Lib.hid (HA8.out.next hb9)))
  clear HA6 HD HD0 HA7 HA8 R5 R3 hw ht7 ho7 ht8 ho8 hb9
  try clear hHeld
  go_wp2_with (first | ((with_reducible refine wpl_load rfl 62 _ rfl _ ?_ HA9.out.sb (rowS _) ?_); exact rfl) | ((with_reducible refine wpl_load rfl 68 _ rfl _ ?_ HA9.out.pb (rowP ..) ?_); exact rfl))
  refine (sDeadline_is R2.out k kc HA9.out.za HA9.out.ca).mono ?_
  rintro e w10 ⟨rfl, hb⟩
  have HB := Lib.hid (HA9.out.next hb)
  clear HA9 hb R2
  go_wp2_with fail
  go_loopw [13] (fun kv wr => ∃ j : Int, d - 40 ≤ j ∧ j ≤ d - 1 ∧ kv = .int .i64 j ∧ SPl w wr 40000 w3.heap.size (w3.heap.size + 1) s z A k c Ac kc) (fun kv _ => (intOf kv - (d - 40)).toNat)
  case atStart => exact ⟨d - 1, by omega, by omega, rfl, HB.out⟩
  case round =>
    obtain ⟨j, hj1, hj2, rfl, hP⟩ := hrel
    have HP := Lib.hid hP
    clear hP HB
    by_cases hj : d - 40 < j
    · obtain ⟨bb, r5, r6⟩ := R4.out j hj (by omega)
      have R5 := Lib.hid r5
      have R6 := Lib.hid r6
      clear r5 r6
      go_wp2_with (first | ((with_reducible refine wpl_load rfl 62 _ rfl _ ?_ HP.out.sb (rowS _) ?_); exact rfl) | ((with_reducible refine wpl_load rfl 68 _ rfl _ ?_ HP.out.pb (rowP ..) ?_); exact rfl))
      refine (sDealsR k kc R5.out HP.out.za HP.out.ca).mono ?_
      rintro e w11 ⟨rfl, hb⟩
      have HQ := Lib.hid (HP.out.next hb)
      clear HP hb R5
      cases bb
      · go_wp2_with fail
        go_roundw
        case rel => exact ⟨j - 1, by omega, by omega, by go_num, HQ.out⟩
        case measure => simp [intOf]; omega
      · obtain ⟨y, r7, hyt⟩ := R6.out rfl
        have R7 := Lib.hid r7
        clear r7 R6 R4
        go_wp2_with (first | ((with_reducible refine wpl_load rfl 62 _ rfl _ ?_ HQ.out.sb (rowS _) ?_); exact rfl) | ((with_reducible refine wpl_load rfl 68 _ rfl _ ?_ HQ.out.pb (rowP ..) ?_); exact rfl))
        refine (sDeadline_is R7.out k kc HQ.out.za HQ.out.ca).mono ?_
        rintro e w12 ⟨rfl, hb⟩
        have HR := Lib.hid (HQ.out.next hb)
        clear HQ hb R7
        go_wp2_with fail
        refine (known9_any _).mono ?_
        rintro e w13 ⟨rfl, hb⟩
        go_wp2_with fail
        go_ret
        exact ⟨rfl, bnext HR.out.below hb⟩
    · go_wp2_with fail
      refine (known9_any _).mono ?_
      rintro e w4 ⟨rfl, hb4⟩
      go_wp2_with fail
      go_ret
      exact ⟨rfl, bnext HP.out.below hb4⟩
end Go.Proofs.Ytmjegmlchonlmaa
