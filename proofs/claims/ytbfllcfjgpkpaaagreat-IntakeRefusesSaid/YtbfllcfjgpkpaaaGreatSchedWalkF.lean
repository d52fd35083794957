/-
  The walks of schedules: a desk: which days deal, the next one, deadlines.
-/
import Derived.Test.YtbfllcfjgpkpaaaGreatSchedWalkE
import Derived.Test.YtbfllcfjgpkpaaaGreatZoneLaw
namespace Go.Proofs.YtbfllcfjgpkpaaaGreat
open Go.RowKit
set_option maxHeartbeats 8000000
set_option linter.unusedVariables false
theorem dmeth1 (n : Int) (w : World) : (method 287 140 (.agg #[.int .i64 n]) "fundadmin/schedule.deals").run Tryz.prog w = .ok (143, .agg #[.int .i64 n]) w := by kernel_rfl
theorem dmeth2 (n : Int) (w : World) : (method 287 141 (.agg #[.int .i64 n]) "fundadmin/schedule.deals").run Tryz.prog w = .ok (145, .agg #[.int .i64 n]) w := by kernel_rfl
theorem dmeth3 (n : Int) (w : World) : (method 287 142 (.agg #[.int .i64 n]) "fundadmin/schedule.deals").run Tryz.prog w = .ok (149, .agg #[.int .i64 n]) w := by kernel_rfl
theorem ta1 (n : Int) (w : World) : (Instr.typeAssert (.iface 140 (.agg #[.int .i64 n])) 115 140 true).run Tryz.prog w = .ok (.tuple #[.agg #[.int .i64 n], .bool true]) w := by kernel_rfl
theorem ta2 (n : Int) (w : World) : (Instr.typeAssert (.iface 141 (.agg #[.int .i64 n])) 115 140 true).run Tryz.prog w = .ok (.tuple #[.agg #[.int .i64 0], .bool false]) w := by kernel_rfl
theorem ta3 (n : Int) (w : World) : (Instr.typeAssert (.iface 142 (.agg #[.int .i64 n])) 115 140 true).run Tryz.prog w = .ok (.tuple #[.agg #[.int .i64 0], .bool false]) w := by kernel_rfl
theorem DRes.new {w : World} {cs : Array Value} : DRes (w.alloc (.cells cs 147)) w.heap.size cs := ⟨heap_alloc_new w _⟩
set_option maxRecDepth 100000 in
theorem deskDeals_d {w : World} {s : SC} {z : ZN} {zA : Option Addr} {c : CN} {b : Nat} {d : Int} (zc : Nat) (h : DSt w z zA c b) (hok : s.ok = true) (hp : s.period = 1) (hz : biz c d = true) (hd0 : 0 ≤ d) (hd1 : d ≤ 73048) :
    Calls Tryz.prog 115 #[.agg #[.int .i64 s.period, .int .i64 s.nth, .int .i64 s.notice, .int .i64 s.settle, .int .i64 s.cutoff, .iface (rT s.period) (.agg #[.int .i64 s.nth]), .string z.name, .int .i64 z.off, .slice zA z.cs.length zc, .bool c.w0, .bool c.w1, .bool c.w2, .bool c.w3, .bool c.w4, .bool c.w5, .bool c.w6, .map (some b)], .int .i64 d] w (RetB (.bool (true)) w) := by
  have k1 := dmeth1 s.nth
  have hbx : DRes (w.alloc (.cells #[.int .i64 s.period, .int .i64 s.nth, .int .i64 s.notice, .int .i64 s.settle, .int .i64 s.cutoff, .iface (rT s.period) (.agg #[.int .i64 s.nth]), .string z.name, .int .i64 z.off, .slice zA z.cs.length zc, .bool c.w0, .bool c.w1, .bool c.w2, .bool c.w3, .bool c.w4, .bool c.w5, .bool c.w6, .map (some b)] 147)) w.heap.size #[.int .i64 s.period, .int .i64 s.nth, .int .i64 s.notice, .int .i64 s.settle, .int .i64 s.cutoff, .iface (rT s.period) (.agg #[.int .i64 s.nth]), .string z.name, .int .i64 z.off, .slice zA z.cs.length zc, .bool c.w0, .bool c.w1, .bool c.w2, .bool c.w3, .bool c.w4, .bool c.w5, .bool c.w6, .map (some b)] := DRes.new
  have hst := h.next (bal0 w (.cells #[.int .i64 s.period, .int .i64 s.nth, .int .i64 s.notice, .int .i64 s.settle, .int .i64 s.cutoff, .iface (rT s.period) (.agg #[.int .i64 s.nth]), .string z.name, .int .i64 z.off, .slice zA z.cs.length zc, .bool c.w0, .bool c.w1, .bool c.w2, .bool c.w3, .bool c.w4, .bool c.w5, .bool c.w6, .map (some b)] 147))
  have hbel := bal0 w (.cells #[.int .i64 s.period, .int .i64 s.nth, .int .i64 s.notice, .int .i64 s.settle, .int .i64 s.cutoff, .iface (rT s.period) (.agg #[.int .i64 s.nth]), .string z.name, .int .i64 z.off, .slice zA z.cs.length zc, .bool c.w0, .bool c.w1, .bool c.w2, .bool c.w3, .bool c.w4, .bool c.w5, .bool c.w6, .map (some b)] 147)
  have HP := Lib.hid (rT1 hp)
  clear hp h
  go_enter Tryz.func115, Tryz.ntmps115
  go_wp2_with fail
  refine (biz_is hz _ hst.hol).mono ?_
  rintro e w1 ⟨rfl, hb⟩
  have hbx1 := hbx.next hb
  have hst1 := hst.next hb
  have hbel1 := bnext hbel hb
  obtain ⟨-, -, -, -, -, q5, -, -, -, q9, q10, q11, q12, q13, q14, q15, q16⟩ := hbx1.q
  rw [HP.out] at q5 ⊢
  clear hbx hst hbel hb
  go_wp2_with fail
  refine (ddeals_any _ _ _ _).mono ?_
  rintro e w2 ⟨rfl, hb2⟩
  clear q5 q9 q10 q11 q12 q13 q14 q15 q16
  go_wp2_with fail
  go_ret
  exact ⟨rfl, bnext hbel1 hb2⟩
set_option maxRecDepth 100000 in
theorem deskDeals_w {w : World} {s : SC} {z : ZN} {zA : Option Addr} {c : CN} {b : Nat} {d : Int} (zc : Nat) (h : DSt w z zA c b) (hok : s.ok = true) (hp : s.period = 2) (hz : biz c d = true) (hd0 : 0 ≤ d) (hd1 : d ≤ 73048) :
    Calls Tryz.prog 115 #[.agg #[.int .i64 s.period, .int .i64 s.nth, .int .i64 s.notice, .int .i64 s.settle, .int .i64 s.cutoff, .iface (rT s.period) (.agg #[.int .i64 s.nth]), .string z.name, .int .i64 z.off, .slice zA z.cs.length zc, .bool c.w0, .bool c.w1, .bool c.w2, .bool c.w3, .bool c.w4, .bool c.w5, .bool c.w6, .map (some b)], .int .i64 d] w (RetB (.bool (weekB (biz c) s.nth d)) w) := by
  have k1 := dmeth2 s.nth
  have hbx : DRes (w.alloc (.cells #[.int .i64 s.period, .int .i64 s.nth, .int .i64 s.notice, .int .i64 s.settle, .int .i64 s.cutoff, .iface (rT s.period) (.agg #[.int .i64 s.nth]), .string z.name, .int .i64 z.off, .slice zA z.cs.length zc, .bool c.w0, .bool c.w1, .bool c.w2, .bool c.w3, .bool c.w4, .bool c.w5, .bool c.w6, .map (some b)] 147)) w.heap.size #[.int .i64 s.period, .int .i64 s.nth, .int .i64 s.notice, .int .i64 s.settle, .int .i64 s.cutoff, .iface (rT s.period) (.agg #[.int .i64 s.nth]), .string z.name, .int .i64 z.off, .slice zA z.cs.length zc, .bool c.w0, .bool c.w1, .bool c.w2, .bool c.w3, .bool c.w4, .bool c.w5, .bool c.w6, .map (some b)] := DRes.new
  have hst := h.next (bal0 w (.cells #[.int .i64 s.period, .int .i64 s.nth, .int .i64 s.notice, .int .i64 s.settle, .int .i64 s.cutoff, .iface (rT s.period) (.agg #[.int .i64 s.nth]), .string z.name, .int .i64 z.off, .slice zA z.cs.length zc, .bool c.w0, .bool c.w1, .bool c.w2, .bool c.w3, .bool c.w4, .bool c.w5, .bool c.w6, .map (some b)] 147))
  have hbel := bal0 w (.cells #[.int .i64 s.period, .int .i64 s.nth, .int .i64 s.notice, .int .i64 s.settle, .int .i64 s.cutoff, .iface (rT s.period) (.agg #[.int .i64 s.nth]), .string z.name, .int .i64 z.off, .slice zA z.cs.length zc, .bool c.w0, .bool c.w1, .bool c.w2, .bool c.w3, .bool c.w4, .bool c.w5, .bool c.w6, .map (some b)] 147)
  have HP := Lib.hid (rT2 hp)
  clear hp h
  go_enter Tryz.func115, Tryz.ntmps115
  go_wp2_with fail
  refine (biz_is hz _ hst.hol).mono ?_
  rintro e w1 ⟨rfl, hb⟩
  have hbx1 := hbx.next hb
  have hst1 := hst.next hb
  have hbel1 := bnext hbel hb
  obtain ⟨-, -, -, -, -, q5, -, -, -, q9, q10, q11, q12, q13, q14, q15, q16⟩ := hbx1.q
  rw [HP.out] at q5 ⊢
  clear hbx hst hbel hb
  go_wp2_with fail
  refine (wdeals_any _ hst1.hol hd0 hd1).mono ?_
  rintro e w2 ⟨rfl, hb2⟩
  clear q5 q9 q10 q11 q12 q13 q14 q15 q16
  go_wp2_with fail
  go_ret
  exact ⟨rfl, bnext hbel1 hb2⟩
set_option maxRecDepth 100000 in
theorem deskDeals_m {w : World} {s : SC} {z : ZN} {zA : Option Addr} {c : CN} {b : Nat} {d : Int} (zc : Nat) (h : DSt w z zA c b) (hok : s.ok = true) (hp : s.period = 3) (hz : biz c d = true) (hd0 : 0 ≤ d) (hd1 : d ≤ 73048) :
    Calls Tryz.prog 115 #[.agg #[.int .i64 s.period, .int .i64 s.nth, .int .i64 s.notice, .int .i64 s.settle, .int .i64 s.cutoff, .iface (rT s.period) (.agg #[.int .i64 s.nth]), .string z.name, .int .i64 z.off, .slice zA z.cs.length zc, .bool c.w0, .bool c.w1, .bool c.w2, .bool c.w3, .bool c.w4, .bool c.w5, .bool c.w6, .map (some b)], .int .i64 d] w (RetB (.bool (monB (biz c) s.nth d)) w) := by
  have k1 := dmeth3 s.nth
  have hr := SC.ok_rule hok
  rw [hp] at hr
  have hr2 : s.nth ≠ 0 ∧ -23 ≤ s.nth ∧ s.nth ≤ 23 := of_decide_eq_true hr
  have HR := Lib.hid hr2
  clear hr hr2
  have hbx : DRes (w.alloc (.cells #[.int .i64 s.period, .int .i64 s.nth, .int .i64 s.notice, .int .i64 s.settle, .int .i64 s.cutoff, .iface (rT s.period) (.agg #[.int .i64 s.nth]), .string z.name, .int .i64 z.off, .slice zA z.cs.length zc, .bool c.w0, .bool c.w1, .bool c.w2, .bool c.w3, .bool c.w4, .bool c.w5, .bool c.w6, .map (some b)] 147)) w.heap.size #[.int .i64 s.period, .int .i64 s.nth, .int .i64 s.notice, .int .i64 s.settle, .int .i64 s.cutoff, .iface (rT s.period) (.agg #[.int .i64 s.nth]), .string z.name, .int .i64 z.off, .slice zA z.cs.length zc, .bool c.w0, .bool c.w1, .bool c.w2, .bool c.w3, .bool c.w4, .bool c.w5, .bool c.w6, .map (some b)] := DRes.new
  have hst := h.next (bal0 w (.cells #[.int .i64 s.period, .int .i64 s.nth, .int .i64 s.notice, .int .i64 s.settle, .int .i64 s.cutoff, .iface (rT s.period) (.agg #[.int .i64 s.nth]), .string z.name, .int .i64 z.off, .slice zA z.cs.length zc, .bool c.w0, .bool c.w1, .bool c.w2, .bool c.w3, .bool c.w4, .bool c.w5, .bool c.w6, .map (some b)] 147))
  have hbel := bal0 w (.cells #[.int .i64 s.period, .int .i64 s.nth, .int .i64 s.notice, .int .i64 s.settle, .int .i64 s.cutoff, .iface (rT s.period) (.agg #[.int .i64 s.nth]), .string z.name, .int .i64 z.off, .slice zA z.cs.length zc, .bool c.w0, .bool c.w1, .bool c.w2, .bool c.w3, .bool c.w4, .bool c.w5, .bool c.w6, .map (some b)] 147)
  have HP := Lib.hid (rT3 hp)
  clear hp h
  go_enter Tryz.func115, Tryz.ntmps115
  go_wp2_with fail
  refine (biz_is hz _ hst.hol).mono ?_
  rintro e w1 ⟨rfl, hb⟩
  have hbx1 := hbx.next hb
  have hst1 := hst.next hb
  have hbel1 := bnext hbel hb
  obtain ⟨-, -, -, -, -, q5, -, -, -, q9, q10, q11, q12, q13, q14, q15, q16⟩ := hbx1.q
  rw [HP.out] at q5 ⊢
  clear hbx hst hbel hb
  go_wp2_with fail
  refine (mdeals_any _ hst1.hol hd0 hd1 HR.out.2.1 HR.out.2.2 HR.out.1).mono ?_
  rintro e w2 ⟨rfl, hb2⟩
  clear q5 q9 q10 q11 q12 q13 q14 q15 q16
  go_wp2_with fail
  go_ret
  exact ⟨rfl, bnext hbel1 hb2⟩
set_option maxRecDepth 100000 in
theorem deskDeals_no {w : World} {s : SC} {z : ZN} {zA : Option Addr} {c : CN} {b : Nat} {d : Int} (zc : Nat) (h : DSt w z zA c b) (hz : biz c d = false) :
    Calls Tryz.prog 115 #[.agg #[.int .i64 s.period, .int .i64 s.nth, .int .i64 s.notice, .int .i64 s.settle, .int .i64 s.cutoff, .iface (rT s.period) (.agg #[.int .i64 s.nth]), .string z.name, .int .i64 z.off, .slice zA z.cs.length zc, .bool c.w0, .bool c.w1, .bool c.w2, .bool c.w3, .bool c.w4, .bool c.w5, .bool c.w6, .map (some b)], .int .i64 d] w (RetB (.bool false) w) := by
  have hst := h.next (bal0 w (.cells #[.int .i64 s.period, .int .i64 s.nth, .int .i64 s.notice, .int .i64 s.settle, .int .i64 s.cutoff, .iface (rT s.period) (.agg #[.int .i64 s.nth]), .string z.name, .int .i64 z.off, .slice zA z.cs.length zc, .bool c.w0, .bool c.w1, .bool c.w2, .bool c.w3, .bool c.w4, .bool c.w5, .bool c.w6, .map (some b)] 147))
  have hbel := bal0 w (.cells #[.int .i64 s.period, .int .i64 s.nth, .int .i64 s.notice, .int .i64 s.settle, .int .i64 s.cutoff, .iface (rT s.period) (.agg #[.int .i64 s.nth]), .string z.name, .int .i64 z.off, .slice zA z.cs.length zc, .bool c.w0, .bool c.w1, .bool c.w2, .bool c.w3, .bool c.w4, .bool c.w5, .bool c.w6, .map (some b)] 147)
  clear h
  go_enter Tryz.func115, Tryz.ntmps115
  go_wp2_with fail
  refine (biz_is hz _ hst.hol).mono ?_
  rintro e w1 ⟨rfl, hb⟩
  go_wp2_with fail
  go_ret
  exact ⟨rfl, bnext hbel hb⟩
theorem deskDeals_is {w : World} {s : SC} {z : ZN} {zA : Option Addr} {c : CN} {b : Nat} {d : Int} {v : Bool} (hv : dealB s c d = v) (zc : Nat) (h : DSt w z zA c b) (hok : s.ok = true) (hd0 : 0 ≤ d) (hd1 : d ≤ 73048) :
    Calls Tryz.prog 115 #[.agg #[.int .i64 s.period, .int .i64 s.nth, .int .i64 s.notice, .int .i64 s.settle, .int .i64 s.cutoff, .iface (rT s.period) (.agg #[.int .i64 s.nth]), .string z.name, .int .i64 z.off, .slice zA z.cs.length zc, .bool c.w0, .bool c.w1, .bool c.w2, .bool c.w3, .bool c.w4, .bool c.w5, .bool c.w6, .map (some b)], .int .i64 d] w (RetB (.bool v) w) := by
  subst hv
  cases hz : biz c d
  · rw [dealB_no hz]
    exact deskDeals_no zc h hz
  · have e : dealB s c d = ruleB s (biz c) d := by unfold dealB; rw [hz, Bool.true_and]
    rw [e]
    unfold ruleB
    rcases ruleOk_per (SC.ok_rule hok) with hp | hp | hp
    · rw [if_pos hp]
      exact deskDeals_d zc h hok hp hz hd0 hd1
    · rw [if_neg (by omega), if_pos hp]
      exact deskDeals_w zc h hok hp hz hd0 hd1
    · rw [if_neg (by omega), if_neg (by omega)]
      exact deskDeals_m zc h hok hp hz hd0 hd1
theorem daily_from {s : SC} {c : CN} (hp : s.period = 1) (d : Int) : fromP (dealB s c) d = fromP (biz c) d := fromP_congr (fun e => by unfold dealB ruleB; rw [if_pos hp, Bool.and_true]) d
set_option maxRecDepth 100000 in
theorem deskNext_d {w : World} {s : SC} {z : ZN} {zA : Option Addr} {c : CN} {b : Nat} {d : Int} {o : Option Int} (ho : fromP (dealB s c) d = o) (zc : Nat) (h : DSt w z zA c b) (hok : s.ok = true) (hp : s.period = 1) (hd0 : 0 ≤ d) (hd1 : d ≤ 73049) :
    Calls Tryz.prog 118 #[.agg #[.int .i64 s.period, .int .i64 s.nth, .int .i64 s.notice, .int .i64 s.settle, .int .i64 s.cutoff, .iface (rT s.period) (.agg #[.int .i64 s.nth]), .string z.name, .int .i64 z.off, .slice zA z.cs.length zc, .bool c.w0, .bool c.w1, .bool c.w2, .bool c.w3, .bool c.w4, .bool c.w5, .bool c.w6, .map (some b)], .int .i64 d] w (RetB (.tuple #[.int .i64 (o.getD 0), .bool o.isSome]) w) := by
  have HO := Lib.hid ho
  clear ho
  have hbx : DRes (w.alloc (.cells #[.int .i64 s.period, .int .i64 s.nth, .int .i64 s.notice, .int .i64 s.settle, .int .i64 s.cutoff, .iface (rT s.period) (.agg #[.int .i64 s.nth]), .string z.name, .int .i64 z.off, .slice zA z.cs.length zc, .bool c.w0, .bool c.w1, .bool c.w2, .bool c.w3, .bool c.w4, .bool c.w5, .bool c.w6, .map (some b)] 147)) w.heap.size #[.int .i64 s.period, .int .i64 s.nth, .int .i64 s.notice, .int .i64 s.settle, .int .i64 s.cutoff, .iface (rT s.period) (.agg #[.int .i64 s.nth]), .string z.name, .int .i64 z.off, .slice zA z.cs.length zc, .bool c.w0, .bool c.w1, .bool c.w2, .bool c.w3, .bool c.w4, .bool c.w5, .bool c.w6, .map (some b)] := DRes.new
  have hst := h.next (bal0 w (.cells #[.int .i64 s.period, .int .i64 s.nth, .int .i64 s.notice, .int .i64 s.settle, .int .i64 s.cutoff, .iface (rT s.period) (.agg #[.int .i64 s.nth]), .string z.name, .int .i64 z.off, .slice zA z.cs.length zc, .bool c.w0, .bool c.w1, .bool c.w2, .bool c.w3, .bool c.w4, .bool c.w5, .bool c.w6, .map (some b)] 147))
  have hbel := bal0 w (.cells #[.int .i64 s.period, .int .i64 s.nth, .int .i64 s.notice, .int .i64 s.settle, .int .i64 s.cutoff, .iface (rT s.period) (.agg #[.int .i64 s.nth]), .string z.name, .int .i64 z.off, .slice zA z.cs.length zc, .bool c.w0, .bool c.w1, .bool c.w2, .bool c.w3, .bool c.w4, .bool c.w5, .bool c.w6, .map (some b)] 147)
  have HP := Lib.hid hp
  obtain ⟨q0, q1, q2, q3, q4, q5, q6, q7, q8, q9, q10, q11, q12, q13, q14, q15, q16⟩ := hbx.q
  rw [rT1 hp] at q5
  clear hp h
  have kt := ta1 s.nth
  go_enter Tryz.func118, Tryz.ntmps118
  rw [rT1 HP.out]
  go_wp2_with fail
  clear q0 q1 q2 q3 q4 q5 q6 q7 q8 q9 q10 q11 q12 q13 q14 q15 q16
  rw [← rT1 HP.out]
  refine (from_is ((daily_from HP.out d).symm.trans HO.out) (by omega) (by omega) _ hst.hol).mono ?_
  rintro e w1 ⟨rfl, hb⟩
  go_wp2_with fail
  go_ret2
  exact ⟨rfl, bnext hbel hb⟩
set_option maxRecDepth 100000 in
theorem deskNext_w {w : World} {s : SC} {z : ZN} {zA : Option Addr} {c : CN} {b : Nat} {d : Int} {o : Option Int} (ho : fromP (dealB s c) d = o) (zc : Nat) (h : DSt w z zA c b) (hok : s.ok = true) (hp : s.period = 2) (hd0 : 0 ≤ d) (hd1 : d ≤ 73049) :
    Calls Tryz.prog 118 #[.agg #[.int .i64 s.period, .int .i64 s.nth, .int .i64 s.notice, .int .i64 s.settle, .int .i64 s.cutoff, .iface (rT s.period) (.agg #[.int .i64 s.nth]), .string z.name, .int .i64 z.off, .slice zA z.cs.length zc, .bool c.w0, .bool c.w1, .bool c.w2, .bool c.w3, .bool c.w4, .bool c.w5, .bool c.w6, .map (some b)], .int .i64 d] w (RetB (.tuple #[.int .i64 (o.getD 0), .bool o.isSome]) w) := by
  have HO := Lib.hid ho
  clear ho
  have hbx : DRes (w.alloc (.cells #[.int .i64 s.period, .int .i64 s.nth, .int .i64 s.notice, .int .i64 s.settle, .int .i64 s.cutoff, .iface (rT s.period) (.agg #[.int .i64 s.nth]), .string z.name, .int .i64 z.off, .slice zA z.cs.length zc, .bool c.w0, .bool c.w1, .bool c.w2, .bool c.w3, .bool c.w4, .bool c.w5, .bool c.w6, .map (some b)] 147)) w.heap.size #[.int .i64 s.period, .int .i64 s.nth, .int .i64 s.notice, .int .i64 s.settle, .int .i64 s.cutoff, .iface (rT s.period) (.agg #[.int .i64 s.nth]), .string z.name, .int .i64 z.off, .slice zA z.cs.length zc, .bool c.w0, .bool c.w1, .bool c.w2, .bool c.w3, .bool c.w4, .bool c.w5, .bool c.w6, .map (some b)] := DRes.new
  have hst := h.next (bal0 w (.cells #[.int .i64 s.period, .int .i64 s.nth, .int .i64 s.notice, .int .i64 s.settle, .int .i64 s.cutoff, .iface (rT s.period) (.agg #[.int .i64 s.nth]), .string z.name, .int .i64 z.off, .slice zA z.cs.length zc, .bool c.w0, .bool c.w1, .bool c.w2, .bool c.w3, .bool c.w4, .bool c.w5, .bool c.w6, .map (some b)] 147))
  have hbel := bal0 w (.cells #[.int .i64 s.period, .int .i64 s.nth, .int .i64 s.notice, .int .i64 s.settle, .int .i64 s.cutoff, .iface (rT s.period) (.agg #[.int .i64 s.nth]), .string z.name, .int .i64 z.off, .slice zA z.cs.length zc, .bool c.w0, .bool c.w1, .bool c.w2, .bool c.w3, .bool c.w4, .bool c.w5, .bool c.w6, .map (some b)] 147)
  have HP := Lib.hid hp
  obtain ⟨q0, q1, q2, q3, q4, q5, q6, q7, q8, q9, q10, q11, q12, q13, q14, q15, q16⟩ := hbx.q
  rw [rT2 hp] at q5
  clear hp h
  have kt := ta2 s.nth
  go_enter Tryz.func118, Tryz.ntmps118
  rw [rT2 HP.out]
  go_wp2_with fail
  clear q0 q1 q2 q3 q4 q5 q6 q7 q8 q9 q10 q11 q12 q13 q14 q15 q16
  go_loopw [1] (fun dv wr => ∃ e : Int, 0 ≤ e ∧ e ≤ 73049 ∧ dv = .int .i64 e ∧ fromP (dealB s c) e = o ∧ DRes wr w.heap.size #[.int .i64 s.period, .int .i64 s.nth, .int .i64 s.notice, .int .i64 s.settle, .int .i64 s.cutoff, .iface (rT s.period) (.agg #[.int .i64 s.nth]), .string z.name, .int .i64 z.off, .slice zA z.cs.length zc, .bool c.w0, .bool c.w1, .bool c.w2, .bool c.w3, .bool c.w4, .bool c.w5, .bool c.w6, .map (some b)] ∧ DSt wr z zA c b ∧ Below w.heap.size w wr) (fun dv _ => (73049 - intOf dv).toNat)
  case atStart => exact ⟨d, hd0, hd1, rfl, HO.out, by have := hbx; rw [rT2 HP.out] at this ⊢; exact this, by have := hst; rw [rT2 HP.out] at this; exact this, by have := hbel; rw [rT2 HP.out] at this; exact this⟩
  case round =>
    obtain ⟨e, he1, he2, rfl, hf, hx, hs, hbe⟩ := hrel
    clear hbx hst hbel HO
    by_cases hlt : e ≤ 73048
    · obtain ⟨q0, q1, q2, q3, q4, q5, q6, q7, q8, q9, q10, q11, q12, q13, q14, q15, q16⟩ := hx.q
      cases hv : dealB s c e
      · have HF : Hid (fromP (dealB s c) (e + 1) = o) := Lib.hid ((fromP_no hlt hv).symm.trans hf)
        clear hf
        go_wp2_with fail
        refine (deskDeals_is hv zc hs hok he1 hlt).mono ?_
        rintro e' w1 ⟨rfl, hb⟩
        clear q0 q1 q2 q3 q4 q5 q6 q7 q8 q9 q10 q11 q12 q13 q14 q15 q16
        go_wp2_with fail
        go_roundw
        case rel => exact ⟨e + 1, by omega, by omega, rfl, HF.out, hx.next hb, hs.next hb, bnext hbe hb⟩
        case measure => simp [intOf]; omega
      · have ho : some e = o := (fromP_yes hlt hv).symm.trans hf
        subst ho
        clear hf
        go_wp2_with fail
        refine (deskDeals_is hv zc hs hok he1 hlt).mono ?_
        rintro e' w1 ⟨rfl, hb⟩
        clear q0 q1 q2 q3 q4 q5 q6 q7 q8 q9 q10 q11 q12 q13 q14 q15 q16
        go_wp2_with fail
        go_ret2
        exact ⟨rfl, bnext hbe hb⟩
    · have ho : none = o := (fromP_out (by omega)).symm.trans hf
      subst ho
      clear hf
      go_wp2_with fail
      go_ret2
      exact ⟨rfl, hbe⟩
set_option maxRecDepth 100000 in
theorem deskNext_m {w : World} {s : SC} {z : ZN} {zA : Option Addr} {c : CN} {b : Nat} {d : Int} {o : Option Int} (ho : fromP (dealB s c) d = o) (zc : Nat) (h : DSt w z zA c b) (hok : s.ok = true) (hp : s.period = 3) (hd0 : 0 ≤ d) (hd1 : d ≤ 73049) :
    Calls Tryz.prog 118 #[.agg #[.int .i64 s.period, .int .i64 s.nth, .int .i64 s.notice, .int .i64 s.settle, .int .i64 s.cutoff, .iface (rT s.period) (.agg #[.int .i64 s.nth]), .string z.name, .int .i64 z.off, .slice zA z.cs.length zc, .bool c.w0, .bool c.w1, .bool c.w2, .bool c.w3, .bool c.w4, .bool c.w5, .bool c.w6, .map (some b)], .int .i64 d] w (RetB (.tuple #[.int .i64 (o.getD 0), .bool o.isSome]) w) := by
  have HO := Lib.hid ho
  clear ho
  have hbx : DRes (w.alloc (.cells #[.int .i64 s.period, .int .i64 s.nth, .int .i64 s.notice, .int .i64 s.settle, .int .i64 s.cutoff, .iface (rT s.period) (.agg #[.int .i64 s.nth]), .string z.name, .int .i64 z.off, .slice zA z.cs.length zc, .bool c.w0, .bool c.w1, .bool c.w2, .bool c.w3, .bool c.w4, .bool c.w5, .bool c.w6, .map (some b)] 147)) w.heap.size #[.int .i64 s.period, .int .i64 s.nth, .int .i64 s.notice, .int .i64 s.settle, .int .i64 s.cutoff, .iface (rT s.period) (.agg #[.int .i64 s.nth]), .string z.name, .int .i64 z.off, .slice zA z.cs.length zc, .bool c.w0, .bool c.w1, .bool c.w2, .bool c.w3, .bool c.w4, .bool c.w5, .bool c.w6, .map (some b)] := DRes.new
  have hst := h.next (bal0 w (.cells #[.int .i64 s.period, .int .i64 s.nth, .int .i64 s.notice, .int .i64 s.settle, .int .i64 s.cutoff, .iface (rT s.period) (.agg #[.int .i64 s.nth]), .string z.name, .int .i64 z.off, .slice zA z.cs.length zc, .bool c.w0, .bool c.w1, .bool c.w2, .bool c.w3, .bool c.w4, .bool c.w5, .bool c.w6, .map (some b)] 147))
  have hbel := bal0 w (.cells #[.int .i64 s.period, .int .i64 s.nth, .int .i64 s.notice, .int .i64 s.settle, .int .i64 s.cutoff, .iface (rT s.period) (.agg #[.int .i64 s.nth]), .string z.name, .int .i64 z.off, .slice zA z.cs.length zc, .bool c.w0, .bool c.w1, .bool c.w2, .bool c.w3, .bool c.w4, .bool c.w5, .bool c.w6, .map (some b)] 147)
  have HP := Lib.hid hp
  obtain ⟨q0, q1, q2, q3, q4, q5, q6, q7, q8, q9, q10, q11, q12, q13, q14, q15, q16⟩ := hbx.q
  rw [rT3 hp] at q5
  clear hp h
  have kt := ta3 s.nth
  go_enter Tryz.func118, Tryz.ntmps118
  rw [rT3 HP.out]
  go_wp2_with fail
  clear q0 q1 q2 q3 q4 q5 q6 q7 q8 q9 q10 q11 q12 q13 q14 q15 q16
  go_loopw [1] (fun dv wr => ∃ e : Int, 0 ≤ e ∧ e ≤ 73049 ∧ dv = .int .i64 e ∧ fromP (dealB s c) e = o ∧ DRes wr w.heap.size #[.int .i64 s.period, .int .i64 s.nth, .int .i64 s.notice, .int .i64 s.settle, .int .i64 s.cutoff, .iface (rT s.period) (.agg #[.int .i64 s.nth]), .string z.name, .int .i64 z.off, .slice zA z.cs.length zc, .bool c.w0, .bool c.w1, .bool c.w2, .bool c.w3, .bool c.w4, .bool c.w5, .bool c.w6, .map (some b)] ∧ DSt wr z zA c b ∧ Below w.heap.size w wr) (fun dv _ => (73049 - intOf dv).toNat)
  case atStart => exact ⟨d, hd0, hd1, rfl, HO.out, by have := hbx; rw [rT3 HP.out] at this ⊢; exact this, by have := hst; rw [rT3 HP.out] at this; exact this, by have := hbel; rw [rT3 HP.out] at this; exact this⟩
  case round =>
    obtain ⟨e, he1, he2, rfl, hf, hx, hs, hbe⟩ := hrel
    clear hbx hst hbel HO
    by_cases hlt : e ≤ 73048
    · obtain ⟨q0, q1, q2, q3, q4, q5, q6, q7, q8, q9, q10, q11, q12, q13, q14, q15, q16⟩ := hx.q
      cases hv : dealB s c e
      · have HF : Hid (fromP (dealB s c) (e + 1) = o) := Lib.hid ((fromP_no hlt hv).symm.trans hf)
        clear hf
        go_wp2_with fail
        refine (deskDeals_is hv zc hs hok he1 hlt).mono ?_
        rintro e' w1 ⟨rfl, hb⟩
        clear q0 q1 q2 q3 q4 q5 q6 q7 q8 q9 q10 q11 q12 q13 q14 q15 q16
        go_wp2_with fail
        go_roundw
        case rel => exact ⟨e + 1, by omega, by omega, rfl, HF.out, hx.next hb, hs.next hb, bnext hbe hb⟩
        case measure => simp [intOf]; omega
      · have ho : some e = o := (fromP_yes hlt hv).symm.trans hf
        subst ho
        clear hf
        go_wp2_with fail
        refine (deskDeals_is hv zc hs hok he1 hlt).mono ?_
        rintro e' w1 ⟨rfl, hb⟩
        clear q0 q1 q2 q3 q4 q5 q6 q7 q8 q9 q10 q11 q12 q13 q14 q15 q16
        go_wp2_with fail
        go_ret2
        exact ⟨rfl, bnext hbe hb⟩
    · have ho : none = o := (fromP_out (by omega)).symm.trans hf
      subst ho
      clear hf
      go_wp2_with fail
      go_ret2
      exact ⟨rfl, hbe⟩
theorem deskNext_is {w : World} {s : SC} {z : ZN} {zA : Option Addr} {c : CN} {b : Nat} {d : Int} {o : Option Int} (ho : fromP (dealB s c) d = o) (zc : Nat) (h : DSt w z zA c b) (hok : s.ok = true) (hd0 : 0 ≤ d) (hd1 : d ≤ 73049) :
    Calls Tryz.prog 118 #[.agg #[.int .i64 s.period, .int .i64 s.nth, .int .i64 s.notice, .int .i64 s.settle, .int .i64 s.cutoff, .iface (rT s.period) (.agg #[.int .i64 s.nth]), .string z.name, .int .i64 z.off, .slice zA z.cs.length zc, .bool c.w0, .bool c.w1, .bool c.w2, .bool c.w3, .bool c.w4, .bool c.w5, .bool c.w6, .map (some b)], .int .i64 d] w (RetB (.tuple #[.int .i64 (o.getD 0), .bool o.isSome]) w) := by
  rcases ruleOk_per (SC.ok_rule hok) with hp | hp | hp
  · exact deskNext_d ho zc h hok hp hd0 hd1
  · exact deskNext_w ho zc h hok hp hd0 hd1
  · exact deskNext_m ho zc h hok hp hd0 hd1
theorem deskNext_some {w : World} {s : SC} {z : ZN} {zA : Option Addr} {c : CN} {b : Nat} {d r : Int} (ho : fromP (dealB s c) d = some r) (zc : Nat) (h : DSt w z zA c b) (hok : s.ok = true) (hd0 : 0 ≤ d) (hd1 : d ≤ 73049) :
    Calls Tryz.prog 118 #[.agg #[.int .i64 s.period, .int .i64 s.nth, .int .i64 s.notice, .int .i64 s.settle, .int .i64 s.cutoff, .iface (rT s.period) (.agg #[.int .i64 s.nth]), .string z.name, .int .i64 z.off, .slice zA z.cs.length zc, .bool c.w0, .bool c.w1, .bool c.w2, .bool c.w3, .bool c.w4, .bool c.w5, .bool c.w6, .map (some b)], .int .i64 d] w (RetB (.tuple #[.int .i64 r, .bool true]) w) := deskNext_is ho zc h hok hd0 hd1
theorem deskNext_none {w : World} {s : SC} {z : ZN} {zA : Option Addr} {c : CN} {b : Nat} {d : Int} (ho : fromP (dealB s c) d = none) (zc : Nat) (h : DSt w z zA c b) (hok : s.ok = true) (hd0 : 0 ≤ d) (hd1 : d ≤ 73049) :
    Calls Tryz.prog 118 #[.agg #[.int .i64 s.period, .int .i64 s.nth, .int .i64 s.notice, .int .i64 s.settle, .int .i64 s.cutoff, .iface (rT s.period) (.agg #[.int .i64 s.nth]), .string z.name, .int .i64 z.off, .slice zA z.cs.length zc, .bool c.w0, .bool c.w1, .bool c.w2, .bool c.w3, .bool c.w4, .bool c.w5, .bool c.w6, .map (some b)], .int .i64 d] w (RetB (.tuple #[.int .i64 0, .bool false]) w) := deskNext_is ho zc h hok hd0 hd1

/-- A deadline and no error, or the error. -/
def DlR (s : SC) (z : ZN) (c : CN) (d v e : Int) : Prop :=
  (stepDn (biz c) s.notice.toNat d = none ∧ v = 0 ∧ e = 81) ∨
  (∃ n, stepDn (biz c) s.notice.toNat d = some n ∧ ((instFrom 0 z.off z.cs (1440 * n + s.cutoff) = none ∧ v = 0 ∧ e = 71) ∨ (instFrom 0 z.off z.cs (1440 * n + s.cutoff) = some v ∧ e = 0)))
theorem dl_ex (s : SC) (z : ZN) (c : CN) (d : Int) : ∃ v e, DlR s z c d v e := by
  cases h : stepDn (biz c) s.notice.toNat d with
  | none => exact ⟨0, 81, .inl ⟨h, rfl, rfl⟩⟩
  | some n =>
    cases h2 : instFrom 0 z.off z.cs (1440 * n + s.cutoff) with
    | none => exact ⟨0, 71, .inr ⟨n, h, .inl ⟨h2, rfl, rfl⟩⟩⟩
    | some v => exact ⟨v, 0, .inr ⟨n, h, .inr ⟨h2, rfl⟩⟩⟩
theorem DlR.opt {s : SC} {z : ZN} {c : CN} {d v e : Int} (h : DlR s z c d v e) : (e = 0 ∧ dlO s z c d = some v) ∨ (e ≠ 0 ∧ dlO s z c d = none) := by
  unfold dlO
  rcases h with ⟨h, rfl, rfl⟩ | ⟨n, h, ⟨h2, rfl, rfl⟩ | ⟨h2, rfl⟩⟩
  · exact .inr ⟨by omega, by rw [h]; rfl⟩
  · exact .inr ⟨by omega, by rw [h]; exact h2⟩
  · exact .inl ⟨rfl, by rw [h]; exact h2⟩
theorem dl_inst {s : SC} {z : ZN} {n v e : Int} (hz : z.ok = true) (hc0 : 0 ≤ s.cutoff) (hc1 : s.cutoff ≤ 1439) (hn0 : 0 ≤ n) (hn1 : n ≤ 73048)
    (h : (instFrom 0 z.off z.cs (1440 * n + s.cutoff) = none ∧ v = 0 ∧ e = 71) ∨ (instFrom 0 z.off z.cs (1440 * n + s.cutoff) = some v ∧ e = 0)) : z.instV n s.cutoff = v ∧ z.instE n s.cutoff = e := by
  have h2 : dayB n = true := (dayB_iff n).2 ⟨hn0, hn1⟩
  have h3 : minB s.cutoff = true := (minB_iff _).2 ⟨hc0, hc1⟩
  rcases h with ⟨h, rfl, rfl⟩ | ⟨h, rfl⟩
  · exact ZN.inst_none hz h2 h3 h
  · exact ZN.inst_some hz h2 h3 h
theorem stepDn_someN {c : CN} {b : Nat} {x d r : Int} (hx0 : 0 ≤ x) (hx : x ≤ 1000) (ho : stepDn (biz c) x.toNat d = some r) (hd : 0 ≤ d) (hd2 : d ≤ 73048) (w : World) (h : HolAt w c b) :
    Calls Tryz.prog 116 #[.agg #[.bool c.w0, .bool c.w1, .bool c.w2, .bool c.w3, .bool c.w4, .bool c.w5, .bool c.w6, .map (some b)], .int .i64 d, .int .i64 (-x)] w (RetB (.tuple #[.int .i64 r, .bool true]) w) := by
  have := stepDn_some ho (by omega) hd hd2 w h
  rw [show ((x.toNat : Nat) : Int) = x by omega] at this
  exact this
theorem stepDn_noneN {c : CN} {b : Nat} {x d : Int} (hx0 : 0 ≤ x) (hx : x ≤ 1000) (ho : stepDn (biz c) x.toNat d = none) (hd : 0 ≤ d) (hd2 : d ≤ 73048) (w : World) (h : HolAt w c b) :
    Calls Tryz.prog 116 #[.agg #[.bool c.w0, .bool c.w1, .bool c.w2, .bool c.w3, .bool c.w4, .bool c.w5, .bool c.w6, .map (some b)], .int .i64 d, .int .i64 (-x)] w (RetB (.tuple #[.int .i64 0, .bool false]) w) := by
  have := stepDn_none ho (by omega) hd hd2 w h
  rw [show ((x.toNat : Nat) : Int) = x by omega] at this
  exact this
set_option maxRecDepth 100000 in
theorem deskDl_is {w : World} {s : SC} {z : ZN} {zA : Option Addr} {c : CN} {b : Nat} {d v e : Int} (hr : DlR s z c d v e) (zc : Nat) (h : DSt w z zA c b) (hok : s.ok = true) (hzok : z.ok = true) (hd0 : 0 ≤ d) (hd1 : d ≤ 73048) :
    Calls Tryz.prog 100 #[.agg #[.int .i64 s.period, .int .i64 s.nth, .int .i64 s.notice, .int .i64 s.settle, .int .i64 s.cutoff, .iface (rT s.period) (.agg #[.int .i64 s.nth]), .string z.name, .int .i64 z.off, .slice zA z.cs.length zc, .bool c.w0, .bool c.w1, .bool c.w2, .bool c.w3, .bool c.w4, .bool c.w5, .bool c.w6, .map (some b)], .int .i64 d] w (RetB (.tuple #[.int .i64 v, .int .i64 e]) w) := by
  obtain ⟨n1, n2, -, -, n5, n6⟩ := SC.ok_ranges hok
  have hbx : DRes (w.alloc (.cells #[.int .i64 s.period, .int .i64 s.nth, .int .i64 s.notice, .int .i64 s.settle, .int .i64 s.cutoff, .iface (rT s.period) (.agg #[.int .i64 s.nth]), .string z.name, .int .i64 z.off, .slice zA z.cs.length zc, .bool c.w0, .bool c.w1, .bool c.w2, .bool c.w3, .bool c.w4, .bool c.w5, .bool c.w6, .map (some b)] 147)) w.heap.size #[.int .i64 s.period, .int .i64 s.nth, .int .i64 s.notice, .int .i64 s.settle, .int .i64 s.cutoff, .iface (rT s.period) (.agg #[.int .i64 s.nth]), .string z.name, .int .i64 z.off, .slice zA z.cs.length zc, .bool c.w0, .bool c.w1, .bool c.w2, .bool c.w3, .bool c.w4, .bool c.w5, .bool c.w6, .map (some b)] := DRes.new
  have hst := h.next (bal0 w (.cells #[.int .i64 s.period, .int .i64 s.nth, .int .i64 s.notice, .int .i64 s.settle, .int .i64 s.cutoff, .iface (rT s.period) (.agg #[.int .i64 s.nth]), .string z.name, .int .i64 z.off, .slice zA z.cs.length zc, .bool c.w0, .bool c.w1, .bool c.w2, .bool c.w3, .bool c.w4, .bool c.w5, .bool c.w6, .map (some b)] 147))
  have hbel := bal0 w (.cells #[.int .i64 s.period, .int .i64 s.nth, .int .i64 s.notice, .int .i64 s.settle, .int .i64 s.cutoff, .iface (rT s.period) (.agg #[.int .i64 s.nth]), .string z.name, .int .i64 z.off, .slice zA z.cs.length zc, .bool c.w0, .bool c.w1, .bool c.w2, .bool c.w3, .bool c.w4, .bool c.w5, .bool c.w6, .map (some b)] 147)
  clear h
  rcases hr with ⟨hr, rfl, rfl⟩ | ⟨n, hr, hi⟩
  · go_enter Tryz.func100, Tryz.ntmps100
    go_wp2_with fail
    refine (stepDn_noneN n1 (by omega) hr hd0 hd1 _ hst.hol).mono ?_
    rintro e w1 ⟨rfl, hb⟩
    go_wp2_with fail
    go_ret2
    exact ⟨rfl, bnext hbel hb⟩
  · have hn := stepDn_le _ _ _ hr
    have hn0 := stepDn_bd _ _ _ hr hd0
    have HI := Lib.hid (dl_inst hzok n5 n6 hn0 (by omega) hi)
    clear hi
    go_enter Tryz.func100, Tryz.ntmps100
    go_wp2_with fail
    refine (stepDn_someN n1 (by omega) hr hd0 hd1 _ hst.hol).mono ?_
    rintro e w1 ⟨rfl, hb⟩
    have hst1 := hst.next hb
    have hbel1 := bnext hbel hb
    obtain ⟨q0, q1, q2, q3, q4, -, q6, q7, q8, -, -, -, -, -, -, -, -⟩ := (hbx.next hb).q
    clear hst hbel hbx hb
    go_wp2_with fail
    refine (zinst_is HI.out zA zc _ hst1.za).mono ?_
    rintro e w2 ⟨rfl, hb2⟩
    clear q0 q1 q2 q3 q4 q6 q7 q8
    go_wp2_with fail
    go_ret2
    exact ⟨rfl, bnext hbel1 hb2⟩
end Go.Proofs.YtbfllcfjgpkpaaaGreat
