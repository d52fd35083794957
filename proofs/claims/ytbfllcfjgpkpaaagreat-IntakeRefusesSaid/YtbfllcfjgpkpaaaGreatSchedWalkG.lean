/-
  The walks of schedules: the exported functions.
-/
import Derived.Test.YtbfllcfjgpkpaaaGreatSchedWalkF
import Derived.Test.YtbfllcfjgpkpaaaGreatSchedRow
namespace Go.Proofs.YtbfllcfjgpkpaaaGreat
open Go.RowKit
set_option maxHeartbeats 8000000
set_option linter.unusedVariables false
/-- The first error of a schedule and a place. -/
def aErr (s : SC) (z : ZN) (c : CN) : Int := if s.ok = true then (if z.ok = true then c.err else 70) else 90
theorem aErr_zero {s : SC} {z : ZN} {c : CN} (h : aErr s z c = 0) : s.ok = true ∧ z.ok = true ∧ c.ok = true := by
  unfold aErr CN.err at h
  cases h1 : s.ok <;> cases h2 : z.ok <;> cases h3 : c.ok <;> simp [h1, h2, h3] at h ⊢
theorem aErr_ok {s : SC} {z : ZN} {c : CN} (h1 : s.ok = true) (h2 : z.ok = true) (h3 : c.ok = true) : aErr s z c = 0 := by simp [aErr, CN.err, h1, h2, h3]
theorem at_bad {w : World} {s : SC} {z : ZN} {zA : Option Addr} {c : CN} {cA : Option Addr} {e : Int} (zc cc : Nat) (hz : ZAt w z zA) (hc : CAt w c cA) (he : aErr s z c = e) (hn : e ≠ 0) :
    Calls Tryz.prog 113 #[.agg #[.int .i64 s.period, .int .i64 s.nth, .int .i64 s.notice, .int .i64 s.settle, .int .i64 s.cutoff], .agg #[.string z.name, .int .i64 z.off, .slice zA z.cs.length zc, .string c.name, .bool c.w0, .bool c.w1, .bool c.w2, .bool c.w3, .bool c.w4, .bool c.w5, .bool c.w6, .slice cA c.hs.length cc]] w (RetB (.tuple #[.agg #[.int .i64 0, .int .i64 0, .int .i64 0, .int .i64 0, .int .i64 0, .nilIface, .string ⟨#[]⟩, .int .i64 0, .slice none 0 0, .bool false, .bool false, .bool false, .bool false, .bool false, .bool false, .bool false, .map none], .int .i64 e]) w) := by
  subst he
  unfold aErr at hn ⊢
  cases h1 : s.ok
  · rw [if_neg (by simp)]
    exact at_err0 zc cc hz hc (SC.err_of_bad h1) rfl rfl rfl
  · rw [h1, if_pos rfl] at hn
    rw [if_pos rfl]
    cases h2 : z.ok
    · rw [if_neg (by simp)]
      exact at_err1 zc cc hz hc (SC.err_of_ok h1) (ZN.err_of_bad h2) rfl rfl rfl
    · rw [h2, if_pos rfl] at hn
      rw [if_pos rfl]
      exact at_err2 zc cc hz hc (SC.err_of_ok h1) (ZN.err_of_ok h2) rfl rfl rfl (by rw [bne_iff_ne]; exact hn)
theorem at_badV {w : World} {s : SC} {z : ZN} {zA : Option Addr} {c : CN} {cA : Option Addr} {e : Int} (zc cc : Nat) (hz : ZAt w z zA) (hc : CAt w c cA) (he : aErr s z c = e) (hn : e ≠ 0) :
    Calls Tryz.prog 113 #[.agg (sV s), .agg (pV z zA zc c cA cc)] w (RetB (.tuple #[.agg d0V, .int .i64 e]) w) := at_bad zc cc hz hc he hn
/-- The desk that 'at' returns. -/
def AtV (s : SC) (z : ZN) (zA : Option Addr) (zc : Nat) (c : CN) (w : World) (e : Ending) (w' : World) : Prop :=
  ∃ b, e = .returned (.tuple #[.agg (dV s z zA zc c b), .int .i64 0]) ∧ DSt w' z zA c b ∧ Below w.heap.size w w'
theorem at_okV {w : World} {s : SC} {z : ZN} {zA : Option Addr} {c : CN} {cA : Option Addr} (zc cc : Nat) (hz : ZAt w z zA) (hc : CAt w c cA) (h1 : s.ok = true) (h2 : z.ok = true) (h3 : c.ok = true) :
    Calls Tryz.prog 113 #[.agg (sV s), .agg (pV z zA zc c cA cc)] w (AtV s z zA zc c w) := at_ok zc cc hz hc h1 h2 h3
theorem deskDealsV {s : SC} {z : ZN} {zA : Option Addr} {c : CN} {b : Nat} {d : Int} {v : Bool} (hv : dealB s c d = v) (zc : Nat) {w : World} (h : DSt w z zA c b) (h1 : s.ok = true) (hd0 : 0 ≤ d) (hd1 : d ≤ 73048) :
    Calls Tryz.prog 115 #[.agg (dV s z zA zc c b), .int .i64 d] w (RetB (.bool v) w) := deskDeals_is hv zc h h1 hd0 hd1
section
variable {s : SC} {z : ZN} {zA : Option Addr} {c : CN} {b : Nat} {w : World}
theorem deskDlV {d v e : Int} (hr : DlR s z c d v e) (zc : Nat) (h : DSt w z zA c b) (h1 : s.ok = true) (h2 : z.ok = true) (hd0 : 0 ≤ d) (hd1 : d ≤ 73048) :
    Calls Tryz.prog 100 #[.agg (dV s z zA zc c b), .int .i64 d] w (RetB (.tuple #[.int .i64 v, .int .i64 e]) w) := deskDl_is hr zc h h1 h2 hd0 hd1
theorem deskNextS {d r : Int} (hv : fromP (dealB s c) d = some r) (zc : Nat) (h : DSt w z zA c b) (h1 : s.ok = true) (hd0 : 0 ≤ d) (hd1 : d ≤ 73049) :
    Calls Tryz.prog 118 #[.agg (dV s z zA zc c b), .int .i64 d] w (RetB (.tuple #[.int .i64 r, .bool true]) w) := deskNext_some hv zc h h1 hd0 hd1
theorem deskNextN {d : Int} (hv : fromP (dealB s c) d = none) (zc : Nat) (h : DSt w z zA c b) (h1 : s.ok = true) (hd0 : 0 ≤ d) (hd1 : d ≤ 73049) :
    Calls Tryz.prog 118 #[.agg (dV s z zA zc c b), .int .i64 d] w (RetB (.tuple #[.int .i64 0, .bool false]) w) := deskNext_none hv zc h h1 hd0 hd1
end
/-- The boxes of a schedule and a place. -/
structure Bx2 (w W : World) (s : SC) (z : ZN) (zA : Option Addr) (zc : Nat) (c : CN) (cA : Option Addr) (cc : Nat) : Prop where
  sb : BlkAt W w.heap.size (sV s) 28
  pb : BlkAt W (w.heap.size + 1) (pV z zA zc c cA cc) 37
  za : ZAt W z zA
  ca : CAt W c cA
  below : Below w.heap.size w W
theorem Bx2.new {w : World} {s : SC} {z : ZN} {zA : Option Addr} (zc : Nat) {c : CN} {cA : Option Addr} (cc : Nat) (hz : ZAt w z zA) (hc : CAt w c cA) :
    Bx2 w ((w.alloc (.cells (sV s) 28)).alloc (.cells (pV z zA zc c cA cc) 37)) s z zA zc c cA cc :=
  ⟨(BlkAt.new _ _ _).al _, BlkAt.newAt _ _ _ (by simp), (hz.below (bal0 _ _)).below (bal0 _ _), (hc.below (bal0 _ _)).below (bal0 _ _), bal (bal0 _ _) _⟩
set_option maxRecDepth 100000 in
theorem sFor_bad {w : World} {s : SC} {z : ZN} {zA : Option Addr} {c : CN} {cA : Option Addr} {e d : Int} (zc cc : Nat) (hz : ZAt w z zA) (hc : CAt w c cA) (he : aErr s z c = e) (hn : e ≠ 0) :
    Calls Tryz.prog 101 #[.agg (sV s), .agg (pV z zA zc c cA cc), .int .i64 d] w (RetB (.tuple #[.int .i64 0, .int .i64 e]) w) := by
  have hB := Bx2.new (s := s) zc cc hz hc
  have HE := Lib.hid (at_badV zc cc hB.za hB.ca he hn)
  have g1 : (e != 0) = true := by rw [bne_iff_ne]; exact hn
  clear he hn hz hc
  go_enter Tryz.func101, Tryz.ntmps101
  go_wp2_with (first | ((with_reducible refine wpl_load rfl 28 _ rfl _ ?_ hB.sb (rowS _) ?_); exact rfl) | ((with_reducible refine wpl_load rfl 37 _ rfl _ ?_ hB.pb (rowP ..) ?_); exact rfl))
  refine HE.out.mono ?_
  rintro e' w1 ⟨rfl, hb⟩
  go_wp2_with ((with_reducible refine wpl_store_new rfl 147 _ _ rfl d0V ?_ ?_ rowD0 ?_ ?_); exact rfl; exact rfl; exact rfl)
  go_ret2
  exact ⟨rfl, bal (bnext hB.below hb) _⟩
set_option maxRecDepth 100000 in
theorem sFor_lo {w : World} {s : SC} {z : ZN} {zA : Option Addr} {c : CN} {cA : Option Addr} {d : Int} (zc cc : Nat) (hz : ZAt w z zA) (hc : CAt w c cA) (h1 : s.ok = true) (h2 : z.ok = true) (h3 : c.ok = true) (ht : d < 0) :
    Calls Tryz.prog 101 #[.agg (sV s), .agg (pV z zA zc c cA cc), .int .i64 d] w (RetB (.tuple #[.int .i64 0, .int .i64 71]) w) := by
  have hB := Bx2.new (s := s) zc cc hz hc
  have HE : Hid (Calls Tryz.prog 113 #[.agg (sV s), .agg (pV z zA zc c cA cc)] _ (AtV s z zA zc c _)) := Lib.hid (at_okV zc cc hB.za hB.ca h1 h2 h3)
  clear hz hc
  go_enter Tryz.func101, Tryz.ntmps101
  go_wp2_with (first | ((with_reducible refine wpl_load rfl 28 _ rfl _ ?_ hB.sb (rowS _) ?_); exact rfl) | ((with_reducible refine wpl_load rfl 37 _ rfl _ ?_ hB.pb (rowP ..) ?_); exact rfl))
  refine HE.out.mono ?_
  rintro e' w1 ⟨b, rfl, hst, hb⟩
  have hD := BlkAt.new w1 (dV s z zA zc c b) 147
  have hb2 := bal (bnext hB.below hb) (.cells (dV s z zA zc c b) 147)
  have hst1 := hst.next (bal0 w1 (.cells (dV s z zA zc c b) 147))
  clear HE hB hb hst
  go_wp2_with ((with_reducible refine wpl_store_new rfl 147 _ _ rfl (dV s z zA zc c b) ?_ ?_ (rowDV ..) ?_ ?_); exact rfl; exact rfl; exact rfl)
  go_ret2
  exact ⟨rfl, hb2⟩
set_option maxRecDepth 100000 in
theorem sFor_hi {w : World} {s : SC} {z : ZN} {zA : Option Addr} {c : CN} {cA : Option Addr} {d : Int} (zc cc : Nat) (hz : ZAt w z zA) (hc : CAt w c cA) (h1 : s.ok = true) (h2 : z.ok = true) (h3 : c.ok = true) (ht : 105190559 < d) (ht0 : 0 ≤ d) :
    Calls Tryz.prog 101 #[.agg (sV s), .agg (pV z zA zc c cA cc), .int .i64 d] w (RetB (.tuple #[.int .i64 0, .int .i64 71]) w) := by
  have hB := Bx2.new (s := s) zc cc hz hc
  have HE : Hid (Calls Tryz.prog 113 #[.agg (sV s), .agg (pV z zA zc c cA cc)] _ (AtV s z zA zc c _)) := Lib.hid (at_okV zc cc hB.za hB.ca h1 h2 h3)
  clear hz hc
  go_enter Tryz.func101, Tryz.ntmps101
  go_wp2_with (first | ((with_reducible refine wpl_load rfl 28 _ rfl _ ?_ hB.sb (rowS _) ?_); exact rfl) | ((with_reducible refine wpl_load rfl 37 _ rfl _ ?_ hB.pb (rowP ..) ?_); exact rfl))
  refine HE.out.mono ?_
  rintro e' w1 ⟨b, rfl, hst, hb⟩
  have hD := BlkAt.new w1 (dV s z zA zc c b) 147
  have hb2 := bal (bnext hB.below hb) (.cells (dV s z zA zc c b) 147)
  have hst1 := hst.next (bal0 w1 (.cells (dV s z zA zc c b) 147))
  clear HE hB hb hst
  go_wp2_with ((with_reducible refine wpl_store_new rfl 147 _ _ rfl (dV s z zA zc c b) ?_ ?_ (rowDV ..) ?_ ?_); exact rfl; exact rfl; exact rfl)
  go_ret2
  exact ⟨rfl, hb2⟩
/-- The boxes of a schedule and a place, and the result's cell. -/
structure Bx3 (w W : World) (s : SC) (z : ZN) (zA : Option Addr) (zc : Nat) (c : CN) (cA : Option Addr) (cc : Nat) : Prop where
  sb : BlkAt W w.heap.size (sV s) 28
  pb : BlkAt W (w.heap.size + 1) (pV z zA zc c cA cc) 37
  rb : BlkAt W (w.heap.size + 1 + 1) d0V 147
  za : ZAt W z zA
  ca : CAt W c cA
  below : Below w.heap.size w W
theorem Bx3.new {w : World} {s : SC} {z : ZN} {zA : Option Addr} (zc : Nat) {c : CN} {cA : Option Addr} (cc : Nat) (hz : ZAt w z zA) (hc : CAt w c cA) :
    Bx3 w (((w.alloc (.cells (sV s) 28)).alloc (.cells (pV z zA zc c cA cc) 37)).alloc (.cells d0V 147)) s z zA zc c cA cc :=
  ⟨((BlkAt.new _ _ _).al _).al _, (BlkAt.newAt _ _ _ (by simp)).al _, BlkAt.newAt _ _ _ (by simp),
    ((hz.below (bal0 _ _)).below (bal0 _ _)).below (bal0 _ _), ((hc.below (bal0 _ _)).below (bal0 _ _)).below (bal0 _ _), bal (bal (bal0 _ _) _) _⟩
set_option maxRecDepth 100000 in
theorem dealing_bad {w : World} {s : SC} {z : ZN} {zA : Option Addr} {c : CN} {cA : Option Addr} {e d : Int} (zc cc : Nat) (hz : ZAt w z zA) (hc : CAt w c cA) (he : aErr s z c = e) (hn : e ≠ 0) :
    Calls Tryz.prog 99 #[.agg (sV s), .agg (pV z zA zc c cA cc), .int .i64 d] w (RetB (.tuple #[.agg d0V, .int .i64 e]) w) := by
  have hB : Bx3 w (((w.alloc (.cells (sV s) 28)).alloc (.cells (pV z zA zc c cA cc) 37)).alloc (.cells #[.int .i64 0, .int .i64 0, .int .i64 0, .int .i64 0, .int .i64 0, .nilIface, .string ⟨#[]⟩, .int .i64 0, .slice none 0 0, .bool false, .bool false, .bool false, .bool false, .bool false, .bool false, .bool false, .map none] 147)) s z zA zc c cA cc := Bx3.new zc cc hz hc
  have HE : Hid (Calls Tryz.prog 113 #[.agg (sV s), .agg (pV z zA zc c cA cc)] _ (RetB (.tuple #[.agg d0V, .int .i64 e]) _)) := Lib.hid (at_bad zc cc hB.za hB.ca he hn)
  have g1 : (e != 0) = true := by rw [bne_iff_ne]; exact hn
  clear he hn hz hc
  go_enter Tryz.func99, Tryz.ntmps99
  go_wp2_with (first | ((with_reducible refine wpl_load rfl 28 _ rfl _ ?_ hB.sb (rowS _) ?_); exact rfl) | ((with_reducible refine wpl_load rfl 37 _ rfl _ ?_ hB.pb (rowP ..) ?_); exact rfl))
  refine HE.out.mono ?_
  rintro e' w1 ⟨rfl, hb⟩
  have hR := hB.rb.next hb
  have hb2 := bnext hB.below hb
  have hlt := hR.lt
  have hge : w.heap.size ≤ w.heap.size + 1 + 1 := by omega
  clear HE hB hb
  go_wp2_with (first | ((with_reducible refine wpl_store_new rfl 147 _ _ rfl d0V ?_ ?_ rowD0 ?_ ?_); exact rfl; exact rfl; exact rfl) | ((with_reducible refine wpl_store rfl 147 _ _ rfl _ d0V ?_ ?_ (hR.al _) rowD0 ?_ ?_); exact rfl; exact rfl; exact rfl))
  exact bodyPost_ret (v := .tuple #[.agg d0V, .int .i64 e]) (res_cs rfl rfl rfl ((hR.al _).set _) rowD0) rfl ⟨rfl, Below.setRow (bal hb2 _) hge _⟩
set_option maxRecDepth 100000 in
theorem dealing_day {w : World} {s : SC} {z : ZN} {zA : Option Addr} {c : CN} {cA : Option Addr} {d : Int} (zc cc : Nat) (hz : ZAt w z zA) (hc : CAt w c cA) (h1 : s.ok = true) (h2 : z.ok = true) (h3 : c.ok = true) (hd : dayB d = false) :
    Calls Tryz.prog 99 #[.agg (sV s), .agg (pV z zA zc c cA cc), .int .i64 d] w (RetB (.tuple #[.agg d0V, .int .i64 50]) w) := by
  have hB : Bx3 w (((w.alloc (.cells (sV s) 28)).alloc (.cells (pV z zA zc c cA cc) 37)).alloc (.cells #[.int .i64 0, .int .i64 0, .int .i64 0, .int .i64 0, .int .i64 0, .nilIface, .string ⟨#[]⟩, .int .i64 0, .slice none 0 0, .bool false, .bool false, .bool false, .bool false, .bool false, .bool false, .bool false, .map none] 147)) s z zA zc c cA cc := Bx3.new zc cc hz hc
  have HE : Hid (Calls Tryz.prog 113 #[.agg (sV s), .agg (pV z zA zc c cA cc)] _ (AtV s z zA zc c _)) := Lib.hid (at_okV zc cc hB.za hB.ca h1 h2 h3)
  have HZ := Lib.hid hz
  clear hz hc
  go_enter Tryz.func99, Tryz.ntmps99
  go_wp2_with (first | ((with_reducible refine wpl_load rfl 28 _ rfl _ ?_ hB.sb (rowS _) ?_); exact rfl) | ((with_reducible refine wpl_load rfl 37 _ rfl _ ?_ hB.pb (rowP ..) ?_); exact rfl))
  refine HE.out.mono ?_
  rintro e' w1 ⟨b, rfl, hst, hb⟩
  have hR := (hB.rb.next hb).al (.cells (dV s z zA zc c b) 147)
  have hD := BlkAt.new w1 (dV s z zA zc c b) 147
  have hb2 := bal (bnext hB.below hb) (.cells (dV s z zA zc c b) 147)
  have hst1 := hst.next (bal0 w1 (.cells (dV s z zA zc c b) 147))
  have hge : w.heap.size ≤ w.heap.size + 1 + 1 := by omega
  clear HE hB hb hst
  go_wp2_with ((with_reducible refine wpl_store_new rfl 147 _ _ rfl (dV s z zA zc c b) ?_ ?_ (rowDV ..) ?_ ?_); exact rfl; exact rfl; exact rfl)
  refine (svalid_is hd _).mono ?_
  rintro e2 w2 ⟨rfl, rfl⟩
  go_wp2_with ((with_reducible refine wpl_store rfl 147 _ _ rfl _ d0V ?_ ?_ hR rowD0 ?_ ?_); exact rfl; exact rfl; exact rfl)
  exact bodyPost_ret (v := .tuple #[.agg d0V, .int .i64 50]) (res_cs rfl rfl rfl (BlkAt.set hR _) rowD0) rfl ⟨rfl, Below.setRow hb2 hge _⟩
set_option maxRecDepth 100000 in
theorem dealing_not {w : World} {s : SC} {z : ZN} {zA : Option Addr} {c : CN} {cA : Option Addr} {d : Int} (zc cc : Nat) (hz : ZAt w z zA) (hc : CAt w c cA) (h1 : s.ok = true) (h2 : z.ok = true) (h3 : c.ok = true) (hd0 : 0 ≤ d) (hd1 : d ≤ 73048) (hv : dealB s c d = false) :
    Calls Tryz.prog 99 #[.agg (sV s), .agg (pV z zA zc c cA cc), .int .i64 d] w (RetB (.tuple #[.agg d0V, .int .i64 91]) w) := by
  have hB : Bx3 w (((w.alloc (.cells (sV s) 28)).alloc (.cells (pV z zA zc c cA cc) 37)).alloc (.cells #[.int .i64 0, .int .i64 0, .int .i64 0, .int .i64 0, .int .i64 0, .nilIface, .string ⟨#[]⟩, .int .i64 0, .slice none 0 0, .bool false, .bool false, .bool false, .bool false, .bool false, .bool false, .bool false, .map none] 147)) s z zA zc c cA cc := Bx3.new zc cc hz hc
  have HE : Hid (Calls Tryz.prog 113 #[.agg (sV s), .agg (pV z zA zc c cA cc)] _ (AtV s z zA zc c _)) := Lib.hid (at_okV zc cc hB.za hB.ca h1 h2 h3)
  have HZ := Lib.hid hz
  clear hz hc
  go_enter Tryz.func99, Tryz.ntmps99
  go_wp2_with (first | ((with_reducible refine wpl_load rfl 28 _ rfl _ ?_ hB.sb (rowS _) ?_); exact rfl) | ((with_reducible refine wpl_load rfl 37 _ rfl _ ?_ hB.pb (rowP ..) ?_); exact rfl))
  refine HE.out.mono ?_
  rintro e' w1 ⟨b, rfl, hst, hb⟩
  have hR := (hB.rb.next hb).al (.cells (dV s z zA zc c b) 147)
  have hD := BlkAt.new w1 (dV s z zA zc c b) 147
  have hb2 := bal (bnext hB.below hb) (.cells (dV s z zA zc c b) 147)
  have hst1 := hst.next (bal0 w1 (.cells (dV s z zA zc c b) 147))
  have hge : w.heap.size ≤ w.heap.size + 1 + 1 := by omega
  clear HE hB hb hst
  go_wp2_with ((with_reducible refine wpl_store_new rfl 147 _ _ rfl (dV s z zA zc c b) ?_ ?_ (rowDV ..) ?_ ?_); exact rfl; exact rfl; exact rfl)
  refine (svalid_is ((dayB_iff d).2 ⟨hd0, hd1⟩) _).mono ?_
  rintro e2 w2 ⟨rfl, rfl⟩
  go_wp2_with ((with_reducible refine wpl_load rfl 147 _ rfl _ ?_ hD (rowDV ..) ?_); exact rfl)
  refine (deskDealsV hv zc hst1 h1 hd0 hd1).mono ?_
  rintro e3 w3 ⟨rfl, hb3⟩
  have hR3 := hR.next hb3
  have hb4 := bnext hb2 hb3
  go_wp2_with ((with_reducible refine wpl_store rfl 147 _ _ rfl _ d0V ?_ ?_ hR3 rowD0 ?_ ?_); exact rfl; exact rfl; exact rfl)
  exact bodyPost_ret (v := .tuple #[.agg d0V, .int .i64 91]) (res_cs rfl rfl rfl (BlkAt.set hR3 _) rowD0) rfl ⟨rfl, Below.setRow hb4 hge _⟩
set_option maxRecDepth 100000 in
theorem dealing_ok {w : World} {s : SC} {z : ZN} {zA : Option Addr} {c : CN} {cA : Option Addr} {d : Int} (zc cc : Nat) (hz : ZAt w z zA) (hc : CAt w c cA) (h1 : s.ok = true) (h2 : z.ok = true) (h3 : c.ok = true) (hd0 : 0 ≤ d) (hd1 : d ≤ 73048) (hv : dealB s c d = true) :
    Calls Tryz.prog 99 #[.agg (sV s), .agg (pV z zA zc c cA cc), .int .i64 d] w (AtV s z zA zc c w) := by
  have hB : Bx3 w (((w.alloc (.cells (sV s) 28)).alloc (.cells (pV z zA zc c cA cc) 37)).alloc (.cells #[.int .i64 0, .int .i64 0, .int .i64 0, .int .i64 0, .int .i64 0, .nilIface, .string ⟨#[]⟩, .int .i64 0, .slice none 0 0, .bool false, .bool false, .bool false, .bool false, .bool false, .bool false, .bool false, .map none] 147)) s z zA zc c cA cc := Bx3.new zc cc hz hc
  have HE : Hid (Calls Tryz.prog 113 #[.agg (sV s), .agg (pV z zA zc c cA cc)] _ (AtV s z zA zc c _)) := Lib.hid (at_okV zc cc hB.za hB.ca h1 h2 h3)
  have HZ := Lib.hid hz
  clear hz hc
  go_enter Tryz.func99, Tryz.ntmps99
  go_wp2_with (first | ((with_reducible refine wpl_load rfl 28 _ rfl _ ?_ hB.sb (rowS _) ?_); exact rfl) | ((with_reducible refine wpl_load rfl 37 _ rfl _ ?_ hB.pb (rowP ..) ?_); exact rfl))
  refine HE.out.mono ?_
  rintro e' w1 ⟨b, rfl, hst, hb⟩
  have hR := (hB.rb.next hb).al (.cells (dV s z zA zc c b) 147)
  have hD := BlkAt.new w1 (dV s z zA zc c b) 147
  have hb2 := bal (bnext hB.below hb) (.cells (dV s z zA zc c b) 147)
  have hst1 := hst.next (bal0 w1 (.cells (dV s z zA zc c b) 147))
  have hge : w.heap.size ≤ w.heap.size + 1 + 1 := by omega
  clear HE hB hb hst
  go_wp2_with ((with_reducible refine wpl_store_new rfl 147 _ _ rfl (dV s z zA zc c b) ?_ ?_ (rowDV ..) ?_ ?_); exact rfl; exact rfl; exact rfl)
  refine (svalid_is ((dayB_iff d).2 ⟨hd0, hd1⟩) _).mono ?_
  rintro e2 w2 ⟨rfl, rfl⟩
  go_wp2_with ((with_reducible refine wpl_load rfl 147 _ rfl _ ?_ hD (rowDV ..) ?_); exact rfl)
  refine (deskDealsV hv zc hst1 h1 hd0 hd1).mono ?_
  rintro e3 w3 ⟨rfl, hb3⟩
  have hR3 := hR.next hb3
  have hb4 := bnext hb2 hb3
  have hD3 := hD.next hb3
  have hst3 := hst1.next hb3
  go_wp2_with (first | ((with_reducible refine wpl_load rfl 147 _ rfl _ ?_ hD3 (rowDV ..) ?_); exact rfl) | ((with_reducible refine wpl_store rfl 147 _ _ rfl _ (dV s z zA zc c b) ?_ ?_ hR3 (rowDV ..) ?_ ?_); exact rfl; exact rfl; exact rfl))
  have hbR : b ≠ w.heap.size + 1 + 1 := by
    intro e
    obtain ⟨es, clock, hm, -⟩ := hst3.hol.own
    have := hR3.blk
    rw [e, this] at hm
    injection hm with hm
    cases hm
  have s4 := Below.setRow hb4 hge (dV s z zA zc c b)
  exact bodyPost_ret (v := .tuple #[.agg (dV s z zA zc c b), .int .i64 0]) (res_cs rfl rfl rfl (hR3.set _) (rowDV ..)) rfl ⟨b, rfl, ⟨hst3.hol.keep (by rw [setRow_size]; exact Nat.le_refl _) (setRow_other _ _ _ _ hbR), HZ.out.below s4⟩, s4⟩
end Go.Proofs.YtbfllcfjgpkpaaaGreat
