/-
  The walks of schedules: which are valid; the rules behind an interface.
  The walks of schedules: the document's Check.
  The walks of schedules: the three rules.
  The walks of schedules: the monthly rule.
-/
import Derived.Test.YtbfllcfjgpkpaaaGreatPlain
import Derived.Test.YtbfllcfjgpkpaaaGreatRows
import Derived.Test.YtbfllcfjgpkpaaaGreatCalWalk
namespace Go.Proofs.YtbfllcfjgpkpaaaGreat
section
open Go.RowKit
set_option maxHeartbeats 4000000
set_option linter.unusedVariables false

/-- The type behind the interface. -/
def rT (p : Int) : TypeId := if p = 1 then 140 else if p = 2 then 141 else 142
theorem rT1 {p : Int} (h : p = 1) : rT p = 140 := by subst h; rfl
theorem rT2 {p : Int} (h : p = 2) : rT p = 141 := by subst h; rfl
theorem rT3 {p : Int} (h : p = 3) : rT p = 142 := by subst h; rfl
def perR (p : Int) : Prop := p = 1 ∨ p = 2 ∨ p = 3
theorem ruleOk_per {p n : Int} (h : ruleOk p n = true) : perR p := by
  unfold ruleOk at h
  unfold perR
  by_cases h1 : p = 1
  · exact .inl h1
  by_cases h2 : p = 2
  · exact .inr (.inl h2)
  by_cases h3 : p = 3
  · exact .inr (.inr h3)
  rw [if_neg h1, if_neg h2, if_neg h3] at h
  cases h
theorem of_in (s : SC) (h : perR s.period) (w : World) :
    Calls Tryz.prog 71 #[.agg #[.int .i64 s.period, .int .i64 s.nth, .int .i64 s.notice, .int .i64 s.settle, .int .i64 s.cutoff]] w (RetB (.iface (rT s.period) (.agg #[.int .i64 s.nth])) w) := by
  rcases h with h | h | h
  · rw [rT1 h]
    have b1 : (s.period == 1) = true := by rw [beq_iff_eq]; exact h
    clear h
    go_enter Tryz.func71, Tryz.ntmps71
    go_wp2_with fail
    go_ret
    exact ⟨rfl, bal0 _ _⟩
  · rw [rT2 h]
    have b1 : (s.period == 1) = false := by rw [beq_eq_false_iff_ne]; omega
    have b2 : (s.period == 2) = true := by rw [beq_iff_eq]; exact h
    clear h
    go_enter Tryz.func71, Tryz.ntmps71
    go_wp2_with fail
    go_ret
    exact ⟨rfl, bal0 _ _⟩
  · rw [rT3 h]
    have b1 : (s.period == 1) = false := by rw [beq_eq_false_iff_ne]; omega
    have b2 : (s.period == 2) = false := by rw [beq_eq_false_iff_ne]; omega
    have b3 : (s.period == 3) = true := by rw [beq_iff_eq]; exact h
    clear h
    go_enter Tryz.func71, Tryz.ntmps71
    go_wp2_with fail
    go_ret
    exact ⟨rfl, bal0 _ _⟩
theorem of_out (s : SC) (h : ¬perR s.period) (w : World) :
    Calls Tryz.prog 71 #[.agg #[.int .i64 s.period, .int .i64 s.nth, .int .i64 s.notice, .int .i64 s.settle, .int .i64 s.cutoff]] w (RetB .nilIface w) := by
  unfold perR at h
  have b1 : (s.period == 1) = false := by rw [beq_eq_false_iff_ne]; omega
  have b2 : (s.period == 2) = false := by rw [beq_eq_false_iff_ne]; omega
  have b3 : (s.period == 3) = false := by rw [beq_eq_false_iff_ne]; omega
  clear h
  go_enter Tryz.func71, Tryz.ntmps71
  go_wp2_with fail
  go_ret
  exact ⟨rfl, bal0 _ _⟩

theorem dvalid_any (n : Int) (w : World) : Calls Tryz.prog 144 #[.agg #[.int .i64 n]] w (RetB (.bool (ruleOk 1 n)) w) := by
  have e : ruleOk 1 n = (n == 0) := by
    rw [Bool.eq_iff_iff]
    simp [ruleOk]
  rw [e]
  go_enter Tryz.func144, Tryz.ntmps144
  go_wp2_with fail
  go_ret
  exact ⟨rfl, bal0 _ _⟩
theorem wvalid_any (n : Int) (w : World) : Calls Tryz.prog 146 #[.agg #[.int .i64 n]] w (RetB (.bool (ruleOk 2 n)) w) := by
  have e : ruleOk 2 n = decide (0 ≤ n ∧ n ≤ 6) := rfl
  rw [e]
  go_enter Tryz.func146, Tryz.ntmps146
  go_wp2
  all_goals go_ret
  all_goals (refine ⟨ret_bool ?_, bal0 _ _⟩; rw [Bool.eq_iff_iff]; simp; try omega)
theorem mvalid_any (n : Int) (w : World) : Calls Tryz.prog 150 #[.agg #[.int .i64 n]] w (RetB (.bool (ruleOk 3 n)) w) := by
  have e : ruleOk 3 n = decide (n ≠ 0 ∧ -23 ≤ n ∧ n ≤ 23) := rfl
  rw [e]
  by_cases h0 : n = 0
  · subst h0
    go_enter Tryz.func150, Tryz.ntmps150
    go_wp2
    go_ret
    exact ⟨rfl, bal0 _ _⟩
  · have b0 : (n == 0) = false := by rw [beq_eq_false_iff_ne]; exact h0
    have b1 : (n != 0) = true := by rw [bne_iff_ne]; exact h0
    go_enter Tryz.func150, Tryz.ntmps150
    go_wp2
    all_goals go_ret
    all_goals (refine ⟨ret_bool ?_, bal0 _ _⟩; rw [Bool.eq_iff_iff]; simp [h0]; try omega)
theorem dvalid_is {p n : Int} {v : Bool} (h : ruleOk p n = v) (hp : p = 1) (w : World) : Calls Tryz.prog 144 #[.agg #[.int .i64 n]] w (RetB (.bool v) w) := by subst hp; rw [← h]; exact dvalid_any n w
theorem wvalid_is {p n : Int} {v : Bool} (h : ruleOk p n = v) (hp : p = 2) (w : World) : Calls Tryz.prog 146 #[.agg #[.int .i64 n]] w (RetB (.bool v) w) := by subst hp; rw [← h]; exact wvalid_any n w
theorem mvalid_is {p n : Int} {v : Bool} (h : ruleOk p n = v) (hp : p = 3) (w : World) : Calls Tryz.prog 150 #[.agg #[.int .i64 n]] w (RetB (.bool v) w) := by subst hp; rw [← h]; exact mvalid_any n w
theorem meth1 (n : Int) (w : World) : (method 287 140 (.agg #[.int .i64 n]) "fundadmin/schedule.valid").run Tryz.prog w = .ok (144, .agg #[.int .i64 n]) w := by kernel_rfl
theorem meth2 (n : Int) (w : World) : (method 287 141 (.agg #[.int .i64 n]) "fundadmin/schedule.valid").run Tryz.prog w = .ok (146, .agg #[.int .i64 n]) w := by kernel_rfl
theorem meth3 (n : Int) (w : World) : (method 287 142 (.agg #[.int .i64 n]) "fundadmin/schedule.valid").run Tryz.prog w = .ok (150, .agg #[.int .i64 n]) w := by kernel_rfl
theorem ranges_no {s : SC} (h : rangesOk s = false) : s.notice < 0 ∨ 60 < s.notice ∨ s.settle < 0 ∨ 60 < s.settle ∨ s.cutoff < 0 ∨ 1440 ≤ s.cutoff := by
  unfold rangesOk at h
  rw [decide_eq_false_iff_not] at h
  omega
set_option maxRecDepth 100000 in
theorem scheck_bad (s : SC) (hr : rangesOk s = false) (w : World) : Calls Tryz.prog 44 #[.agg #[.int .i64 s.period, .int .i64 s.nth, .int .i64 s.notice, .int .i64 s.settle, .int .i64 s.cutoff]] w (RetB (.int .i64 s.err) w) := by
  have HE := Lib.hid (SC.err_of_bad (s := s) (by simp [SC.ok, hr]))
  have hh := ranges_no hr
  have c1 : (decide (s.notice < 0) || decide (60 < s.notice) || decide (s.settle < 0) || decide (60 < s.settle) || decide (s.cutoff < 0) || decide (1440 ≤ s.cutoff)) = true := by simp; omega
  clear hh hr
  go_enter Tryz.func44, Tryz.ntmps44
  go_wp2_with fail
  all_goals go_ret
  all_goals exact ⟨ret_int HE.out.symm, bal0 _ _⟩
theorem ranges_yes {s : SC} (h : rangesOk s = true) : 0 ≤ s.notice ∧ s.notice ≤ 60 ∧ 0 ≤ s.settle ∧ s.settle ≤ 60 ∧ 0 ≤ s.cutoff ∧ s.cutoff < 1440 := by
  unfold rangesOk at h
  rw [decide_eq_true_eq] at h
  omega
set_option maxRecDepth 100000 in
theorem scheck_out (s : SC) (hr : rangesOk s = true) (hp : ¬perR s.period) (w : World) : Calls Tryz.prog 44 #[.agg #[.int .i64 s.period, .int .i64 s.nth, .int .i64 s.notice, .int .i64 s.settle, .int .i64 s.cutoff]] w (RetB (.int .i64 s.err) w) := by
  have HE := Lib.hid (SC.err_of_bad (s := s) (by
    unfold SC.ok
    rw [hr, Bool.true_and]
    cases h : ruleOk s.period s.nth
    · rfl
    · exact absurd (ruleOk_per h) hp))
  obtain ⟨h1, h2, h3, h4, h5, h6⟩ := ranges_yes hr
  have HP := Lib.hid hp
  clear hr hp
  go_enter Tryz.func44, Tryz.ntmps44
  go_wp2_with fail
  refine (of_out s HP.out _).mono ?_
  rintro e w1 ⟨rfl, hb⟩
  go_wp2_with fail
  go_ret
  exact ⟨ret_int HE.out.symm, bnext (bal0 _ _) hb⟩
set_option maxRecDepth 100000 in
theorem scheck_d (s : SC) (hr : rangesOk s = true) (hp : s.period = 1) (w : World) : Calls Tryz.prog 44 #[.agg #[.int .i64 s.period, .int .i64 s.nth, .int .i64 s.notice, .int .i64 s.settle, .int .i64 s.cutoff]] w (RetB (.int .i64 s.err) w) := by
  obtain ⟨h1, h2, h3, h4, h5, h6⟩ := ranges_yes hr
  have k1 := meth1 s.nth
  have HP := Lib.hid hp
  cases hv : ruleOk s.period s.nth
  · have HE := Lib.hid (SC.err_of_bad (s := s) (by simp [SC.ok, hv]))
    have HV := Lib.hid hv
    clear hr hp hv
    go_enter Tryz.func44, Tryz.ntmps44
    go_wp2_with fail
    refine (of_in s (by unfold perR; have := HP.out; omega) _).mono ?_
    rintro e w1 ⟨rfl, hb⟩
    rw [rT1 HP.out]
    go_wp2_with fail
    refine (dvalid_is HV.out HP.out _).mono ?_
    rintro e w2 ⟨rfl, hb2⟩
    go_wp2_with fail
    go_ret
    exact ⟨ret_int HE.out.symm, bnext (bnext (bal0 _ _) hb) hb2⟩
  · have HE := Lib.hid (SC.err_of_ok (s := s) (by simp [SC.ok, hv, hr]))
    have HV := Lib.hid hv
    clear hr hp hv
    go_enter Tryz.func44, Tryz.ntmps44
    go_wp2_with fail
    refine (of_in s (by unfold perR; have := HP.out; omega) _).mono ?_
    rintro e w1 ⟨rfl, hb⟩
    rw [rT1 HP.out]
    go_wp2_with fail
    refine (dvalid_is HV.out HP.out _).mono ?_
    rintro e w2 ⟨rfl, hb2⟩
    go_wp2_with fail
    go_ret
    exact ⟨ret_int HE.out.symm, bnext (bnext (bal0 _ _) hb) hb2⟩
set_option maxRecDepth 100000 in
theorem scheck_w (s : SC) (hr : rangesOk s = true) (hp : s.period = 2) (w : World) : Calls Tryz.prog 44 #[.agg #[.int .i64 s.period, .int .i64 s.nth, .int .i64 s.notice, .int .i64 s.settle, .int .i64 s.cutoff]] w (RetB (.int .i64 s.err) w) := by
  obtain ⟨h1, h2, h3, h4, h5, h6⟩ := ranges_yes hr
  have k1 := meth2 s.nth
  have HP := Lib.hid hp
  cases hv : ruleOk s.period s.nth
  · have HE := Lib.hid (SC.err_of_bad (s := s) (by simp [SC.ok, hv]))
    have HV := Lib.hid hv
    clear hr hp hv
    go_enter Tryz.func44, Tryz.ntmps44
    go_wp2_with fail
    refine (of_in s (by unfold perR; have := HP.out; omega) _).mono ?_
    rintro e w1 ⟨rfl, hb⟩
    rw [rT2 HP.out]
    go_wp2_with fail
    refine (wvalid_is HV.out HP.out _).mono ?_
    rintro e w2 ⟨rfl, hb2⟩
    go_wp2_with fail
    go_ret
    exact ⟨ret_int HE.out.symm, bnext (bnext (bal0 _ _) hb) hb2⟩
  · have HE := Lib.hid (SC.err_of_ok (s := s) (by simp [SC.ok, hv, hr]))
    have HV := Lib.hid hv
    clear hr hp hv
    go_enter Tryz.func44, Tryz.ntmps44
    go_wp2_with fail
    refine (of_in s (by unfold perR; have := HP.out; omega) _).mono ?_
    rintro e w1 ⟨rfl, hb⟩
    rw [rT2 HP.out]
    go_wp2_with fail
    refine (wvalid_is HV.out HP.out _).mono ?_
    rintro e w2 ⟨rfl, hb2⟩
    go_wp2_with fail
    go_ret
    exact ⟨ret_int HE.out.symm, bnext (bnext (bal0 _ _) hb) hb2⟩
set_option maxRecDepth 100000 in
theorem scheck_m (s : SC) (hr : rangesOk s = true) (hp : s.period = 3) (w : World) : Calls Tryz.prog 44 #[.agg #[.int .i64 s.period, .int .i64 s.nth, .int .i64 s.notice, .int .i64 s.settle, .int .i64 s.cutoff]] w (RetB (.int .i64 s.err) w) := by
  obtain ⟨h1, h2, h3, h4, h5, h6⟩ := ranges_yes hr
  have k1 := meth3 s.nth
  have HP := Lib.hid hp
  cases hv : ruleOk s.period s.nth
  · have HE := Lib.hid (SC.err_of_bad (s := s) (by simp [SC.ok, hv]))
    have HV := Lib.hid hv
    clear hr hp hv
    go_enter Tryz.func44, Tryz.ntmps44
    go_wp2_with fail
    refine (of_in s (by unfold perR; have := HP.out; omega) _).mono ?_
    rintro e w1 ⟨rfl, hb⟩
    rw [rT3 HP.out]
    go_wp2_with fail
    refine (mvalid_is HV.out HP.out _).mono ?_
    rintro e w2 ⟨rfl, hb2⟩
    go_wp2_with fail
    go_ret
    exact ⟨ret_int HE.out.symm, bnext (bnext (bal0 _ _) hb) hb2⟩
  · have HE := Lib.hid (SC.err_of_ok (s := s) (by simp [SC.ok, hv, hr]))
    have HV := Lib.hid hv
    clear hr hp hv
    go_enter Tryz.func44, Tryz.ntmps44
    go_wp2_with fail
    refine (of_in s (by unfold perR; have := HP.out; omega) _).mono ?_
    rintro e w1 ⟨rfl, hb⟩
    rw [rT3 HP.out]
    go_wp2_with fail
    refine (mvalid_is HV.out HP.out _).mono ?_
    rintro e w2 ⟨rfl, hb2⟩
    go_wp2_with fail
    go_ret
    exact ⟨ret_int HE.out.symm, bnext (bnext (bal0 _ _) hb) hb2⟩
theorem scheck_any (s : SC) (w : World) : Calls Tryz.prog 44 #[.agg #[.int .i64 s.period, .int .i64 s.nth, .int .i64 s.notice, .int .i64 s.settle, .int .i64 s.cutoff]] w (RetB (.int .i64 s.err) w) := by
  cases hr : rangesOk s
  · exact scheck_bad s hr w
  · by_cases h1 : s.period = 1
    · exact scheck_d s hr h1 w
    by_cases h2 : s.period = 2
    · exact scheck_w s hr h2 w
    by_cases h3 : s.period = 3
    · exact scheck_m s hr h3 w
    exact scheck_out s hr (by unfold perR; omega) w
theorem scheck_is {s : SC} {e : Int} (h : s.err = e) (w : World) : Calls Tryz.prog 44 #[.agg #[.int .i64 s.period, .int .i64 s.nth, .int .i64 s.notice, .int .i64 s.settle, .int .i64 s.cutoff]] w (RetB (.int .i64 e) w) := by rw [← h]; exact scheck_any s w
theorem svalid_any (n : Int) (w : World) : Calls Tryz.prog 114 #[.int .i64 n] w (RetW (.bool (dayB n)) w) := by
  unfold dayB
  go_enter Tryz.func114, Tryz.ntmps114
  go_wp2
  all_goals go_ret
  all_goals (refine ⟨ret_bool ?_, rfl⟩; rw [Bool.eq_iff_iff]; simp; try omega)
theorem svalid_is {n : Int} {b : Bool} (h : dayB n = b) (w : World) : Calls Tryz.prog 114 #[.int .i64 n] w (RetW (.bool b) w) := by rw [← h]; exact svalid_any n w

/-- The document's Check. -/
theorem per_cases (p : Int) : p = 1 ∨ p = 2 ∨ p = 3 ∨ ¬perR p := by unfold perR; omega
theorem goodB (s : SC) : ruleOk s.period s.nth = (if s.period = 1 then decide (s.nth = 0) else if s.period = 2 then decide (0 ≤ s.nth ∧ s.nth ≤ 6) else if s.period = 3 then decide (s.nth ≠ 0 ∧ -23 ≤ s.nth ∧ s.nth ≤ 23) else false) := rfl
end
section
open Go.RowKit
set_option maxHeartbeats 4000000
set_option linter.unusedVariables false
set_option maxRecDepth 100000 in
theorem r9c_1good_in (s : SC) (hp : s.period = 1) (hc : s.nth = 0) (hr : rangesOk s = true) (w : World) : Calls Tryz.prog 55 #[.agg #[.int .i64 s.period, .int .i64 s.nth, .int .i64 s.notice, .int .i64 s.settle, .int .i64 s.cutoff]] w (RetB (.int .i64 s.err) w) := by
  have hv : ruleOk s.period s.nth = true := by rw [hp]; simp [ruleOk]; omega
  have HE := Lib.hid (SC.err_of_ok (s := s) (by simp [SC.ok, hv, hr]))
  obtain ⟨h1, h2, h3, h4, h5, h60⟩ := ranges_yes hr
  have h6 : s.cutoff ≤ 1439 := by omega
  have b1 : (s.period == 1) = true := by rw [beq_iff_eq]; exact hp
  have n1 : (s.nth == 0) = true := by rw [beq_iff_eq]; exact hc
  clear hp hv hr
  go_enter Tryz.func55, Tryz.ntmps55
  go_wp2_with fail
  go_ret
  exact ⟨ret_int HE.out.symm, bal0 _ _⟩
set_option maxRecDepth 100000 in
theorem r9c_1good_out (s : SC) (hp : s.period = 1) (hc : s.nth = 0) (hr : rangesOk s = false) (w : World) : Calls Tryz.prog 55 #[.agg #[.int .i64 s.period, .int .i64 s.nth, .int .i64 s.notice, .int .i64 s.settle, .int .i64 s.cutoff]] w (RetB (.int .i64 s.err) w) := by
  have HE := Lib.hid (SC.err_of_bad (s := s) (by simp [SC.ok, hr]))
  have hh := ranges_no hr
  have c1 : (decide (s.notice < 0) || decide (60 < s.notice) || decide (s.settle < 0) || decide (60 < s.settle) || decide (s.cutoff < 0) || decide (1439 < s.cutoff)) = true := by simp; omega
  have b1 : (s.period == 1) = true := by rw [beq_iff_eq]; exact hp
  have n1 : (s.nth == 0) = true := by rw [beq_iff_eq]; exact hc
  clear hp hh hr
  go_enter Tryz.func55, Tryz.ntmps55
  go_wp2_with fail
  all_goals go_ret
  all_goals exact ⟨ret_int HE.out.symm, bal0 _ _⟩
set_option maxRecDepth 100000 in
theorem r9c_1bad (s : SC) (hp : s.period = 1) (hc : s.nth ≠ 0) (w : World) : Calls Tryz.prog 55 #[.agg #[.int .i64 s.period, .int .i64 s.nth, .int .i64 s.notice, .int .i64 s.settle, .int .i64 s.cutoff]] w (RetB (.int .i64 s.err) w) := by
  have hv : ruleOk s.period s.nth = false := by rw [hp]; simp [ruleOk]; omega
  have HE := Lib.hid (SC.err_of_bad (s := s) (by simp [SC.ok, hv]))
  have b1 : (s.period == 1) = true := by rw [beq_iff_eq]; exact hp
  have n1 : (s.nth == 0) = false := by rw [beq_eq_false_iff_ne]; exact hc
  clear hp hv
  go_enter Tryz.func55, Tryz.ntmps55
  go_wp2_with fail
  all_goals go_ret
  all_goals exact ⟨ret_int HE.out.symm, bal0 _ _⟩
set_option maxRecDepth 100000 in
theorem r9c_2good_in (s : SC) (hp : s.period = 2) (hc : 0 ≤ s.nth ∧ s.nth ≤ 6) (hr : rangesOk s = true) (w : World) : Calls Tryz.prog 55 #[.agg #[.int .i64 s.period, .int .i64 s.nth, .int .i64 s.notice, .int .i64 s.settle, .int .i64 s.cutoff]] w (RetB (.int .i64 s.err) w) := by
  have hv : ruleOk s.period s.nth = true := by rw [hp]; simp [ruleOk]; omega
  have HE := Lib.hid (SC.err_of_ok (s := s) (by simp [SC.ok, hv, hr]))
  obtain ⟨h1, h2, h3, h4, h5, h60⟩ := ranges_yes hr
  have h6 : s.cutoff ≤ 1439 := by omega
  have b1 : (s.period == 1) = false := by rw [beq_eq_false_iff_ne]; omega
  have b2 : (s.period == 2) = true := by rw [beq_iff_eq]; exact hp
  obtain ⟨n1, n2⟩ := hc
  clear hp hv hr
  go_enter Tryz.func55, Tryz.ntmps55
  go_wp2_with fail
  go_ret
  exact ⟨ret_int HE.out.symm, bal0 _ _⟩
set_option maxRecDepth 100000 in
theorem r9c_2good_out (s : SC) (hp : s.period = 2) (hc : 0 ≤ s.nth ∧ s.nth ≤ 6) (hr : rangesOk s = false) (w : World) : Calls Tryz.prog 55 #[.agg #[.int .i64 s.period, .int .i64 s.nth, .int .i64 s.notice, .int .i64 s.settle, .int .i64 s.cutoff]] w (RetB (.int .i64 s.err) w) := by
  have HE := Lib.hid (SC.err_of_bad (s := s) (by simp [SC.ok, hr]))
  have hh := ranges_no hr
  have c1 : (decide (s.notice < 0) || decide (60 < s.notice) || decide (s.settle < 0) || decide (60 < s.settle) || decide (s.cutoff < 0) || decide (1439 < s.cutoff)) = true := by simp; omega
  have b1 : (s.period == 1) = false := by rw [beq_eq_false_iff_ne]; omega
  have b2 : (s.period == 2) = true := by rw [beq_iff_eq]; exact hp
  obtain ⟨n1, n2⟩ := hc
  clear hp hh hr
  go_enter Tryz.func55, Tryz.ntmps55
  go_wp2_with fail
  all_goals go_ret
  all_goals exact ⟨ret_int HE.out.symm, bal0 _ _⟩
set_option maxRecDepth 100000 in
theorem r9c_2bad1 (s : SC) (hp : s.period = 2) (hc : s.nth < 0) (w : World) : Calls Tryz.prog 55 #[.agg #[.int .i64 s.period, .int .i64 s.nth, .int .i64 s.notice, .int .i64 s.settle, .int .i64 s.cutoff]] w (RetB (.int .i64 s.err) w) := by
  have hv : ruleOk s.period s.nth = false := by rw [hp]; simp [ruleOk]; omega
  have HE := Lib.hid (SC.err_of_bad (s := s) (by simp [SC.ok, hv]))
  have b1 : (s.period == 1) = false := by rw [beq_eq_false_iff_ne]; omega
  have b2 : (s.period == 2) = true := by rw [beq_iff_eq]; exact hp
  have n1 := hc
  clear hp hv
  go_enter Tryz.func55, Tryz.ntmps55
  go_wp2_with fail
  all_goals go_ret
  all_goals exact ⟨ret_int HE.out.symm, bal0 _ _⟩
set_option maxRecDepth 100000 in
theorem r9c_2bad2 (s : SC) (hp : s.period = 2) (hc : 6 < s.nth) (w : World) : Calls Tryz.prog 55 #[.agg #[.int .i64 s.period, .int .i64 s.nth, .int .i64 s.notice, .int .i64 s.settle, .int .i64 s.cutoff]] w (RetB (.int .i64 s.err) w) := by
  have hv : ruleOk s.period s.nth = false := by rw [hp]; simp [ruleOk]; omega
  have HE := Lib.hid (SC.err_of_bad (s := s) (by simp [SC.ok, hv]))
  have b1 : (s.period == 1) = false := by rw [beq_eq_false_iff_ne]; omega
  have b2 : (s.period == 2) = true := by rw [beq_iff_eq]; exact hp
  have n1 := hc
  clear hp hv
  go_enter Tryz.func55, Tryz.ntmps55
  go_wp2_with fail
  all_goals go_ret
  all_goals exact ⟨ret_int HE.out.symm, bal0 _ _⟩
set_option maxRecDepth 100000 in
theorem r9c_3good1_in (s : SC) (hp : s.period = 3) (hc : 1 ≤ s.nth ∧ s.nth ≤ 23) (hr : rangesOk s = true) (w : World) : Calls Tryz.prog 55 #[.agg #[.int .i64 s.period, .int .i64 s.nth, .int .i64 s.notice, .int .i64 s.settle, .int .i64 s.cutoff]] w (RetB (.int .i64 s.err) w) := by
  have hv : ruleOk s.period s.nth = true := by rw [hp]; simp [ruleOk]; omega
  have HE := Lib.hid (SC.err_of_ok (s := s) (by simp [SC.ok, hv, hr]))
  obtain ⟨h1, h2, h3, h4, h5, h60⟩ := ranges_yes hr
  have h6 : s.cutoff ≤ 1439 := by omega
  have b1 : (s.period == 1) = false := by rw [beq_eq_false_iff_ne]; omega
  have b2 : (s.period == 2) = false := by rw [beq_eq_false_iff_ne]; omega
  have b3 : (s.period == 3) = true := by rw [beq_iff_eq]; exact hp
  obtain ⟨n1, n2⟩ := hc
  clear hp hv hr
  go_enter Tryz.func55, Tryz.ntmps55
  go_wp2_with fail
  go_ret
  exact ⟨ret_int HE.out.symm, bal0 _ _⟩
set_option maxRecDepth 100000 in
theorem r9c_3good1_out (s : SC) (hp : s.period = 3) (hc : 1 ≤ s.nth ∧ s.nth ≤ 23) (hr : rangesOk s = false) (w : World) : Calls Tryz.prog 55 #[.agg #[.int .i64 s.period, .int .i64 s.nth, .int .i64 s.notice, .int .i64 s.settle, .int .i64 s.cutoff]] w (RetB (.int .i64 s.err) w) := by
  have HE := Lib.hid (SC.err_of_bad (s := s) (by simp [SC.ok, hr]))
  have hh := ranges_no hr
  have c1 : (decide (s.notice < 0) || decide (60 < s.notice) || decide (s.settle < 0) || decide (60 < s.settle) || decide (s.cutoff < 0) || decide (1439 < s.cutoff)) = true := by simp; omega
  have b1 : (s.period == 1) = false := by rw [beq_eq_false_iff_ne]; omega
  have b2 : (s.period == 2) = false := by rw [beq_eq_false_iff_ne]; omega
  have b3 : (s.period == 3) = true := by rw [beq_iff_eq]; exact hp
  obtain ⟨n1, n2⟩ := hc
  clear hp hh hr
  go_enter Tryz.func55, Tryz.ntmps55
  go_wp2_with fail
  all_goals go_ret
  all_goals exact ⟨ret_int HE.out.symm, bal0 _ _⟩
set_option maxRecDepth 100000 in
theorem r9c_3good2_in (s : SC) (hp : s.period = 3) (hc : -23 ≤ s.nth ∧ s.nth ≤ -1) (hr : rangesOk s = true) (w : World) : Calls Tryz.prog 55 #[.agg #[.int .i64 s.period, .int .i64 s.nth, .int .i64 s.notice, .int .i64 s.settle, .int .i64 s.cutoff]] w (RetB (.int .i64 s.err) w) := by
  have hv : ruleOk s.period s.nth = true := by rw [hp]; simp [ruleOk]; omega
  have HE := Lib.hid (SC.err_of_ok (s := s) (by simp [SC.ok, hv, hr]))
  obtain ⟨h1, h2, h3, h4, h5, h60⟩ := ranges_yes hr
  have h6 : s.cutoff ≤ 1439 := by omega
  have b1 : (s.period == 1) = false := by rw [beq_eq_false_iff_ne]; omega
  have b2 : (s.period == 2) = false := by rw [beq_eq_false_iff_ne]; omega
  have b3 : (s.period == 3) = true := by rw [beq_iff_eq]; exact hp
  obtain ⟨n1, n2⟩ := hc
  clear hp hv hr
  go_enter Tryz.func55, Tryz.ntmps55
  go_wp2_with fail
  go_ret
  exact ⟨ret_int HE.out.symm, bal0 _ _⟩
set_option maxRecDepth 100000 in
theorem r9c_3good2_out (s : SC) (hp : s.period = 3) (hc : -23 ≤ s.nth ∧ s.nth ≤ -1) (hr : rangesOk s = false) (w : World) : Calls Tryz.prog 55 #[.agg #[.int .i64 s.period, .int .i64 s.nth, .int .i64 s.notice, .int .i64 s.settle, .int .i64 s.cutoff]] w (RetB (.int .i64 s.err) w) := by
  have HE := Lib.hid (SC.err_of_bad (s := s) (by simp [SC.ok, hr]))
  have hh := ranges_no hr
  have c1 : (decide (s.notice < 0) || decide (60 < s.notice) || decide (s.settle < 0) || decide (60 < s.settle) || decide (s.cutoff < 0) || decide (1439 < s.cutoff)) = true := by simp; omega
  have b1 : (s.period == 1) = false := by rw [beq_eq_false_iff_ne]; omega
  have b2 : (s.period == 2) = false := by rw [beq_eq_false_iff_ne]; omega
  have b3 : (s.period == 3) = true := by rw [beq_iff_eq]; exact hp
  obtain ⟨n1, n2⟩ := hc
  clear hp hh hr
  go_enter Tryz.func55, Tryz.ntmps55
  go_wp2_with fail
  all_goals go_ret
  all_goals exact ⟨ret_int HE.out.symm, bal0 _ _⟩
set_option maxRecDepth 100000 in
theorem r9c_3bad1 (s : SC) (hp : s.period = 3) (hc : s.nth < -23) (w : World) : Calls Tryz.prog 55 #[.agg #[.int .i64 s.period, .int .i64 s.nth, .int .i64 s.notice, .int .i64 s.settle, .int .i64 s.cutoff]] w (RetB (.int .i64 s.err) w) := by
  have hv : ruleOk s.period s.nth = false := by rw [hp]; simp [ruleOk]; omega
  have HE := Lib.hid (SC.err_of_bad (s := s) (by simp [SC.ok, hv]))
  have b1 : (s.period == 1) = false := by rw [beq_eq_false_iff_ne]; omega
  have b2 : (s.period == 2) = false := by rw [beq_eq_false_iff_ne]; omega
  have b3 : (s.period == 3) = true := by rw [beq_iff_eq]; exact hp
  have n1 := hc
  clear hp hv
  go_enter Tryz.func55, Tryz.ntmps55
  go_wp2_with fail
  all_goals go_ret
  all_goals exact ⟨ret_int HE.out.symm, bal0 _ _⟩
set_option maxRecDepth 100000 in
theorem r9c_3bad2 (s : SC) (hp : s.period = 3) (hc : -1 < s.nth ∧ s.nth < 1) (w : World) : Calls Tryz.prog 55 #[.agg #[.int .i64 s.period, .int .i64 s.nth, .int .i64 s.notice, .int .i64 s.settle, .int .i64 s.cutoff]] w (RetB (.int .i64 s.err) w) := by
  have hv : ruleOk s.period s.nth = false := by rw [hp]; simp [ruleOk]; omega
  have HE := Lib.hid (SC.err_of_bad (s := s) (by simp [SC.ok, hv]))
  have b1 : (s.period == 1) = false := by rw [beq_eq_false_iff_ne]; omega
  have b2 : (s.period == 2) = false := by rw [beq_eq_false_iff_ne]; omega
  have b3 : (s.period == 3) = true := by rw [beq_iff_eq]; exact hp
  obtain ⟨n1, n2⟩ := hc
  clear hp hv
  go_enter Tryz.func55, Tryz.ntmps55
  go_wp2_with fail
  all_goals go_ret
  all_goals exact ⟨ret_int HE.out.symm, bal0 _ _⟩
set_option maxRecDepth 100000 in
theorem r9c_3bad3 (s : SC) (hp : s.period = 3) (hc : 23 < s.nth) (w : World) : Calls Tryz.prog 55 #[.agg #[.int .i64 s.period, .int .i64 s.nth, .int .i64 s.notice, .int .i64 s.settle, .int .i64 s.cutoff]] w (RetB (.int .i64 s.err) w) := by
  have hv : ruleOk s.period s.nth = false := by rw [hp]; simp [ruleOk]; omega
  have HE := Lib.hid (SC.err_of_bad (s := s) (by simp [SC.ok, hv]))
  have b1 : (s.period == 1) = false := by rw [beq_eq_false_iff_ne]; omega
  have b2 : (s.period == 2) = false := by rw [beq_eq_false_iff_ne]; omega
  have b3 : (s.period == 3) = true := by rw [beq_iff_eq]; exact hp
  have n1 := hc
  clear hp hv
  go_enter Tryz.func55, Tryz.ntmps55
  go_wp2_with fail
  all_goals go_ret
  all_goals exact ⟨ret_int HE.out.symm, bal0 _ _⟩
theorem r9c_other (s : SC) (hp : ¬perR s.period) (w : World) : Calls Tryz.prog 55 #[.agg #[.int .i64 s.period, .int .i64 s.nth, .int .i64 s.notice, .int .i64 s.settle, .int .i64 s.cutoff]] w (RetB (.int .i64 s.err) w) := by
  have hv : ruleOk s.period s.nth = false := by
    cases h : ruleOk s.period s.nth
    · rfl
    · exact absurd (ruleOk_per h) hp
  have HE := Lib.hid (SC.err_of_bad (s := s) (by simp [SC.ok, hv]))
  unfold perR at hp
  have b1 : (s.period == 1) = false := by rw [beq_eq_false_iff_ne]; omega
  have b2 : (s.period == 2) = false := by rw [beq_eq_false_iff_ne]; omega
  have b3 : (s.period == 3) = false := by rw [beq_eq_false_iff_ne]; omega
  clear hp hv
  go_enter Tryz.func55, Tryz.ntmps55
  go_wp2_with fail
  go_ret
  exact ⟨ret_int HE.out.symm, bal0 _ _⟩
theorem r9check_any (s : SC) (w : World) : Calls Tryz.prog 55 #[.agg #[.int .i64 s.period, .int .i64 s.nth, .int .i64 s.notice, .int .i64 s.settle, .int .i64 s.cutoff]] w (RetB (.int .i64 s.err) w) := by
  by_cases h1 : s.period = 1
  · by_cases c : s.nth = 0
    · cases hr : rangesOk s
      · exact r9c_1good_out s h1 c hr w
      · exact r9c_1good_in s h1 c hr w
    · exact r9c_1bad s h1 c w
  by_cases h2 : s.period = 2
  · by_cases c : s.nth < 0
    · exact r9c_2bad1 s h2 c w
    by_cases c2 : 6 < s.nth
    · exact r9c_2bad2 s h2 c2 w
    cases hr : rangesOk s
    · exact r9c_2good_out s h2 (by omega) hr w
    · exact r9c_2good_in s h2 (by omega) hr w
  by_cases h3 : s.period = 3
  · by_cases c : s.nth < -23
    · exact r9c_3bad1 s h3 c w
    by_cases c2 : 23 < s.nth
    · exact r9c_3bad3 s h3 c2 w
    by_cases c3 : 1 ≤ s.nth
    · cases hr : rangesOk s
      · exact r9c_3good1_out s h3 (by omega) hr w
      · exact r9c_3good1_in s h3 (by omega) hr w
    by_cases c4 : s.nth ≤ -1
    · cases hr : rangesOk s
      · exact r9c_3good2_out s h3 (by omega) hr w
      · exact r9c_3good2_in s h3 (by omega) hr w
    exact r9c_3bad2 s h3 (by omega) w
  exact r9c_other s (by unfold perR; omega) w
theorem r9check_is {s : SC} {e : Int} (h : s.err = e) (w : World) : Calls Tryz.prog 55 #[.agg #[.int .i64 s.period, .int .i64 s.nth, .int .i64 s.notice, .int .i64 s.settle, .int .i64 s.cutoff]] w (RetB (.int .i64 e) w) := by rw [← h]; exact r9check_any s w
end
section
open Go.RowKit
set_option maxHeartbeats 4000000
set_option linter.unusedVariables false
theorem ddeals_any (n : Int) (cs : Array Value) (d : Int) (w : World) : Calls Tryz.prog 143 #[.agg #[.int .i64 n], .agg cs, .int .i64 d] w (RetB (.bool true) w) := by
  go_enter Tryz.func143, Tryz.ntmps143
  go_wp2_with fail
  go_ret
  exact ⟨rfl, bal (bal0 _ _) _⟩

set_option maxRecDepth 100000 in
theorem wdeals_last {c : CN} {b : Nat} {n d last : Int} (hl : lastB (biz c) d = last) (w : World) (h : HolAt w c b) (hd0 : 0 ≤ d) (hd1 : d ≤ 73048) :
    Calls Tryz.prog 145 #[.agg #[.int .i64 n], .agg #[.bool c.w0, .bool c.w1, .bool c.w2, .bool c.w3, .bool c.w4, .bool c.w5, .bool c.w6, .map (some b)], .int .i64 d] w (RetB (.bool (weekB (biz c) n d)) w) := by
  have hR : weekB (biz c) n d = wkS n (d - last).toNat d := by rw [← hl]; rfl
  rw [hR]
  have hlast : -1 ≤ last ∧ last < d := by
    unfold lastB at hl
    cases ht : toP (biz c) (d - 1) with
    | none => rw [ht] at hl; have : last = -1 := hl.symm; omega
    | some r => rw [ht] at hl; have : last = r := hl.symm; have := toP_spec ht; omega
  obtain ⟨hl1, hl2⟩ := hlast
  have h0 := (h.next (bal0 w (.cells #[.int .i64 n] 141))).next (bal0 _ (.cells #[.bool c.w0, .bool c.w1, .bool c.w2, .bool c.w3, .bool c.w4, .bool c.w5, .bool c.w6, .map (some b)] 145))
  have hbel := bal (bal0 w (.cells #[.int .i64 n] 141)) (.cells #[.bool c.w0, .bool c.w1, .bool c.w2, .bool c.w3, .bool c.w4, .bool c.w5, .bool c.w6, .map (some b)] 145)
  have HL := Lib.hid hl
  clear hR hl
  obtain ⟨R, hRR⟩ : ∃ R, wkS n (d - last).toNat d = R := ⟨_, rfl⟩
  rw [hRR]
  have HR := Lib.hid hRR
  clear hRR
  cases ht : toP (biz c) (d - 1) with
  | none =>
    have e : last = -1 := by have := HL.out; unfold lastB at this; rw [ht] at this; exact this.symm
    subst e
    go_enter Tryz.func145, Tryz.ntmps145
    go_wp2_with fail
    refine (to_none ht (by omega) (by omega) _ h0).mono ?_
    rintro e w1 ⟨rfl, hb⟩
    have hbel1 := bnext hbel hb
    have q0 : w1.cell? ⟨w.heap.size, 0, none⟩ = some (.int .i64 n) := (bcell hb _ _ (by simp; omega)).trans (cell_al _ (by simp) (by simp [World.cell?_alloc_new]))
    clear h h0 hb hbel
    go_wp2_with fail
    go_loopw [2] (fun dv wr => ∃ e : Int, -1 ≤ e ∧ e ≤ 73048 ∧ dv = .int .i64 e ∧ wkS n (e - -1).toNat e = R ∧ wr = w1) (fun dv _ => (intOf dv + 1).toNat)
    case atStart => exact ⟨d, by omega, hd1, rfl, HR.out, rfl⟩
    case round =>
      obtain ⟨e, he1, he2, rfl, hf, rfl⟩ := hrel
      by_cases hlt : -1 < e
      · rw [show (e - -1).toNat = (e - 1 - -1).toNat + 1 by omega, wkS] at hf
        have HF := Lib.hid hf
        clear hf
        by_cases hw : (e + 5) % 7 = n
        · have b1 : ((e + 5) % 7 == n) = true := by rw [beq_iff_eq]; exact hw
          have hw2 : Hid ((e + 5) % 7 = n) := Lib.hid hw
          clear hw
          go_wp2_with fail
          refine (dweek_is (v := (e + 5) % 7) (e := 0) (.inl ⟨by omega, by omega, rfl, rfl⟩) _).mono ?_
          rintro e' w2 ⟨rfl, rfl⟩
          go_wp2_with fail
          go_ret
          exact ⟨ret_bool (by rw [← HF.out, decide_eq_true hw2.out]; rfl), hbel1⟩
        · have b1 : ((e + 5) % 7 == n) = false := by rw [beq_eq_false_iff_ne]; exact hw
          have HF2 : Hid (wkS n (e - 1 - -1).toNat (e - 1) = R) := Lib.hid (by rw [← HF.out, decide_eq_false hw]; rfl)
          clear hw HF
          go_wp2_with fail
          refine (dweek_is (v := (e + 5) % 7) (e := 0) (.inl ⟨by omega, by omega, rfl, rfl⟩) _).mono ?_
          rintro e' w2 ⟨rfl, rfl⟩
          go_wp2_with fail
          go_roundw
          case rel => exact ⟨e - 1, by omega, by omega, rfl, HF2.out, by first | rfl | trivial⟩
          case measure => simp [intOf]; omega
      · rw [show (e - -1).toNat = 0 by omega] at hf
        have hf : false = R := hf
        subst hf
        go_wp2_with fail
        go_ret
        exact ⟨rfl, hbel1⟩
  | some r =>
    have e : last = r := by have := HL.out; unfold lastB at this; rw [ht] at this; exact this.symm
    subst e
    go_enter Tryz.func145, Tryz.ntmps145
    go_wp2_with fail
    refine (to_some ht (by omega) (by omega) _ h0).mono ?_
    rintro e w1 ⟨rfl, hb⟩
    have hbel1 := bnext hbel hb
    have q0 : w1.cell? ⟨w.heap.size, 0, none⟩ = some (.int .i64 n) := (bcell hb _ _ (by simp; omega)).trans (cell_al _ (by simp) (by simp [World.cell?_alloc_new]))
    clear h h0 hb hbel
    go_wp2_with fail
    go_loopw [2] (fun dv wr => ∃ e : Int, last ≤ e ∧ e ≤ 73048 ∧ dv = .int .i64 e ∧ wkS n (e - last).toNat e = R ∧ wr = w1) (fun dv _ => (intOf dv + 1).toNat)
    case atStart => exact ⟨d, by omega, hd1, rfl, HR.out, rfl⟩
    case round =>
      obtain ⟨e, he1, he2, rfl, hf, rfl⟩ := hrel
      by_cases hlt : last < e
      · rw [show (e - last).toNat = (e - 1 - last).toNat + 1 by omega, wkS] at hf
        have HF := Lib.hid hf
        clear hf
        by_cases hw : (e + 5) % 7 = n
        · have b1 : ((e + 5) % 7 == n) = true := by rw [beq_iff_eq]; exact hw
          have hw2 : Hid ((e + 5) % 7 = n) := Lib.hid hw
          clear hw
          go_wp2_with fail
          refine (dweek_is (v := (e + 5) % 7) (e := 0) (.inl ⟨by omega, by omega, rfl, rfl⟩) _).mono ?_
          rintro e' w2 ⟨rfl, rfl⟩
          go_wp2_with fail
          go_ret
          exact ⟨ret_bool (by rw [← HF.out, decide_eq_true hw2.out]; rfl), hbel1⟩
        · have b1 : ((e + 5) % 7 == n) = false := by rw [beq_eq_false_iff_ne]; exact hw
          have HF2 : Hid (wkS n (e - 1 - last).toNat (e - 1) = R) := Lib.hid (by rw [← HF.out, decide_eq_false hw]; rfl)
          clear hw HF
          go_wp2_with fail
          refine (dweek_is (v := (e + 5) % 7) (e := 0) (.inl ⟨by omega, by omega, rfl, rfl⟩) _).mono ?_
          rintro e' w2 ⟨rfl, rfl⟩
          go_wp2_with fail
          go_roundw
          case rel => exact ⟨e - 1, by omega, by omega, rfl, HF2.out, by first | rfl | trivial⟩
          case measure => simp [intOf]; omega
      · rw [show (e - last).toNat = 0 by omega] at hf
        have hf : false = R := hf
        subst hf
        go_wp2_with fail
        go_ret
        exact ⟨rfl, hbel1⟩
theorem wdeals_any {c : CN} {b : Nat} {n d : Int} (w : World) (h : HolAt w c b) (hd0 : 0 ≤ d) (hd1 : d ≤ 73048) :
    Calls Tryz.prog 145 #[.agg #[.int .i64 n], .agg #[.bool c.w0, .bool c.w1, .bool c.w2, .bool c.w3, .bool c.w4, .bool c.w5, .bool c.w6, .map (some b)], .int .i64 d] w (RetB (.bool (weekB (biz c) n d)) w) := wdeals_last rfl w h hd0 hd1
end
section
open Go.RowKit
set_option maxHeartbeats 4000000
set_option linter.unusedVariables false

/-- The boxes of a rule and of the days. -/
structure RBx (w W : World) (T : TypeId) (n : Int) (c : CN) (b : Nat) : Prop where
  rule : W.heap[w.heap.size]? = some (.cells #[.int .i64 n] T (0, 0))
  days : W.heap[w.heap.size + 1]? = some (.cells #[.bool c.w0, .bool c.w1, .bool c.w2, .bool c.w3, .bool c.w4, .bool c.w5, .bool c.w6, .map (some b)] 145 (0, 0))
  hol : HolAt W c b
  below : Below w.heap.size w W
theorem RBx.next {w W W' : World} {T : TypeId} {n : Int} {c : CN} {b : Nat} (h : RBx w W T n c b) (hb : Below W.heap.size W W') : RBx w W' T n c b :=
  ⟨(hb.block _ (Array.getElem?_eq_some_iff.1 h.rule).1).trans h.rule, (hb.block _ (Array.getElem?_eq_some_iff.1 h.days).1).trans h.days, h.hol.next hb, bnext h.below hb⟩
theorem RBx.q {w W : World} {T : TypeId} {n : Int} {c : CN} {b : Nat} (h : RBx w W T n c b) :
    W.cell? ⟨w.heap.size, 0, none⟩ = some (.int .i64 n) ∧ W.cell? ⟨w.heap.size + 1, 0, none⟩ = some (.bool c.w0) ∧ W.cell? ⟨w.heap.size + 1, 1, none⟩ = some (.bool c.w1) ∧ W.cell? ⟨w.heap.size + 1, 2, none⟩ = some (.bool c.w2) ∧
    W.cell? ⟨w.heap.size + 1, 3, none⟩ = some (.bool c.w3) ∧ W.cell? ⟨w.heap.size + 1, 4, none⟩ = some (.bool c.w4) ∧ W.cell? ⟨w.heap.size + 1, 5, none⟩ = some (.bool c.w5) ∧ W.cell? ⟨w.heap.size + 1, 6, none⟩ = some (.bool c.w6) ∧
    W.cell? ⟨w.heap.size + 1, 7, none⟩ = some (.map (some b)) :=
  ⟨Joins.cell_of_block h.rule 0, Joins.cell_of_block h.days 0, Joins.cell_of_block h.days 1, Joins.cell_of_block h.days 2, Joins.cell_of_block h.days 3, Joins.cell_of_block h.days 4, Joins.cell_of_block h.days 5, Joins.cell_of_block h.days 6, Joins.cell_of_block h.days 7⟩
theorem RBx.new {w : World} {T : TypeId} {n : Int} {c : CN} {b : Nat} (h : HolAt w c b) : RBx w ((w.alloc (.cells #[.int .i64 n] T)).alloc (.cells #[.bool c.w0, .bool c.w1, .bool c.w2, .bool c.w3, .bool c.w4, .bool c.w5, .bool c.w6, .map (some b)] 145)) T n c b :=
  ⟨heap_alD _ (by simp) (heap_alloc_new w _), heap_newD _ (by simp), (h.next (bal0 _ _)).next (bal0 _ _), bal (bal0 _ _) _⟩
def nthR (n X Y : Int) : Prop := X = n - 1 ∨ (X < n - 1 ∧ Y = 0) ∨ (X < n - 1 ∧ Y ≠ 0) ∨ n - 1 < X
theorem nth_cases (n X Y : Int) : (X = n - 1 ∧ nthB n X Y = true) ∨ (X < n - 1 ∧ Y = 0 ∧ nthB n X Y = true) ∨ (X < n - 1 ∧ Y ≠ 0 ∧ nthB n X Y = false) ∨ (n - 1 < X ∧ nthB n X Y = false) := by
  by_cases h1 : X = n - 1
  · exact .inl ⟨h1, by unfold nthB; rw [decide_eq_true h1]; rfl⟩
  by_cases h2 : X < n - 1
  · by_cases h3 : Y = 0
    · exact .inr (.inl ⟨h2, h3, by unfold nthB; rw [decide_eq_false h1, decide_eq_true h2, decide_eq_true h3]; rfl⟩)
    · exact .inr (.inr (.inl ⟨h2, h3, by unfold nthB; rw [decide_eq_false h1, decide_eq_true h2, decide_eq_false h3]; rfl⟩))
  · exact .inr (.inr (.inr ⟨by omega, by unfold nthB; rw [decide_eq_false h1, decide_eq_false h2]; rfl⟩))

set_option maxRecDepth 100000 in
theorem mdeals_any {c : CN} {b : Nat} {n d : Int} (w : World) (h : HolAt w c b) (hd0 : 0 ≤ d) (hd1 : d ≤ 73048) (hn0 : -23 ≤ n) (hn1 : n ≤ 23) (hnz : n ≠ 0) :
    Calls Tryz.prog 149 #[.agg #[.int .i64 n], .agg #[.bool c.w0, .bool c.w1, .bool c.w2, .bool c.w3, .bool c.w4, .bool c.w5, .bool c.w6, .map (some b)], .int .i64 d] w (RetB (.bool (monB (biz c) n d)) w) := by
  have hcv := civ_cv hd0 hd1
  obtain ⟨f0, f1, f2, f3, f4⟩ := mBounds hd0 hd1
  have hF : d - civD d + 1 = mFrom d := rfl
  have hE : EndR d (mTo d) 0 := .inl ⟨_, _, _, hcv, rfl, rfl⟩
  have hC : CivilR d (civY d) (civM d) (civD d) 0 := .inl ⟨hcv, rfl⟩
  have c1 := hcv.d1
  have c2 : civD d ≤ 31 := by have := hcv.d2; have := len_bd (civY d) (civM d); omega
  obtain ⟨R, hRR⟩ : ∃ R, monB (biz c) n d = R := ⟨_, rfl⟩
  rw [hRR]
  unfold monB at hRR
  have HR := Lib.hid hRR
  have HE := Lib.hid hE
  have HC := Lib.hid hC
  have HF := Lib.hid hF
  have hbx := RBx.new (T := 142) (n := n) h
  clear hRR hE hC hF hcv h
  generalize civD d = dd at *
  generalize civY d = yy at *
  generalize civM d = mm at *
  generalize hmF : mFrom d = mf at *
  generalize hmT : mTo d = mt at *
  clear hmF hmT
  go_enter Tryz.func149, Tryz.ntmps149
  go_wp2_with fail
  refine (dcivil_is HC.out _).mono ?_
  rintro e w1 ⟨rfl, rfl⟩
  go_wp2_with fail
  refine (dend_is HE.out _).mono ?_
  rintro e w1 ⟨rfl, rfl⟩
  go_wp2_with fail
  rw [HF.out]
  generalize World.alloc _ _ = w1 at *
  go_loopw [13, 14, 15] (fun av bv iv wr => ∃ e : Int, mf ≤ e ∧ e ≤ mt + 1 ∧ iv = .int .i64 e ∧ av = .int .i64 (cnt (biz c) mf (min e d)) ∧ bv = .int .i64 (cnt (biz c) (d + 1) (max e (d + 1))) ∧ RBx w wr 142 n c b) (fun _ _ iv _ => (73050 - intOf iv).toNat)
  case atStart => exact ⟨mf, by omega, by omega, rfl, vint (by rw [cnt_self _ _ _ (by omega)]), vint (by rw [cnt_self _ _ _ (by omega)]), hbx⟩
  case round =>
    obtain ⟨e, he1, he2, rfl, rfl, rfl, hb⟩ := hrel
    have x1 := cnt_bd2 (biz c) (a := mf) (b := min e d) (by omega)
    have x2 := cnt_bd2 (biz c) (a := d + 1) (b := max e (d + 1)) (by omega)
    obtain ⟨x10, x11⟩ := x1
    obtain ⟨x20, x21⟩ := x2
    have x12 : cnt (biz c) mf (min e d) ≤ 100 := by omega
    have x22 : cnt (biz c) (d + 1) (max e (d + 1)) ≤ 100 := by omega
    obtain ⟨q, q0, q1, q2, q3, q4, q5, q6, q7⟩ := hb.q
    clear hbx x11 x21
    by_cases hlt : e ≤ mt
    · cases hz : biz c e
      · have HA : Hid (cnt (biz c) mf (min e d) = cnt (biz c) mf (min (e + 1) d)) := Lib.hid (by
          by_cases hed : e < d
          · rw [show min e d = e by omega, show min (e + 1) d = e + 1 by omega, cnt_no _ (by omega) hz]
          · rw [show min e d = d by omega, show min (e + 1) d = d by omega])
        have HB : Hid (cnt (biz c) (d + 1) (max e (d + 1)) = cnt (biz c) (d + 1) (max (e + 1) (d + 1))) := Lib.hid (by
          by_cases hed : d < e
          · rw [show max e (d + 1) = e by omega, show max (e + 1) (d + 1) = e + 1 by omega, cnt_no _ (by omega) hz]
          · rw [show max e (d + 1) = d + 1 by omega, show max (e + 1) (d + 1) = d + 1 by omega])
        generalize cnt (biz c) mf (min e d) = X at *
        generalize cnt (biz c) (d + 1) (max e (d + 1)) = Y at *
        go_wp2_with fail
        refine (biz_is hz _ hb.hol).mono ?_
        rintro e' w2 ⟨rfl, hb2⟩
        clear q q0 q1 q2 q3 q4 q5 q6 q7
        go_wp2_with fail
        go_roundw
        case rel => exact ⟨e + 1, by omega, by omega, rfl, vint HA.out, vint HB.out, hb.next hb2⟩
        case measure => simp [intOf]; omega
      · rcases Int.lt_trichotomy e d with hed | hed | hed
        · have HA : Hid (cnt (biz c) mf (min e d) + 1 = cnt (biz c) mf (min (e + 1) d)) := Lib.hid (by rw [show min e d = e by omega, show min (e + 1) d = e + 1 by omega, cnt_yes _ (by omega) hz])
          have HB : Hid (cnt (biz c) (d + 1) (max e (d + 1)) = cnt (biz c) (d + 1) (max (e + 1) (d + 1))) := Lib.hid (by rw [show max e (d + 1) = d + 1 by omega, show max (e + 1) (d + 1) = d + 1 by omega])
          generalize cnt (biz c) mf (min e d) = X at *
          generalize cnt (biz c) (d + 1) (max e (d + 1)) = Y at *
          go_wp2_with fail
          refine (biz_is hz _ hb.hol).mono ?_
          rintro e' w2 ⟨rfl, hb2⟩
          clear q q0 q1 q2 q3 q4 q5 q6 q7
          go_wp2_with fail
          go_roundw
          case rel => exact ⟨e + 1, by omega, by omega, rfl, vint HA.out, vint HB.out, hb.next hb2⟩
          case measure => simp [intOf]; omega
        · have HA : Hid (cnt (biz c) mf (min e d) = cnt (biz c) mf (min (e + 1) d)) := Lib.hid (by rw [show min e d = d by omega, show min (e + 1) d = d by omega])
          have HB : Hid (cnt (biz c) (d + 1) (max e (d + 1)) = cnt (biz c) (d + 1) (max (e + 1) (d + 1))) := Lib.hid (by rw [show max e (d + 1) = d + 1 by omega, show max (e + 1) (d + 1) = d + 1 by omega])
          generalize cnt (biz c) mf (min e d) = X at *
          generalize cnt (biz c) (d + 1) (max e (d + 1)) = Y at *
          obtain ⟨e1, e2⟩ : e ≤ d ∧ d ≤ e := by omega
          clear hed
          go_wp2_with fail
          refine (biz_is hz _ hb.hol).mono ?_
          rintro e' w2 ⟨rfl, hb2⟩
          clear q q0 q1 q2 q3 q4 q5 q6 q7
          go_wp2_with fail
          go_roundw
          case rel => exact ⟨e + 1, by omega, by omega, rfl, vint HA.out, vint HB.out, hb.next hb2⟩
          case measure => simp [intOf]; omega
        · have HA : Hid (cnt (biz c) mf (min e d) = cnt (biz c) mf (min (e + 1) d)) := Lib.hid (by rw [show min e d = d by omega, show min (e + 1) d = d by omega])
          have HB : Hid (cnt (biz c) (d + 1) (max e (d + 1)) + 1 = cnt (biz c) (d + 1) (max (e + 1) (d + 1))) := Lib.hid (by rw [show max e (d + 1) = e by omega, show max (e + 1) (d + 1) = e + 1 by omega, cnt_yes _ (by omega) hz])
          generalize cnt (biz c) mf (min e d) = X at *
          generalize cnt (biz c) (d + 1) (max e (d + 1)) = Y at *
          go_wp2_with fail
          refine (biz_is hz _ hb.hol).mono ?_
          rintro e' w2 ⟨rfl, hb2⟩
          clear q q0 q1 q2 q3 q4 q5 q6 q7
          go_wp2_with fail
          go_roundw
          case rel => exact ⟨e + 1, by omega, by omega, rfl, vint HA.out, vint HB.out, hb.next hb2⟩
          case measure => simp [intOf]; omega
    · have e1 : Hid (cnt (biz c) mf (min e d) = cnt (biz c) mf d) := Lib.hid (by rw [show min e d = d by omega])
      have e2 : Hid (cnt (biz c) (d + 1) (max e (d + 1)) = cnt (biz c) (d + 1) (mt + 1)) := Lib.hid (by rw [show max e (d + 1) = mt + 1 by omega])
      rw [← e1.out, ← e2.out] at HR
      generalize cnt (biz c) mf (min e d) = X at *
      generalize cnt (biz c) (d + 1) (max e (d + 1)) = Y at *
      clear e1 e2 q0 q1 q2 q3 q4 q5 q6 q7
      have hbel := hb.below
      by_cases hneg : n < 0
      · have hR2 : nthB (max n (-n)) Y X = R := by rw [← HR.out, if_pos hneg, show max n (-n) = -n by omega]
        clear HR
        rcases nth_cases (max n (-n)) Y X with ⟨n1, n2⟩ | ⟨n1, n2, n3⟩ | ⟨n1, n2, n3⟩ | ⟨n1, n2⟩
        · have hR3 := n2.symm.trans hR2
          subst hR3
          have b1 : (Y == max n (-n) - 1) = true := by rw [beq_iff_eq]; exact n1
          clear hR2 n1 n2
          go_wp2_with fail
          go_ret
          exact ⟨rfl, hbel⟩
        · have hR3 := n3.symm.trans hR2
          subst hR3
          have b1 : (Y == max n (-n) - 1) = false := by rw [beq_eq_false_iff_ne]; omega
          have b2 : (X == 0) = true := by rw [beq_iff_eq]; exact n2
          clear hR2 n2 n3
          go_wp2_with fail
          go_ret
          exact ⟨rfl, hbel⟩
        · have hR3 := n3.symm.trans hR2
          subst hR3
          have b1 : (Y == max n (-n) - 1) = false := by rw [beq_eq_false_iff_ne]; omega
          have b2 : (X == 0) = false := by rw [beq_eq_false_iff_ne]; exact n2
          clear hR2 n2 n3
          go_wp2_with fail
          go_ret
          exact ⟨rfl, hbel⟩
        · have hR3 := n2.symm.trans hR2
          subst hR3
          have b1 : (Y == max n (-n) - 1) = false := by rw [beq_eq_false_iff_ne]; omega
          clear hR2 n2
          go_wp2_with fail
          go_ret
          exact ⟨rfl, hbel⟩
      · have hR2 : nthB (max n (-n)) X Y = R := by rw [← HR.out, if_neg hneg, show max n (-n) = n by omega]
        clear HR
        rcases nth_cases (max n (-n)) X Y with ⟨n1, n2⟩ | ⟨n1, n2, n3⟩ | ⟨n1, n2, n3⟩ | ⟨n1, n2⟩
        · have hR3 := n2.symm.trans hR2
          subst hR3
          have b1 : (X == max n (-n) - 1) = true := by rw [beq_iff_eq]; exact n1
          clear hR2 n1 n2
          go_wp2_with fail
          go_ret
          exact ⟨rfl, hbel⟩
        · have hR3 := n3.symm.trans hR2
          subst hR3
          have b1 : (X == max n (-n) - 1) = false := by rw [beq_eq_false_iff_ne]; omega
          have b2 : (Y == 0) = true := by rw [beq_iff_eq]; exact n2
          clear hR2 n2 n3
          go_wp2_with fail
          go_ret
          exact ⟨rfl, hbel⟩
        · have hR3 := n3.symm.trans hR2
          subst hR3
          have b1 : (X == max n (-n) - 1) = false := by rw [beq_eq_false_iff_ne]; omega
          have b2 : (Y == 0) = false := by rw [beq_eq_false_iff_ne]; exact n2
          clear hR2 n2 n3
          go_wp2_with fail
          go_ret
          exact ⟨rfl, hbel⟩
        · have hR3 := n2.symm.trans hR2
          subst hR3
          have b1 : (X == max n (-n) - 1) = false := by rw [beq_eq_false_iff_ne]; omega
          clear hR2 n2
          go_wp2_with fail
          go_ret
          exact ⟨rfl, hbel⟩
end
end Go.Proofs.YtbfllcfjgpkpaaaGreat
