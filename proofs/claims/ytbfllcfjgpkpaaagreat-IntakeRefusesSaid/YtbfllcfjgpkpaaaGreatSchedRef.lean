/-
  The walks of schedules: the document's rules.
  The walks of schedules: the document's exported functions.
-/
import Derived.Test.YtbfllcfjgpkpaaaGreatSchedWalkA
import Derived.Test.YtbfllcfjgpkpaaaGreatSchedWalkG
namespace Go.Proofs.YtbfllcfjgpkpaaaGreat
section
open Go.RowKit
set_option maxHeartbeats 8000000
set_option linter.unusedVariables false

theorem lastB_bd (p : Int → Bool) (d : Int) (h : 0 ≤ d) : -1 ≤ lastB p d ∧ lastB p d < d := by
  unfold lastB
  cases ht : toP p (d - 1) with
  | none => simp; omega
  | some r => have := toP_spec ht; simp; omega
theorem last_step {p : Int → Bool} {d e : Int} (h0 : 0 ≤ e) (hed : e < d) (hinv : toP p (min e (d - 1)) = toP p (d - 1)) : (p e = true → lastB p d = e) ∧ (p e = false → lastB p d < e ∧ toP p (min (e - 1) (d - 1)) = toP p (d - 1)) := by
  rw [show min e (d - 1) = e by omega] at hinv
  constructor
  · intro hp
    unfold lastB
    rw [← hinv, toP_yes h0 hp]
    rfl
  · intro hp
    rw [toP_no h0 hp] at hinv
    refine ⟨?_, by rw [show min (e - 1) (d - 1) = e - 1 by omega]; exact hinv⟩
    unfold lastB
    rw [← hinv]
    cases ht : toP p (e - 1) with
    | none => simp; omega
    | some r => have := toP_spec ht; simp; omega
set_option maxRecDepth 100000 in
theorem rweekly_any (c : CN) (A : Option Addr) (cp : Nat) (n d : Int) (w : World) (h : CAt w c A) (hok : c.ok = true) (hd0 : 0 ≤ d) (hd1 : d ≤ 73048) :
    Calls Tryz.prog 59 #[.agg #[.string c.name, .bool c.w0, .bool c.w1, .bool c.w2, .bool c.w3, .bool c.w4, .bool c.w5, .bool c.w6, .slice A c.hs.length cp], .int .i64 n, .int .i64 d] w (RetB (.bool (weekB (biz c) n d)) w) := by
  obtain ⟨l1, l2⟩ := lastB_bd (biz c) d hd0
  obtain ⟨R, hRR⟩ : ∃ R, weekB (biz c) n d = R := ⟨_, rfl⟩
  rw [hRR]
  unfold weekB at hRR
  have hLB := fun e => last_step (p := biz c) (d := d) (e := e)
  generalize lastB (biz c) d = last at *
  have HR := Lib.hid hRR
  have HL := Lib.hid hLB
  have hbx := CBx.new cp h rfl
  have hbel := bal0 w (.cells #[.string c.name, .bool c.w0, .bool c.w1, .bool c.w2, .bool c.w3, .bool c.w4, .bool c.w5, .bool c.w6, .slice A c.hs.length cp] 35)
  clear hRR hLB h
  go_enter Tryz.func59, Tryz.ntmps59
  go_wp2_with fail
  go_loopw [7] (fun dv wr => ∃ e : Int, -1 ≤ e ∧ e ≤ d ∧ last ≤ e ∧ dv = .int .i64 e ∧ wkS n (e - last).toNat e = R ∧ toP (biz c) (min e (d - 1)) = toP (biz c) (d - 1) ∧ CBx wr w.heap.size c A cp ∧ Below w.heap.size w wr) (fun dv _ => (intOf dv + 1).toNat)
  case atStart => exact ⟨d, by omega, by omega, by omega, rfl, HR.out, by rw [show min d (d - 1) = d - 1 by omega], hbx, hbel⟩
  case round =>
    obtain ⟨e, he1, he2, he3, rfl, hf, hinv, hx, hbe⟩ := hrel
    clear hbx hbel HR
    by_cases h0 : 0 ≤ e
    · have hW : WeekR e ((e + 5) % 7) 0 := .inl ⟨h0, by omega, rfl, rfl⟩
      have HW := Lib.hid hW
      have HF := Lib.hid hf
      have HI := Lib.hid hinv
      clear hW hf hinv
      by_cases hed : e < d
      · obtain ⟨q0, q1, q2, q3, q4, q5, q6, q7, q8⟩ := hx.q
        cases hz : biz c e
        · obtain ⟨hlast, hinv2⟩ := (HL.out e h0 hed HI.out).2 hz
          have hf2 : (decide ((e + 5) % 7 = n) || wkS n (e - 1 - last).toNat (e - 1)) = R := by
            rw [← HF.out, show (e - last).toNat = (e - 1 - last).toNat + 1 by omega]
            rfl
          have HI2 := Lib.hid hinv2
          clear hinv2
          by_cases hw : (e + 5) % 7 = n
          · rw [decide_eq_true hw, Bool.true_or] at hf2
            subst hf2
            have b1 : ((e + 5) % 7 == n) = true := by rw [beq_iff_eq]; exact hw
            clear hw HF
            go_wp2_with fail
            refine (open_is hz A cp _ hx.at_ hok h0 (by omega)).mono ?_
            rintro e' w1 ⟨rfl, hb⟩
            clear q0 q1 q2 q3 q4 q5 q6 q7 q8
            go_wp2_with fail
            refine (rweek_is HW.out _).mono ?_
            rintro e' w2 ⟨rfl, rfl⟩
            go_wp2_with fail
            go_ret
            exact ⟨rfl, bnext hbe hb⟩
          · rw [decide_eq_false hw, Bool.false_or] at hf2
            have HF2 := Lib.hid hf2
            have b1 : ((e + 5) % 7 == n) = false := by rw [beq_eq_false_iff_ne]; exact hw
            clear hw HF hf2
            go_wp2_with fail
            refine (open_is hz A cp _ hx.at_ hok h0 (by omega)).mono ?_
            rintro e' w1 ⟨rfl, hb⟩
            clear q0 q1 q2 q3 q4 q5 q6 q7 q8
            go_wp2_with fail
            refine (rweek_is HW.out _).mono ?_
            rintro e' w2 ⟨rfl, rfl⟩
            go_wp2_with fail
            go_roundw
            case rel => exact ⟨e - 1, by omega, by omega, by omega, rfl, HF2.out, HI2.out, hx.next hb, bnext hbe hb⟩
            case measure => simp [intOf]; omega
        · have hlast := (HL.out e h0 hed HI.out).1 hz
          have hR : false = R := by
            rw [← HF.out, hlast, show (e - e).toNat = 0 by omega]
            rfl
          subst hR
          clear hlast HF
          go_wp2_with fail
          refine (open_is hz A cp _ hx.at_ hok h0 (by omega)).mono ?_
          rintro e' w1 ⟨rfl, hb⟩
          clear q0 q1 q2 q3 q4 q5 q6 q7 q8
          go_wp2_with fail
          go_ret
          exact ⟨rfl, bnext hbe hb⟩
      · have hlast : last < e := by omega
        have hf2 : (decide ((e + 5) % 7 = n) || wkS n (e - 1 - last).toNat (e - 1)) = R := by
          rw [← HF.out, show (e - last).toNat = (e - 1 - last).toNat + 1 by omega]
          rfl
        have HI2 : Hid (toP (biz c) (min (e - 1) (d - 1)) = toP (biz c) (d - 1)) := Lib.hid (by rw [show min (e - 1) (d - 1) = d - 1 by omega])
        by_cases hw : (e + 5) % 7 = n
        · rw [decide_eq_true hw, Bool.true_or] at hf2
          subst hf2
          have b1 : ((e + 5) % 7 == n) = true := by rw [beq_iff_eq]; exact hw
          clear hw HF
          go_wp2_with fail
          refine (rweek_is HW.out _).mono ?_
          rintro e' w2 ⟨rfl, rfl⟩
          go_wp2_with fail
          go_ret
          exact ⟨rfl, hbe⟩
        · rw [decide_eq_false hw, Bool.false_or] at hf2
          have HF2 := Lib.hid hf2
          have b1 : ((e + 5) % 7 == n) = false := by rw [beq_eq_false_iff_ne]; exact hw
          clear hw HF hf2
          go_wp2_with fail
          refine (rweek_is HW.out _).mono ?_
          rintro e' w2 ⟨rfl, rfl⟩
          go_wp2_with fail
          go_roundw
          case rel => exact ⟨e - 1, by omega, by omega, by omega, rfl, HF2.out, HI2.out, hx, hbe⟩
          case measure => simp [intOf]; omega
    · have hR : false = R := by
        rw [← hf, show (e - last).toNat = 0 by omega]
        rfl
      subst hR
      clear hf hinv
      go_wp2_with fail
      go_ret
      exact ⟨rfl, hbe⟩
set_option maxRecDepth 100000 in
theorem rmonthly_any (c : CN) (A : Option Addr) (cp : Nat) (n d : Int) (w : World) (h : CAt w c A) (hok : c.ok = true) (hd0 : 0 ≤ d) (hd1 : d ≤ 73048) (hn0 : -23 ≤ n) (hn1 : n ≤ 23) (hnz : n ≠ 0) :
    Calls Tryz.prog 60 #[.agg #[.string c.name, .bool c.w0, .bool c.w1, .bool c.w2, .bool c.w3, .bool c.w4, .bool c.w5, .bool c.w6, .slice A c.hs.length cp], .int .i64 n, .int .i64 d] w (RetB (.bool (monB (biz c) n d)) w) := by
  have hcv := civ_cv hd0 hd1
  obtain ⟨f0, f1, f2, f3, f4⟩ := mBounds hd0 hd1
  have hF : FromR (civY d) (civM d) 1 (mFrom d) 0 := .inl ⟨mFrom_cv hd0 hd1, rfl⟩
  have hE : EndR d (mTo d) 0 := .inl ⟨_, _, _, hcv, rfl, rfl⟩
  have hC : CivilR d (civY d) (civM d) (civD d) 0 := .inl ⟨hcv, rfl⟩
  obtain ⟨R, hRR⟩ : ∃ R, monB (biz c) n d = R := ⟨_, rfl⟩
  rw [hRR]
  unfold monB at hRR
  have HR := Lib.hid hRR
  have HE := Lib.hid hE
  have HC := Lib.hid hC
  have HF := Lib.hid hF
  have hbx := CBx.new cp h rfl
  have hbel := bal0 w (.cells #[.string c.name, .bool c.w0, .bool c.w1, .bool c.w2, .bool c.w3, .bool c.w4, .bool c.w5, .bool c.w6, .slice A c.hs.length cp] 35)
  clear hRR hE hC hF hcv h
  generalize civD d = dd at *
  generalize civY d = yy at *
  generalize civM d = mm at *
  generalize hmF : mFrom d = mf at *
  generalize hmT : mTo d = mt at *
  clear hmF hmT
  go_enter Tryz.func60, Tryz.ntmps60
  go_wp2_with fail
  refine (rcivil_is HC.out _).mono ?_
  rintro e w1 ⟨rfl, rfl⟩
  go_wp2_with fail
  refine (rfrom_is HF.out _).mono ?_
  rintro e w1 ⟨rfl, rfl⟩
  go_wp2_with fail
  refine (rend_is HE.out _).mono ?_
  rintro e w1 ⟨rfl, rfl⟩
  go_wp2_with fail
  go_loopw [15, 16, 17] (fun av bv iv wr => ∃ e : Int, mf ≤ e ∧ e ≤ mt + 1 ∧ iv = .int .i64 e ∧ av = .int .i64 (cnt (biz c) mf (min e d)) ∧ bv = .int .i64 (cnt (biz c) (d + 1) (max e (d + 1))) ∧ CBx wr w.heap.size c A cp ∧ Below w.heap.size w wr) (fun _ _ iv _ => (73050 - intOf iv).toNat)
  case atStart => exact ⟨mf, by omega, by omega, rfl, vint (by rw [cnt_self _ _ _ (by omega)]), vint (by rw [cnt_self _ _ _ (by omega)]), hbx, hbel⟩
  case round =>
    obtain ⟨e, he1, he2, rfl, rfl, rfl, hx, hbe⟩ := hrel
    have x1 := cnt_bd2 (biz c) (a := mf) (b := min e d) (by omega)
    have x2 := cnt_bd2 (biz c) (a := d + 1) (b := max e (d + 1)) (by omega)
    obtain ⟨x10, x11⟩ := x1
    obtain ⟨x20, x21⟩ := x2
    have x12 : cnt (biz c) mf (min e d) ≤ 100 := by omega
    have x22 : cnt (biz c) (d + 1) (max e (d + 1)) ≤ 100 := by omega
    clear hbx hbel x11 x21
    by_cases hlt : e ≤ mt
    · obtain ⟨q0, q1, q2, q3, q4, q5, q6, q7, q8⟩ := hx.q
      rcases Int.lt_trichotomy e d with hed | hed | hed
      · cases hz : biz c e
        · have HA : Hid (cnt (biz c) mf (min e d) = cnt (biz c) mf (min (e + 1) d)) := Lib.hid (by rw [show min e d = e by omega, show min (e + 1) d = e + 1 by omega, cnt_no _ (by omega) hz])
          have HB : Hid (cnt (biz c) (d + 1) (max e (d + 1)) = cnt (biz c) (d + 1) (max (e + 1) (d + 1))) := Lib.hid (by rw [show max e (d + 1) = d + 1 by omega, show max (e + 1) (d + 1) = d + 1 by omega])
          generalize cnt (biz c) mf (min e d) = X at *
          generalize cnt (biz c) (d + 1) (max e (d + 1)) = Y at *
          go_wp2_with fail
          refine (open_is hz A cp _ hx.at_ hok (by omega) (by omega)).mono ?_
          rintro e' w2 ⟨rfl, hb2⟩
          clear q0 q1 q2 q3 q4 q5 q6 q7 q8
          go_wp2_with fail
          go_roundw
          case rel => exact ⟨e + 1, by omega, by omega, rfl, vint HA.out, vint HB.out, hx.next hb2, bnext hbe hb2⟩
          case measure => simp [intOf]; omega
        · have HA : Hid (cnt (biz c) mf (min e d) + 1 = cnt (biz c) mf (min (e + 1) d)) := Lib.hid (by rw [show min e d = e by omega, show min (e + 1) d = e + 1 by omega, cnt_yes _ (by omega) hz])
          have HB : Hid (cnt (biz c) (d + 1) (max e (d + 1)) = cnt (biz c) (d + 1) (max (e + 1) (d + 1))) := Lib.hid (by rw [show max e (d + 1) = d + 1 by omega, show max (e + 1) (d + 1) = d + 1 by omega])
          generalize cnt (biz c) mf (min e d) = X at *
          generalize cnt (biz c) (d + 1) (max e (d + 1)) = Y at *
          go_wp2_with fail
          refine (open_is hz A cp _ hx.at_ hok (by omega) (by omega)).mono ?_
          rintro e' w2 ⟨rfl, hb2⟩
          clear q0 q1 q2 q3 q4 q5 q6 q7 q8
          go_wp2_with fail
          go_roundw
          case rel => exact ⟨e + 1, by omega, by omega, rfl, vint HA.out, vint HB.out, hx.next hb2, bnext hbe hb2⟩
          case measure => simp [intOf]; omega
      · obtain ⟨e1, e2⟩ : e ≤ d ∧ d ≤ e := by omega
        clear hed
        have HA : Hid (cnt (biz c) mf (min e d) = cnt (biz c) mf (min (e + 1) d)) := Lib.hid (by rw [show min e d = d by omega, show min (e + 1) d = d by omega])
        have HB : Hid (cnt (biz c) (d + 1) (max e (d + 1)) = cnt (biz c) (d + 1) (max (e + 1) (d + 1))) := Lib.hid (by rw [show max e (d + 1) = d + 1 by omega, show max (e + 1) (d + 1) = d + 1 by omega])
        generalize cnt (biz c) mf (min e d) = X at *
        generalize cnt (biz c) (d + 1) (max e (d + 1)) = Y at *
        go_wp2_with fail
        go_roundw
        case rel => exact ⟨e + 1, by omega, by omega, rfl, vint HA.out, vint HB.out, hx, hbe⟩
        case measure => simp [intOf]; omega
      · cases hz : biz c e
        · have HA : Hid (cnt (biz c) mf (min e d) = cnt (biz c) mf (min (e + 1) d)) := Lib.hid (by rw [show min e d = d by omega, show min (e + 1) d = d by omega])
          have HB : Hid (cnt (biz c) (d + 1) (max e (d + 1)) = cnt (biz c) (d + 1) (max (e + 1) (d + 1))) := Lib.hid (by rw [show max e (d + 1) = e by omega, show max (e + 1) (d + 1) = e + 1 by omega, cnt_no _ (by omega) hz])
          generalize cnt (biz c) mf (min e d) = X at *
          generalize cnt (biz c) (d + 1) (max e (d + 1)) = Y at *
          go_wp2_with fail
          refine (open_is hz A cp _ hx.at_ hok (by omega) (by omega)).mono ?_
          rintro e' w2 ⟨rfl, hb2⟩
          clear q0 q1 q2 q3 q4 q5 q6 q7 q8
          go_wp2_with fail
          go_roundw
          case rel => exact ⟨e + 1, by omega, by omega, rfl, vint HA.out, vint HB.out, hx.next hb2, bnext hbe hb2⟩
          case measure => simp [intOf]; omega
        · have HA : Hid (cnt (biz c) mf (min e d) = cnt (biz c) mf (min (e + 1) d)) := Lib.hid (by rw [show min e d = d by omega, show min (e + 1) d = d by omega])
          have HB : Hid (cnt (biz c) (d + 1) (max e (d + 1)) + 1 = cnt (biz c) (d + 1) (max (e + 1) (d + 1))) := Lib.hid (by rw [show max e (d + 1) = e by omega, show max (e + 1) (d + 1) = e + 1 by omega, cnt_yes _ (by omega) hz])
          generalize cnt (biz c) mf (min e d) = X at *
          generalize cnt (biz c) (d + 1) (max e (d + 1)) = Y at *
          go_wp2_with fail
          refine (open_is hz A cp _ hx.at_ hok (by omega) (by omega)).mono ?_
          rintro e' w2 ⟨rfl, hb2⟩
          clear q0 q1 q2 q3 q4 q5 q6 q7 q8
          go_wp2_with fail
          go_roundw
          case rel => exact ⟨e + 1, by omega, by omega, rfl, vint HA.out, vint HB.out, hx.next hb2, bnext hbe hb2⟩
          case measure => simp [intOf]; omega
    · have e1 : Hid (cnt (biz c) mf (min e d) = cnt (biz c) mf d) := Lib.hid (by rw [show min e d = d by omega])
      have e2 : Hid (cnt (biz c) (d + 1) (max e (d + 1)) = cnt (biz c) (d + 1) (mt + 1)) := Lib.hid (by rw [show max e (d + 1) = mt + 1 by omega])
      rw [← e1.out, ← e2.out] at HR
      generalize cnt (biz c) mf (min e d) = X at *
      generalize cnt (biz c) (d + 1) (max e (d + 1)) = Y at *
      clear e1 e2
      have hbel := hbe
      by_cases hneg : n < 0
      · have hR2 : nthB (-n) Y X = R := by rw [← HR.out, if_pos hneg]
        have hn3 : n < 1 := by omega
        clear HR
        rcases nth_cases (-n) Y X with ⟨n1, n2⟩ | ⟨n1, n2, n3⟩ | ⟨n1, n2, n3⟩ | ⟨n1, n2⟩
        · have hR3 := n2.symm.trans hR2
          subst hR3
          have b1 : (Y == -n - 1) = true := by rw [beq_iff_eq]; exact n1
          clear hR2 n1 n2
          go_wp2_with fail
          go_ret
          exact ⟨rfl, hbel⟩
        · have hR3 := n3.symm.trans hR2
          subst hR3
          have b1 : (Y == -n - 1) = false := by rw [beq_eq_false_iff_ne]; omega
          have b2 : (X == 0) = true := by rw [beq_iff_eq]; exact n2
          clear hR2 n2 n3
          go_wp2_with fail
          go_ret
          exact ⟨rfl, hbel⟩
        · have hR3 := n3.symm.trans hR2
          subst hR3
          have b1 : (Y == -n - 1) = false := by rw [beq_eq_false_iff_ne]; omega
          have b2 : (X == 0) = false := by rw [beq_eq_false_iff_ne]; exact n2
          clear hR2 n2 n3
          go_wp2_with fail
          go_ret
          exact ⟨rfl, hbel⟩
        · have hR3 := n2.symm.trans hR2
          subst hR3
          have b1 : (Y == -n - 1) = false := by rw [beq_eq_false_iff_ne]; omega
          clear hR2 n2
          go_wp2_with fail
          go_ret
          exact ⟨rfl, hbel⟩
      · have hR2 : nthB (n) X Y = R := by rw [← HR.out, if_neg hneg]
        have hn3 : 0 < n := by omega
        clear HR
        rcases nth_cases (n) X Y with ⟨n1, n2⟩ | ⟨n1, n2, n3⟩ | ⟨n1, n2, n3⟩ | ⟨n1, n2⟩
        · have hR3 := n2.symm.trans hR2
          subst hR3
          have b1 : (X == n - 1) = true := by rw [beq_iff_eq]; exact n1
          clear hR2 n1 n2
          go_wp2_with fail
          go_ret
          exact ⟨rfl, hbel⟩
        · have hR3 := n3.symm.trans hR2
          subst hR3
          have b1 : (X == n - 1) = false := by rw [beq_eq_false_iff_ne]; omega
          have b2 : (Y == 0) = true := by rw [beq_iff_eq]; exact n2
          clear hR2 n2 n3
          go_wp2_with fail
          go_ret
          exact ⟨rfl, hbel⟩
        · have hR3 := n3.symm.trans hR2
          subst hR3
          have b1 : (X == n - 1) = false := by rw [beq_eq_false_iff_ne]; omega
          have b2 : (Y == 0) = false := by rw [beq_eq_false_iff_ne]; exact n2
          clear hR2 n2 n3
          go_wp2_with fail
          go_ret
          exact ⟨rfl, hbel⟩
        · have hR3 := n2.symm.trans hR2
          subst hR3
          have b1 : (X == n - 1) = false := by rw [beq_eq_false_iff_ne]; omega
          clear hR2 n2
          go_wp2_with fail
          go_ret
          exact ⟨rfl, hbel⟩

set_option maxRecDepth 100000 in
theorem rdeals_is {s : SC} {c : CN} {d : Int} {v : Bool} (hv : dealB s c d = v) (A : Option Addr) (cp : Nat) (w : World) (h : CAt w c A) (hsok : s.ok = true) (hok : c.ok = true) (hd0 : 0 ≤ d) (hd1 : d ≤ 73048) :
    Calls Tryz.prog 37 #[.agg #[.int .i64 s.period, .int .i64 s.nth, .int .i64 s.notice, .int .i64 s.settle, .int .i64 s.cutoff], .agg #[.string c.name, .bool c.w0, .bool c.w1, .bool c.w2, .bool c.w3, .bool c.w4, .bool c.w5, .bool c.w6, .slice A c.hs.length cp], .int .i64 d] w (RetB (.bool v) w) := by
  subst hv
  have hbx : CBx ((w.alloc (.cells #[.int .i64 s.period, .int .i64 s.nth, .int .i64 s.notice, .int .i64 s.settle, .int .i64 s.cutoff] 28)).alloc (.cells #[.string c.name, .bool c.w0, .bool c.w1, .bool c.w2, .bool c.w3, .bool c.w4, .bool c.w5, .bool c.w6, .slice A c.hs.length cp] 35)) (w.heap.size + 1) c A cp := CBx.new cp (h.below (bal0 _ _)) (by simp)
  have hs0 : ((w.alloc (.cells #[.int .i64 s.period, .int .i64 s.nth, .int .i64 s.notice, .int .i64 s.settle, .int .i64 s.cutoff] 28)).alloc (.cells #[.string c.name, .bool c.w0, .bool c.w1, .bool c.w2, .bool c.w3, .bool c.w4, .bool c.w5, .bool c.w6, .slice A c.hs.length cp] 35)).heap[w.heap.size]? = some (.cells #[.int .i64 s.period, .int .i64 s.nth, .int .i64 s.notice, .int .i64 s.settle, .int .i64 s.cutoff] 28 (0, 0)) := heap_alD _ (by simp) (heap_alloc_new w _)
  have hbel := bal (bal0 w (.cells #[.int .i64 s.period, .int .i64 s.nth, .int .i64 s.notice, .int .i64 s.settle, .int .i64 s.cutoff] 28)) (.cells #[.string c.name, .bool c.w0, .bool c.w1, .bool c.w2, .bool c.w3, .bool c.w4, .bool c.w5, .bool c.w6, .slice A c.hs.length cp] 35)
  have hrule := SC.ok_rule hsok
  cases hz : biz c d
  · rw [dealB_no hz]
    go_enter Tryz.func37, Tryz.ntmps37
    go_wp2_with fail
    refine (open_is hz A cp _ hbx.at_ hok hd0 hd1).mono ?_
    rintro e w1 ⟨rfl, hb⟩
    go_wp2_with fail
    go_ret
    exact ⟨rfl, bnext hbel hb⟩
  · have e : dealB s c d = ruleB s (biz c) d := by unfold dealB; rw [hz, Bool.true_and]
    rw [e]
    unfold ruleB
    rcases ruleOk_per hrule with hp | hp | hp
    · rw [if_pos hp]
      have b1 : (s.period == 2) = false := by rw [beq_eq_false_iff_ne]; omega
      have b2 : (s.period == 3) = false := by rw [beq_eq_false_iff_ne]; omega
      clear hp hrule e
      go_enter Tryz.func37, Tryz.ntmps37
      go_wp2_with fail
      refine (open_is hz A cp _ hbx.at_ hok hd0 hd1).mono ?_
      rintro e w1 ⟨rfl, hb⟩
      have q0 := Joins.cell_of_block ((hb.block _ (Array.getElem?_eq_some_iff.1 hs0).1).trans hs0) 0
      have q0 : w1.cell? ⟨w.heap.size, 0, none⟩ = some (.int .i64 s.period) := q0
      go_wp2_with fail
      go_ret
      exact ⟨rfl, bnext hbel hb⟩
    · rw [if_neg (by omega), if_pos hp]
      have b1 : (s.period == 2) = true := by rw [beq_iff_eq]; exact hp
      clear hp hrule e
      go_enter Tryz.func37, Tryz.ntmps37
      go_wp2_with fail
      refine (open_is hz A cp _ hbx.at_ hok hd0 hd1).mono ?_
      rintro e w1 ⟨rfl, hb⟩
      have hs1 := (hb.block _ (Array.getElem?_eq_some_iff.1 hs0).1).trans hs0
      have u0 : w1.cell? ⟨w.heap.size, 0, none⟩ = some (.int .i64 s.period) := Joins.cell_of_block hs1 0
      have u1 : w1.cell? ⟨w.heap.size, 1, none⟩ = some (.int .i64 s.nth) := Joins.cell_of_block hs1 1
      have hx := hbx.next hb
      obtain ⟨q0, q1, q2, q3, q4, q5, q6, q7, q8⟩ := hx.q
      go_wp2_with fail
      refine (rweekly_any c A cp _ d _ hx.at_ hok hd0 hd1).mono ?_
      rintro e w2 ⟨rfl, hb2⟩
      clear q0 q1 q2 q3 q4 q5 q6 q7 q8
      go_wp2_with fail
      go_ret
      exact ⟨rfl, bnext (bnext hbel hb) hb2⟩
    · rw [if_neg (by omega), if_neg (by omega)]
      rw [hp] at hrule
      have hr2 : s.nth ≠ 0 ∧ -23 ≤ s.nth ∧ s.nth ≤ 23 := of_decide_eq_true hrule
      have HR := Lib.hid hr2
      have b1 : (s.period == 2) = false := by rw [beq_eq_false_iff_ne]; omega
      have b2 : (s.period == 3) = true := by rw [beq_iff_eq]; exact hp
      clear hp hrule hr2 e
      go_enter Tryz.func37, Tryz.ntmps37
      go_wp2_with fail
      refine (open_is hz A cp _ hbx.at_ hok hd0 hd1).mono ?_
      rintro e w1 ⟨rfl, hb⟩
      have hs1 := (hb.block _ (Array.getElem?_eq_some_iff.1 hs0).1).trans hs0
      have u0 : w1.cell? ⟨w.heap.size, 0, none⟩ = some (.int .i64 s.period) := Joins.cell_of_block hs1 0
      have u1 : w1.cell? ⟨w.heap.size, 1, none⟩ = some (.int .i64 s.nth) := Joins.cell_of_block hs1 1
      have hx := hbx.next hb
      obtain ⟨q0, q1, q2, q3, q4, q5, q6, q7, q8⟩ := hx.q
      go_wp2_with fail
      refine (rmonthly_any c A cp _ d _ hx.at_ hok hd0 hd1 HR.out.2.1 HR.out.2.2 HR.out.1).mono ?_
      rintro e w2 ⟨rfl, hb2⟩
      clear q0 q1 q2 q3 q4 q5 q6 q7 q8
      go_wp2_with fail
      go_ret
      exact ⟨rfl, bnext (bnext hbel hb) hb2⟩
end
section
open Go.RowKit
set_option maxHeartbeats 8000000
set_option linter.unusedVariables false
set_option maxRecDepth 100000 in
theorem r9chk_is {w : World} {s : SC} {z : ZN} {zA : Option Addr} {c : CN} {cA : Option Addr} {e : Int} (he : aErr s z c = e) (zc cc : Nat) (hz : ZAt w z zA) (hc : CAt w c cA) :
    Calls Tryz.prog 36 #[.agg #[.int .i64 s.period, .int .i64 s.nth, .int .i64 s.notice, .int .i64 s.settle, .int .i64 s.cutoff], .agg #[.string z.name, .int .i64 z.off, .slice zA z.cs.length zc, .string c.name, .bool c.w0, .bool c.w1, .bool c.w2, .bool c.w3, .bool c.w4, .bool c.w5, .bool c.w6, .slice cA c.hs.length cc]] w (RetB (.int .i64 e) w) := by
  subst he
  have hA := ABx.new (s := s) (zc := zc) (cc := cc) hz hc
  unfold aErr
  cases h1 : s.ok
  · rw [if_neg (by simp)]
    have H1 := Lib.hid (SC.err_of_bad h1)
    clear h1 hz hc
    go_enter Tryz.func36, Tryz.ntmps36
    go_wp2_with fail
    refine (r9check_is H1.out _).mono ?_
    rintro e w1 ⟨rfl, hb⟩
    go_wp2_with fail
    go_ret
    exact ⟨rfl, bnext hA.below hb⟩
  · rw [if_pos rfl]
    have H1 := Lib.hid (SC.err_of_ok h1)
    cases h2 : z.ok
    · rw [if_neg (by simp)]
      have H2 := Lib.hid (ZN.err_of_bad h2)
      clear h1 h2 hz hc
      go_enter Tryz.func36, Tryz.ntmps36
      go_wp2_with fail
      refine (r9check_is H1.out _).mono ?_
      rintro e w1 ⟨rfl, hb⟩
      have hA1 := hA.next hb
      obtain ⟨u0, u1, u2, u3, u4⟩ := hA1.qs
      obtain ⟨q0, q1, q2, q3, q4, q5, q6, q7, q8, q9, q10, q11⟩ := hA1.qp
      clear hA hb
      go_wp2_with fail
      refine (refCheck_is H2.out zA zc _ hA1.za).mono ?_
      rintro e w2 ⟨rfl, hb2⟩
      clear u0 u1 u2 u3 u4 q0 q1 q2 q3 q4 q5 q6 q7 q8 q9 q10 q11
      go_wp2_with fail
      go_ret
      exact ⟨rfl, bnext hA1.below hb2⟩
    · rw [if_pos rfl]
      have H2 := Lib.hid (ZN.err_of_ok h2)
      clear h1 h2 hz hc
      go_enter Tryz.func36, Tryz.ntmps36
      go_wp2_with fail
      refine (r9check_is H1.out _).mono ?_
      rintro e w1 ⟨rfl, hb⟩
      have hA1 := hA.next hb
      obtain ⟨u0, u1, u2, u3, u4⟩ := hA1.qs
      obtain ⟨q0, q1, q2, q3, q4, q5, q6, q7, q8, q9, q10, q11⟩ := hA1.qp
      clear hA hb
      go_wp2_with fail
      refine (refCheck_is H2.out zA zc _ hA1.za).mono ?_
      rintro e w2 ⟨rfl, hb2⟩
      have hA2 := hA1.next hb2
      clear u0 u1 u2 u3 u4 q0 q1 q2 q3 q4 q5 q6 q7 q8 q9 q10 q11
      obtain ⟨u0, u1, u2, u3, u4⟩ := hA2.qs
      obtain ⟨q0, q1, q2, q3, q4, q5, q6, q7, q8, q9, q10, q11⟩ := hA2.qp
      clear hA1 hb2
      go_wp2_with fail
      refine (rcheck_any c cA cc _ hA2.ca).mono ?_
      rintro e w3 ⟨rfl, hb3⟩
      clear u0 u1 u2 u3 u4 q0 q1 q2 q3 q4 q5 q6 q7 q8 q9 q10 q11
      go_wp2_with fail
      go_ret
      exact ⟨rfl, bnext hA2.below hb3⟩
set_option maxRecDepth 100000 in
theorem rDeals_bad {w : World} {s : SC} {z : ZN} {zA : Option Addr} {c : CN} {cA : Option Addr} {e d : Int} (zc cc : Nat) (hz : ZAt w z zA) (hc : CAt w c cA) (he : aErr s z c = e) (hn : e ≠ 0) :
    Calls Tryz.prog 63 #[.agg #[.int .i64 s.period, .int .i64 s.nth, .int .i64 s.notice, .int .i64 s.settle, .int .i64 s.cutoff], .agg #[.string z.name, .int .i64 z.off, .slice zA z.cs.length zc, .string c.name, .bool c.w0, .bool c.w1, .bool c.w2, .bool c.w3, .bool c.w4, .bool c.w5, .bool c.w6, .slice cA c.hs.length cc], .int .i64 d] w (RetB (.tuple #[.bool false, .int .i64 e]) w) := by
  have g1 : (e != 0) = true := by rw [bne_iff_ne]; exact hn
  have HE := Lib.hid he
  clear hn he
  have hA := ABx.new (s := s) (zc := zc) (cc := cc) hz hc
  clear hz hc
  go_enter Tryz.func63, Tryz.ntmps63
  go_wp2_with fail
  refine (r9chk_is HE.out zc cc hA.za hA.ca).mono ?_
  rintro e' w1 ⟨rfl, hb⟩
  have hA1 := hA.next hb
  obtain ⟨u0, u1, u2, u3, u4⟩ := hA1.qs
  obtain ⟨q0, q1, q2, q3, q4, q5, q6, q7, q8, q9, q10, q11⟩ := hA1.qp
  clear hA hb
  go_wp2_with fail
  go_ret2
  exact ⟨rfl, hA1.below⟩
set_option maxRecDepth 100000 in
theorem rFor_bad {w : World} {s : SC} {z : ZN} {zA : Option Addr} {c : CN} {cA : Option Addr} {e d : Int} (zc cc : Nat) (hz : ZAt w z zA) (hc : CAt w c cA) (he : aErr s z c = e) (hn : e ≠ 0) :
    Calls Tryz.prog 19 #[.agg #[.int .i64 s.period, .int .i64 s.nth, .int .i64 s.notice, .int .i64 s.settle, .int .i64 s.cutoff], .agg #[.string z.name, .int .i64 z.off, .slice zA z.cs.length zc, .string c.name, .bool c.w0, .bool c.w1, .bool c.w2, .bool c.w3, .bool c.w4, .bool c.w5, .bool c.w6, .slice cA c.hs.length cc], .int .i64 d] w (RetB (.tuple #[.int .i64 0, .int .i64 e]) w) := by
  have g1 : (e != 0) = true := by rw [bne_iff_ne]; exact hn
  have HE := Lib.hid he
  clear hn he
  have hA := ABx.new (s := s) (zc := zc) (cc := cc) hz hc
  clear hz hc
  go_enter Tryz.func19, Tryz.ntmps19
  go_wp2_with fail
  refine (r9chk_is HE.out zc cc hA.za hA.ca).mono ?_
  rintro e' w1 ⟨rfl, hb⟩
  have hA1 := hA.next hb
  obtain ⟨u0, u1, u2, u3, u4⟩ := hA1.qs
  obtain ⟨q0, q1, q2, q3, q4, q5, q6, q7, q8, q9, q10, q11⟩ := hA1.qp
  clear hA hb
  go_wp2_with fail
  go_ret2
  exact ⟨rfl, hA1.below⟩
set_option maxRecDepth 100000 in
theorem rDeals_day {w : World} {s : SC} {z : ZN} {zA : Option Addr} {c : CN} {cA : Option Addr} {d : Int} (zc cc : Nat) (hz : ZAt w z zA) (hc : CAt w c cA) (h1 : s.ok = true) (h2 : z.ok = true) (h3 : c.ok = true) (hd : dayB d = false) :
    Calls Tryz.prog 63 #[.agg #[.int .i64 s.period, .int .i64 s.nth, .int .i64 s.notice, .int .i64 s.settle, .int .i64 s.cutoff], .agg #[.string z.name, .int .i64 z.off, .slice zA z.cs.length zc, .string c.name, .bool c.w0, .bool c.w1, .bool c.w2, .bool c.w3, .bool c.w4, .bool c.w5, .bool c.w6, .slice cA c.hs.length cc], .int .i64 d] w (RetB (.tuple #[.bool false, .int .i64 50]) w) := by
  have HE := Lib.hid (aErr_ok h1 h2 h3)
  have hA := ABx.new (s := s) (zc := zc) (cc := cc) hz hc
  clear hz hc
  go_enter Tryz.func63, Tryz.ntmps63
  go_wp2_with fail
  refine (r9chk_is HE.out zc cc hA.za hA.ca).mono ?_
  rintro e' w1 ⟨rfl, hb⟩
  have hA1 := hA.next hb
  obtain ⟨u0, u1, u2, u3, u4⟩ := hA1.qs
  obtain ⟨q0, q1, q2, q3, q4, q5, q6, q7, q8, q9, q10, q11⟩ := hA1.qp
  clear hA hb
  go_wp2_with fail
  refine (out_t hd _).mono ?_
  rintro e2 w2 ⟨rfl, rfl⟩
  clear u0 u1 u2 u3 u4 q0 q1 q2 q3 q4 q5 q6 q7 q8 q9 q10 q11
  go_wp2_with fail
  go_ret2
  exact ⟨rfl, hA1.below⟩
set_option maxRecDepth 100000 in
theorem rDeals_is {w : World} {s : SC} {z : ZN} {zA : Option Addr} {c : CN} {cA : Option Addr} {d : Int} (zc cc : Nat) (hz : ZAt w z zA) (hc : CAt w c cA) (h1 : s.ok = true) (h2 : z.ok = true) (h3 : c.ok = true) (hd0 : 0 ≤ d) (hd1 : d ≤ 73048) {v : Bool} (hv : dealB s c d = v) :
    Calls Tryz.prog 63 #[.agg #[.int .i64 s.period, .int .i64 s.nth, .int .i64 s.notice, .int .i64 s.settle, .int .i64 s.cutoff], .agg #[.string z.name, .int .i64 z.off, .slice zA z.cs.length zc, .string c.name, .bool c.w0, .bool c.w1, .bool c.w2, .bool c.w3, .bool c.w4, .bool c.w5, .bool c.w6, .slice cA c.hs.length cc], .int .i64 d] w (RetB (.tuple #[.bool v, .int .i64 0]) w) := by
  have HE := Lib.hid (aErr_ok h1 h2 h3)
  have hA := ABx.new (s := s) (zc := zc) (cc := cc) hz hc
  clear hz hc
  go_enter Tryz.func63, Tryz.ntmps63
  go_wp2_with fail
  refine (r9chk_is HE.out zc cc hA.za hA.ca).mono ?_
  rintro e' w1 ⟨rfl, hb⟩
  have hA1 := hA.next hb
  obtain ⟨u0, u1, u2, u3, u4⟩ := hA1.qs
  obtain ⟨q0, q1, q2, q3, q4, q5, q6, q7, q8, q9, q10, q11⟩ := hA1.qp
  clear hA hb
  go_wp2_with fail
  refine (out_f ((dayB_iff d).2 ⟨hd0, hd1⟩) _).mono ?_
  rintro e2 w2 ⟨rfl, rfl⟩
  go_wp2_with fail
  refine (rdeals_is hv cA cc _ hA1.ca h1 h3 hd0 hd1).mono ?_
  rintro e3 w3 ⟨rfl, hb3⟩
  clear u0 u1 u2 u3 u4 q0 q1 q2 q3 q4 q5 q6 q7 q8 q9 q10 q11
  go_wp2_with fail
  go_ret2
  exact ⟨rfl, bnext hA1.below hb3⟩
theorem rinst_is {z : ZN} {d m v e : Int} (h : z.instV d m = v ∧ z.instE d m = e) (A : Option Addr) (c : Nat) (w : World) (hz : ZAt w z A) :
    Calls Tryz.prog 62 #[.agg #[.string z.name, .int .i64 z.off, .slice A z.cs.length c], .int .i64 d, .int .i64 m] w (RetB (.tuple #[.int .i64 v, .int .i64 e]) w) := by
  obtain ⟨rfl, rfl⟩ := h
  exact refInstant_any z A c d m w hz
theorem radd_dnN {c : CN} {d x : Int} {o : Option Int} (ho : stepDn (biz c) x.toNat d = o) (A : Option Addr) (cp : Nat) (w : World) (h : CAt w c A) (hok : c.ok = true) (hd : 0 ≤ d) (hd2 : d ≤ 73048) (h1 : 1 ≤ x) (h2 : x ≤ 1000) :
    Calls Tryz.prog 61 #[.agg #[.string c.name, .bool c.w0, .bool c.w1, .bool c.w2, .bool c.w3, .bool c.w4, .bool c.w5, .bool c.w6, .slice A c.hs.length cp], .int .i64 d, .int .i64 (-x)] w (AddP o w) := by
  have := radd_dn ho A cp w h hok hd hd2 (by omega) (by omega)
  rw [show ((x.toNat : Nat) : Int) = x by omega] at this
  exact this
theorem radd_upN {c : CN} {d x : Int} {o : Option Int} (ho : stepUp (biz c) x.toNat d = o) (A : Option Addr) (cp : Nat) (w : World) (h : CAt w c A) (hok : c.ok = true) (hd : 0 ≤ d) (hd2 : d ≤ 73048) (h1 : 1 ≤ x) (h2 : x ≤ 1000) :
    Calls Tryz.prog 61 #[.agg #[.string c.name, .bool c.w0, .bool c.w1, .bool c.w2, .bool c.w3, .bool c.w4, .bool c.w5, .bool c.w6, .slice A c.hs.length cp], .int .i64 d, .int .i64 x] w (AddP o w) := by
  have := radd_up ho A cp w h hok hd hd2 (by omega) (by omega)
  rw [show ((x.toNat : Nat) : Int) = x by omega] at this
  exact this
set_option maxRecDepth 100000 in
theorem rdl_is {w : World} {s : SC} {z : ZN} {zA : Option Addr} {c : CN} {cA : Option Addr} {d v e : Int} (hr : DlR s z c d v e) (zc cc : Nat) (hz : ZAt w z zA) (hc : CAt w c cA) (h1 : s.ok = true) (h2 : z.ok = true) (h3 : c.ok = true) (hd0 : 0 ≤ d) (hd1 : d ≤ 73048) :
    Calls Tryz.prog 38 #[.agg #[.int .i64 s.period, .int .i64 s.nth, .int .i64 s.notice, .int .i64 s.settle, .int .i64 s.cutoff], .agg #[.string z.name, .int .i64 z.off, .slice zA z.cs.length zc, .string c.name, .bool c.w0, .bool c.w1, .bool c.w2, .bool c.w3, .bool c.w4, .bool c.w5, .bool c.w6, .slice cA c.hs.length cc], .int .i64 d] w (RetB (.tuple #[.int .i64 v, .int .i64 e]) w) := by
  obtain ⟨n1, n2, -, -, n5, n6⟩ := SC.ok_ranges h1
  have hA := ABx.new (s := s) (zc := zc) (cc := cc) hz hc
  clear hz hc
  by_cases h0 : 0 < s.notice
  · rcases hr with ⟨hr, rfl, rfl⟩ | ⟨n, hr, hi⟩
    · go_enter Tryz.func38, Tryz.ntmps38
      go_wp2_with fail
      refine (radd_dnN hr cA cc _ hA.ca h3 hd0 hd1 (by omega) (by omega)).mono ?_
      rintro e w1 hP
      obtain ⟨rfl, hb⟩ := hP.none
      go_wp2_with fail
      go_ret2
      exact ⟨rfl, bnext hA.below hb⟩
    · have hn := stepDn_le _ _ _ hr
      have hn0 := stepDn_bd _ _ _ hr hd0
      have HI := Lib.hid (dl_inst h2 n5 n6 hn0 (by omega) hi)
      clear hi
      go_enter Tryz.func38, Tryz.ntmps38
      go_wp2_with fail
      refine (radd_dnN hr cA cc _ hA.ca h3 hd0 hd1 (by omega) (by omega)).mono ?_
      rintro e w1 hP
      obtain ⟨rfl, hb⟩ := hP.some
      have hA1 := hA.next hb
      obtain ⟨u0, u1, u2, u3, u4⟩ := hA1.qs
      obtain ⟨q0, q1, q2, q3, q4, q5, q6, q7, q8, q9, q10, q11⟩ := hA1.qp
      clear hA hb hP
      go_wp2_with fail
      refine (rinst_is HI.out zA zc _ hA1.za).mono ?_
      rintro e w2 ⟨rfl, hb2⟩
      clear u0 u1 u2 u3 u4 q0 q1 q2 q3 q4 q5 q6 q7 q8 q9 q10 q11
      go_wp2_with fail
      go_ret2
      exact ⟨rfl, bnext hA1.below hb2⟩
  · have e0 : s.notice.toNat = 0 := by omega
    have hi : (instFrom 0 z.off z.cs (1440 * d + s.cutoff) = none ∧ v = 0 ∧ e = 71) ∨ (instFrom 0 z.off z.cs (1440 * d + s.cutoff) = some v ∧ e = 0) := by
      rcases hr with ⟨hr, -, -⟩ | ⟨n, hr, hi⟩
      · rw [e0] at hr; cases hr
      · rw [e0] at hr
        have : d = n := by injection hr
        subst this
        exact hi
    have HI := Lib.hid (dl_inst h2 n5 n6 hd0 hd1 hi)
    have h00 : s.notice ≤ 0 := by omega
    clear hi e0 h0 hr
    go_enter Tryz.func38, Tryz.ntmps38
    go_wp2_with fail
    refine (rinst_is HI.out zA zc _ hA.za).mono ?_
    rintro e w2 ⟨rfl, hb2⟩
    go_wp2_with fail
    go_ret2
    exact ⟨rfl, bnext hA.below hb2⟩
/-- What dealing returns: an error, or none. -/
def DeR (s : SC) (z : ZN) (c : CN) (d e : Int) : Prop :=
  (aErr s z c = e ∧ e ≠ 0) ∨ (aErr s z c = 0 ∧ dayB d = false ∧ e = 50) ∨ (aErr s z c = 0 ∧ dayB d = true ∧ dealB s c d = false ∧ e = 91) ∨ (aErr s z c = 0 ∧ dayB d = true ∧ dealB s c d = true ∧ e = 0)
theorem de_ex (s : SC) (z : ZN) (c : CN) (d : Int) : ∃ e, DeR s z c d e := by
  by_cases h : aErr s z c = 0
  · cases hd : dayB d
    · exact ⟨50, .inr (.inl ⟨h, hd, rfl⟩)⟩
    · cases hv : dealB s c d
      · exact ⟨91, .inr (.inr (.inl ⟨h, hd, hv, rfl⟩))⟩
      · exact ⟨0, .inr (.inr (.inr ⟨h, hd, hv, rfl⟩))⟩
  · exact ⟨_, .inl ⟨rfl, h⟩⟩
set_option maxRecDepth 100000 in
theorem rdealing_is {w : World} {s : SC} {z : ZN} {zA : Option Addr} {c : CN} {cA : Option Addr} {d e : Int} (hr : DeR s z c d e) (zc cc : Nat) (hz : ZAt w z zA) (hc : CAt w c cA) :
    Calls Tryz.prog 39 #[.agg #[.int .i64 s.period, .int .i64 s.nth, .int .i64 s.notice, .int .i64 s.settle, .int .i64 s.cutoff], .agg #[.string z.name, .int .i64 z.off, .slice zA z.cs.length zc, .string c.name, .bool c.w0, .bool c.w1, .bool c.w2, .bool c.w3, .bool c.w4, .bool c.w5, .bool c.w6, .slice cA c.hs.length cc], .int .i64 d] w (RetB (.int .i64 e) w) := by
  have hA := ABx.new (s := s) (zc := zc) (cc := cc) hz hc
  clear hz hc
  rcases hr with ⟨he, hn⟩ | ⟨he, hd, rfl⟩ | ⟨he, hd, hv, rfl⟩ | ⟨he, hd, hv, rfl⟩
  · have g1 : (e == 0) = false := by rw [beq_eq_false_iff_ne]; exact hn
    have HE := Lib.hid (rDeals_bad (d := d) zc cc hA.za hA.ca he hn)
    clear he hn
    go_enter Tryz.func39, Tryz.ntmps39
    go_wp2_with fail
    refine HE.out.mono ?_
    rintro e' w1 ⟨rfl, hb⟩
    go_wp2_with fail
    go_ret
    exact ⟨rfl, bnext hA.below hb⟩
  · obtain ⟨h1, h2, h3⟩ := aErr_zero he
    have HE := Lib.hid (rDeals_day zc cc hA.za hA.ca h1 h2 h3 hd)
    clear he hd
    go_enter Tryz.func39, Tryz.ntmps39
    go_wp2_with fail
    refine HE.out.mono ?_
    rintro e' w1 ⟨rfl, hb⟩
    go_wp2_with fail
    go_ret
    exact ⟨rfl, bnext hA.below hb⟩
  · obtain ⟨h1, h2, h3⟩ := aErr_zero he
    obtain ⟨d0, d1⟩ := (dayB_iff d).1 hd
    have HE := Lib.hid (rDeals_is zc cc hA.za hA.ca h1 h2 h3 d0 d1 hv)
    clear he hd hv
    go_enter Tryz.func39, Tryz.ntmps39
    go_wp2_with fail
    refine HE.out.mono ?_
    rintro e' w1 ⟨rfl, hb⟩
    go_wp2_with fail
    go_ret
    exact ⟨rfl, bnext hA.below hb⟩
  · obtain ⟨h1, h2, h3⟩ := aErr_zero he
    obtain ⟨d0, d1⟩ := (dayB_iff d).1 hd
    have HE := Lib.hid (rDeals_is zc cc hA.za hA.ca h1 h2 h3 d0 d1 hv)
    clear he hd hv
    go_enter Tryz.func39, Tryz.ntmps39
    go_wp2_with fail
    refine HE.out.mono ?_
    rintro e' w1 ⟨rfl, hb⟩
    go_wp2_with fail
    go_ret
    exact ⟨rfl, bnext hA.below hb⟩
/-- What Deadline returns. -/
def DlnR (s : SC) (z : ZN) (c : CN) (d v e : Int) : Prop := (DeR s z c d e ∧ e ≠ 0 ∧ v = 0) ∨ (DeR s z c d 0 ∧ DlR s z c d v e)
theorem dln_ex (s : SC) (z : ZN) (c : CN) (d : Int) : ∃ v e, DlnR s z c d v e := by
  obtain ⟨e, he⟩ := de_ex s z c d
  by_cases h0 : e = 0
  · subst h0
    obtain ⟨v, e, h⟩ := dl_ex s z c d
    exact ⟨v, e, .inr ⟨he, h⟩⟩
  · exact ⟨0, e, .inl ⟨he, h0, rfl⟩⟩
theorem DeR.zero {s : SC} {z : ZN} {c : CN} {d : Int} (h : DeR s z c d 0) : s.ok = true ∧ z.ok = true ∧ c.ok = true ∧ 0 ≤ d ∧ d ≤ 73048 ∧ dealB s c d = true := by
  rcases h with ⟨he, hn⟩ | ⟨he, hd, h⟩ | ⟨he, hd, hv, h⟩ | ⟨he, hd, hv, h⟩
  · exact absurd rfl hn
  · cases h
  · cases h
  · obtain ⟨a1, a2, a3⟩ := aErr_zero he
    obtain ⟨d0, d1⟩ := (dayB_iff d).1 hd
    exact ⟨a1, a2, a3, d0, d1, hv⟩
set_option maxRecDepth 100000 in
theorem rDeadline_is {w : World} {s : SC} {z : ZN} {zA : Option Addr} {c : CN} {cA : Option Addr} {d v e : Int} (hr : DlnR s z c d v e) (zc cc : Nat) (hz : ZAt w z zA) (hc : CAt w c cA) :
    Calls Tryz.prog 20 #[.agg #[.int .i64 s.period, .int .i64 s.nth, .int .i64 s.notice, .int .i64 s.settle, .int .i64 s.cutoff], .agg #[.string z.name, .int .i64 z.off, .slice zA z.cs.length zc, .string c.name, .bool c.w0, .bool c.w1, .bool c.w2, .bool c.w3, .bool c.w4, .bool c.w5, .bool c.w6, .slice cA c.hs.length cc], .int .i64 d] w (RetB (.tuple #[.int .i64 v, .int .i64 e]) w) := by
  have hA := ABx.new (s := s) (zc := zc) (cc := cc) hz hc
  clear hz hc
  rcases hr with ⟨hr, hn, rfl⟩ | ⟨hr, hr2⟩
  · have g1 : (e != 0) = true := by rw [bne_iff_ne]; exact hn
    have HE := Lib.hid (rdealing_is hr zc cc hA.za hA.ca)
    clear hr hn
    go_enter Tryz.func20, Tryz.ntmps20
    go_wp2_with fail
    refine HE.out.mono ?_
    rintro e' w1 ⟨rfl, hb⟩
    go_wp2_with fail
    go_ret2
    exact ⟨rfl, bnext hA.below hb⟩
  · obtain ⟨h1, h2, h3, d0, d1, -⟩ := hr.zero
    have HE := Lib.hid (rdealing_is hr zc cc hA.za hA.ca)
    clear hr
    go_enter Tryz.func20, Tryz.ntmps20
    go_wp2_with fail
    refine HE.out.mono ?_
    rintro e' w1 ⟨rfl, hb⟩
    have hA1 := hA.next hb
    obtain ⟨u0, u1, u2, u3, u4⟩ := hA1.qs
    obtain ⟨q0, q1, q2, q3, q4, q5, q6, q7, q8, q9, q10, q11⟩ := hA1.qp
    clear hA hb HE
    go_wp2_with fail
    refine (rdl_is hr2 zc cc hA1.za hA1.ca h1 h2 h3 d0 d1).mono ?_
    rintro e' w2 ⟨rfl, hb2⟩
    clear u0 u1 u2 u3 u4 q0 q1 q2 q3 q4 q5 q6 q7 q8 q9 q10 q11
    go_wp2_with fail
    go_ret2
    exact ⟨rfl, bnext hA1.below hb2⟩
/-- What Settles returns. -/
def SetR (s : SC) (z : ZN) (c : CN) (d v e : Int) : Prop := (DeR s z c d e ∧ e ≠ 0 ∧ v = 0) ∨ (DeR s z c d 0 ∧ ((stepUp (biz c) s.settle.toNat d = none ∧ v = 0 ∧ e = 81) ∨ (stepUp (biz c) s.settle.toNat d = some v ∧ e = 0)))
theorem set_ex (s : SC) (z : ZN) (c : CN) (d : Int) : ∃ v e, SetR s z c d v e := by
  obtain ⟨e, he⟩ := de_ex s z c d
  by_cases h0 : e = 0
  · subst h0
    cases h : stepUp (biz c) s.settle.toNat d with
    | none => exact ⟨0, 81, .inr ⟨he, .inl ⟨h, rfl, rfl⟩⟩⟩
    | some v => exact ⟨v, 0, .inr ⟨he, .inr ⟨h, rfl⟩⟩⟩
  · exact ⟨0, e, .inl ⟨he, h0, rfl⟩⟩
theorem AddP_of {o : Option Int} {v e : Int} {w w' : World} {en : Ending} (h : AddP o w en w') (hr : (o = none ∧ v = 0 ∧ e = 81) ∨ (o = some v ∧ e = 0)) : RetB (.tuple #[.int .i64 v, .int .i64 e]) w en w' := by
  rcases hr with ⟨rfl, rfl, rfl⟩ | ⟨rfl, rfl⟩
  · exact h
  · exact h
end
end Go.Proofs.YtbfllcfjgpkpaaaGreat
