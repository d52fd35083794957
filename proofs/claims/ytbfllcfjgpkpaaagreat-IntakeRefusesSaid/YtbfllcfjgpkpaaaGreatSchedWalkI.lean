/-
  The walks of schedules: the first dealing day whose deadline is not before an instant.
  The walks of schedules: the first dealing day whose deadline is not before an instant; the program's search. Structs are moved whole.
  The walks of schedules: deadlines and settlement of dealing days.
-/
import Derived.Test.YtbfllcfjgpkpaaaGreatSchedRef
import Derived.Test.YtbfllcfjgpkpaaaGreatSchedPlain2
namespace Go.Proofs.YtbfllcfjgpkpaaaGreat
section
open Go.RowKit
set_option maxHeartbeats 8000000
set_option linter.unusedVariables false
set_option maxRecDepth 100000 in
theorem rFor_lo {w : World} {s : SC} {z : ZN} {zA : Option Addr} {c : CN} {cA : Option Addr} {t : Int} (zc cc : Nat) (hz : ZAt w z zA) (hc : CAt w c cA) (h1 : s.ok = true) (h2 : z.ok = true) (h3 : c.ok = true) (ht : t < 0) :
    Calls Tryz.prog 19 #[.agg #[.int .i64 s.period, .int .i64 s.nth, .int .i64 s.notice, .int .i64 s.settle, .int .i64 s.cutoff], .agg #[.string z.name, .int .i64 z.off, .slice zA z.cs.length zc, .string c.name, .bool c.w0, .bool c.w1, .bool c.w2, .bool c.w3, .bool c.w4, .bool c.w5, .bool c.w6, .slice cA c.hs.length cc], .int .i64 t] w (RetB (.tuple #[.int .i64 0, .int .i64 71]) w) := by
  have HE := Lib.hid (aErr_ok h1 h2 h3)
  have hA := ABx.new (s := s) (zc := zc) (cc := cc) hz hc
  clear hz hc
  go_enter Tryz.func19, Tryz.ntmps19
  go_wp2_with fail
  refine (r9chk_is HE.out zc cc hA.za hA.ca).mono ?_
  rintro e' w1 ⟨rfl, hb⟩
  go_wp2_with fail
  go_ret2
  exact ⟨rfl, bnext hA.below hb⟩
set_option maxRecDepth 100000 in
theorem rFor_hi {w : World} {s : SC} {z : ZN} {zA : Option Addr} {c : CN} {cA : Option Addr} {t : Int} (zc cc : Nat) (hz : ZAt w z zA) (hc : CAt w c cA) (h1 : s.ok = true) (h2 : z.ok = true) (h3 : c.ok = true) (ht : 105190559 < t) (ht0 : 0 ≤ t) :
    Calls Tryz.prog 19 #[.agg #[.int .i64 s.period, .int .i64 s.nth, .int .i64 s.notice, .int .i64 s.settle, .int .i64 s.cutoff], .agg #[.string z.name, .int .i64 z.off, .slice zA z.cs.length zc, .string c.name, .bool c.w0, .bool c.w1, .bool c.w2, .bool c.w3, .bool c.w4, .bool c.w5, .bool c.w6, .slice cA c.hs.length cc], .int .i64 t] w (RetB (.tuple #[.int .i64 0, .int .i64 71]) w) := by
  have HE := Lib.hid (aErr_ok h1 h2 h3)
  have hA := ABx.new (s := s) (zc := zc) (cc := cc) hz hc
  clear hz hc
  go_enter Tryz.func19, Tryz.ntmps19
  go_wp2_with fail
  refine (r9chk_is HE.out zc cc hA.za hA.ca).mono ?_
  rintro e' w1 ⟨rfl, hb⟩
  go_wp2_with fail
  go_ret2
  exact ⟨rfl, bnext hA.below hb⟩
set_option maxRecDepth 100000 in
theorem rFor_is {w : World} {s : SC} {z : ZN} {zA : Option Addr} {c : CN} {cA : Option Addr} {t : Int} {o : Option Int} (ho : fromP (okB s z c t) (max 0 (t / 1440 - 3)) = o) (zc cc : Nat) (hz : ZAt w z zA) (hc : CAt w c cA) (h1 : s.ok = true) (h2 : z.ok = true) (h3 : c.ok = true) (ht0 : 0 ≤ t) (ht1 : t ≤ 105190559) :
    Calls Tryz.prog 19 #[.agg #[.int .i64 s.period, .int .i64 s.nth, .int .i64 s.notice, .int .i64 s.settle, .int .i64 s.cutoff], .agg #[.string z.name, .int .i64 z.off, .slice zA z.cs.length zc, .string c.name, .bool c.w0, .bool c.w1, .bool c.w2, .bool c.w3, .bool c.w4, .bool c.w5, .bool c.w6, .slice cA c.hs.length cc], .int .i64 t] w (AddP o w) := by
  have HE := Lib.hid (aErr_ok h1 h2 h3)
  have HO := Lib.hid ho
  have hA := ABx.new (s := s) (zc := zc) (cc := cc) hz hc
  clear hz hc ho
  go_enter Tryz.func19, Tryz.ntmps19
  go_wp2_with fail
  refine (r9chk_is HE.out zc cc hA.za hA.ca).mono ?_
  rintro e' w1 ⟨rfl, hb⟩
  have hA1 := hA.next hb
  clear hA hb
  go_wp2_with fail
  go_loopw [9] (fun dv wr => ∃ e : Int, 0 ≤ e ∧ e ≤ 73049 ∧ dv = .int .i64 e ∧ fromP (okB s z c t) e = o ∧ ABx w wr s z zA zc c cA cc) (fun dv _ => (73049 - intOf dv).toNat)
  case atStart => exact ⟨max 0 (t / 1440 - 3), by omega, by omega, rfl, HO.out, hA1⟩
  case round =>
    obtain ⟨e, he1, he2, rfl, hf, hA2⟩ := hrel
    clear hA1 HO
    by_cases hlt : e ≤ 73048
    · obtain ⟨u0, u1, u2, u3, u4⟩ := hA2.qs
      obtain ⟨q0, q1, q2, q3, q4, q5, q6, q7, q8, q9, q10, q11⟩ := hA2.qp
      cases hv : dealB s c e
      · have HF : Hid (fromP (okB s z c t) (e + 1) = o) := Lib.hid ((fromP_no hlt (okB_no hv)).symm.trans hf)
        clear hf
        go_wp2_with fail
        refine (rdeals_is hv cA cc _ hA2.ca h1 h3 he1 hlt).mono ?_
        rintro e' w3 ⟨rfl, hb⟩
        clear u0 u1 u2 u3 u4 q0 q1 q2 q3 q4 q5 q6 q7 q8 q9 q10 q11
        go_wp2_with fail
        go_roundw
        case rel => exact ⟨e + 1, by omega, by omega, rfl, HF.out, hA2.next hb⟩
        case measure => simp [intOf]; omega
      · obtain ⟨v, e2, hdl⟩ := dl_ex s z c e
        have HD := Lib.hid hdl
        rcases okB_at (t := t) hv hdl with ⟨g0, g1, g2⟩ | ⟨g0, g1, g2⟩ | ⟨g0, g2⟩
        · subst g0
          have ho : some e = o := (fromP_yes hlt g2).symm.trans hf
          subst ho
          clear hf g2 hdl
          go_wp2_with fail
          refine (rdeals_is hv cA cc _ hA2.ca h1 h3 he1 hlt).mono ?_
          rintro e' w3 ⟨rfl, hb⟩
          have hA3 := hA2.next hb
          clear u0 u1 u2 u3 u4 q0 q1 q2 q3 q4 q5 q6 q7 q8 q9 q10 q11
          obtain ⟨u0, u1, u2, u3, u4⟩ := hA3.qs
          obtain ⟨q0, q1, q2, q3, q4, q5, q6, q7, q8, q9, q10, q11⟩ := hA3.qp
          clear hA2 hb
          go_wp2_with fail
          refine (rdl_is HD.out zc cc hA3.za hA3.ca h1 h2 h3 he1 hlt).mono ?_
          rintro e' w4 ⟨rfl, hb4⟩
          clear u0 u1 u2 u3 u4 q0 q1 q2 q3 q4 q5 q6 q7 q8 q9 q10 q11
          go_wp2_with fail
          go_ret2
          exact ⟨rfl, bnext hA3.below hb4⟩
        · subst g0
          have HF : Hid (fromP (okB s z c t) (e + 1) = o) := Lib.hid ((fromP_no hlt g2).symm.trans hf)
          clear hf g2 hdl
          go_wp2_with fail
          refine (rdeals_is hv cA cc _ hA2.ca h1 h3 he1 hlt).mono ?_
          rintro e' w3 ⟨rfl, hb⟩
          have hA3 := hA2.next hb
          clear u0 u1 u2 u3 u4 q0 q1 q2 q3 q4 q5 q6 q7 q8 q9 q10 q11
          obtain ⟨u0, u1, u2, u3, u4⟩ := hA3.qs
          obtain ⟨q0, q1, q2, q3, q4, q5, q6, q7, q8, q9, q10, q11⟩ := hA3.qp
          clear hA2 hb
          go_wp2_with fail
          refine (rdl_is HD.out zc cc hA3.za hA3.ca h1 h2 h3 he1 hlt).mono ?_
          rintro e' w4 ⟨rfl, hb4⟩
          clear u0 u1 u2 u3 u4 q0 q1 q2 q3 q4 q5 q6 q7 q8 q9 q10 q11
          go_wp2_with fail
          go_roundw
          case rel => exact ⟨e + 1, by omega, by omega, rfl, HF.out, hA3.next hb4⟩
          case measure => simp [intOf]; omega
        · have HF : Hid (fromP (okB s z c t) (e + 1) = o) := Lib.hid ((fromP_no hlt g2).symm.trans hf)
          have g1 : (e2 == 0) = false := by rw [beq_eq_false_iff_ne]; exact g0
          clear hf g2 hdl g0
          go_wp2_with fail
          refine (rdeals_is hv cA cc _ hA2.ca h1 h3 he1 hlt).mono ?_
          rintro e' w3 ⟨rfl, hb⟩
          have hA3 := hA2.next hb
          clear u0 u1 u2 u3 u4 q0 q1 q2 q3 q4 q5 q6 q7 q8 q9 q10 q11
          obtain ⟨u0, u1, u2, u3, u4⟩ := hA3.qs
          obtain ⟨q0, q1, q2, q3, q4, q5, q6, q7, q8, q9, q10, q11⟩ := hA3.qp
          clear hA2 hb
          go_wp2_with fail
          refine (rdl_is HD.out zc cc hA3.za hA3.ca h1 h2 h3 he1 hlt).mono ?_
          rintro e' w4 ⟨rfl, hb4⟩
          clear u0 u1 u2 u3 u4 q0 q1 q2 q3 q4 q5 q6 q7 q8 q9 q10 q11
          go_wp2_with fail
          go_roundw
          case rel => exact ⟨e + 1, by omega, by omega, rfl, HF.out, hA3.next hb4⟩
          case measure => simp [intOf]; omega
    · have ho : none = o := (fromP_out (by omega)).symm.trans hf
      subst ho
      clear hf
      go_wp2_with fail
      go_ret2
      exact ⟨rfl, hA2.below⟩
end
section
open Go.RowKit
set_option maxHeartbeats 8000000
set_option linter.unusedVariables false
/-- The measure of the search. -/
def okm (dv kv : Value) : Nat := match kv with | .bool true => (73050 - intOf dv).toNat | _ => 0
theorem okm_t (e : Int) : okm (.int .i64 e) (.bool true) = (73050 - e).toNat := rfl
theorem okm_f (e : Int) : okm (.int .i64 e) (.bool false) = 0 := rfl
set_option maxRecDepth 100000 in
theorem sFor_is {w : World} {s : SC} {z : ZN} {zA : Option Addr} {c : CN} {cA : Option Addr} {t : Int} {o : Option Int} (ho : fromP (okB s z c t) (max 0 (t / 1440 - 2)) = o) (zc cc : Nat) (hz : ZAt w z zA) (hc : CAt w c cA) (h1 : s.ok = true) (h2 : z.ok = true) (h3 : c.ok = true) (ht0 : 0 ≤ t) (ht1 : t ≤ 105190559) :
    Calls Tryz.prog 101 #[.agg (sV s), .agg (pV z zA zc c cA cc), .int .i64 t] w (AddP o w) := by
  have HO := Lib.hid ho
  have hB := Bx2.new (s := s) zc cc hz hc
  have HE : Hid (Calls Tryz.prog 113 #[.agg (sV s), .agg (pV z zA zc c cA cc)] _ (AtV s z zA zc c _)) := Lib.hid (at_okV zc cc hB.za hB.ca h1 h2 h3)
  clear ho hz hc
  go_enter Tryz.func101, Tryz.ntmps101
  go_wp2_with (first | ((with_reducible refine wpl_load rfl 28 _ rfl _ ?_ hB.sb (rowS _) ?_); exact rfl) | ((with_reducible refine wpl_load rfl 37 _ rfl _ ?_ hB.pb (rowP ..) ?_); exact rfl))
  refine HE.out.mono ?_
  rintro e' w1 ⟨b, rfl, hst, hb⟩
  have hD := BlkAt.new w1 (dV s z zA zc c b) 147
  have hb2 := bal (bnext hB.below hb) (.cells (dV s z zA zc c b) 147)
  have hst1 := hst.next (bal0 w1 (.cells (dV s z zA zc c b) 147))
  clear HE hB hb hst
  go_wp2_with (first | ((with_reducible refine wpl_store_new rfl 147 _ _ rfl (dV s z zA zc c b) ?_ ?_ (rowDV ..) ?_ ?_); exact rfl; exact rfl; exact rfl) | ((with_reducible refine wpl_load rfl 147 _ rfl _ ?_ hD (rowDV ..) ?_); exact rfl))
  obtain ⟨B, hB⟩ : ∃ B, B = w1.heap.size := ⟨_, rfl⟩
  rw [← hB] at hD ⊢
  cases hn : fromP (dealB s c) (max 0 (t / 1440 - 2)) with
  | none =>
    have ho : none = o := (skip_none (fun d hd => okB_deal hd) hn).symm.trans HO.out
    subst ho
    refine (deskNextN hn zc hst1 h1 (by omega) (by omega)).mono ?_
    rintro e2 w2 ⟨rfl, hb3⟩
    clear hB
    go_wp2_with fail
    refine wp_loop_rounds 1 ?_
    rw [rounds_succ]
    go_wp2_with fail
    go_ret2
    exact ⟨rfl, bnext hb2 hb3⟩
  | some r0 =>
    have ho0 : fromP (okB s z c t) r0 = o := (skip_some (fun d hd => okB_deal hd) hn).symm.trans HO.out
    have hr0 := fromP_spec hn
    refine (deskNextS hn zc hst1 h1 (by omega) (by omega)).mono ?_
    rintro e2 w2 ⟨rfl, hb3⟩
    have hst2 := hst1.next hb3
    have hx2 := hD.next hb3
    have hbe2 := bnext hb2 hb3
    have HO0 := Lib.hid ho0
    have HR0 := Lib.hid hr0
    clear hst1 hD hb2 hb3 ho0 hn hr0 HO hB
    go_wp2_with fail
    go_loopw [10, 11] (fun dv kv wr => BlkAt wr B (dV s z zA zc c b) 147 ∧ DSt wr z zA c b ∧ Below w.heap.size w wr ∧
      ((∃ e : Int, 0 ≤ e ∧ e ≤ 73048 ∧ dv = .int .i64 e ∧ kv = .bool true ∧ dealB s c e = true ∧ fromP (okB s z c t) e = o) ∨ (dv = .int .i64 0 ∧ kv = .bool false ∧ o = none))) (fun dv kv _ => okm dv kv)
    case atStart => exact ⟨hx2, hst2, hbe2, .inl ⟨r0, by have := HR0.out; omega, HR0.out.2.1, rfl, rfl, HR0.out.2.2.1, HO0.out⟩⟩
    case round =>
      obtain ⟨hx, hs, hbe, ⟨e, he1, he2, rfl, rfl, hv, hf⟩ | ⟨rfl, rfl, ho⟩⟩ := hrel
      · clear hx2 hst2 hbe2 HO0 HR0
        obtain ⟨v, e2, hdl⟩ := dl_ex s z c e
        have HD := Lib.hid hdl
        rcases okB_at (t := t) hv hdl with ⟨g0, g1, g2⟩ | ⟨g0, g1, g2⟩ | ⟨g0, g2⟩
        · subst g0
          have ho : some e = o := (fromP_yes he2 g2).symm.trans hf
          subst ho
          clear hf g2 hdl hv
          go_wp2_with ((with_reducible refine wpl_load rfl 147 _ rfl _ ?_ hx (rowDV ..) ?_); exact rfl)
          refine (deskDlV HD.out zc hs h1 h2 he1 he2).mono ?_
          rintro e' w4 ⟨rfl, hb4⟩
          go_wp2_with fail
          go_ret2
          exact ⟨rfl, bnext hbe hb4⟩
        · subst g0
          have hf2 := (fromP_no he2 g2).symm.trans hf
          clear hf g2 hdl hv
          cases hn : fromP (dealB s c) (e + 1) with
          | none =>
            have ho : none = o := (skip_none (fun d hd => okB_deal hd) hn).symm.trans hf2
            clear hf2
            subst ho
            have HN := Lib.hid hn
            clear hn
            go_wp2_with ((with_reducible refine wpl_load rfl 147 _ rfl _ ?_ hx (rowDV ..) ?_); exact rfl)
            refine (deskDlV HD.out zc hs h1 h2 he1 he2).mono ?_
            rintro e' w4 ⟨rfl, hb4⟩
            have hx4 := hx.next hb4
            go_wp2_with ((with_reducible refine wpl_load rfl 147 _ rfl _ ?_ hx4 (rowDV ..) ?_); exact rfl)
            refine (deskNextN HN.out zc (hs.next hb4) h1 (by omega) (by omega)).mono ?_
            rintro e' w5 ⟨rfl, hb5⟩
            go_wp2_with fail
            go_roundw
            case rel => exact ⟨hx4.next hb5, (hs.next hb4).next hb5, bnext (bnext hbe hb4) hb5, .inr ⟨rfl, rfl, by first | rfl | trivial⟩⟩
            case measure => show okm (.int .i64 0) (.bool false) < okm (.int .i64 e) (.bool true); rw [okm_t, okm_f]; omega
          | some r =>
            have hr := fromP_spec hn
            have hf3 := (skip_some (fun d hd => okB_deal hd) hn).symm.trans hf2
            have HN := Lib.hid hn
            have HF := Lib.hid hf3
            have HR := Lib.hid hr
            clear hn hf2 hf3 hr
            go_wp2_with ((with_reducible refine wpl_load rfl 147 _ rfl _ ?_ hx (rowDV ..) ?_); exact rfl)
            refine (deskDlV HD.out zc hs h1 h2 he1 he2).mono ?_
            rintro e' w4 ⟨rfl, hb4⟩
            have hx4 := hx.next hb4
            go_wp2_with ((with_reducible refine wpl_load rfl 147 _ rfl _ ?_ hx4 (rowDV ..) ?_); exact rfl)
            refine (deskNextS HN.out zc (hs.next hb4) h1 (by omega) (by omega)).mono ?_
            rintro e' w5 ⟨rfl, hb5⟩
            go_wp2_with fail
            go_roundw
            case rel => exact ⟨hx4.next hb5, (hs.next hb4).next hb5, bnext (bnext hbe hb4) hb5, .inl ⟨r, by have := HR.out; omega, HR.out.2.1, rfl, rfl, HR.out.2.2.1, HF.out⟩⟩
            case measure => show okm (.int .i64 r) (.bool true) < okm (.int .i64 e) (.bool true); rw [okm_t, okm_t]; have := HR.out; omega
        · have g1 : (e2 == 0) = false := by rw [beq_eq_false_iff_ne]; exact g0
          have hf2 := (fromP_no he2 g2).symm.trans hf
          clear hf g2 hdl hv g0
          cases hn : fromP (dealB s c) (e + 1) with
          | none =>
            have ho : none = o := (skip_none (fun d hd => okB_deal hd) hn).symm.trans hf2
            clear hf2
            subst ho
            have HN := Lib.hid hn
            clear hn
            go_wp2_with ((with_reducible refine wpl_load rfl 147 _ rfl _ ?_ hx (rowDV ..) ?_); exact rfl)
            refine (deskDlV HD.out zc hs h1 h2 he1 he2).mono ?_
            rintro e' w4 ⟨rfl, hb4⟩
            have hx4 := hx.next hb4
            go_wp2_with ((with_reducible refine wpl_load rfl 147 _ rfl _ ?_ hx4 (rowDV ..) ?_); exact rfl)
            refine (deskNextN HN.out zc (hs.next hb4) h1 (by omega) (by omega)).mono ?_
            rintro e' w5 ⟨rfl, hb5⟩
            go_wp2_with fail
            go_roundw
            case rel => exact ⟨hx4.next hb5, (hs.next hb4).next hb5, bnext (bnext hbe hb4) hb5, .inr ⟨rfl, rfl, by first | rfl | trivial⟩⟩
            case measure => show okm (.int .i64 0) (.bool false) < okm (.int .i64 e) (.bool true); rw [okm_t, okm_f]; omega
          | some r =>
            have hr := fromP_spec hn
            have hf3 := (skip_some (fun d hd => okB_deal hd) hn).symm.trans hf2
            have HN := Lib.hid hn
            have HF := Lib.hid hf3
            have HR := Lib.hid hr
            clear hn hf2 hf3 hr
            go_wp2_with ((with_reducible refine wpl_load rfl 147 _ rfl _ ?_ hx (rowDV ..) ?_); exact rfl)
            refine (deskDlV HD.out zc hs h1 h2 he1 he2).mono ?_
            rintro e' w4 ⟨rfl, hb4⟩
            have hx4 := hx.next hb4
            go_wp2_with ((with_reducible refine wpl_load rfl 147 _ rfl _ ?_ hx4 (rowDV ..) ?_); exact rfl)
            refine (deskNextS HN.out zc (hs.next hb4) h1 (by omega) (by omega)).mono ?_
            rintro e' w5 ⟨rfl, hb5⟩
            go_wp2_with fail
            go_roundw
            case rel => exact ⟨hx4.next hb5, (hs.next hb4).next hb5, bnext (bnext hbe hb4) hb5, .inl ⟨r, by have := HR.out; omega, HR.out.2.1, rfl, rfl, HR.out.2.2.1, HF.out⟩⟩
            case measure => show okm (.int .i64 r) (.bool true) < okm (.int .i64 e) (.bool true); rw [okm_t, okm_t]; have := HR.out; omega
      · subst ho
        go_wp2_with fail
        go_ret2
        exact ⟨rfl, hbe⟩
end
section
open Go.RowKit
set_option maxHeartbeats 8000000
set_option linter.unusedVariables false
theorem dealing_err {w : World} {s : SC} {z : ZN} {zA : Option Addr} {c : CN} {cA : Option Addr} {d e : Int} (zc cc : Nat) (hz : ZAt w z zA) (hc : CAt w c cA) (hr : DeR s z c d e) (hn : e ≠ 0) :
    Calls Tryz.prog 99 #[.agg (sV s), .agg (pV z zA zc c cA cc), .int .i64 d] w (RetB (.tuple #[.agg d0V, .int .i64 e]) w) := by
  rcases hr with ⟨he, hn⟩ | ⟨he, hd, rfl⟩ | ⟨he, hd, hv, rfl⟩ | ⟨he, hd, hv, rfl⟩
  · exact dealing_bad zc cc hz hc he hn
  · obtain ⟨h1, h2, h3⟩ := aErr_zero he
    exact dealing_day zc cc hz hc h1 h2 h3 hd
  · obtain ⟨h1, h2, h3⟩ := aErr_zero he
    obtain ⟨d0, d1⟩ := (dayB_iff d).1 hd
    exact dealing_not zc cc hz hc h1 h2 h3 d0 d1 hv
  · exact absurd rfl hn
theorem stepUp_someN {c : CN} {b : Nat} {x d r : Int} (hx0 : 0 ≤ x) (hx : x ≤ 1000) (ho : stepUp (biz c) x.toNat d = some r) (hd : 0 ≤ d) (hd2 : d ≤ 73048) (w : World) (h : HolAt w c b) :
    Calls Tryz.prog 116 #[.agg #[.bool c.w0, .bool c.w1, .bool c.w2, .bool c.w3, .bool c.w4, .bool c.w5, .bool c.w6, .map (some b)], .int .i64 d, .int .i64 x] w (RetB (.tuple #[.int .i64 r, .bool true]) w) := by
  have := stepUp_some ho (by omega) hd hd2 w h
  rw [show ((x.toNat : Nat) : Int) = x by omega] at this
  exact this
theorem stepUp_noneN {c : CN} {b : Nat} {x d : Int} (hx0 : 0 ≤ x) (hx : x ≤ 1000) (ho : stepUp (biz c) x.toNat d = none) (hd : 0 ≤ d) (hd2 : d ≤ 73048) (w : World) (h : HolAt w c b) :
    Calls Tryz.prog 116 #[.agg #[.bool c.w0, .bool c.w1, .bool c.w2, .bool c.w3, .bool c.w4, .bool c.w5, .bool c.w6, .map (some b)], .int .i64 d, .int .i64 x] w (RetB (.tuple #[.int .i64 0, .bool false]) w) := by
  have := stepUp_none ho (by omega) hd hd2 w h
  rw [show ((x.toNat : Nat) : Int) = x by omega] at this
  exact this
set_option maxRecDepth 100000 in
theorem sDeadline_err {w : World} {s : SC} {z : ZN} {zA : Option Addr} {c : CN} {cA : Option Addr} {d e : Int} (zc cc : Nat) (hz : ZAt w z zA) (hc : CAt w c cA) (hr : DeR s z c d e) (hn : e ≠ 0) :
    Calls Tryz.prog 73 #[.agg (sV s), .agg (pV z zA zc c cA cc), .int .i64 d] w (RetB (.tuple #[.int .i64 0, .int .i64 e]) w) := by
  have hB := Bx2.new (s := s) zc cc hz hc
  have HE := Lib.hid (dealing_err zc cc hB.za hB.ca hr hn)
  have g1 : (e != 0) = true := by rw [bne_iff_ne]; exact hn
  clear hr hn hz hc
  go_enter Tryz.func73, Tryz.ntmps73
  go_wp2_with (first | ((with_reducible refine wpl_load rfl 28 _ rfl _ ?_ hB.sb (rowS _) ?_); exact rfl) | ((with_reducible refine wpl_load rfl 37 _ rfl _ ?_ hB.pb (rowP ..) ?_); exact rfl))
  refine HE.out.mono ?_
  rintro e' w1 ⟨rfl, hb⟩
  go_wp2_with ((with_reducible refine wpl_store_new rfl 147 _ _ rfl d0V ?_ ?_ rowD0 ?_ ?_); exact rfl; exact rfl; exact rfl)
  go_ret2
  exact ⟨rfl, bal (bnext hB.below hb) _⟩
set_option maxRecDepth 100000 in
theorem sDeadline_is {w : World} {s : SC} {z : ZN} {zA : Option Addr} {c : CN} {cA : Option Addr} {d v e : Int} (hr : DlnR s z c d v e) (zc cc : Nat) (hz : ZAt w z zA) (hc : CAt w c cA) :
    Calls Tryz.prog 73 #[.agg (sV s), .agg (pV z zA zc c cA cc), .int .i64 d] w (RetB (.tuple #[.int .i64 v, .int .i64 e]) w) := by
  rcases hr with ⟨hr, hn, rfl⟩ | ⟨hr, hr2⟩
  · exact sDeadline_err zc cc hz hc hr hn
  · obtain ⟨h1, h2, h3, dd0, dd1, hv⟩ := hr.zero
    have hB := Bx2.new (s := s) zc cc hz hc
    have HE := Lib.hid (dealing_ok zc cc hB.za hB.ca h1 h2 h3 dd0 dd1 hv)
    obtain ⟨n1, n2, n3, n4, -, -⟩ := SC.ok_ranges h1
    clear hr hv hz hc
    go_enter Tryz.func73, Tryz.ntmps73
    go_wp2_with (first | ((with_reducible refine wpl_load rfl 28 _ rfl _ ?_ hB.sb (rowS _) ?_); exact rfl) | ((with_reducible refine wpl_load rfl 37 _ rfl _ ?_ hB.pb (rowP ..) ?_); exact rfl))
    refine HE.out.mono ?_
    rintro e' w1 ⟨b, rfl, hst, hb⟩
    have hD := BlkAt.new w1 (dV s z zA zc c b) 147
    have hst1 := hst.next (bal0 w1 (.cells (dV s z zA zc c b) 147))
    have hb2 := bal (bnext hB.below hb) (.cells (dV s z zA zc c b) 147)
    clear HE hst hb hB
    go_wp2_with (first | ((with_reducible refine wpl_store_new rfl 147 _ _ rfl (dV s z zA zc c b) ?_ ?_ (rowDV ..) ?_ ?_); exact rfl; exact rfl; exact rfl) | ((with_reducible refine wpl_load rfl 147 _ rfl _ ?_ hD (rowDV ..) ?_); exact rfl))
    refine (deskDlV hr2 zc hst1 h1 h2 dd0 dd1).mono ?_
    rintro e' w4 ⟨rfl, hb4⟩
    go_wp2_with fail
    go_ret2
    exact ⟨rfl, bnext hb2 hb4⟩
end
end Go.Proofs.YtbfllcfjgpkpaaaGreat
