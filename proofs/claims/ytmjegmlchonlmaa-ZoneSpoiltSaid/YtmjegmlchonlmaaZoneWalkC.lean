/-
  The walks of the document's zone functions, and of the program's Local.
-/
import Derived.Test.YtmjegmlchonlmaaZoneWalkB
namespace Go.Proofs.Ytmjegmlchonlmaa
open Go.RowKit

set_option maxHeartbeats 400000 in
theorem offset_any (z : ZN) (A : Option Addr) (c : Nat) (t : Int) (w : World) (hz : ZAt w z A) :
    Calls Try.prog 83 #[.agg #[.string z.name, .int .i64 z.off, .slice A z.cs.length c], .int .i64 t] w (RetB (.int .i64 (offAt z.off z.cs t)) w) := by
  have hn := hz.ln
  unfold maxLen at hn
  go_enter Try.func83, Try.ntmps83
  go_wp2
  go_loopw [5, 6] (fun o i wr => ∃ (k : Nat) (off : Int), k ≤ z.cs.length ∧ i = .int .i64 k ∧ o = .int .i64 off ∧ offAt z.off z.cs t = offAt off (z.cs.drop k) t ∧ wr = w.alloc (.cells #[.string z.name, .int .i64 z.off, .slice A z.cs.length c] 24)) (fun _ i _ => z.cs.length - (intOf i).toNat)
  case atStart => exact ⟨0, z.off, by omega, rfl, rfl, rfl, rfl⟩
  case round =>
    obtain ⟨k, off, hk, rfl, rfl, hE, rfl⟩ := hrel
    have HE := Lib.hid hE
    clear hE
    by_cases hlt : k < z.cs.length
    · obtain ⟨b, o, x1, x2, rfl, hb, g1, g2, hd, -⟩ := hz.at_ (Below.refl _ _) k hlt
      have HD := Lib.hid hd
      clear hd hz
      by_cases hx : x1 ≤ t
      · go_wp2
        go_roundw
        case rel => exact ⟨k + 1, x2, by omega, by go_num, rfl, by rw [HE.out, HD.out, offAt_cons, if_pos hx], trivial⟩
        case measure => simp [intOf]; omega
      · go_wp2
        go_ret
        refine ⟨ret_int ?_, (Below.refl _ _).alloc (Nat.le_refl _) _⟩
        rw [HE.out, HD.out, offAt_cons, if_neg (by omega)]
    · go_wp2
      go_ret
      refine ⟨ret_int ?_, (Below.refl _ _).alloc (Nat.le_refl _) _⟩
      rw [HE.out, List.drop_of_length_le (by omega)]
      rfl

theorem refOffsetAt_any (z : ZN) (A : Option Addr) (c : Nat) (t : Int) (w : World) (hz : ZAt w z A) :
    Calls Try.prog 25 #[.agg #[.string z.name, .int .i64 z.off, .slice A z.cs.length c], .int .i64 t] w (RetB (.tuple #[.int .i64 (z.offsetV t), .int .i64 (z.offsetE t)]) w) := by
  have hz1 : ZAt (w.alloc (.cells #[.string z.name, .int .i64 z.off, .slice A z.cs.length c] 24)) z A := hz.below ((Below.refl _ _).alloc (Nat.le_refl _) _)
  have hw1 : Below w.heap.size w (w.alloc (.cells #[.string z.name, .int .i64 z.off, .slice A z.cs.length c] 24)) := (Below.refl _ _).alloc (Nat.le_refl _) _
  cases ho : z.ok
  · obtain ⟨e1, e2⟩ := ZN.offset_bad ho t
    rw [e1, e2]
    clear e1 e2
    go_enter Try.func25, Try.ntmps25
    go_wp2_with (first | (go_at_call 32; refine (refCheck_is (ZN.err_of_bad ho) A c _ hz1).mono ?_; rintro e w' ⟨rfl, hb⟩))
    go_ret2
    exact ⟨rfl, bnext hw1 hb⟩
  · cases hi : instB t
    · obtain ⟨e1, e2⟩ := ZN.offset_inst ho hi
      rw [e1, e2]
      clear e1 e2
      go_enter Try.func25, Try.ntmps25
      go_wp2_with (first | (go_at_call 32; refine (refCheck_is (ZN.err_of_ok ho) A c _ hz1).mono ?_; rintro e w' ⟨rfl, hb⟩) | (go_at_call 82; refine (instantOK_is hi _).mono ?_; rintro e w' ⟨rfl, rfl⟩))
      go_ret2
      exact ⟨rfl, bnext hw1 hb⟩
    · obtain ⟨e1, e2⟩ := ZN.offset_good ho hi
      rw [e1, e2]
      clear e1 e2
      go_enter Try.func25, Try.ntmps25
      go_wp2_with (first | (go_at_call 32; refine (refCheck_is (ZN.err_of_ok ho) A c _ hz1).mono ?_; rintro e w' ⟨rfl, hb⟩; have hc := bcell hb; simp at hc; have hz2 := Lib.hid (hz1.below hb)) | (go_at_call 82; refine (instantOK_is hi _).mono ?_; rintro e w' ⟨rfl, rfl⟩) | (go_at_call 83; refine (offset_any z A c t _ hz2.out).mono ?_; rintro e w'' ⟨rfl, hb2⟩))
      go_ret2
      exact ⟨rfl, bnext (bnext hw1 hb) hb2⟩

theorem refLocal_any (z : ZN) (A : Option Addr) (c : Nat) (t : Int) (w : World) (hz : ZAt w z A) :
    Calls Try.prog 27 #[.agg #[.string z.name, .int .i64 z.off, .slice A z.cs.length c], .int .i64 t] w (RetB (.tuple #[.int .i64 (z.localD t), .int .i64 (z.localM t), .int .i64 (z.localE t)]) w) := by
  have hz1 : ZAt (w.alloc (.cells #[.string z.name, .int .i64 z.off, .slice A z.cs.length c] 24)) z A := hz.below (bal0 _ _)
  have hw1 : Below w.heap.size w (w.alloc (.cells #[.string z.name, .int .i64 z.off, .slice A z.cs.length c] 24)) := bal0 _ _
  have hof := refOffsetAt_any z A c t _ hz1
  cases ho : z.ok
  · obtain ⟨f1, f2⟩ := ZN.offset_bad ho t
    obtain ⟨e1, e2, e3⟩ := ZN.local_err (z := z) (t := t) (by rw [f2]; decide)
    rw [e1, e2, e3, f2]
    rw [f1, f2] at hof
    clear e1 e2 e3 f1 f2
    have HOF := Lib.hid hof
    clear hof
    go_enter Try.func27, Try.ntmps27
    go_wp2_with (go_at_call 25; refine HOF.out.mono ?_; rintro e w' ⟨rfl, hb⟩)
    go_ret3
    exact ⟨rfl, bnext hw1 hb⟩
  · cases hi : instB t
    · obtain ⟨f1, f2⟩ := ZN.offset_inst ho hi
      obtain ⟨e1, e2, e3⟩ := ZN.local_err (z := z) (t := t) (by rw [f2]; decide)
      rw [e1, e2, e3, f2]
      rw [f1, f2] at hof
      clear e1 e2 e3 f1 f2
      have HOF := Lib.hid hof
      clear hof
      go_enter Try.func27, Try.ntmps27
      go_wp2_with (go_at_call 25; refine HOF.out.mono ?_; rintro e w' ⟨rfl, hb⟩)
      go_ret3
      exact ⟨rfl, bnext hw1 hb⟩
    · obtain ⟨f1, f2⟩ := ZN.offset_good ho hi
      rw [f1, f2] at hof
      have hbd := ZN.offset_bd ho t
      rw [instB_iff] at hi
      have hN : z.locN t = t + offAt z.off z.cs t := rfl
      generalize offAt z.off z.cs t = k at hof hbd hN
      have HOF := Lib.hid hof
      obtain ⟨h1, h2⟩ := hi
      obtain ⟨h3, h4⟩ := hbd
      clear hof f1
      cases hd : instB (z.locN t)
      · obtain ⟨e1, e2, e3⟩ := ZN.local_day f2 hd
        rw [e1, e2, e3]
        clear e1 e2 e3 f2
        have hdd : ¬ (0 ≤ t + k) ∨ ¬ (t + k ≤ 105190559) := by rw [← hN]; exact instB_no hd
        clear hN hd ho hz hz1
        rcases hdd with hdd | hdd
        all_goals
          go_enter Try.func27, Try.ntmps27
          go_wp2_with (go_at_call 25; refine HOF.out.mono ?_; rintro e w' ⟨rfl, hb⟩)
          go_ret3
          exact ⟨rfl, bnext hw1 hb⟩
      · obtain ⟨e1, e2, e3⟩ := ZN.local_good f2 hd
        rw [e1, e2, e3]
        clear e1 e2 e3 f2
        rw [instB_iff] at hd
        rw [hN] at hd ⊢
        obtain ⟨h5, h6⟩ := hd
        clear hN ho hz hz1
        go_enter Try.func27, Try.ntmps27
        go_wp2_with (go_at_call 25; refine HOF.out.mono ?_; rintro e w' ⟨rfl, hb⟩)
        go_ret3
        exact ⟨rfl, bnext hw1 hb⟩
end Go.Proofs.Ytmjegmlchonlmaa
