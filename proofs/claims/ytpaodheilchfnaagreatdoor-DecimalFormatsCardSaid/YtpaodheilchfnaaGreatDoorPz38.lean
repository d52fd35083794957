/- What the laws lean on. -/
import Derived.Test.YtpaodheilchfnaaGreatDoorPz11
import Derived.Test.YtpaodheilchfnaaGreatDoorPz13
import Derived.Test.YtpaodheilchfnaaGreatDoorPz23
import Derived.Test.YtpaodheilchfnaaGreatDoorPz25
import Derived.Test.YtpaodheilchfnaaGreatDoorPz30
namespace Go.Proofs.YtpaodheilchfnaaGreatDoor
set_option linter.unusedVariables false
set_option linter.unusedSimpArgs false
section
open Go.RowKit
set_option maxHeartbeats 4000000
theorem dcnt_le (l : List UInt8) : dcnt l ≤ l.length := by
  induction l with
  | nil => exact Nat.le_refl _
  | cons b l ih =>
    unfold dcnt
    rw [List.length_cons]
    split <;> omega
theorem rdigits_any (l : List UInt8) (hl : l.length ≤ 9223372036854775807) {r : Nat} (hr : dcnt l = r) (w : World) : Calls Tryz.prog 109 #[.string (bs l)] w (RetB (.int .i64 r) w) := by
  have HR := Lib.hid hr
  have hs := bs_size l
  clear hr
  go_enter Tryz.func109, Tryz.ntmps109
  go_wp2_with fail
  go_loopw [3] (fun iv wr => ∃ i : Nat, i ≤ l.length ∧ iv = .int .i64 i ∧ (l.take i).all isD = true ∧ Below w.heap.size w wr) (fun iv _ => l.length - (intOf iv).toNat)
  case atStart => exact ⟨0, by omega, rfl, by simp, Below.refl _ _⟩
  case round =>
    obtain ⟨i, hi2, rfl, ha, hbl⟩ := hrel
    have HA := Lib.hid ha
    clear ha
    by_cases hlt : i < l.length
    · obtain ⟨b, hb⟩ : ∃ b, l[i] = b := ⟨_, rfl⟩
      have e0 := bs_at (l := l) (i := i) (by rw [bs_size]; exact hlt) hlt
      obtain ⟨x, hx⟩ : ∃ x : Nat, b.toNat = x := ⟨_, rfl⟩
      have e1 : ((bs l)[i]'(by rw [bs_size]; exact hlt)).toNat = x := (congrArg UInt8.toNat (e0.trans hb)).trans hx
      have HB := Lib.hid (And.intro hb hx)
      clear hb hx e0
      by_cases c1 : (x : Int) < 48
      · have hr : i = r := by
          rw [← HR.out, dcnt_at hlt HA.out (by rw [HB.out.1, isD, HB.out.2, decide_eq_false (by omega), Bool.false_and])]
        subst hr
        have t1 : decide (48 ≤ x) = false := decide_eq_false (by omega)
        have t2 : decide ((48 : Int) ≤ (x : Int)) = false := decide_eq_false (by omega)
        clear hl
        go_wp2_with fail
        go_ret
        exact ⟨rfl, hbl⟩
      have t1 : decide (48 ≤ x) = true := decide_eq_true (by omega)
      have t2 : decide ((48 : Int) ≤ (x : Int)) = true := decide_eq_true (by omega)
      by_cases c2 : (57 : Int) < (x : Int)
      · have hr : i = r := by
          rw [← HR.out, dcnt_at hlt HA.out (by rw [HB.out.1, isD, HB.out.2, decide_eq_false (p := x ≤ 57) (by omega), Bool.and_false])]
        subst hr
        have t3 : decide (x ≤ 57) = false := decide_eq_false (by omega)
        have t4 : decide ((x : Int) ≤ 57) = false := decide_eq_false (by omega)
        clear hl
        go_wp2_with fail
        go_ret
        exact ⟨rfl, hbl⟩
      have t3 : decide (x ≤ 57) = true := decide_eq_true (by omega)
      have t4 : decide ((x : Int) ≤ 57) = true := decide_eq_true (by omega)
      have HN := Lib.hid (show (l.take (i + 1)).all isD = true by
        rw [List.take_succ_eq_append_getElem hlt, List.all_append, HA.out, HB.out.1]
        simp only [List.all_cons, List.all_nil, Bool.and_true, Bool.true_and, isD, HB.out.2]
        rw [decide_eq_true (by omega), decide_eq_true (by omega)]
        rfl)
      go_wp2_with fail
      go_roundw
      case rel => exact ⟨i + 1, by omega, by go_num, HN.out, hbl⟩
      case measure => simp [intOf]; omega
    · obtain rfl : i = l.length := by omega
      have hr : l.length = r := by
        have h := HA.out
        rw [List.take_length] at h
        rw [← HR.out, dcnt_all h]
      subst hr
      go_wp2_with fail
      go_ret
      exact ⟨rfl, hbl⟩
end
section
open Go.RowKit
set_option maxHeartbeats 4000000
theorem idx0 {b : UInt8} {l : List UInt8} (h : 0 < (bs (b :: l)).size) : (bs (b :: l))[0] = b := bs_at (l := b :: l) (i := 0) h (by simp)
set_option maxRecDepth 100000 in
theorem rread_any (s : List UInt8) (p : Int) (minus : Bool) (hp9 : p ≤ 9) (hs : s.length ≤ 9223372036854775807) {r : Int × Int × Bool} (hr : rdR s p minus = r) (w : World) : Calls Tryz.prog 65 #[.string (bs s), .int .i64 p, .bool minus] w (RetB (.tuple #[.agg (RC r.1 r.2.1), .bool r.2.2]) w) := by
  have F := Fr.start w
  have hst : ∃ s1 neg, (rdG s1 p neg = r ∧ s1.length ≤ 9223372036854775807) ∧ ((minus = true ∧ neg = true ∧ s = 45 :: s1) ∨ (neg = false ∧ s1 = s ∧ (minus = true → s.head? ≠ some 45))) := by
    unfold rdR at hr
    by_cases h : minus = true ∧ s.head? = some 45
    · rw [if_pos h] at hr
      refine ⟨s.tail, true, ⟨hr, by rw [List.length_tail]; omega⟩, .inl ⟨h.1, rfl, ?_⟩⟩
      cases s with
      | nil => exact absurd h.2 (by simp)
      | cons c t => rw [List.head?_cons, Option.some.injEq] at h; rw [h.2, List.tail_cons]
    · rw [if_neg h] at hr
      exact ⟨s, false, ⟨hr, hs⟩, .inr ⟨rfl, rfl, fun h1 h2 => h ⟨h1, h2⟩⟩⟩
  obtain ⟨s1, neg, ⟨hr, hs1⟩, hcase⟩ := hst
  have HR := Lib.hid hr
  have HS := Lib.hid (And.intro hs hs1)
  have HC := Lib.hid hcase
  clear hr hs hs1 hcase
  go_enter Tryz.func65, Tryz.ntmps65
  go_wp2_with (first | go_skip | ((with_reducible apply fL F); exact rfl; exact rfl; (exact tL); (exact tR3)) | ((with_reducible apply fA_int F); exact rfl) | ((with_reducible apply fA_rat F); exact rfl) | ((with_reducible apply fS F); exact rfl; exact rfl; exact rfl; (exact tL); (exact tR3); (exact tS2); clear F; intro W F; simp only [z7, z8] at F) | ((with_reducible apply fB_int0); exact rfl) | ((with_reducible apply fB_rat0); exact rfl))
  (clear F; intro b6 W F; try simp only [Act.put, z6, z1, z2])
  go_upto_region 1 with fail
  go_cut [8] from 20 to 30 (fun nv wr => nv = .bool neg ∧ Fr w wr [(b6, RC 0 0, 31)])
  case first =>
    rcases HC.out with ⟨rfl, rfl, hh⟩ | ⟨rfl, rfl, hh⟩
    · subst hh
      have hz := bs_size (45 :: s1)
      have h0 : 0 < (bs (45 :: s1)).size := by rw [hz]; simp
      have e1 := idx0 h0
      clear HC HR HS
      go_wp2_with fail
      go_meet
      exact ⟨rfl, F⟩
    · cases minus with
      | false =>
        clear HC HR HS
        go_wp2_with fail
        go_meet
        exact ⟨rfl, F⟩
      | true =>
        cases s1 with
        | nil =>
          have hz := bs_size []
          clear HC HR HS
          go_wp2_with fail
          go_meet
          exact ⟨rfl, F⟩
        | cons c t =>
          have hz := bs_size (c :: t)
          have h0 : 0 < (bs (c :: t)).size := by rw [hz]; simp
          have e1 := idx0 h0
          have hc : c.toNat ≠ 45 := fun h => hh rfl (by rw [List.head?_cons, show c = 45 from UInt8.toNat_inj.1 h])
          have t1 : ((c.toNat : Int) == 45) = false := by rw [beq_eq_false_iff_ne]; omega
          clear HC HR HS hh
          go_wp2_with fail
          go_meet
          exact ⟨rfl, F⟩
  case rest =>
  clear F
  obtain ⟨rfl, F⟩ := hcut
  go_upto_if 31 with fail
  go_cut [0] from 31 to 33 (fun sv wr => sv = .string (bs s1) ∧ Fr w wr [(b6, RC 0 0, 31)])
  case first =>
    rcases HC.out with ⟨rfl, rfl, hh⟩ | ⟨rfl, rfl, hh⟩
    · subst hh
      have hz := bs_size (45 :: s1)
      rw [List.length_cons] at hz
      have e2 : (bs (45 :: s1)).extract 1 (s1.length + 1) = bs s1 := by
        rw [bs_extract, List.drop_succ_cons, List.drop_zero, Nat.add_sub_cancel, List.take_length]
      clear HC HR HS
      go_wp2_with fail
      go_meet
      exact ⟨by first | rfl | rw [e2], F⟩
    · clear HC HR HS
      go_wp2_with fail
      go_meet
      exact ⟨rfl, F⟩
  case rest =>
  clear F HC
  obtain ⟨rfl, F⟩ := hcut
  obtain ⟨n, hn⟩ : ∃ n, dcnt s1 = n := ⟨_, rfl⟩
  have hnl := dcnt_le s1
  rw [hn] at hnl
  have g1 := fun w => rdigits_any s1 HS.out.2 hn w
  go_upto_region 5 with (first | ((go_at_call 109); (with_reducible refine fr_call F (g1 _) ?_); (clear F; intro W F); (try dsimp only)))
  obtain ⟨B, hB⟩ : ∃ B, rdB s1 = B := ⟨_, rfl⟩
  have hB2 := hB
  unfold rdB at hB2
  rw [hn] at hB2
  clear g1
  go_cut [50] from 36 to 50 (fun v wr => v = .bool B ∧ Fr w wr [(b6, RC 0 0, 31)])
  case first =>
    clear HR HS
    by_cases h0 : n = 0
    · rw [decide_eq_true (.inl h0)] at hB2
      subst hB2
      subst h0
      clear hB hn hnl
      go_wp2_with fail
      go_meet
      exact ⟨rfl, F⟩
    have t0 : ((n : Int) == 0) = false := by rw [beq_eq_false_iff_ne]; omega
    by_cases h15 : 15 < n
    · rw [decide_eq_true (.inr (.inl h15))] at hB2
      subst hB2
      have t1 : decide (15 < (n : Int)) = true := decide_eq_true (by omega)
      clear hB hn hnl h0 h15
      go_wp2_with fail
      go_meet
      exact ⟨rfl, F⟩
    have t1 : decide (15 < (n : Int)) = false := decide_eq_false (by omega)
    by_cases h1 : 1 < n
    · have t2 : decide (1 < (n : Int)) = true := decide_eq_true (by omega)
      cases s1 with
      | nil => exact absurd hnl (by simp; omega)
      | cons c t =>
        have hz := bs_size (c :: t)
        have hz0 : 0 < (bs (c :: t)).size := by rw [hz]; simp
        have e1 := idx0 hz0
        have t3 : ((c.toNat : Int) == 48) = B := by
          rw [← hB2, Bool.eq_iff_iff, beq_iff_eq, decide_eq_true_eq, List.head?_cons, Option.some.injEq, ← UInt8.toNat_inj, show UInt8.toNat 48 = 48 from rfl]
          constructor
          · intro h
            exact .inr (.inr ⟨h1, by omega⟩)
          · rintro (h | h | h)
            · omega
            · omega
            · have := h.2
              omega
        clear hB hB2 hn hnl h0 h15 h1
        go_wp2_with fail
        go_meet
        exact ⟨rfl, F⟩
    · have t2 : decide (1 < (n : Int)) = false := decide_eq_false (by omega)
      rw [decide_eq_false (by rintro (h | h | h) <;> omega)] at hB2
      subst hB2
      clear hB hn hnl h0 h15 h1
      go_wp2_with fail
      go_meet
      exact ⟨rfl, F⟩
  case rest =>
  clear F hB2
  obtain ⟨rfl, F⟩ := hcut
  have hr := HR.out
  unfold rdG at hr
  rw [hB] at hr
  cases B
  · rw [if_neg (by decide), hn] at hr
    dsimp only at hr
    obtain ⟨a, ha⟩ : ∃ a, s1.take n = a := ⟨_, rfl⟩
    obtain ⟨rest, hre⟩ : ∃ rest, s1.drop n = rest := ⟨_, rfl⟩
    rw [ha, hre] at hr
    have hz := bs_size s1
    have e1 : (bs s1).extract 0 n = bs a := by rw [bs_extract, List.drop_zero, Nat.sub_zero, ha]
    have e2 : (bs s1).extract n s1.length = bs rest := by rw [bs_extract, ← List.length_drop, List.take_length, hre]
    have n0 : (0 : Int) ≤ (n : Int) := by omega
    have n1 : (n : Int) ≤ (s1.length : Int) := by omega
    have hrl : s1.length - n = rest.length := by rw [← hre, List.length_drop]
    have HA := Lib.hid ha
    have HN := Lib.hid hn
    clear ha hre hn
    go_wp2_with fail
    go_quiet (fail)
    replace F := F.drewN nq
    generalize wc.drewN nq = wq at *
    clear e1 e2 n0 n1 hz
    have hgood : ((rest = [] ∨ ∃ t, rest = 46 :: t ∧ rdC t p = false) ∨ (∃ c t, rest = c :: t ∧ c ≠ 46 ∧ (0, 0, false) = r)) ∨ (∃ t, rest = 46 :: t ∧ rdC t p = true ∧ (0, 0, false) = r) := by
      cases rest with
      | nil => exact .inl (.inl (.inl rfl))
      | cons c t =>
        rw [if_neg (List.cons_ne_nil _ _), List.head?_cons, List.tail_cons] at hr
        by_cases hc : c = 46
        · subst hc
          cases hC : rdC t p
          · exact .inl (.inl (.inr ⟨t, rfl, hC⟩))
          · rw [if_pos (.inr hC)] at hr
            exact .inr ⟨t, rfl, hC, hr⟩
        · rw [if_pos (.inl (fun h => hc (Option.some.inj h)))] at hr
          exact .inl (.inr ⟨c, t, rfl, hc, hr⟩)
    have hls : rest.length ≤ s1.length := by rw [← hrl]; omega
    have HX := Lib.hid (And.intro hB (And.intro hr hls))
    clear hB hr hnl hls hrl
    rcases hgood with (hgood | ⟨c, t, rfl, hc, rfl⟩) | ⟨t, rfl, hC, rfl⟩
    rotate_left
    · have hz := bs_size (c :: t)
      have hz0 : 0 < (bs (c :: t)).size := by rw [hz]; simp
      have e1 := idx0 hz0
      have t3 : ((c.toNat : Int) == 46) = false := by
        rw [beq_eq_false_iff_ne]
        intro h
        exact hc (UInt8.toNat_inj.1 (show c.toNat = (46 : UInt8).toNat by rw [show UInt8.toNat 46 = 46 from rfl]; omega))
      clear HX HR hc
      go_wp2_with (first | go_skip | ((with_reducible apply fL F); exact rfl; exact rfl; (exact tL); (exact tR3)) | ((with_reducible apply fA_int F); exact rfl) | ((with_reducible apply fA_rat F); exact rfl) | ((with_reducible apply fS F); exact rfl; exact rfl; exact rfl; (exact tL); (exact tR3); (exact tS2); clear F; intro W F; simp only [z7, z8] at F) | ((with_reducible apply fB_int0); exact rfl) | ((with_reducible apply fB_rat0); exact rfl))
      exact bodyPost_ret (res_cs rfl rfl rfl (Fr.get F tL) (rowRC _ _)) rfl ⟨rfl, F.below⟩
    · have hz := bs_size (46 :: t)
      rw [List.length_cons] at hz
      have hz0 : 0 < (bs (46 :: t)).size := by rw [hz]; omega
      have e1 := idx0 hz0
      have e2 : (bs (46 :: t)).extract 1 (t.length + 1) = bs t := by
        rw [bs_extract, List.drop_succ_cons, List.drop_zero, Nat.add_sub_cancel, List.take_length]
      have hz2 := bs_size t
      obtain ⟨k, hk⟩ : ∃ k, dcnt t = k := ⟨_, rfl⟩
      have hkl := dcnt_le t
      have hls := HX.out.2.2
      rw [List.length_cons] at hls
      have g1 := fun w => rdigits_any t (by have := HS.out.2; omega) hk w
      unfold rdC at hC
      rw [hk] at hC hkl
      have hC := of_decide_eq_true hC
      clear HX HR hk hls
      by_cases h0 : k = 0
      · subst h0
        clear hC hkl
        go_wp2_with (first | go_skip | ((go_at_call 109); (with_reducible refine fr_call F (g1 _) ?_); (clear F; intro W F); (try dsimp only)) | ((with_reducible apply fL F); exact rfl; exact rfl; (exact tL); (exact tR3)) | ((with_reducible apply fA_int F); exact rfl) | ((with_reducible apply fA_rat F); exact rfl) | ((with_reducible apply fS F); exact rfl; exact rfl; exact rfl; (exact tL); (exact tR3); (exact tS2); clear F; intro W F; simp only [z7, z8] at F) | ((with_reducible apply fB_int0); exact rfl) | ((with_reducible apply fB_rat0); exact rfl))
        exact bodyPost_ret (res_cs rfl rfl rfl (Fr.get F tL) (rowRC _ _)) rfl ⟨rfl, F.below⟩
      have t0 : ((k : Int) == 0) = false := by rw [beq_eq_false_iff_ne]; omega
      by_cases h1 : k = t.length
      · have t2 : decide (p < (k : Int)) = true := decide_eq_true (by rcases hC with h | h | h; exact absurd h h0; exact absurd h1 h; exact h)
        rw [← h1] at hz hz2 e2
        clear h0 hC h1 hkl
        go_wp2_with (first | go_skip | ((go_at_call 109); (with_reducible refine fr_call F (g1 _) ?_); (clear F; intro W F); (try dsimp only)) | ((with_reducible apply fL F); exact rfl; exact rfl; (exact tL); (exact tR3)) | ((with_reducible apply fA_int F); exact rfl) | ((with_reducible apply fA_rat F); exact rfl) | ((with_reducible apply fS F); exact rfl; exact rfl; exact rfl; (exact tL); (exact tR3); (exact tS2); clear F; intro W F; simp only [z7, z8] at F) | ((with_reducible apply fB_int0); exact rfl) | ((with_reducible apply fB_rat0); exact rfl))
        exact bodyPost_ret (res_cs rfl rfl rfl (Fr.get F tL) (rowRC _ _)) rfl ⟨rfl, F.below⟩
      · obtain ⟨tl, htl⟩ : ∃ tl, t.length = tl := ⟨_, rfl⟩
        rw [htl] at hz hz2 e2 h1
        have t1 : ((k : Int) == (tl : Int)) = false := by rw [beq_eq_false_iff_ne]; omega
        have t2 : (k == tl) = false := by rw [beq_eq_false_iff_ne]; exact h1
        have t3 : decide (k = tl) = false := decide_eq_false h1
        have t4 : ((k : Int) != (tl : Int)) = true := by rw [bne, t1]; rfl
        clear h0 hC hkl htl
        go_wp2_with (first | go_skip | ((go_at_call 109); (with_reducible refine fr_call F (g1 _) ?_); (clear F; intro W F); (try dsimp only)) | ((with_reducible apply fL F); exact rfl; exact rfl; (exact tL); (exact tR3)) | ((with_reducible apply fA_int F); exact rfl) | ((with_reducible apply fA_rat F); exact rfl) | ((with_reducible apply fS F); exact rfl; exact rfl; exact rfl; (exact tL); (exact tR3); (exact tS2); clear F; intro W F; simp only [z7, z8] at F) | ((with_reducible apply fB_int0); exact rfl) | ((with_reducible apply fB_rat0); exact rfl))
        exact bodyPost_ret (res_cs rfl rfl rfl (Fr.get F tL) (rowRC _ _)) rfl ⟨rfl, F.below⟩
    obtain ⟨fr, hfr⟩ : ∃ fr, rest.tail = fr := ⟨_, rfl⟩
    have hfa : fr.all isD = true ∧ (fr.length : Int) ≤ max p 0 ∧ rdF (a ++ fr) fr.length neg = r := by
      have hr := HX.out.2.1
      rcases hgood with rfl | ⟨t, rfl, hC⟩
      · rw [List.tail_nil] at hfr
        subst hfr
        rw [if_pos rfl] at hr
        exact ⟨rfl, by simp; omega, by rw [List.append_nil]; exact hr⟩
      · rw [List.tail_cons] at hfr
        subst hfr
        rw [if_neg (List.cons_ne_nil _ _), List.head?_cons, List.tail_cons, if_neg (by rw [hC]; simp)] at hr
        unfold rdC at hC
        have hC := of_decide_eq_false hC
        have h1 : dcnt t = t.length := Classical.byContradiction fun h => hC (.inr (.inl h))
        have h2 := dcnt_take t
        rw [h1, List.take_length] at h2
        exact ⟨h2, by omega, hr⟩
    have HFA := Lib.hid hfa
    clear hfa
    go_upto_if 60 with fail
    go_cut [11, 12] from 58 to 81 (fun rv kv wr => rv = .string (bs fr) ∧ kv = .int .i64 (fr.length : Nat) ∧ Fr w wr [(b6, RC 0 0, 31)])
    case first =>
      rcases hgood with rfl | ⟨t, rfl, hC⟩
      · rw [List.tail_nil] at hfr
        subst hfr
        have hz := bs_size []
        clear HX HR HFA
        go_wp2_with fail
        go_meet
        exact ⟨rfl, rfl, F⟩
      · rw [List.tail_cons] at hfr
        subst hfr
        have hz := bs_size (46 :: t)
        rw [List.length_cons] at hz
        have hz0 : 0 < (bs (46 :: t)).size := by rw [hz]; omega
        have e1 := idx0 hz0
        have e2 : (bs (46 :: t)).extract 1 (t.length + 1) = bs t := by
          rw [bs_extract, List.drop_succ_cons, List.drop_zero, Nat.add_sub_cancel, List.take_length]
        have hz2 := bs_size t
        unfold rdC at hC
        have hC := of_decide_eq_false hC
        have h1 : dcnt t = t.length := Classical.byContradiction fun h => hC (.inr (.inl h))
        have hls := HX.out.2.2
        rw [List.length_cons] at hls
        have g1 := fun w => rdigits_any t (by have := HS.out.2; omega) h1 w
        have t0 : ((t.length : Int) == 0) = false := by rw [beq_eq_false_iff_ne]; intro h; exact hC (.inl (by omega))
        have t2 : decide (p < (t.length : Int)) = false := decide_eq_false (fun h => hC (.inr (.inr (by omega))))
        obtain ⟨k, hk⟩ : ∃ k, t.length = k := ⟨_, rfl⟩
        rw [hk] at hz hz2 e2 g1 t0 t2
        have HK := Lib.hid hk
        clear HX HR HFA hC h1 hls hk
        go_wp2_with (first | ((go_at_call 109); (with_reducible refine fr_call F (g1 _) ?_); (clear F; intro W F); (try dsimp only)))
        go_meet
        exact ⟨rfl, by rw [HK.out], F⟩
    case rest =>
    clear F hgood hfr
    obtain ⟨rfl, rfl, F⟩ := hcut
    obtain ⟨hd, hfl, hrf⟩ := HFA.out
    have hB0 := HX.out.1
    unfold rdB at hB0
    rw [HN.out] at hB0
    have hB1 := of_decide_eq_false hB0
    have hn15 : n ≤ 15 := by
      refine Classical.byContradiction fun h => hB1 (.inr (.inl (by omega)))
    have had : a.all isD = true := by rw [← HA.out, ← HN.out]; exact dcnt_take s1
    have hal : a.length ≤ 15 := by rw [← HA.out, List.length_take]; omega
    have hfl9 : fr.length ≤ 9 := by omega
    obtain ⟨A, hA⟩ : ∃ A, a ++ fr = A := ⟨_, rfl⟩
    have hAd : A.all isD = true := by rw [← hA, List.all_append, had, hd]; rfl
    have hAl : A.length ≤ 24 := by rw [← hA, List.length_append]; omega
    have e1 := bs_append a fr
    rw [hA] at hrf e1
    have sa := bs_size a
    have sf := bs_size fr
    have sA := bs_size A
    obtain ⟨la, hla⟩ : ∃ la, a.length = la := ⟨_, rfl⟩
    rw [hla] at sa hal
    obtain ⟨lf, hlf⟩ : ∃ lf, fr.length = lf := ⟨_, rfl⟩
    rw [hlf] at sf hrf hfl9
    obtain ⟨T, hT⟩ : ∃ T, 10 ^ lf = T := ⟨_, rfl⟩
    have hT1 := ten_le hfl9
    have hT0 : 0 < 10 ^ lf := Nat.pow_pos (by decide)
    have gp := fun w => rpower_any hfl9 w
    unfold rdF at hrf
    rw [hT] at gp hT1 hT0 hrf
    have hTb : (T : Int).natAbs < bp 15 := by
      have : (1000000000 : Nat) < bp 15 := by unfold bp; decide
      omega
    have k1 : (9223372036854775807 < la + lf) = False := by rw [eq_iff_iff, iff_false]; omega
    rw [hlf]
    have HRF := Lib.hid (And.intro hrf (And.intro hT0 hTb))
    have HAD := Lib.hid (And.intro hAd hAl)
    clear hd hfl hrf hB0 hB1 hn15 had hal hfl9 hA hla hlf hT hT1 hT0 hTb HX HFA HS HR hAd hAl
    go_wp2_with (first | go_skip | ((with_reducible apply fL F); exact rfl; exact rfl; (exact tL); (exact tR3)) | ((with_reducible apply fA_int F); exact rfl) | ((with_reducible apply fA_rat F); exact rfl) | ((with_reducible apply fS F); exact rfl; exact rfl; exact rfl; (exact tL); (exact tR3); (exact tS2); clear F; intro W F; simp only [z7, z8] at F) | ((with_reducible apply fB_int0); exact rfl) | ((with_reducible apply fB_rat0); exact rfl))
    (clear F; intro b13 W F; try simp only [Act.put, z6, z1, z2])
    go_wp2_with (first | go_skip | ((with_reducible apply fL F); exact rfl; exact rfl; (exact tL); (exact tR3)) | ((with_reducible apply fA_int F); exact rfl) | ((with_reducible apply fA_rat F); exact rfl) | ((with_reducible apply fS F); exact rfl; exact rfl; exact rfl; (exact tL); (exact tR3); (exact tS2); clear F; intro W F; simp only [z7, z8] at F) | ((with_reducible apply fB_int0); exact rfl) | ((with_reducible apply fB_rat0); exact rfl))
    clear e1 sa sf k1
    go_loopw [15] (fun iv wr => ∃ i : Nat, i ≤ A.length ∧ iv = .int .i64 i ∧ Fr w wr [(b13, IC (numL (A.take i) : Int), 29), (b6, RC 0 0, 31)]) (fun iv _ => A.length - (intOf iv).toNat)
    case atStart => exact ⟨0, by omega, rfl, F⟩
    case round =>
      clear F
      obtain ⟨i, hi2, rfl, F⟩ := hrel
      by_cases hlt : i < A.length
      · obtain ⟨b, hb⟩ : ∃ b, A[i] = b := ⟨_, rfl⟩
        have e0 := bs_at (l := A) (i := i) (by rw [bs_size]; exact hlt) hlt
        obtain ⟨ch, hx⟩ : ∃ x : Nat, b.toNat = x := ⟨_, rfl⟩
        have e1 : ((bs A)[i]'(by rw [bs_size]; exact hlt)).toNat = ch := (congrArg UInt8.toNat (e0.trans hb)).trans hx
        have hdig := isD_iff.1 (List.all_eq_true.1 HAD.out.1 _ (List.getElem_mem hlt))
        rw [hb, hx] at hdig
        obtain ⟨d, hd⟩ : ∃ d, ch - 48 = d := ⟨_, rfl⟩
        have hnum : numL (A.take (i + 1)) = numL (A.take i) * 10 + d := by
          unfold numL
          rw [List.take_succ_eq_append_getElem hlt, numF_append, numF_cons, hb, hx, hd]
          rfl
        have hX24 := numL_lt (A.take i) (List.all_eq_true.2 fun x hx => List.all_eq_true.1 HAD.out.1 x (List.mem_of_mem_take hx))
        have hXl : (10 : Nat) ^ (A.take i).length ≤ 10 ^ 24 := Nat.pow_le_pow_right (by decide) (by rw [List.length_take]; have := HAD.out.2; omega)
        obtain ⟨X, hX⟩ : ∃ X, numL (A.take i) = X := ⟨_, rfl⟩
        rw [hX] at hnum hX24 F
        obtain ⟨X', hX'⟩ : ∃ X', X * 10 + d = X' := ⟨_, rfl⟩
        have h26 : (100000000000000000000000000 : Nat) < bp 32 := by unfold bp; decide
        have hXs : X < 1000000000000000000000000 := Nat.lt_of_lt_of_le hX24 hXl
        have g10 := fun w => rfromZ (n := 10) (by decide) (by decide) w
        have gm := fun w => rmulZ (x := (X : Int)) (y := 10) (by omega) (by omega) (by omega) w
        have gd := fun w => rfromZ (n := (d : Int)) (by omega) (by omega) w
        have ga := fun w => radd_any (x := (X : Int) * 10) (y := (d : Int)) (by omega) (by omega) (by omega) w
        obtain ⟨Y, hY⟩ : ∃ Y : Int, (X : Int) * 10 = Y := ⟨_, rfl⟩
        rw [hY] at gm ga
        rw [show Y + (d : Int) = (X' : Int) by omega] at ga
        have m1 : IntKind.u8.wrap ((ch : Int) - 48) = (d : Int) := by rw [IntKind.wrap_u8]; omega
        have m2 : IntKind.i64.wrap (d : Int) = (d : Int) := IntWalk.i64_in _ (by omega)
        have i0 : (0 : Int) ≤ (i : Int) := by omega
        have i1 : (i : Int) < (A.length : Int) := by omega
        have HNN := Lib.hid (show numL (A.take (i + 1)) = X' by rw [hnum, hX'])
        clear hb hx e0 hdig hd hnum hX24 hXl hX hX' h26 hXs hY
        go_wp2_with fail
        try simp only [Act.put, z6, z1, z2]
        refine wp_region_slots mixP [16, 17, 93, 94, 95, 96, 97, 98] (fun l mm W => ∃ (s16 s17 s93 s94 s95 s96 s97 s98 : Value) (c_b16 : Array Value) (b16 : Nat), mm = [s16, s17, s93, s94, s95, s96, s97, s98] ∧ (l.getD 0 false = true → s94 = .agg (IC (X : Int))) ∧ (l.getD 1 false = true → s95 = .agg (IC 10)) ∧ (l.getD 2 false = true → s96 = .tuple #[.agg (IC Y), .int .i64 0]) ∧ (l.getD 3 false = true → s93 = .tuple #[.agg (IC Y), .int .i64 0]) ∧ (l.getD 4 false = true → s97 = .agg (IC Y)) ∧ (l.getD 5 false = true → s98 = .int .i64 0) ∧ (l.getD 6 false = true → s16 = .pointer (some ⟨b16, 0, none⟩)) ∧ (l.getD 7 false = true → c_b16 = IC Y) ∧ (l.getD 8 false = true → s17 = .int .i64 0) ∧ (l.getD 7 false = true → l.getD 6 false = true) ∧ c_b16.size = (IC Y).size ∧ Fr w W ((b13, IC (X : Int), 29) :: (b6, RC 0 0, 31) :: (onl (l.getD 6 false) (b16, c_b16, 29)))) (by kernel_rfl) (putAll_self _ _) ?_ ?_ ?_
        · exact ⟨_, _, _, _, _, _, _, _, (intC false 0), 0, rfl, nf, nf, nf, nf, nf, nf, nf, nf, nf, nf, by exact tS2, F.drew⟩
        · rintro listed mm W ii hi hsz hoff ⟨s16, s17, s93, s94, s95, s96, s97, s98, c_b16, b16, rfl, h0, h1, h2, h3, h4, h5, h6, h7, h8, hN_b16, hz0, HF⟩ hd
          have hc := dr_c9 hi
          have hsz2 : listed.size = 9 := hsz
          clear hi hsz
          rcases hc with rfl | rfl | rfl | rfl | rfl | rfl | rfl | rfl | rfl
          · refine wpOp_want rfl rfl (fun K hK => ?_)
            simp only [putAll, z1, z2, z3, z4, z5]
            with_reducible apply gL HF
            · exact rfl
            · (exact tL)
            · (first | (exact tR3))
            go_simp
            exact hK _ _ ⟨[s16, s17, s93, (.agg (IC (X : Int))), s95, s96, s97, s98], by simp only [putAll, z1, z2], s16, s17, s93, (.agg (IC (X : Int))), s95, s96, s97, s98, c_b16, b16, rfl, fun _ => rfl, lk h1, lk h2, lk h3, lk h4, lk h5, lk h6, lk h7, lk h8, fun h => by rw [getD_keep (show 0 ≠ 7 by decide)] at h; rw [getD_keep (show 0 ≠ 6 by decide)]; exact hN_b16 h, hz0, by rw [getD_keep (show 0 ≠ 6 by decide)]; exact HF⟩
          · refine wpOp_want rfl rfl (fun K hK => ?_)
            simp only [putAll, z1, z2, z3, z4, z5]
            refine ⟨?_⟩
            go_simp
            with_reducible refine fr_call HF (g10 _) ?_
            clear HF
            intro W HF
            (try dsimp only)
            exact hK _ _ ⟨[s16, s17, s93, s94, (.agg (IC 10)), s96, s97, s98], by simp only [putAll, z1, z2], s16, s17, s93, s94, (.agg (IC 10)), s96, s97, s98, c_b16, b16, rfl, lk h0, fun _ => rfl, lk h2, lk h3, lk h4, lk h5, lk h6, lk h7, lk h8, fun h => by rw [getD_keep (show 1 ≠ 7 by decide)] at h; rw [getD_keep (show 1 ≠ 6 by decide)]; exact hN_b16 h, hz0, by rw [getD_keep (show 1 ≠ 6 by decide)]; exact HF⟩
          · have d0 := h0 (hd 0 (by kernel_rfl))
            have d1 := h1 (hd 1 (by kernel_rfl))
            obtain rfl := d0
            obtain rfl := d1
            refine wpOp_want rfl rfl (fun K hK => ?_)
            simp only [putAll, z1, z2, z3, z4, z5]
            refine ⟨?_⟩
            go_simp
            with_reducible refine fr_call HF (gm _) ?_
            clear HF
            intro W HF
            (try dsimp only)
            exact hK _ _ ⟨[s16, s17, s93, (.agg (IC (X : Int))), (.agg (IC 10)), (.tuple #[.agg (IC Y), .int .i64 0]), s97, s98], by simp only [putAll, z1, z2], s16, s17, s93, (.agg (IC (X : Int))), (.agg (IC 10)), (.tuple #[.agg (IC Y), .int .i64 0]), s97, s98, c_b16, b16, rfl, lk h0, lk h1, fun _ => rfl, lk h3, lk h4, lk h5, lk h6, lk h7, lk h8, fun h => by rw [getD_keep (show 2 ≠ 7 by decide)] at h; rw [getD_keep (show 2 ≠ 6 by decide)]; exact hN_b16 h, hz0, by rw [getD_keep (show 2 ≠ 6 by decide)]; exact HF⟩
          · have d2 := h2 (hd 2 (by kernel_rfl))
            obtain rfl := d2
            refine wpOp_want rfl rfl (fun K hK => ?_)
            simp only [putAll, z1, z2, z3, z4, z5]
            refine ⟨?_⟩
            go_simp
            exact hK _ _ ⟨[s16, s17, (.tuple #[.agg (IC Y), .int .i64 0]), s94, s95, (.tuple #[.agg (IC Y), .int .i64 0]), s97, s98], by simp only [putAll, z1, z2], s16, s17, (.tuple #[.agg (IC Y), .int .i64 0]), s94, s95, (.tuple #[.agg (IC Y), .int .i64 0]), s97, s98, c_b16, b16, rfl, lk h0, lk h1, lk h2, fun _ => rfl, lk h4, lk h5, lk h6, lk h7, lk h8, fun h => by rw [getD_keep (show 3 ≠ 7 by decide)] at h; rw [getD_keep (show 3 ≠ 6 by decide)]; exact hN_b16 h, hz0, by rw [getD_keep (show 3 ≠ 6 by decide)]; exact HF⟩
          · have d3 := h3 (hd 3 (by kernel_rfl))
            obtain rfl := d3
            refine wpOp_want rfl rfl (fun K hK => ?_)
            simp only [putAll, z1, z2, z3, z4, z5]
            refine ⟨?_⟩
            go_simp
            exact hK _ _ ⟨[s16, s17, (.tuple #[.agg (IC Y), .int .i64 0]), s94, s95, s96, (.agg (IC Y)), s98], by simp only [putAll, z1, z2], s16, s17, (.tuple #[.agg (IC Y), .int .i64 0]), s94, s95, s96, (.agg (IC Y)), s98, c_b16, b16, rfl, lk h0, lk h1, lk h2, lk h3, fun _ => rfl, lk h5, lk h6, lk h7, lk h8, fun h => by rw [getD_keep (show 4 ≠ 7 by decide)] at h; rw [getD_keep (show 4 ≠ 6 by decide)]; exact hN_b16 h, hz0, by rw [getD_keep (show 4 ≠ 6 by decide)]; exact HF⟩
          · have d3 := h3 (hd 3 (by kernel_rfl))
            obtain rfl := d3
            refine wpOp_want rfl rfl (fun K hK => ?_)
            simp only [putAll, z1, z2, z3, z4, z5]
            refine ⟨?_⟩
            go_simp
            exact hK _ _ ⟨[s16, s17, (.tuple #[.agg (IC Y), .int .i64 0]), s94, s95, s96, s97, (.int .i64 0)], by simp only [putAll, z1, z2], s16, s17, (.tuple #[.agg (IC Y), .int .i64 0]), s94, s95, s96, s97, (.int .i64 0), c_b16, b16, rfl, lk h0, lk h1, lk h2, lk h3, lk h4, fun _ => rfl, lk h6, lk h7, lk h8, fun h => by rw [getD_keep (show 5 ≠ 7 by decide)] at h; rw [getD_keep (show 5 ≠ 6 by decide)]; exact hN_b16 h, hz0, by rw [getD_keep (show 5 ≠ 6 by decide)]; exact HF⟩
          · refine wpOp_want rfl rfl (fun K hK => ?_)
            simp only [putAll, z1, z2, z3, z4, z5]
            rw [show listed.getD 6 false = false from hoff] at HF
            skip
            with_reducible apply gA_int HF
            intro bN W HF
            go_simp
            exact hK _ _ ⟨[(.pointer (some ⟨bN, 0, none⟩)), s17, s93, s94, s95, s96, s97, s98], by simp only [putAll, z1, z2], (.pointer (some ⟨bN, 0, none⟩)), s17, s93, s94, s95, s96, s97, s98, (intC false 0), bN, rfl, lk h0, lk h1, lk h2, lk h3, lk h4, lk h5, fun _ => rfl, fun h => absurd (hN_b16 (by rw [getD_keep (show 6 ≠ 7 by decide)] at h; exact h)) (by rw [hoff]; decide), lk h8, fun _ => getD_on (by rw [hsz2]; decide), by exact tS2, by rw [getD_on (show 6 < listed.size by rw [hsz2]; decide)]; exact Fr.mid (A := [(b13, IC (X : Int), 29), (b6, RC 0 0, 31)]) HF⟩
          · have d4 := h4 (hd 4 (by kernel_rfl))
            have d6 := h6 (hd 6 (by kernel_rfl))
            obtain rfl := d4
            obtain rfl := d6
            refine wpOp_want rfl rfl (fun K hK => ?_)
            simp only [putAll, z1, z2, z3, z4, z5]
            rw [hd 6 (by kernel_rfl)] at HF
            simp only [onl, if_true, z7, z8] at HF
            with_reducible apply gS HF
            · exact rfl
            · exact rfl
            · (exact tL)
            · (first | (exact tR3))
            · first | exact hz0 | exact tS2
            clear HF
            intro W HF
            simp only [z7, z8, List.append_assoc, List.append_nil] at HF
            go_simp
            exact hK _ _ ⟨[(.pointer (some ⟨b16, 0, none⟩)), s17, s93, s94, s95, s96, (.agg (IC Y)), s98], by simp only [putAll, z1, z2], (.pointer (some ⟨b16, 0, none⟩)), s17, s93, s94, s95, s96, (.agg (IC Y)), s98, (IC Y), b16, rfl, lk h0, lk h1, lk h2, lk h3, lk h4, lk h5, lk h6, fun _ => rfl, lk h8, fun _ => by rw [getD_keep (show 7 ≠ 6 by decide)]; exact hd 6 (by kernel_rfl), rfl, by rw [getD_keep (show 7 ≠ 6 by decide), hd 6 (by kernel_rfl)]; exact HF⟩
          · have d5 := h5 (hd 5 (by kernel_rfl))
            obtain rfl := d5
            refine wpOp_want rfl rfl (fun K hK => ?_)
            simp only [putAll, z1, z2, z3, z4, z5]
            refine ⟨?_⟩
            go_simp
            exact hK _ _ ⟨[s16, (.int .i64 0), s93, s94, s95, s96, s97, (.int .i64 0)], by simp only [putAll, z1, z2], s16, (.int .i64 0), s93, s94, s95, s96, s97, (.int .i64 0), c_b16, b16, rfl, lk h0, lk h1, lk h2, lk h3, lk h4, lk h5, lk h6, lk h7, fun _ => rfl, fun h => by rw [getD_keep (show 8 ≠ 7 by decide)] at h; rw [getD_keep (show 8 ≠ 6 by decide)]; exact hN_b16 h, hz0, by rw [getD_keep (show 8 ≠ 6 by decide)]; exact HF⟩
        rintro listed mm W ⟨s16, s17, s93, s94, s95, s96, s97, s98, c_b16, b16, rfl, h0, h1, h2, h3, h4, h5, h6, h7, h8, hN_b16, hz0, HF⟩ hall
        rw [hall 6 (by decide)] at HF
        simp only [onl, if_true, z7, z8] at HF
        obtain rfl := h0 (hall 0 (by decide))
        obtain rfl := h1 (hall 1 (by decide))
        obtain rfl := h2 (hall 2 (by decide))
        obtain rfl := h3 (hall 3 (by decide))
        obtain rfl := h4 (hall 4 (by decide))
        obtain rfl := h5 (hall 5 (by decide))
        obtain rfl := h6 (hall 6 (by decide))
        rw [h7 (hall 7 (by decide))] at HF
        obtain rfl := h8 (hall 8 (by decide))
        clear hall h0 h1 h2 h3 h4 h5 h6 h7 h8 hN_b16 hz0 F
        have F := HF
        clear HF
        simp only [putAll, z1, z2]
        go_wp2_with fail
        try simp only [Act.put, z6, z1, z2]
        refine wp_region_slots mixP [99, 100, 101, 102, 103, 104, 105, 106, 107, 108, 109] (fun l mm W => ∃ (s99 s100 s101 s102 s103 s104 s105 s106 s107 s108 s109 : Value) (c_b13 : Array Value), mm = [s99, s100, s101, s102, s103, s104, s105, s106, s107, s108, s109] ∧ (l.getD 0 false = true → s100 = .agg (IC Y)) ∧ (l.getD 1 false = true → s101 = .string (bs A)) ∧ (l.getD 2 false = true → s102 = .int .i64 (i : Int)) ∧ (l.getD 3 false = true → s103 = .int .u8 (ch : Int)) ∧ (l.getD 4 false = true → s104 = .int .u8 (d : Int)) ∧ (l.getD 5 false = true → s105 = .int .i64 (d : Int)) ∧ (l.getD 6 false = true → s106 = .agg (IC (d : Int))) ∧ (l.getD 7 false = true → s107 = .tuple #[.agg (IC (X' : Int)), .int .i64 0]) ∧ (l.getD 8 false = true → s99 = .tuple #[.agg (IC (X' : Int)), .int .i64 0]) ∧ (l.getD 9 false = true → s108 = .agg (IC (X' : Int))) ∧ (l.getD 10 false = true → s109 = .int .i64 0) ∧ (l.getD 11 false = true → c_b13 = IC (X' : Int)) ∧ c_b13.size = (IC (X' : Int)).size ∧ Fr w W [(b13, c_b13, 29), (b6, RC 0 0, 31), (b16, IC Y, 29)]) (by kernel_rfl) (putAll_self _ _) ?_ ?_ ?_
        · exact ⟨_, _, _, _, _, _, _, _, _, _, _, (IC (X : Int)), rfl, nf, nf, nf, nf, nf, nf, nf, nf, nf, nf, nf, nf, by exact tS2, F.drew⟩
        · rintro listed mm W ii hi hsz hoff ⟨s99, s100, s101, s102, s103, s104, s105, s106, s107, s108, s109, c_b13, rfl, h0, h1, h2, h3, h4, h5, h6, h7, h8, h9, h10, h11, hz0, HF⟩ hd
          have hc := dr_c12 hi
          have hsz2 : listed.size = 12 := hsz
          clear hi hsz
          rcases hc with rfl | rfl | rfl | rfl | rfl | rfl | rfl | rfl | rfl | rfl | rfl | rfl
          · refine wpOp_want rfl rfl (fun K hK => ?_)
            simp only [putAll, z1, z2, z3, z4, z5]
            with_reducible apply gL HF
            · exact rfl
            · (exact tL)
            · (first | (exact tR3))
            go_simp
            exact hK _ _ ⟨[s99, (.agg (IC Y)), s101, s102, s103, s104, s105, s106, s107, s108, s109], by simp only [putAll, z1, z2], s99, (.agg (IC Y)), s101, s102, s103, s104, s105, s106, s107, s108, s109, c_b13, rfl, fun _ => rfl, lk h1, lk h2, lk h3, lk h4, lk h5, lk h6, lk h7, lk h8, lk h9, lk h10, lk h11, hz0, HF⟩
          · refine wpOp_want rfl rfl (fun K hK => ?_)
            simp only [putAll, z1, z2, z3, z4, z5]
            refine ⟨?_⟩
            go_simp
            exact hK _ _ ⟨[s99, s100, (.string (bs A)), s102, s103, s104, s105, s106, s107, s108, s109], by simp only [putAll, z1, z2], s99, s100, (.string (bs A)), s102, s103, s104, s105, s106, s107, s108, s109, c_b13, rfl, lk h0, fun _ => rfl, lk h2, lk h3, lk h4, lk h5, lk h6, lk h7, lk h8, lk h9, lk h10, lk h11, hz0, HF⟩
          · refine wpOp_want rfl rfl (fun K hK => ?_)
            simp only [putAll, z1, z2, z3, z4, z5]
            refine ⟨?_⟩
            go_simp
            exact hK _ _ ⟨[s99, s100, s101, (.int .i64 (i : Int)), s103, s104, s105, s106, s107, s108, s109], by simp only [putAll, z1, z2], s99, s100, s101, (.int .i64 (i : Int)), s103, s104, s105, s106, s107, s108, s109, c_b13, rfl, lk h0, lk h1, fun _ => rfl, lk h3, lk h4, lk h5, lk h6, lk h7, lk h8, lk h9, lk h10, lk h11, hz0, HF⟩
          · have d1 := h1 (hd 1 (by kernel_rfl))
            have d2 := h2 (hd 2 (by kernel_rfl))
            obtain rfl := d1
            obtain rfl := d2
            refine wpOp_want rfl rfl (fun K hK => ?_)
            simp only [putAll, z1, z2, z3, z4, z5]
            refine ⟨?_⟩
            go_simp
            exact hK _ _ ⟨[s99, s100, (.string (bs A)), (.int .i64 (i : Int)), (.int .u8 (ch : Int)), s104, s105, s106, s107, s108, s109], by simp only [putAll, z1, z2], s99, s100, (.string (bs A)), (.int .i64 (i : Int)), (.int .u8 (ch : Int)), s104, s105, s106, s107, s108, s109, c_b13, rfl, lk h0, lk h1, lk h2, fun _ => rfl, lk h4, lk h5, lk h6, lk h7, lk h8, lk h9, lk h10, lk h11, hz0, HF⟩
          · have d3 := h3 (hd 3 (by kernel_rfl))
            obtain rfl := d3
            refine wpOp_want rfl rfl (fun K hK => ?_)
            simp only [putAll, z1, z2, z3, z4, z5]
            refine ⟨?_⟩
            go_simp
            exact hK _ _ ⟨[s99, s100, s101, s102, (.int .u8 (ch : Int)), (.int .u8 (d : Int)), s105, s106, s107, s108, s109], by simp only [putAll, z1, z2], s99, s100, s101, s102, (.int .u8 (ch : Int)), (.int .u8 (d : Int)), s105, s106, s107, s108, s109, c_b13, rfl, lk h0, lk h1, lk h2, lk h3, fun _ => rfl, lk h5, lk h6, lk h7, lk h8, lk h9, lk h10, lk h11, hz0, HF⟩
          · have d4 := h4 (hd 4 (by kernel_rfl))
            obtain rfl := d4
            refine wpOp_want rfl rfl (fun K hK => ?_)
            simp only [putAll, z1, z2, z3, z4, z5]
            refine ⟨?_⟩
            go_simp
            exact hK _ _ ⟨[s99, s100, s101, s102, s103, (.int .u8 (d : Int)), (.int .i64 (d : Int)), s106, s107, s108, s109], by simp only [putAll, z1, z2], s99, s100, s101, s102, s103, (.int .u8 (d : Int)), (.int .i64 (d : Int)), s106, s107, s108, s109, c_b13, rfl, lk h0, lk h1, lk h2, lk h3, lk h4, fun _ => rfl, lk h6, lk h7, lk h8, lk h9, lk h10, lk h11, hz0, HF⟩
          · have d5 := h5 (hd 5 (by kernel_rfl))
            obtain rfl := d5
            refine wpOp_want rfl rfl (fun K hK => ?_)
            simp only [putAll, z1, z2, z3, z4, z5]
            refine ⟨?_⟩
            go_simp
            with_reducible refine fr_call HF (gd _) ?_
            clear HF
            intro W HF
            (try dsimp only)
            exact hK _ _ ⟨[s99, s100, s101, s102, s103, s104, (.int .i64 (d : Int)), (.agg (IC (d : Int))), s107, s108, s109], by simp only [putAll, z1, z2], s99, s100, s101, s102, s103, s104, (.int .i64 (d : Int)), (.agg (IC (d : Int))), s107, s108, s109, c_b13, rfl, lk h0, lk h1, lk h2, lk h3, lk h4, lk h5, fun _ => rfl, lk h7, lk h8, lk h9, lk h10, lk h11, hz0, HF⟩
          · have d0 := h0 (hd 0 (by kernel_rfl))
            have d6 := h6 (hd 6 (by kernel_rfl))
            obtain rfl := d0
            obtain rfl := d6
            refine wpOp_want rfl rfl (fun K hK => ?_)
            simp only [putAll, z1, z2, z3, z4, z5]
            refine ⟨?_⟩
            go_simp
            with_reducible refine fr_call HF (ga _) ?_
            clear HF
            intro W HF
            (try dsimp only)
            exact hK _ _ ⟨[s99, (.agg (IC Y)), s101, s102, s103, s104, s105, (.agg (IC (d : Int))), (.tuple #[.agg (IC (X' : Int)), .int .i64 0]), s108, s109], by simp only [putAll, z1, z2], s99, (.agg (IC Y)), s101, s102, s103, s104, s105, (.agg (IC (d : Int))), (.tuple #[.agg (IC (X' : Int)), .int .i64 0]), s108, s109, c_b13, rfl, lk h0, lk h1, lk h2, lk h3, lk h4, lk h5, lk h6, fun _ => rfl, lk h8, lk h9, lk h10, lk h11, hz0, HF⟩
          · have d7 := h7 (hd 7 (by kernel_rfl))
            obtain rfl := d7
            refine wpOp_want rfl rfl (fun K hK => ?_)
            simp only [putAll, z1, z2, z3, z4, z5]
            refine ⟨?_⟩
            go_simp
            exact hK _ _ ⟨[(.tuple #[.agg (IC (X' : Int)), .int .i64 0]), s100, s101, s102, s103, s104, s105, s106, (.tuple #[.agg (IC (X' : Int)), .int .i64 0]), s108, s109], by simp only [putAll, z1, z2], (.tuple #[.agg (IC (X' : Int)), .int .i64 0]), s100, s101, s102, s103, s104, s105, s106, (.tuple #[.agg (IC (X' : Int)), .int .i64 0]), s108, s109, c_b13, rfl, lk h0, lk h1, lk h2, lk h3, lk h4, lk h5, lk h6, lk h7, fun _ => rfl, lk h9, lk h10, lk h11, hz0, HF⟩
          · have d8 := h8 (hd 8 (by kernel_rfl))
            obtain rfl := d8
            refine wpOp_want rfl rfl (fun K hK => ?_)
            simp only [putAll, z1, z2, z3, z4, z5]
            refine ⟨?_⟩
            go_simp
            exact hK _ _ ⟨[(.tuple #[.agg (IC (X' : Int)), .int .i64 0]), s100, s101, s102, s103, s104, s105, s106, s107, (.agg (IC (X' : Int))), s109], by simp only [putAll, z1, z2], (.tuple #[.agg (IC (X' : Int)), .int .i64 0]), s100, s101, s102, s103, s104, s105, s106, s107, (.agg (IC (X' : Int))), s109, c_b13, rfl, lk h0, lk h1, lk h2, lk h3, lk h4, lk h5, lk h6, lk h7, lk h8, fun _ => rfl, lk h10, lk h11, hz0, HF⟩
          · have d8 := h8 (hd 8 (by kernel_rfl))
            obtain rfl := d8
            refine wpOp_want rfl rfl (fun K hK => ?_)
            simp only [putAll, z1, z2, z3, z4, z5]
            refine ⟨?_⟩
            go_simp
            exact hK _ _ ⟨[(.tuple #[.agg (IC (X' : Int)), .int .i64 0]), s100, s101, s102, s103, s104, s105, s106, s107, s108, (.int .i64 0)], by simp only [putAll, z1, z2], (.tuple #[.agg (IC (X' : Int)), .int .i64 0]), s100, s101, s102, s103, s104, s105, s106, s107, s108, (.int .i64 0), c_b13, rfl, lk h0, lk h1, lk h2, lk h3, lk h4, lk h5, lk h6, lk h7, lk h8, lk h9, fun _ => rfl, lk h11, hz0, HF⟩
          · have d9 := h9 (hd 9 (by kernel_rfl))
            obtain rfl := d9
            refine wpOp_want rfl rfl (fun K hK => ?_)
            simp only [putAll, z1, z2, z3, z4, z5]
            with_reducible apply gS HF
            · exact rfl
            · exact rfl
            · (exact tL)
            · (first | (exact tR3))
            · first | exact hz0 | exact tS2
            clear HF
            intro W HF
            simp only [z7, z8, List.append_assoc, List.append_nil] at HF
            go_simp
            exact hK _ _ ⟨[s99, s100, s101, s102, s103, s104, s105, s106, s107, (.agg (IC (X' : Int))), s109], by simp only [putAll, z1, z2], s99, s100, s101, s102, s103, s104, s105, s106, s107, (.agg (IC (X' : Int))), s109, (IC (X' : Int)), rfl, lk h0, lk h1, lk h2, lk h3, lk h4, lk h5, lk h6, lk h7, lk h8, lk h9, lk h10, fun _ => rfl, rfl, HF⟩
        rintro listed mm W ⟨s99, s100, s101, s102, s103, s104, s105, s106, s107, s108, s109, c_b13, rfl, h0, h1, h2, h3, h4, h5, h6, h7, h8, h9, h10, h11, hz0, HF⟩ hall
        obtain rfl := h0 (hall 0 (by decide))
        obtain rfl := h1 (hall 1 (by decide))
        obtain rfl := h2 (hall 2 (by decide))
        obtain rfl := h3 (hall 3 (by decide))
        obtain rfl := h4 (hall 4 (by decide))
        obtain rfl := h5 (hall 5 (by decide))
        obtain rfl := h6 (hall 6 (by decide))
        obtain rfl := h7 (hall 7 (by decide))
        obtain rfl := h8 (hall 8 (by decide))
        obtain rfl := h9 (hall 9 (by decide))
        obtain rfl := h10 (hall 10 (by decide))
        rw [h11 (hall 11 (by decide))] at HF
        clear hall h0 h1 h2 h3 h4 h5 h6 h7 h8 h9 h10 h11 hz0 F
        have F := HF
        clear HF
        simp only [putAll, z1, z2]
        replace F := F.sub (L' := [(b13, IC (X' : Int), 29), (b6, RC 0 0, 31)]) (by repeat (first | exact List.Sublist.slnil | apply List.Sublist.cons_cons | apply List.Sublist.cons))
        clear g10 gm gd ga m1 m2 e1
        have hAl24 := HAD.out.2
        go_wp2_with fail
        go_roundw
        case rel => exact ⟨i + 1, by omega, by go_num, by rw [HNN.out]; exact F⟩
        case measure => simp [intOf]; omega
      · obtain rfl : i = A.length := by omega
        rw [List.take_length] at F
        have hv24 := numL_lt A HAD.out.1
        have hvl : (10 : Nat) ^ A.length ≤ 10 ^ 24 := Nat.pow_le_pow_right (by decide) HAD.out.2
        obtain ⟨hrf, hT0, hTb⟩ := HRF.out
        obtain ⟨v, hv⟩ : ∃ v, numL A = v := ⟨_, rfl⟩
        rw [hv] at hrf F hv24
        have h24 : (1000000000000000000000000 : Nat) < bp 15 := by unfold bp; decide
        have hvs : v < 1000000000000000000000000 := Nat.lt_of_lt_of_le hv24 hvl
        have hvb : (v : Int).natAbs < bp 15 := by omega
        clear hv24 hvl h24 hvs hv HRF HAD hlt hi2 HN HA
        cases neg
        · rw [if_neg (fun h => absurd h.1 (by decide)), if_neg (by decide)] at hrf
          try dsimp only at hrf
          have gm := fun w => rmakeZ (b15 hvb) (b15 hTb) (mkR_ok (n := (v : Int)) (d := (T : Int)) (by omega) hvb hTb).1 w
          obtain ⟨q1, hq1⟩ : ∃ q, lowN (v : Int) (T : Int) = q := ⟨_, rfl⟩
          obtain ⟨q2, hq2⟩ : ∃ q, lowD (v : Int) (T : Int) = q := ⟨_, rfl⟩
          rw [hq1, hq2] at gm hrf
          subst hrf
          obtain ⟨z, hz⟩ : ∃ z, (v : Int) = z := ⟨_, rfl⟩
          rw [hz] at gm F
          clear hq1 hq2 hT0 hTb hvb hz
          go_wp2_with (first | go_skip | ((with_reducible apply fL F); exact rfl; exact rfl; (exact tL); (exact tR3)) | ((with_reducible apply fA_int F); exact rfl) | ((with_reducible apply fA_rat F); exact rfl) | ((with_reducible apply fS F); exact rfl; exact rfl; exact rfl; (exact tL); (exact tR3); (exact tS2); clear F; intro W F; simp only [z7, z8] at F) | ((with_reducible apply fB_int0); exact rfl) | ((with_reducible apply fB_rat0); exact rfl))
          try simp only [Act.put, z6, z1, z2]
          refine wp_region_slots mixP [18, 19, 117, 118, 119, 120, 121, 122, 123, 124] (fun l mm W => ∃ (s18 s19 s117 s118 s119 s120 s121 s122 s123 s124 : Value) (c_b18 : Array Value) (b18 : Nat), mm = [s18, s19, s117, s118, s119, s120, s121, s122, s123, s124] ∧ (l.getD 0 false = true → s118 = .agg (IC z)) ∧ (l.getD 1 false = true → s119 = .int .i64 (lf : Int)) ∧ (l.getD 2 false = true → s120 = .agg (RC (T : Int) 1)) ∧ (l.getD 3 false = true → s121 = .agg (IC (T : Int))) ∧ (l.getD 4 false = true → s122 = .tuple #[.agg (RC q1 q2), .int .i64 0]) ∧ (l.getD 5 false = true → s117 = .tuple #[.agg (RC q1 q2), .int .i64 0]) ∧ (l.getD 6 false = true → s123 = .agg (RC q1 q2)) ∧ (l.getD 7 false = true → s124 = .int .i64 0) ∧ (l.getD 8 false = true → s18 = .pointer (some ⟨b18, 0, none⟩)) ∧ (l.getD 9 false = true → c_b18 = RC q1 q2) ∧ (l.getD 10 false = true → s19 = .int .i64 0) ∧ (l.getD 9 false = true → l.getD 8 false = true) ∧ c_b18.size = (RC q1 q2).size ∧ Fr w W ((b13, IC z, 29) :: (b6, RC 0 0, 31) :: (onl (l.getD 8 false) (b18, c_b18, 31)))) (by kernel_rfl) (putAll_self _ _) ?_ ?_ ?_
          · exact ⟨_, _, _, _, _, _, _, _, _, _, (RC 0 0), 0, rfl, nf, nf, nf, nf, nf, nf, nf, nf, nf, nf, nf, nf, by exact tS2, F.drew⟩
          · rintro listed mm W ii hi hsz hoff ⟨s18, s19, s117, s118, s119, s120, s121, s122, s123, s124, c_b18, b18, rfl, h0, h1, h2, h3, h4, h5, h6, h7, h8, h9, h10, hN_b18, hz0, HF⟩ hd
            have hc := dr_c11 hi
            have hsz2 : listed.size = 11 := hsz
            clear hi hsz
            rcases hc with rfl | rfl | rfl | rfl | rfl | rfl | rfl | rfl | rfl | rfl | rfl
            · refine wpOp_want rfl rfl (fun K hK => ?_)
              simp only [putAll, z1, z2, z3, z4, z5]
              with_reducible apply gL HF
              · exact rfl
              · (exact tL)
              · (first | (exact tR3))
              go_simp
              exact hK _ _ ⟨[s18, s19, s117, (.agg (IC z)), s119, s120, s121, s122, s123, s124], by simp only [putAll, z1, z2], s18, s19, s117, (.agg (IC z)), s119, s120, s121, s122, s123, s124, c_b18, b18, rfl, fun _ => rfl, lk h1, lk h2, lk h3, lk h4, lk h5, lk h6, lk h7, lk h8, lk h9, lk h10, fun h => by rw [getD_keep (show 0 ≠ 9 by decide)] at h; rw [getD_keep (show 0 ≠ 8 by decide)]; exact hN_b18 h, hz0, by rw [getD_keep (show 0 ≠ 8 by decide)]; exact HF⟩
            · refine wpOp_want rfl rfl (fun K hK => ?_)
              simp only [putAll, z1, z2, z3, z4, z5]
              refine ⟨?_⟩
              go_simp
              exact hK _ _ ⟨[s18, s19, s117, s118, (.int .i64 (lf : Int)), s120, s121, s122, s123, s124], by simp only [putAll, z1, z2], s18, s19, s117, s118, (.int .i64 (lf : Int)), s120, s121, s122, s123, s124, c_b18, b18, rfl, lk h0, fun _ => rfl, lk h2, lk h3, lk h4, lk h5, lk h6, lk h7, lk h8, lk h9, lk h10, fun h => by rw [getD_keep (show 1 ≠ 9 by decide)] at h; rw [getD_keep (show 1 ≠ 8 by decide)]; exact hN_b18 h, hz0, by rw [getD_keep (show 1 ≠ 8 by decide)]; exact HF⟩
            · have d1 := h1 (hd 1 (by kernel_rfl))
              obtain rfl := d1
              refine wpOp_want rfl rfl (fun K hK => ?_)
              simp only [putAll, z1, z2, z3, z4, z5]
              refine ⟨?_⟩
              go_simp
              with_reducible refine fr_call HF (gp _) ?_
              clear HF
              intro W HF
              (try dsimp only)
              exact hK _ _ ⟨[s18, s19, s117, s118, (.int .i64 (lf : Int)), (.agg (RC (T : Int) 1)), s121, s122, s123, s124], by simp only [putAll, z1, z2], s18, s19, s117, s118, (.int .i64 (lf : Int)), (.agg (RC (T : Int) 1)), s121, s122, s123, s124, c_b18, b18, rfl, lk h0, lk h1, fun _ => rfl, lk h3, lk h4, lk h5, lk h6, lk h7, lk h8, lk h9, lk h10, fun h => by rw [getD_keep (show 2 ≠ 9 by decide)] at h; rw [getD_keep (show 2 ≠ 8 by decide)]; exact hN_b18 h, hz0, by rw [getD_keep (show 2 ≠ 8 by decide)]; exact HF⟩
            · have d2 := h2 (hd 2 (by kernel_rfl))
              obtain rfl := d2
              refine wpOp_want rfl rfl (fun K hK => ?_)
              simp only [putAll, z1, z2, z3, z4, z5]
              with_reducible apply gF_num
              · exact rfl
              go_simp
              exact hK _ _ ⟨[s18, s19, s117, s118, s119, (.agg (RC (T : Int) 1)), (.agg (IC (T : Int))), s122, s123, s124], by simp only [putAll, z1, z2], s18, s19, s117, s118, s119, (.agg (RC (T : Int) 1)), (.agg (IC (T : Int))), s122, s123, s124, c_b18, b18, rfl, lk h0, lk h1, lk h2, fun _ => rfl, lk h4, lk h5, lk h6, lk h7, lk h8, lk h9, lk h10, fun h => by rw [getD_keep (show 3 ≠ 9 by decide)] at h; rw [getD_keep (show 3 ≠ 8 by decide)]; exact hN_b18 h, hz0, by rw [getD_keep (show 3 ≠ 8 by decide)]; exact HF⟩
            · have d0 := h0 (hd 0 (by kernel_rfl))
              have d3 := h3 (hd 3 (by kernel_rfl))
              obtain rfl := d0
              obtain rfl := d3
              refine wpOp_want rfl rfl (fun K hK => ?_)
              simp only [putAll, z1, z2, z3, z4, z5]
              refine ⟨?_⟩
              go_simp
              with_reducible refine fr_call HF (gm _) ?_
              clear HF
              intro W HF
              (try dsimp only)
              exact hK _ _ ⟨[s18, s19, s117, (.agg (IC z)), s119, s120, (.agg (IC (T : Int))), (.tuple #[.agg (RC q1 q2), .int .i64 0]), s123, s124], by simp only [putAll, z1, z2], s18, s19, s117, (.agg (IC z)), s119, s120, (.agg (IC (T : Int))), (.tuple #[.agg (RC q1 q2), .int .i64 0]), s123, s124, c_b18, b18, rfl, lk h0, lk h1, lk h2, lk h3, fun _ => rfl, lk h5, lk h6, lk h7, lk h8, lk h9, lk h10, fun h => by rw [getD_keep (show 4 ≠ 9 by decide)] at h; rw [getD_keep (show 4 ≠ 8 by decide)]; exact hN_b18 h, hz0, by rw [getD_keep (show 4 ≠ 8 by decide)]; exact HF⟩
            · have d4 := h4 (hd 4 (by kernel_rfl))
              obtain rfl := d4
              refine wpOp_want rfl rfl (fun K hK => ?_)
              simp only [putAll, z1, z2, z3, z4, z5]
              refine ⟨?_⟩
              go_simp
              exact hK _ _ ⟨[s18, s19, (.tuple #[.agg (RC q1 q2), .int .i64 0]), s118, s119, s120, s121, (.tuple #[.agg (RC q1 q2), .int .i64 0]), s123, s124], by simp only [putAll, z1, z2], s18, s19, (.tuple #[.agg (RC q1 q2), .int .i64 0]), s118, s119, s120, s121, (.tuple #[.agg (RC q1 q2), .int .i64 0]), s123, s124, c_b18, b18, rfl, lk h0, lk h1, lk h2, lk h3, lk h4, fun _ => rfl, lk h6, lk h7, lk h8, lk h9, lk h10, fun h => by rw [getD_keep (show 5 ≠ 9 by decide)] at h; rw [getD_keep (show 5 ≠ 8 by decide)]; exact hN_b18 h, hz0, by rw [getD_keep (show 5 ≠ 8 by decide)]; exact HF⟩
            · have d5 := h5 (hd 5 (by kernel_rfl))
              obtain rfl := d5
              refine wpOp_want rfl rfl (fun K hK => ?_)
              simp only [putAll, z1, z2, z3, z4, z5]
              refine ⟨?_⟩
              go_simp
              exact hK _ _ ⟨[s18, s19, (.tuple #[.agg (RC q1 q2), .int .i64 0]), s118, s119, s120, s121, s122, (.agg (RC q1 q2)), s124], by simp only [putAll, z1, z2], s18, s19, (.tuple #[.agg (RC q1 q2), .int .i64 0]), s118, s119, s120, s121, s122, (.agg (RC q1 q2)), s124, c_b18, b18, rfl, lk h0, lk h1, lk h2, lk h3, lk h4, lk h5, fun _ => rfl, lk h7, lk h8, lk h9, lk h10, fun h => by rw [getD_keep (show 6 ≠ 9 by decide)] at h; rw [getD_keep (show 6 ≠ 8 by decide)]; exact hN_b18 h, hz0, by rw [getD_keep (show 6 ≠ 8 by decide)]; exact HF⟩
            · have d5 := h5 (hd 5 (by kernel_rfl))
              obtain rfl := d5
              refine wpOp_want rfl rfl (fun K hK => ?_)
              simp only [putAll, z1, z2, z3, z4, z5]
              refine ⟨?_⟩
              go_simp
              exact hK _ _ ⟨[s18, s19, (.tuple #[.agg (RC q1 q2), .int .i64 0]), s118, s119, s120, s121, s122, s123, (.int .i64 0)], by simp only [putAll, z1, z2], s18, s19, (.tuple #[.agg (RC q1 q2), .int .i64 0]), s118, s119, s120, s121, s122, s123, (.int .i64 0), c_b18, b18, rfl, lk h0, lk h1, lk h2, lk h3, lk h4, lk h5, lk h6, fun _ => rfl, lk h8, lk h9, lk h10, fun h => by rw [getD_keep (show 7 ≠ 9 by decide)] at h; rw [getD_keep (show 7 ≠ 8 by decide)]; exact hN_b18 h, hz0, by rw [getD_keep (show 7 ≠ 8 by decide)]; exact HF⟩
            · refine wpOp_want rfl rfl (fun K hK => ?_)
              simp only [putAll, z1, z2, z3, z4, z5]
              rw [show listed.getD 8 false = false from hoff] at HF
              skip
              with_reducible apply gA_rat HF
              intro bN W HF
              go_simp
              exact hK _ _ ⟨[(.pointer (some ⟨bN, 0, none⟩)), s19, s117, s118, s119, s120, s121, s122, s123, s124], by simp only [putAll, z1, z2], (.pointer (some ⟨bN, 0, none⟩)), s19, s117, s118, s119, s120, s121, s122, s123, s124, (RC 0 0), bN, rfl, lk h0, lk h1, lk h2, lk h3, lk h4, lk h5, lk h6, lk h7, fun _ => rfl, fun h => absurd (hN_b18 (by rw [getD_keep (show 8 ≠ 9 by decide)] at h; exact h)) (by rw [hoff]; decide), lk h10, fun _ => getD_on (by rw [hsz2]; decide), by exact tS2, by rw [getD_on (show 8 < listed.size by rw [hsz2]; decide)]; exact Fr.mid (A := [(b13, IC z, 29), (b6, RC 0 0, 31)]) HF⟩
            · have d6 := h6 (hd 6 (by kernel_rfl))
              have d8 := h8 (hd 8 (by kernel_rfl))
              obtain rfl := d6
              obtain rfl := d8
              refine wpOp_want rfl rfl (fun K hK => ?_)
              simp only [putAll, z1, z2, z3, z4, z5]
              rw [hd 8 (by kernel_rfl)] at HF
              simp only [onl, if_true, z7, z8] at HF
              with_reducible apply gS HF
              · exact rfl
              · exact rfl
              · (exact tL)
              · (first | (exact tR3))
              · first | exact hz0 | exact tS2
              clear HF
              intro W HF
              simp only [z7, z8, List.append_assoc, List.append_nil] at HF
              go_simp
              exact hK _ _ ⟨[(.pointer (some ⟨b18, 0, none⟩)), s19, s117, s118, s119, s120, s121, s122, (.agg (RC q1 q2)), s124], by simp only [putAll, z1, z2], (.pointer (some ⟨b18, 0, none⟩)), s19, s117, s118, s119, s120, s121, s122, (.agg (RC q1 q2)), s124, (RC q1 q2), b18, rfl, lk h0, lk h1, lk h2, lk h3, lk h4, lk h5, lk h6, lk h7, lk h8, fun _ => rfl, lk h10, fun _ => by rw [getD_keep (show 9 ≠ 8 by decide)]; exact hd 8 (by kernel_rfl), rfl, by rw [getD_keep (show 9 ≠ 8 by decide), hd 8 (by kernel_rfl)]; exact HF⟩
            · have d7 := h7 (hd 7 (by kernel_rfl))
              obtain rfl := d7
              refine wpOp_want rfl rfl (fun K hK => ?_)
              simp only [putAll, z1, z2, z3, z4, z5]
              refine ⟨?_⟩
              go_simp
              exact hK _ _ ⟨[s18, (.int .i64 0), s117, s118, s119, s120, s121, s122, s123, (.int .i64 0)], by simp only [putAll, z1, z2], s18, (.int .i64 0), s117, s118, s119, s120, s121, s122, s123, (.int .i64 0), c_b18, b18, rfl, lk h0, lk h1, lk h2, lk h3, lk h4, lk h5, lk h6, lk h7, lk h8, lk h9, fun _ => rfl, fun h => by rw [getD_keep (show 10 ≠ 9 by decide)] at h; rw [getD_keep (show 10 ≠ 8 by decide)]; exact hN_b18 h, hz0, by rw [getD_keep (show 10 ≠ 8 by decide)]; exact HF⟩
          rintro listed mm W ⟨s18, s19, s117, s118, s119, s120, s121, s122, s123, s124, c_b18, b18, rfl, h0, h1, h2, h3, h4, h5, h6, h7, h8, h9, h10, hN_b18, hz0, HF⟩ hall
          rw [hall 8 (by decide)] at HF
          simp only [onl, if_true, z7, z8] at HF
          obtain rfl := h0 (hall 0 (by decide))
          obtain rfl := h1 (hall 1 (by decide))
          obtain rfl := h2 (hall 2 (by decide))
          obtain rfl := h3 (hall 3 (by decide))
          obtain rfl := h4 (hall 4 (by decide))
          obtain rfl := h5 (hall 5 (by decide))
          obtain rfl := h6 (hall 6 (by decide))
          obtain rfl := h7 (hall 7 (by decide))
          obtain rfl := h8 (hall 8 (by decide))
          rw [h9 (hall 9 (by decide))] at HF
          obtain rfl := h10 (hall 10 (by decide))
          clear hall h0 h1 h2 h3 h4 h5 h6 h7 h8 h9 h10 hN_b18 hz0 F
          have F := HF
          clear HF
          simp only [putAll, z1, z2]
          go_wp2_with (first | go_skip | ((with_reducible apply fL F); exact rfl; exact rfl; (exact tL); (exact tR3)) | ((with_reducible apply fA_int F); exact rfl) | ((with_reducible apply fA_rat F); exact rfl) | ((with_reducible apply fS F); exact rfl; exact rfl; exact rfl; (exact tL); (exact tR3); (exact tS2); clear F; intro W F; simp only [z7, z8] at F) | ((with_reducible apply fB_int0); exact rfl) | ((with_reducible apply fB_rat0); exact rfl))
          exact bodyPost_ret (res_cs rfl rfl rfl (Fr.get F tL) (rowRC _ _)) rfl ⟨rfl, F.below⟩
        · by_cases hv0 : v = 0
          · subst hv0
            rw [if_pos ⟨rfl, rfl⟩] at hrf
            subst hrf
            have gs := fun w => rsignZ (x := 0) (by decide) w
            clear hT0 hTb hvb
            go_wp2_with (first | go_skip | ((go_at_call 77); (with_reducible refine fr_call F (gs _) ?_); (clear F; intro W F); (try dsimp only)) | ((with_reducible apply fL F); exact rfl; exact rfl; (exact tL); (exact tR3)) | ((with_reducible apply fA_int F); exact rfl) | ((with_reducible apply fA_rat F); exact rfl) | ((with_reducible apply fS F); exact rfl; exact rfl; exact rfl; (exact tL); (exact tR3); (exact tS2); clear F; intro W F; simp only [z7, z8] at F) | ((with_reducible apply fB_int0); exact rfl) | ((with_reducible apply fB_rat0); exact rfl))
            exact bodyPost_ret (res_cs rfl rfl rfl (Fr.get F tL) (rowRC _ _)) rfl ⟨rfl, F.below⟩
          · rw [if_neg (fun h => hv0 h.2), if_pos rfl] at hrf
            try dsimp only at hrf
            have hnb : (-(v : Int)).natAbs < bp 15 := by rw [Int.natAbs_neg]; exact hvb
            have gm := fun w => rmakeZ (b15 hnb) (b15 hTb) (mkR_ok (n := -(v : Int)) (d := (T : Int)) (by omega) hnb hTb).1 w
            have gs := fun w => rsignZ (x := (v : Int)) (b15 hvb) w
            have gn := fun w => rneg_any (x := (v : Int)) (b15 hvb) w
            have hsv : (((v : Int).sign) == 0) = false := by
              rw [beq_eq_false_iff_ne]
              intro h
              have := Int.sign_eq_zero_iff_zero.1 h
              omega
            obtain ⟨sg, hsg⟩ : ∃ sg, (v : Int).sign = sg := ⟨_, rfl⟩
            rw [hsg] at gs hsv
            obtain ⟨q1, hq1⟩ : ∃ q, lowN (-(v : Int)) (T : Int) = q := ⟨_, rfl⟩
            obtain ⟨q2, hq2⟩ : ∃ q, lowD (-(v : Int)) (T : Int) = q := ⟨_, rfl⟩
            rw [hq1, hq2] at gm hrf
            subst hrf
            obtain ⟨z, hz⟩ : ∃ z, -(v : Int) = z := ⟨_, rfl⟩
            rw [hz] at gm gn
            clear hq1 hq2 hT0 hTb hvb hz hnb hsg hv0
            go_wp2_with (first | go_skip | ((go_at_call 77); (with_reducible refine fr_call F (gs _) ?_); (clear F; intro W F); (try dsimp only)) | ((go_at_call 99); (with_reducible refine fr_call F (gn _) ?_); (clear F; intro W F); (try dsimp only)) | ((with_reducible apply fL F); exact rfl; exact rfl; (exact tL); (exact tR3)) | ((with_reducible apply fA_int F); exact rfl) | ((with_reducible apply fA_rat F); exact rfl) | ((with_reducible apply fS F); exact rfl; exact rfl; exact rfl; (exact tL); (exact tR3); (exact tS2); clear F; intro W F; simp only [z7, z8] at F) | ((with_reducible apply fB_int0); exact rfl) | ((with_reducible apply fB_rat0); exact rfl))
            try simp only [Act.put, z6, z1, z2]
            refine wp_region_slots mixP [18, 19, 117, 118, 119, 120, 121, 122, 123, 124] (fun l mm W => ∃ (s18 s19 s117 s118 s119 s120 s121 s122 s123 s124 : Value) (c_b18 : Array Value) (b18 : Nat), mm = [s18, s19, s117, s118, s119, s120, s121, s122, s123, s124] ∧ (l.getD 0 false = true → s118 = .agg (IC z)) ∧ (l.getD 1 false = true → s119 = .int .i64 (lf : Int)) ∧ (l.getD 2 false = true → s120 = .agg (RC (T : Int) 1)) ∧ (l.getD 3 false = true → s121 = .agg (IC (T : Int))) ∧ (l.getD 4 false = true → s122 = .tuple #[.agg (RC q1 q2), .int .i64 0]) ∧ (l.getD 5 false = true → s117 = .tuple #[.agg (RC q1 q2), .int .i64 0]) ∧ (l.getD 6 false = true → s123 = .agg (RC q1 q2)) ∧ (l.getD 7 false = true → s124 = .int .i64 0) ∧ (l.getD 8 false = true → s18 = .pointer (some ⟨b18, 0, none⟩)) ∧ (l.getD 9 false = true → c_b18 = RC q1 q2) ∧ (l.getD 10 false = true → s19 = .int .i64 0) ∧ (l.getD 9 false = true → l.getD 8 false = true) ∧ c_b18.size = (RC q1 q2).size ∧ Fr w W ((b13, IC z, 29) :: (b6, RC 0 0, 31) :: (onl (l.getD 8 false) (b18, c_b18, 31)))) (by kernel_rfl) (putAll_self _ _) ?_ ?_ ?_
            · exact ⟨_, _, _, _, _, _, _, _, _, _, (RC 0 0), 0, rfl, nf, nf, nf, nf, nf, nf, nf, nf, nf, nf, nf, nf, by exact tS2, F.drew⟩
            · rintro listed mm W ii hi hsz hoff ⟨s18, s19, s117, s118, s119, s120, s121, s122, s123, s124, c_b18, b18, rfl, h0, h1, h2, h3, h4, h5, h6, h7, h8, h9, h10, hN_b18, hz0, HF⟩ hd
              have hc := dr_c11 hi
              have hsz2 : listed.size = 11 := hsz
              clear hi hsz
              rcases hc with rfl | rfl | rfl | rfl | rfl | rfl | rfl | rfl | rfl | rfl | rfl
              · refine wpOp_want rfl rfl (fun K hK => ?_)
                simp only [putAll, z1, z2, z3, z4, z5]
                with_reducible apply gL HF
                · exact rfl
                · (exact tL)
                · (first | (exact tR3))
                go_simp
                exact hK _ _ ⟨[s18, s19, s117, (.agg (IC z)), s119, s120, s121, s122, s123, s124], by simp only [putAll, z1, z2], s18, s19, s117, (.agg (IC z)), s119, s120, s121, s122, s123, s124, c_b18, b18, rfl, fun _ => rfl, lk h1, lk h2, lk h3, lk h4, lk h5, lk h6, lk h7, lk h8, lk h9, lk h10, fun h => by rw [getD_keep (show 0 ≠ 9 by decide)] at h; rw [getD_keep (show 0 ≠ 8 by decide)]; exact hN_b18 h, hz0, by rw [getD_keep (show 0 ≠ 8 by decide)]; exact HF⟩
              · refine wpOp_want rfl rfl (fun K hK => ?_)
                simp only [putAll, z1, z2, z3, z4, z5]
                refine ⟨?_⟩
                go_simp
                exact hK _ _ ⟨[s18, s19, s117, s118, (.int .i64 (lf : Int)), s120, s121, s122, s123, s124], by simp only [putAll, z1, z2], s18, s19, s117, s118, (.int .i64 (lf : Int)), s120, s121, s122, s123, s124, c_b18, b18, rfl, lk h0, fun _ => rfl, lk h2, lk h3, lk h4, lk h5, lk h6, lk h7, lk h8, lk h9, lk h10, fun h => by rw [getD_keep (show 1 ≠ 9 by decide)] at h; rw [getD_keep (show 1 ≠ 8 by decide)]; exact hN_b18 h, hz0, by rw [getD_keep (show 1 ≠ 8 by decide)]; exact HF⟩
              · have d1 := h1 (hd 1 (by kernel_rfl))
                obtain rfl := d1
                refine wpOp_want rfl rfl (fun K hK => ?_)
                simp only [putAll, z1, z2, z3, z4, z5]
                refine ⟨?_⟩
                go_simp
                with_reducible refine fr_call HF (gp _) ?_
                clear HF
                intro W HF
                (try dsimp only)
                exact hK _ _ ⟨[s18, s19, s117, s118, (.int .i64 (lf : Int)), (.agg (RC (T : Int) 1)), s121, s122, s123, s124], by simp only [putAll, z1, z2], s18, s19, s117, s118, (.int .i64 (lf : Int)), (.agg (RC (T : Int) 1)), s121, s122, s123, s124, c_b18, b18, rfl, lk h0, lk h1, fun _ => rfl, lk h3, lk h4, lk h5, lk h6, lk h7, lk h8, lk h9, lk h10, fun h => by rw [getD_keep (show 2 ≠ 9 by decide)] at h; rw [getD_keep (show 2 ≠ 8 by decide)]; exact hN_b18 h, hz0, by rw [getD_keep (show 2 ≠ 8 by decide)]; exact HF⟩
              · have d2 := h2 (hd 2 (by kernel_rfl))
                obtain rfl := d2
                refine wpOp_want rfl rfl (fun K hK => ?_)
                simp only [putAll, z1, z2, z3, z4, z5]
                with_reducible apply gF_num
                · exact rfl
                go_simp
                exact hK _ _ ⟨[s18, s19, s117, s118, s119, (.agg (RC (T : Int) 1)), (.agg (IC (T : Int))), s122, s123, s124], by simp only [putAll, z1, z2], s18, s19, s117, s118, s119, (.agg (RC (T : Int) 1)), (.agg (IC (T : Int))), s122, s123, s124, c_b18, b18, rfl, lk h0, lk h1, lk h2, fun _ => rfl, lk h4, lk h5, lk h6, lk h7, lk h8, lk h9, lk h10, fun h => by rw [getD_keep (show 3 ≠ 9 by decide)] at h; rw [getD_keep (show 3 ≠ 8 by decide)]; exact hN_b18 h, hz0, by rw [getD_keep (show 3 ≠ 8 by decide)]; exact HF⟩
              · have d0 := h0 (hd 0 (by kernel_rfl))
                have d3 := h3 (hd 3 (by kernel_rfl))
                obtain rfl := d0
                obtain rfl := d3
                refine wpOp_want rfl rfl (fun K hK => ?_)
                simp only [putAll, z1, z2, z3, z4, z5]
                refine ⟨?_⟩
                go_simp
                with_reducible refine fr_call HF (gm _) ?_
                clear HF
                intro W HF
                (try dsimp only)
                exact hK _ _ ⟨[s18, s19, s117, (.agg (IC z)), s119, s120, (.agg (IC (T : Int))), (.tuple #[.agg (RC q1 q2), .int .i64 0]), s123, s124], by simp only [putAll, z1, z2], s18, s19, s117, (.agg (IC z)), s119, s120, (.agg (IC (T : Int))), (.tuple #[.agg (RC q1 q2), .int .i64 0]), s123, s124, c_b18, b18, rfl, lk h0, lk h1, lk h2, lk h3, fun _ => rfl, lk h5, lk h6, lk h7, lk h8, lk h9, lk h10, fun h => by rw [getD_keep (show 4 ≠ 9 by decide)] at h; rw [getD_keep (show 4 ≠ 8 by decide)]; exact hN_b18 h, hz0, by rw [getD_keep (show 4 ≠ 8 by decide)]; exact HF⟩
              · have d4 := h4 (hd 4 (by kernel_rfl))
                obtain rfl := d4
                refine wpOp_want rfl rfl (fun K hK => ?_)
                simp only [putAll, z1, z2, z3, z4, z5]
                refine ⟨?_⟩
                go_simp
                exact hK _ _ ⟨[s18, s19, (.tuple #[.agg (RC q1 q2), .int .i64 0]), s118, s119, s120, s121, (.tuple #[.agg (RC q1 q2), .int .i64 0]), s123, s124], by simp only [putAll, z1, z2], s18, s19, (.tuple #[.agg (RC q1 q2), .int .i64 0]), s118, s119, s120, s121, (.tuple #[.agg (RC q1 q2), .int .i64 0]), s123, s124, c_b18, b18, rfl, lk h0, lk h1, lk h2, lk h3, lk h4, fun _ => rfl, lk h6, lk h7, lk h8, lk h9, lk h10, fun h => by rw [getD_keep (show 5 ≠ 9 by decide)] at h; rw [getD_keep (show 5 ≠ 8 by decide)]; exact hN_b18 h, hz0, by rw [getD_keep (show 5 ≠ 8 by decide)]; exact HF⟩
              · have d5 := h5 (hd 5 (by kernel_rfl))
                obtain rfl := d5
                refine wpOp_want rfl rfl (fun K hK => ?_)
                simp only [putAll, z1, z2, z3, z4, z5]
                refine ⟨?_⟩
                go_simp
                exact hK _ _ ⟨[s18, s19, (.tuple #[.agg (RC q1 q2), .int .i64 0]), s118, s119, s120, s121, s122, (.agg (RC q1 q2)), s124], by simp only [putAll, z1, z2], s18, s19, (.tuple #[.agg (RC q1 q2), .int .i64 0]), s118, s119, s120, s121, s122, (.agg (RC q1 q2)), s124, c_b18, b18, rfl, lk h0, lk h1, lk h2, lk h3, lk h4, lk h5, fun _ => rfl, lk h7, lk h8, lk h9, lk h10, fun h => by rw [getD_keep (show 6 ≠ 9 by decide)] at h; rw [getD_keep (show 6 ≠ 8 by decide)]; exact hN_b18 h, hz0, by rw [getD_keep (show 6 ≠ 8 by decide)]; exact HF⟩
              · have d5 := h5 (hd 5 (by kernel_rfl))
                obtain rfl := d5
                refine wpOp_want rfl rfl (fun K hK => ?_)
                simp only [putAll, z1, z2, z3, z4, z5]
                refine ⟨?_⟩
                go_simp
                exact hK _ _ ⟨[s18, s19, (.tuple #[.agg (RC q1 q2), .int .i64 0]), s118, s119, s120, s121, s122, s123, (.int .i64 0)], by simp only [putAll, z1, z2], s18, s19, (.tuple #[.agg (RC q1 q2), .int .i64 0]), s118, s119, s120, s121, s122, s123, (.int .i64 0), c_b18, b18, rfl, lk h0, lk h1, lk h2, lk h3, lk h4, lk h5, lk h6, fun _ => rfl, lk h8, lk h9, lk h10, fun h => by rw [getD_keep (show 7 ≠ 9 by decide)] at h; rw [getD_keep (show 7 ≠ 8 by decide)]; exact hN_b18 h, hz0, by rw [getD_keep (show 7 ≠ 8 by decide)]; exact HF⟩
              · refine wpOp_want rfl rfl (fun K hK => ?_)
                simp only [putAll, z1, z2, z3, z4, z5]
                rw [show listed.getD 8 false = false from hoff] at HF
                skip
                with_reducible apply gA_rat HF
                intro bN W HF
                go_simp
                exact hK _ _ ⟨[(.pointer (some ⟨bN, 0, none⟩)), s19, s117, s118, s119, s120, s121, s122, s123, s124], by simp only [putAll, z1, z2], (.pointer (some ⟨bN, 0, none⟩)), s19, s117, s118, s119, s120, s121, s122, s123, s124, (RC 0 0), bN, rfl, lk h0, lk h1, lk h2, lk h3, lk h4, lk h5, lk h6, lk h7, fun _ => rfl, fun h => absurd (hN_b18 (by rw [getD_keep (show 8 ≠ 9 by decide)] at h; exact h)) (by rw [hoff]; decide), lk h10, fun _ => getD_on (by rw [hsz2]; decide), by exact tS2, by rw [getD_on (show 8 < listed.size by rw [hsz2]; decide)]; exact Fr.mid (A := [(b13, IC z, 29), (b6, RC 0 0, 31)]) HF⟩
              · have d6 := h6 (hd 6 (by kernel_rfl))
                have d8 := h8 (hd 8 (by kernel_rfl))
                obtain rfl := d6
                obtain rfl := d8
                refine wpOp_want rfl rfl (fun K hK => ?_)
                simp only [putAll, z1, z2, z3, z4, z5]
                rw [hd 8 (by kernel_rfl)] at HF
                simp only [onl, if_true, z7, z8] at HF
                with_reducible apply gS HF
                · exact rfl
                · exact rfl
                · (exact tL)
                · (first | (exact tR3))
                · first | exact hz0 | exact tS2
                clear HF
                intro W HF
                simp only [z7, z8, List.append_assoc, List.append_nil] at HF
                go_simp
                exact hK _ _ ⟨[(.pointer (some ⟨b18, 0, none⟩)), s19, s117, s118, s119, s120, s121, s122, (.agg (RC q1 q2)), s124], by simp only [putAll, z1, z2], (.pointer (some ⟨b18, 0, none⟩)), s19, s117, s118, s119, s120, s121, s122, (.agg (RC q1 q2)), s124, (RC q1 q2), b18, rfl, lk h0, lk h1, lk h2, lk h3, lk h4, lk h5, lk h6, lk h7, lk h8, fun _ => rfl, lk h10, fun _ => by rw [getD_keep (show 9 ≠ 8 by decide)]; exact hd 8 (by kernel_rfl), rfl, by rw [getD_keep (show 9 ≠ 8 by decide), hd 8 (by kernel_rfl)]; exact HF⟩
              · have d7 := h7 (hd 7 (by kernel_rfl))
                obtain rfl := d7
                refine wpOp_want rfl rfl (fun K hK => ?_)
                simp only [putAll, z1, z2, z3, z4, z5]
                refine ⟨?_⟩
                go_simp
                exact hK _ _ ⟨[s18, (.int .i64 0), s117, s118, s119, s120, s121, s122, s123, (.int .i64 0)], by simp only [putAll, z1, z2], s18, (.int .i64 0), s117, s118, s119, s120, s121, s122, s123, (.int .i64 0), c_b18, b18, rfl, lk h0, lk h1, lk h2, lk h3, lk h4, lk h5, lk h6, lk h7, lk h8, lk h9, fun _ => rfl, fun h => by rw [getD_keep (show 10 ≠ 9 by decide)] at h; rw [getD_keep (show 10 ≠ 8 by decide)]; exact hN_b18 h, hz0, by rw [getD_keep (show 10 ≠ 8 by decide)]; exact HF⟩
            rintro listed mm W ⟨s18, s19, s117, s118, s119, s120, s121, s122, s123, s124, c_b18, b18, rfl, h0, h1, h2, h3, h4, h5, h6, h7, h8, h9, h10, hN_b18, hz0, HF⟩ hall
            rw [hall 8 (by decide)] at HF
            simp only [onl, if_true, z7, z8] at HF
            obtain rfl := h0 (hall 0 (by decide))
            obtain rfl := h1 (hall 1 (by decide))
            obtain rfl := h2 (hall 2 (by decide))
            obtain rfl := h3 (hall 3 (by decide))
            obtain rfl := h4 (hall 4 (by decide))
            obtain rfl := h5 (hall 5 (by decide))
            obtain rfl := h6 (hall 6 (by decide))
            obtain rfl := h7 (hall 7 (by decide))
            obtain rfl := h8 (hall 8 (by decide))
            rw [h9 (hall 9 (by decide))] at HF
            obtain rfl := h10 (hall 10 (by decide))
            clear hall h0 h1 h2 h3 h4 h5 h6 h7 h8 h9 h10 hN_b18 hz0 F
            have F := HF
            clear HF
            simp only [putAll, z1, z2]
            go_wp2_with (first | go_skip | ((with_reducible apply fL F); exact rfl; exact rfl; (exact tL); (exact tR3)) | ((with_reducible apply fA_int F); exact rfl) | ((with_reducible apply fA_rat F); exact rfl) | ((with_reducible apply fS F); exact rfl; exact rfl; exact rfl; (exact tL); (exact tR3); (exact tS2); clear F; intro W F; simp only [z7, z8] at F) | ((with_reducible apply fB_int0); exact rfl) | ((with_reducible apply fB_rat0); exact rfl))
            exact bodyPost_ret (res_cs rfl rfl rfl (Fr.get F tL) (rowRC _ _)) rfl ⟨rfl, F.below⟩
  · rw [if_pos rfl] at hr
    subst hr
    clear HR hB hn hnl
    go_wp2_with (first | go_skip | ((with_reducible apply fL F); exact rfl; exact rfl; (exact tL); (exact tR3)) | ((with_reducible apply fA_int F); exact rfl) | ((with_reducible apply fA_rat F); exact rfl) | ((with_reducible apply fS F); exact rfl; exact rfl; exact rfl; (exact tL); (exact tR3); (exact tS2); clear F; intro W F; simp only [z7, z8] at F) | ((with_reducible apply fB_int0); exact rfl) | ((with_reducible apply fB_rat0); exact rfl))
    exact bodyPost_ret (res_cs rfl rfl rfl (Fr.get F tL) (rowRC _ _)) rfl ⟨rfl, F.below⟩
end
end Go.Proofs.YtpaodheilchfnaaGreatDoor
