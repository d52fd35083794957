/- What the laws lean on. -/
import Derived.Test.YtpaodheilchfnaaGreatDoorPz5
namespace Go.Proofs.YtpaodheilchfnaaGreatDoor
set_option linter.unusedVariables false
set_option linter.unusedSimpArgs false
section
open Go.RowKit
set_option maxHeartbeats 4000000
theorem cmpZ_signs {x y : Int} : cmpZ x y = if x.sign < y.sign then -1 else if y.sign < x.sign then 1 else x.sign * cmpN x.natAbs y.natAbs := by
  unfold cmpZ cmpN
  rcases Int.lt_trichotomy x 0 with h | h | h <;> rcases Int.lt_trichotomy y 0 with k | k | k
  all_goals first | rw [Int.sign_eq_neg_one_of_neg h] | rw [Int.sign_eq_one_of_pos h] | rw [h, Int.sign_zero]
  all_goals first | rw [Int.sign_eq_neg_one_of_neg k] | rw [Int.sign_eq_one_of_pos k] | rw [k, Int.sign_zero]
  all_goals (repeat' split) <;> omega
set_option maxRecDepth 100000 in
theorem rcmp_any {x y : Int} (hx : x.natAbs < bp 32) (hy : y.natAbs < bp 32) (w : World) : Calls Tryz.prog 49 #[.agg (IC x), .agg (IC y)] w (RetB (.int .i64 (cmpZ x y)) w) := by
  have F := Fr.start w
  have g1 := fun w => rsignZ hx w
  have g2 := fun w => rsignZ hy w
  have g3 := fun w => rcompare_any hx hy w
  have hc := cmpZ_signs (x := x) (y := y)
  have hcb : -1 ≤ cmpN x.natAbs y.natAbs ∧ cmpN x.natAbs y.natAbs ≤ 1 := by unfold cmpN; (repeat' split) <;> omega
  have hsb : x.sign = -1 ∨ x.sign = 0 ∨ x.sign = 1 := by
    rcases Int.lt_trichotomy x 0 with h | h | h
    · exact .inl (Int.sign_eq_neg_one_of_neg h)
    · exact .inr (.inl (by rw [h]; rfl))
    · exact .inr (.inr (Int.sign_eq_one_of_pos h))
  obtain ⟨r, hr⟩ : ∃ r, cmpZ x y = r := ⟨_, rfl⟩
  obtain ⟨s, hs⟩ : ∃ s, x.sign = s := ⟨_, rfl⟩
  obtain ⟨t, ht⟩ : ∃ t, y.sign = t := ⟨_, rfl⟩
  obtain ⟨c, hcc⟩ : ∃ c, cmpN x.natAbs y.natAbs = c := ⟨_, rfl⟩
  rw [hr, hs, ht, hcc] at hc
  rw [hr]
  rw [hs] at g1 hsb
  rw [ht] at g2
  rw [hcc] at g3 hcb
  obtain ⟨p, hp⟩ : ∃ p, s * c = p := ⟨_, rfl⟩
  have hpb : -1 ≤ p ∧ p ≤ 1 := by rw [← hp]; rcases hsb with h | h | h <;> rw [h] <;> omega
  have wp : RowKit.wrap64 p = p := by rw [RowKit.wrap64]; omega
  rw [hp] at hc
  have HC := Lib.hid hc
  clear hx hy hc hcb hsb hr hs ht hcc hpb
  go_enter Tryz.func49, Tryz.ntmps49
  go_wp2_with (first | go_skip | ((with_reducible apply fL F); exact rfl; exact rfl; (exact tL); (exact tR3)) | ((with_reducible apply fLm F); exact rfl; exact rfl; (exact tL); (exact tM3); (exact tR3)) | ((with_reducible apply fX_int F); exact rfl; exact rfl))
  (clear F; intro b2 W F; try simp only [Act.put, z6, z1, z2])
  go_wp2_with (first | go_skip | ((with_reducible apply fL F); exact rfl; exact rfl; (exact tL); (exact tR3)) | ((with_reducible apply fLm F); exact rfl; exact rfl; (exact tL); (exact tM3); (exact tR3)) | ((with_reducible apply fX_int F); exact rfl; exact rfl))
  (clear F; intro b3 W F; try simp only [Act.put, z6, z1, z2])
  go_wp2_with (first | go_skip | ((with_reducible apply fL F); exact rfl; exact rfl; (exact tL); (exact tR3)) | ((with_reducible apply fLm F); exact rfl; exact rfl; (exact tL); (exact tM3); (exact tR3)) | ((with_reducible apply fX_int F); exact rfl; exact rfl))
  try simp only [Act.put, z6, z1, z2]
  refine wp_region_slots mixP [5, 6, 7, 8, 9, 10] (fun l mm W => ∃ (s5 s6 s7 s8 s9 s10 : Value), mm = [s5, s6, s7, s8, s9, s10] ∧ (l.getD 0 false = true → s7 = .agg (IC x)) ∧ (l.getD 1 false = true → s8 = .int .i64 s) ∧ (l.getD 2 false = true → s9 = .agg (IC y)) ∧ (l.getD 3 false = true → s10 = .int .i64 t) ∧ (l.getD 4 false = true → s5 = .int .i64 s) ∧ (l.getD 5 false = true → s6 = .int .i64 t) ∧ Fr w W [(b3, IC y, 29), (b2, IC x, 29)]) (by kernel_rfl) rfl ?_ ?_ ?_
  · exact ⟨_, _, _, _, _, _, rfl, nf, nf, nf, nf, nf, nf, F.drew⟩
  · rintro listed mm W ii hi hsz hoff ⟨s5, s6, s7, s8, s9, s10, rfl, h0, h1, h2, h3, h4, h5, HF⟩ hd
    have hc : ii = 0 ∨ ii = 1 ∨ ii = 2 ∨ ii = 3 ∨ ii = 4 ∨ ii = 5 := by
      have hi2 : ii < 6 := hi
      omega
    have hsz2 : listed.size = 6 := hsz
    clear hi hsz
    rcases hc with rfl | rfl | rfl | rfl | rfl | rfl
    · refine wpOp_want rfl rfl (fun K hK => ?_)
      simp only [putAll, z1, z2, z3, z4, z5]
      with_reducible apply gL HF
      · exact rfl
      · (exact tL)
      · (first | (exact tR3))
      go_simp
      exact hK _ _ ⟨[s5, s6, (.agg (IC x)), s8, s9, s10], by simp only [putAll, z1, z2], s5, s6, (.agg (IC x)), s8, s9, s10, rfl, fun _ => rfl, lk h1, lk h2, lk h3, lk h4, lk h5, HF⟩
    · have d0 := h0 (hd 0 (by kernel_rfl))
      obtain rfl := d0
      refine wpOp_want rfl rfl (fun K hK => ?_)
      simp only [putAll, z1, z2, z3, z4, z5]
      refine ⟨?_⟩
      go_simp
      with_reducible refine fr_call HF (g1 _) ?_
      clear HF
      intro W HF
      (try dsimp only)
      exact hK _ _ ⟨[s5, s6, (.agg (IC x)), (.int .i64 s), s9, s10], by simp only [putAll, z1, z2], s5, s6, (.agg (IC x)), (.int .i64 s), s9, s10, rfl, lk h0, fun _ => rfl, lk h2, lk h3, lk h4, lk h5, HF⟩
    · refine wpOp_want rfl rfl (fun K hK => ?_)
      simp only [putAll, z1, z2, z3, z4, z5]
      with_reducible apply gL HF
      · exact rfl
      · (exact tL)
      · (first | (exact tR3))
      go_simp
      exact hK _ _ ⟨[s5, s6, s7, s8, (.agg (IC y)), s10], by simp only [putAll, z1, z2], s5, s6, s7, s8, (.agg (IC y)), s10, rfl, lk h0, lk h1, fun _ => rfl, lk h3, lk h4, lk h5, HF⟩
    · have d2 := h2 (hd 2 (by kernel_rfl))
      obtain rfl := d2
      refine wpOp_want rfl rfl (fun K hK => ?_)
      simp only [putAll, z1, z2, z3, z4, z5]
      refine ⟨?_⟩
      go_simp
      with_reducible refine fr_call HF (g2 _) ?_
      clear HF
      intro W HF
      (try dsimp only)
      exact hK _ _ ⟨[s5, s6, s7, s8, (.agg (IC y)), (.int .i64 t)], by simp only [putAll, z1, z2], s5, s6, s7, s8, (.agg (IC y)), (.int .i64 t), rfl, lk h0, lk h1, lk h2, fun _ => rfl, lk h4, lk h5, HF⟩
    · have d1 := h1 (hd 1 (by kernel_rfl))
      obtain rfl := d1
      refine wpOp_want rfl rfl (fun K hK => ?_)
      simp only [putAll, z1, z2, z3, z4, z5]
      refine ⟨?_⟩
      go_simp
      exact hK _ _ ⟨[(.int .i64 s), s6, s7, (.int .i64 s), s9, s10], by simp only [putAll, z1, z2], (.int .i64 s), s6, s7, (.int .i64 s), s9, s10, rfl, lk h0, lk h1, lk h2, lk h3, fun _ => rfl, lk h5, HF⟩
    · have d3 := h3 (hd 3 (by kernel_rfl))
      obtain rfl := d3
      refine wpOp_want rfl rfl (fun K hK => ?_)
      simp only [putAll, z1, z2, z3, z4, z5]
      refine ⟨?_⟩
      go_simp
      exact hK _ _ ⟨[s5, (.int .i64 t), s7, s8, s9, (.int .i64 t)], by simp only [putAll, z1, z2], s5, (.int .i64 t), s7, s8, s9, (.int .i64 t), rfl, lk h0, lk h1, lk h2, lk h3, lk h4, fun _ => rfl, HF⟩
  rintro listed mm W ⟨s5, s6, s7, s8, s9, s10, rfl, h0, h1, h2, h3, h4, h5, HF⟩ hall
  obtain rfl := h0 (hall 0 (by decide))
  obtain rfl := h1 (hall 1 (by decide))
  obtain rfl := h2 (hall 2 (by decide))
  obtain rfl := h3 (hall 3 (by decide))
  obtain rfl := h4 (hall 4 (by decide))
  obtain rfl := h5 (hall 5 (by decide))
  clear hall h0 h1 h2 h3 h4 h5 F
  have F := HF
  clear HF
  simp only [putAll, z1, z2]
  by_cases h1 : s < t
  · have hr : r = -1 := by rw [HC.out, if_pos h1]
    subst hr
    clear HC
    go_wp2_with (first | go_skip | ((with_reducible apply fL F); exact rfl; exact rfl; (exact tL); (exact tR3)) | ((with_reducible apply fLm F); exact rfl; exact rfl; (exact tL); (exact tM3); (exact tR3)) | ((with_reducible apply fX_int F); exact rfl; exact rfl))
    go_ret
    exact ⟨rfl, F.below⟩
  by_cases h2 : t < s
  · have hr : r = 1 := by rw [HC.out, if_neg h1, if_pos h2]
    subst hr
    clear HC
    go_wp2_with (first | go_skip | ((with_reducible apply fL F); exact rfl; exact rfl; (exact tL); (exact tR3)) | ((with_reducible apply fLm F); exact rfl; exact rfl; (exact tL); (exact tM3); (exact tR3)) | ((with_reducible apply fX_int F); exact rfl; exact rfl))
    go_ret
    exact ⟨rfl, F.below⟩
  have hr : r = p := by rw [HC.out, if_neg h1, if_neg h2]
  have t1 : decide (s < t) = false := decide_eq_false h1
  have t2 : decide (t < s) = false := decide_eq_false h2
  subst hr
  clear HC h1 h2
  go_wp2_with (first | go_skip | ((go_at_call 95); (with_reducible refine fr_call F (g3 _) ?_); (clear F; intro W F); (try dsimp only)) | ((with_reducible apply fL F); exact rfl; exact rfl; (exact tL); (exact tR3)) | ((with_reducible apply fLm F); exact rfl; exact rfl; (exact tL); (exact tM3); (exact tR3)) | ((with_reducible apply fX_int F); exact rfl; exact rfl))
  go_ret
  exact ⟨ret_int wp, F.below⟩
end
end Go.Proofs.YtpaodheilchfnaaGreatDoor
