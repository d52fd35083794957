/- What the laws lean on. -/
import Derived.Test.YtpaodheilchfnaaGreatDoorPz17
import Derived.Test.YtpaodheilchfnaaGreatDoorPz24
namespace Go.Proofs.YtpaodheilchfnaaGreatDoor
set_option linter.unusedVariables false
set_option linter.unusedSimpArgs false
section
open Go.RowKit
set_option maxHeartbeats 4000000
section
variable {n d m e : Int} {r : Int × Int × Int}
set_option maxRecDepth 100000 in
theorem rnegativeR (hn : n.natAbs < bp 32) (w : World) : Calls Tryz.prog 52 #[.agg (RC n d)] w (RetB (.agg (RC (-n) d)) w) := by
  have F := Fr.start w
  have g1 := fun w => rneg_any hn w
  go_enter Tryz.func52, Tryz.ntmps52
  go_wp2_with (first | go_skip | ((with_reducible apply fL F); exact rfl; exact rfl; (exact tL); (exact tR3)) | ((with_reducible apply fLm F); exact rfl; exact rfl; (exact tL); (exact tM3); (exact tR3)) | ((with_reducible apply fA_rat F); exact rfl) | ((with_reducible apply fX_rat F); exact rfl; exact rfl) | ((with_reducible apply fS F); exact rfl; exact rfl; exact rfl; (exact tL); (exact tR3); (exact tS2); clear F; intro W F; simp only [z7, z8] at F) | ((with_reducible apply fB_rat); exact rfl; exact rfl; exact rfl))
  (clear F; intro b1 W F; try simp only [Act.put, z6, z1, z2])
  go_wp2_with (first | go_skip | ((with_reducible apply fL F); exact rfl; exact rfl; (exact tL); (exact tR3)) | ((with_reducible apply fLm F); exact rfl; exact rfl; (exact tL); (exact tM3); (exact tR3)) | ((with_reducible apply fA_rat F); exact rfl) | ((with_reducible apply fX_rat F); exact rfl; exact rfl) | ((with_reducible apply fS F); exact rfl; exact rfl; exact rfl; (exact tL); (exact tR3); (exact tS2); clear F; intro W F; simp only [z7, z8] at F) | ((with_reducible apply fB_rat); exact rfl; exact rfl; exact rfl))
  (clear F; intro b2 W F; try simp only [Act.put, z6, z1, z2])
  go_wp2_with (first | go_skip | ((with_reducible apply fL F); exact rfl; exact rfl; (exact tL); (exact tR3)) | ((with_reducible apply fLm F); exact rfl; exact rfl; (exact tL); (exact tM3); (exact tR3)) | ((with_reducible apply fA_rat F); exact rfl) | ((with_reducible apply fX_rat F); exact rfl; exact rfl) | ((with_reducible apply fS F); exact rfl; exact rfl; exact rfl; (exact tL); (exact tR3); (exact tS2); clear F; intro W F; simp only [z7, z8] at F) | ((with_reducible apply fB_rat); exact rfl; exact rfl; exact rfl))
  try simp only [Act.put, z6, z1, z2]
  refine wp_region_slots mixP [3, 4, 5, 6, 7, 8] (fun l mm W => ∃ (s3 s4 s5 s6 s7 s8 : Value) (c_b2 : Array Value), mm = [s3, s4, s5, s6, s7, s8] ∧ (l.getD 0 false = true → s3 = .pointer (some ⟨b1, 0, none⟩)) ∧ (l.getD 1 false = true → s4 = .agg (IC n)) ∧ (l.getD 2 false = true → s5 = .agg (IC (-n))) ∧ (l.getD 3 false = true → s6 = .pointer (some ⟨b1, 33, none⟩)) ∧ (l.getD 4 false = true → s7 = .agg (IC d)) ∧ (l.getD 5 false = true → s8 = .agg (RC (-n) d)) ∧ (l.getD 6 false = true → c_b2 = RC (-n) d) ∧ c_b2.size = (RC (-n) d).size ∧ Fr w W [(b2, c_b2, 31), (b1, RC n d, 31)]) (by kernel_rfl) (putAll_self _ _) ?_ ?_ ?_
  · exact ⟨_, _, _, _, _, _, (RC 0 0), rfl, nf, nf, nf, nf, nf, nf, nf, by exact tS2, F.drew⟩
  · rintro listed mm W ii hi hsz hoff ⟨s3, s4, s5, s6, s7, s8, c_b2, rfl, h0, h1, h2, h3, h4, h5, h6, hz0, HF⟩ hd
    have hc := dr_c7 hi
    have hsz2 : listed.size = 7 := hsz
    clear hi hsz
    rcases hc with rfl | rfl | rfl | rfl | rfl | rfl | rfl
    · refine wpOp_want rfl rfl (fun K hK => ?_)
      simp only [putAll, z1, z2, z3, z4, z5]
      refine ⟨?_⟩
      go_simp
      exact hK _ _ ⟨[(.pointer (some ⟨b1, 0, none⟩)), s4, s5, s6, s7, s8], by simp only [putAll, z1, z2], (.pointer (some ⟨b1, 0, none⟩)), s4, s5, s6, s7, s8, c_b2, rfl, fun _ => rfl, lk h1, lk h2, lk h3, lk h4, lk h5, lk h6, hz0, HF⟩
    · have d0 := h0 (hd 0 (by kernel_rfl))
      obtain rfl := d0
      refine wpOp_want rfl rfl (fun K hK => ?_)
      simp only [putAll, z1, z2, z3, z4, z5]
      with_reducible apply gLm HF
      · exact rfl
      · (exact tL)
      · exact RC_num _ _
      · (first | (exact tR3))
      go_simp
      exact hK _ _ ⟨[(.pointer (some ⟨b1, 0, none⟩)), (.agg (IC n)), s5, s6, s7, s8], by simp only [putAll, z1, z2], (.pointer (some ⟨b1, 0, none⟩)), (.agg (IC n)), s5, s6, s7, s8, c_b2, rfl, lk h0, fun _ => rfl, lk h2, lk h3, lk h4, lk h5, lk h6, hz0, HF⟩
    · have d1 := h1 (hd 1 (by kernel_rfl))
      obtain rfl := d1
      refine wpOp_want rfl rfl (fun K hK => ?_)
      simp only [putAll, z1, z2, z3, z4, z5]
      refine ⟨?_⟩
      go_simp
      with_reducible refine fr_call HF (g1 _) ?_
      clear HF
      intro W HF
      (try dsimp only)
      exact hK _ _ ⟨[s3, (.agg (IC n)), (.agg (IC (-n))), s6, s7, s8], by simp only [putAll, z1, z2], s3, (.agg (IC n)), (.agg (IC (-n))), s6, s7, s8, c_b2, rfl, lk h0, lk h1, fun _ => rfl, lk h3, lk h4, lk h5, lk h6, hz0, HF⟩
    · refine wpOp_want rfl rfl (fun K hK => ?_)
      simp only [putAll, z1, z2, z3, z4, z5]
      refine ⟨?_⟩
      go_simp
      exact hK _ _ ⟨[s3, s4, s5, (.pointer (some ⟨b1, 33, none⟩)), s7, s8], by simp only [putAll, z1, z2], s3, s4, s5, (.pointer (some ⟨b1, 33, none⟩)), s7, s8, c_b2, rfl, lk h0, lk h1, lk h2, fun _ => rfl, lk h4, lk h5, lk h6, hz0, HF⟩
    · have d3 := h3 (hd 3 (by kernel_rfl))
      obtain rfl := d3
      refine wpOp_want rfl rfl (fun K hK => ?_)
      simp only [putAll, z1, z2, z3, z4, z5]
      with_reducible apply gLm HF
      · exact rfl
      · (exact tL)
      · exact RC_den _ _
      · (first | (exact tR3))
      go_simp
      exact hK _ _ ⟨[s3, s4, s5, (.pointer (some ⟨b1, 33, none⟩)), (.agg (IC d)), s8], by simp only [putAll, z1, z2], s3, s4, s5, (.pointer (some ⟨b1, 33, none⟩)), (.agg (IC d)), s8, c_b2, rfl, lk h0, lk h1, lk h2, lk h3, fun _ => rfl, lk h5, lk h6, hz0, HF⟩
    · have d2 := h2 (hd 2 (by kernel_rfl))
      have d4 := h4 (hd 4 (by kernel_rfl))
      obtain rfl := d2
      obtain rfl := d4
      refine wpOp_want rfl rfl (fun K hK => ?_)
      simp only [putAll, z1, z2, z3, z4, z5]
      with_reducible apply gB_rat
      · exact rfl
      · exact rfl
      go_simp
      exact hK _ _ ⟨[s3, s4, (.agg (IC (-n))), s6, (.agg (IC d)), (.agg (RC (-n) d))], by simp only [putAll, z1, z2], s3, s4, (.agg (IC (-n))), s6, (.agg (IC d)), (.agg (RC (-n) d)), c_b2, rfl, lk h0, lk h1, lk h2, lk h3, lk h4, fun _ => rfl, lk h6, hz0, HF⟩
    · have d5 := h5 (hd 5 (by kernel_rfl))
      obtain rfl := d5
      refine wpOp_want rfl rfl (fun K hK => ?_)
      simp only [putAll, z1, z2, z3, z4, z5]
      with_reducible apply gS HF
      · exact rfl
      · exact rfl
      · (exact tL)
      · (first | (exact tR3))
      · first | exact hz0 | exact tS2
      clear HF
      intro W HF
      simp only [z7, z8, List.append_assoc, List.append_nil] at HF
      go_simp
      exact hK _ _ ⟨[s3, s4, s5, s6, s7, (.agg (RC (-n) d))], by simp only [putAll, z1, z2], s3, s4, s5, s6, s7, (.agg (RC (-n) d)), (RC (-n) d), rfl, lk h0, lk h1, lk h2, lk h3, lk h4, lk h5, fun _ => rfl, rfl, HF⟩
  rintro listed mm W ⟨s3, s4, s5, s6, s7, s8, c_b2, rfl, h0, h1, h2, h3, h4, h5, h6, hz0, HF⟩ hall
  obtain rfl := h0 (hall 0 (by decide))
  obtain rfl := h1 (hall 1 (by decide))
  obtain rfl := h2 (hall 2 (by decide))
  obtain rfl := h3 (hall 3 (by decide))
  obtain rfl := h4 (hall 4 (by decide))
  obtain rfl := h5 (hall 5 (by decide))
  rw [h6 (hall 6 (by decide))] at HF
  clear hall h0 h1 h2 h3 h4 h5 h6 hz0 F
  have F := HF
  clear HF
  simp only [putAll, z1, z2]
  go_wp2_with (first | go_skip | ((with_reducible apply fL F); exact rfl; exact rfl; (exact tL); (exact tR3)) | ((with_reducible apply fLm F); exact rfl; exact rfl; (exact tL); (exact tM3); (exact tR3)) | ((with_reducible apply fA_rat F); exact rfl) | ((with_reducible apply fX_rat F); exact rfl; exact rfl) | ((with_reducible apply fS F); exact rfl; exact rfl; exact rfl; (exact tL); (exact tR3); (exact tS2); clear F; intro W F; simp only [z7, z8] at F) | ((with_reducible apply fB_rat); exact rfl; exact rfl; exact rfl))
  exact bodyPost_ret (res_c rfl rfl (Fr.get F tL) (rowRC _ _)) rfl ⟨rfl, F.below⟩
set_option maxRecDepth 100000 in
theorem rcompareR (h : okZ n d) (k : okZ m e) {c : Int} (hc : cmpZ (n * e) (m * d) = c) (w : World) : Calls Tryz.prog 14 #[.agg (RC n d), .agg (RC m e)] w (RetB (.int .i64 c) w) := by
  have F := Fr.start w
  obtain ⟨⟨hn, hd⟩, -⟩ := okZ_iff.1 h
  obtain ⟨⟨hm, he⟩, -⟩ := okZ_iff.1 k
  have g1 := fun w => rproductZ (b15 hn) (b15 he) (b30 hn he) w
  have g2 := fun w => rproductZ (b15 hm) (b15 hd) (b30 hm hd) w
  have g3 := fun w => rcmp_any (b30 hn he) (b30 hm hd) w
  obtain ⟨x, hx⟩ : ∃ x, n * e = x := ⟨_, rfl⟩
  obtain ⟨y, hy⟩ : ∃ y, m * d = y := ⟨_, rfl⟩
  rw [hx] at g1 g3 hc
  rw [hy] at g2 g3 hc
  rw [hc] at g3
  clear h k hn hd hm he hx hy hc
  go_enter Tryz.func14, Tryz.ntmps14
  go_wp2_with (first | go_skip | ((with_reducible apply fL F); exact rfl; exact rfl; (exact tL); (exact tR3)) | ((with_reducible apply fLm F); exact rfl; exact rfl; (exact tL); (exact tM3); (exact tR3)) | ((with_reducible apply fX_rat F); exact rfl; exact rfl))
  (clear F; intro b2 W F; try simp only [Act.put, z6, z1, z2])
  go_wp2_with (first | go_skip | ((with_reducible apply fL F); exact rfl; exact rfl; (exact tL); (exact tR3)) | ((with_reducible apply fLm F); exact rfl; exact rfl; (exact tL); (exact tM3); (exact tR3)) | ((with_reducible apply fX_rat F); exact rfl; exact rfl))
  (clear F; intro b3 W F; try simp only [Act.put, z6, z1, z2])
  go_wp2_with (first | go_skip | ((with_reducible apply fL F); exact rfl; exact rfl; (exact tL); (exact tR3)) | ((with_reducible apply fLm F); exact rfl; exact rfl; (exact tL); (exact tM3); (exact tR3)) | ((with_reducible apply fX_rat F); exact rfl; exact rfl))
  try simp only [Act.put, z6, z1, z2]
  refine wp_region_slots mixP [4, 5, 6, 7, 8, 9, 10, 11, 12, 13, 14, 15] (fun l mm W => ∃ (s4 s5 s6 s7 s8 s9 s10 s11 s12 s13 s14 s15 : Value), mm = [s4, s5, s6, s7, s8, s9, s10, s11, s12, s13, s14, s15] ∧ (l.getD 0 false = true → s5 = .pointer (some ⟨b2, 0, none⟩)) ∧ (l.getD 1 false = true → s6 = .agg (IC n)) ∧ (l.getD 2 false = true → s7 = .pointer (some ⟨b3, 33, none⟩)) ∧ (l.getD 3 false = true → s8 = .agg (IC e)) ∧ (l.getD 4 false = true → s9 = .agg (IC x)) ∧ (l.getD 5 false = true → s10 = .pointer (some ⟨b3, 0, none⟩)) ∧ (l.getD 6 false = true → s11 = .agg (IC m)) ∧ (l.getD 7 false = true → s12 = .pointer (some ⟨b2, 33, none⟩)) ∧ (l.getD 8 false = true → s13 = .agg (IC d)) ∧ (l.getD 9 false = true → s14 = .agg (IC y)) ∧ (l.getD 10 false = true → s15 = .int .i64 c) ∧ (l.getD 11 false = true → s4 = .int .i64 c) ∧ Fr w W [(b3, RC m e, 31), (b2, RC n d, 31)]) (by kernel_rfl) (putAll_self _ _) ?_ ?_ ?_
  · exact ⟨_, _, _, _, _, _, _, _, _, _, _, _, rfl, nf, nf, nf, nf, nf, nf, nf, nf, nf, nf, nf, nf, F.drew⟩
  · rintro listed mm W ii hi hsz hoff ⟨s4, s5, s6, s7, s8, s9, s10, s11, s12, s13, s14, s15, rfl, h0, h1, h2, h3, h4, h5, h6, h7, h8, h9, h10, h11, HF⟩ hd
    have hc := dr_c12 hi
    have hsz2 : listed.size = 12 := hsz
    clear hi hsz
    rcases hc with rfl | rfl | rfl | rfl | rfl | rfl | rfl | rfl | rfl | rfl | rfl | rfl
    · refine wpOp_want rfl rfl (fun K hK => ?_)
      simp only [putAll, z1, z2, z3, z4, z5]
      refine ⟨?_⟩
      go_simp
      exact hK _ _ ⟨[s4, (.pointer (some ⟨b2, 0, none⟩)), s6, s7, s8, s9, s10, s11, s12, s13, s14, s15], by simp only [putAll, z1, z2], s4, (.pointer (some ⟨b2, 0, none⟩)), s6, s7, s8, s9, s10, s11, s12, s13, s14, s15, rfl, fun _ => rfl, lk h1, lk h2, lk h3, lk h4, lk h5, lk h6, lk h7, lk h8, lk h9, lk h10, lk h11, HF⟩
    · have d0 := h0 (hd 0 (by kernel_rfl))
      obtain rfl := d0
      refine wpOp_want rfl rfl (fun K hK => ?_)
      simp only [putAll, z1, z2, z3, z4, z5]
      with_reducible apply gLm HF
      · exact rfl
      · (exact tL)
      · exact RC_num _ _
      · (first | (exact tR3))
      go_simp
      exact hK _ _ ⟨[s4, (.pointer (some ⟨b2, 0, none⟩)), (.agg (IC n)), s7, s8, s9, s10, s11, s12, s13, s14, s15], by simp only [putAll, z1, z2], s4, (.pointer (some ⟨b2, 0, none⟩)), (.agg (IC n)), s7, s8, s9, s10, s11, s12, s13, s14, s15, rfl, lk h0, fun _ => rfl, lk h2, lk h3, lk h4, lk h5, lk h6, lk h7, lk h8, lk h9, lk h10, lk h11, HF⟩
    · refine wpOp_want rfl rfl (fun K hK => ?_)
      simp only [putAll, z1, z2, z3, z4, z5]
      refine ⟨?_⟩
      go_simp
      exact hK _ _ ⟨[s4, s5, s6, (.pointer (some ⟨b3, 33, none⟩)), s8, s9, s10, s11, s12, s13, s14, s15], by simp only [putAll, z1, z2], s4, s5, s6, (.pointer (some ⟨b3, 33, none⟩)), s8, s9, s10, s11, s12, s13, s14, s15, rfl, lk h0, lk h1, fun _ => rfl, lk h3, lk h4, lk h5, lk h6, lk h7, lk h8, lk h9, lk h10, lk h11, HF⟩
    · have d2 := h2 (hd 2 (by kernel_rfl))
      obtain rfl := d2
      refine wpOp_want rfl rfl (fun K hK => ?_)
      simp only [putAll, z1, z2, z3, z4, z5]
      with_reducible apply gLm HF
      · exact rfl
      · (exact tL)
      · exact RC_den _ _
      · (first | (exact tR3))
      go_simp
      exact hK _ _ ⟨[s4, s5, s6, (.pointer (some ⟨b3, 33, none⟩)), (.agg (IC e)), s9, s10, s11, s12, s13, s14, s15], by simp only [putAll, z1, z2], s4, s5, s6, (.pointer (some ⟨b3, 33, none⟩)), (.agg (IC e)), s9, s10, s11, s12, s13, s14, s15, rfl, lk h0, lk h1, lk h2, fun _ => rfl, lk h4, lk h5, lk h6, lk h7, lk h8, lk h9, lk h10, lk h11, HF⟩
    · have d1 := h1 (hd 1 (by kernel_rfl))
      have d3 := h3 (hd 3 (by kernel_rfl))
      obtain rfl := d1
      obtain rfl := d3
      refine wpOp_want rfl rfl (fun K hK => ?_)
      simp only [putAll, z1, z2, z3, z4, z5]
      refine ⟨?_⟩
      go_simp
      with_reducible refine fr_call HF (g1 _) ?_
      clear HF
      intro W HF
      (try dsimp only)
      exact hK _ _ ⟨[s4, s5, (.agg (IC n)), s7, (.agg (IC e)), (.agg (IC x)), s10, s11, s12, s13, s14, s15], by simp only [putAll, z1, z2], s4, s5, (.agg (IC n)), s7, (.agg (IC e)), (.agg (IC x)), s10, s11, s12, s13, s14, s15, rfl, lk h0, lk h1, lk h2, lk h3, fun _ => rfl, lk h5, lk h6, lk h7, lk h8, lk h9, lk h10, lk h11, HF⟩
    · refine wpOp_want rfl rfl (fun K hK => ?_)
      simp only [putAll, z1, z2, z3, z4, z5]
      refine ⟨?_⟩
      go_simp
      exact hK _ _ ⟨[s4, s5, s6, s7, s8, s9, (.pointer (some ⟨b3, 0, none⟩)), s11, s12, s13, s14, s15], by simp only [putAll, z1, z2], s4, s5, s6, s7, s8, s9, (.pointer (some ⟨b3, 0, none⟩)), s11, s12, s13, s14, s15, rfl, lk h0, lk h1, lk h2, lk h3, lk h4, fun _ => rfl, lk h6, lk h7, lk h8, lk h9, lk h10, lk h11, HF⟩
    · have d5 := h5 (hd 5 (by kernel_rfl))
      obtain rfl := d5
      refine wpOp_want rfl rfl (fun K hK => ?_)
      simp only [putAll, z1, z2, z3, z4, z5]
      with_reducible apply gLm HF
      · exact rfl
      · (exact tL)
      · exact RC_num _ _
      · (first | (exact tR3))
      go_simp
      exact hK _ _ ⟨[s4, s5, s6, s7, s8, s9, (.pointer (some ⟨b3, 0, none⟩)), (.agg (IC m)), s12, s13, s14, s15], by simp only [putAll, z1, z2], s4, s5, s6, s7, s8, s9, (.pointer (some ⟨b3, 0, none⟩)), (.agg (IC m)), s12, s13, s14, s15, rfl, lk h0, lk h1, lk h2, lk h3, lk h4, lk h5, fun _ => rfl, lk h7, lk h8, lk h9, lk h10, lk h11, HF⟩
    · refine wpOp_want rfl rfl (fun K hK => ?_)
      simp only [putAll, z1, z2, z3, z4, z5]
      refine ⟨?_⟩
      go_simp
      exact hK _ _ ⟨[s4, s5, s6, s7, s8, s9, s10, s11, (.pointer (some ⟨b2, 33, none⟩)), s13, s14, s15], by simp only [putAll, z1, z2], s4, s5, s6, s7, s8, s9, s10, s11, (.pointer (some ⟨b2, 33, none⟩)), s13, s14, s15, rfl, lk h0, lk h1, lk h2, lk h3, lk h4, lk h5, lk h6, fun _ => rfl, lk h8, lk h9, lk h10, lk h11, HF⟩
    · have d7 := h7 (hd 7 (by kernel_rfl))
      obtain rfl := d7
      refine wpOp_want rfl rfl (fun K hK => ?_)
      simp only [putAll, z1, z2, z3, z4, z5]
      with_reducible apply gLm HF
      · exact rfl
      · (exact tL)
      · exact RC_den _ _
      · (first | (exact tR3))
      go_simp
      exact hK _ _ ⟨[s4, s5, s6, s7, s8, s9, s10, s11, (.pointer (some ⟨b2, 33, none⟩)), (.agg (IC d)), s14, s15], by simp only [putAll, z1, z2], s4, s5, s6, s7, s8, s9, s10, s11, (.pointer (some ⟨b2, 33, none⟩)), (.agg (IC d)), s14, s15, rfl, lk h0, lk h1, lk h2, lk h3, lk h4, lk h5, lk h6, lk h7, fun _ => rfl, lk h9, lk h10, lk h11, HF⟩
    · have d6 := h6 (hd 6 (by kernel_rfl))
      have d8 := h8 (hd 8 (by kernel_rfl))
      obtain rfl := d6
      obtain rfl := d8
      refine wpOp_want rfl rfl (fun K hK => ?_)
      simp only [putAll, z1, z2, z3, z4, z5]
      refine ⟨?_⟩
      go_simp
      with_reducible refine fr_call HF (g2 _) ?_
      clear HF
      intro W HF
      (try dsimp only)
      exact hK _ _ ⟨[s4, s5, s6, s7, s8, s9, s10, (.agg (IC m)), s12, (.agg (IC d)), (.agg (IC y)), s15], by simp only [putAll, z1, z2], s4, s5, s6, s7, s8, s9, s10, (.agg (IC m)), s12, (.agg (IC d)), (.agg (IC y)), s15, rfl, lk h0, lk h1, lk h2, lk h3, lk h4, lk h5, lk h6, lk h7, lk h8, fun _ => rfl, lk h10, lk h11, HF⟩
    · have d4 := h4 (hd 4 (by kernel_rfl))
      have d9 := h9 (hd 9 (by kernel_rfl))
      obtain rfl := d4
      obtain rfl := d9
      refine wpOp_want rfl rfl (fun K hK => ?_)
      simp only [putAll, z1, z2, z3, z4, z5]
      refine ⟨?_⟩
      go_simp
      with_reducible refine fr_call HF (g3 _) ?_
      clear HF
      intro W HF
      (try dsimp only)
      exact hK _ _ ⟨[s4, s5, s6, s7, s8, (.agg (IC x)), s10, s11, s12, s13, (.agg (IC y)), (.int .i64 c)], by simp only [putAll, z1, z2], s4, s5, s6, s7, s8, (.agg (IC x)), s10, s11, s12, s13, (.agg (IC y)), (.int .i64 c), rfl, lk h0, lk h1, lk h2, lk h3, lk h4, lk h5, lk h6, lk h7, lk h8, lk h9, fun _ => rfl, lk h11, HF⟩
    · have d10 := h10 (hd 10 (by kernel_rfl))
      obtain rfl := d10
      refine wpOp_want rfl rfl (fun K hK => ?_)
      simp only [putAll, z1, z2, z3, z4, z5]
      refine ⟨?_⟩
      go_simp
      exact hK _ _ ⟨[(.int .i64 c), s5, s6, s7, s8, s9, s10, s11, s12, s13, s14, (.int .i64 c)], by simp only [putAll, z1, z2], (.int .i64 c), s5, s6, s7, s8, s9, s10, s11, s12, s13, s14, (.int .i64 c), rfl, lk h0, lk h1, lk h2, lk h3, lk h4, lk h5, lk h6, lk h7, lk h8, lk h9, lk h10, fun _ => rfl, HF⟩
  rintro listed mm W ⟨s4, s5, s6, s7, s8, s9, s10, s11, s12, s13, s14, s15, rfl, h0, h1, h2, h3, h4, h5, h6, h7, h8, h9, h10, h11, HF⟩ hall
  obtain rfl := h0 (hall 0 (by decide))
  obtain rfl := h1 (hall 1 (by decide))
  obtain rfl := h2 (hall 2 (by decide))
  obtain rfl := h3 (hall 3 (by decide))
  obtain rfl := h4 (hall 4 (by decide))
  obtain rfl := h5 (hall 5 (by decide))
  obtain rfl := h6 (hall 6 (by decide))
  obtain rfl := h7 (hall 7 (by decide))
  obtain rfl := h8 (hall 8 (by decide))
  obtain rfl := h9 (hall 9 (by decide))
  obtain rfl := h10 (hall 10 (by decide))
  obtain rfl := h11 (hall 11 (by decide))
  clear hall h0 h1 h2 h3 h4 h5 h6 h7 h8 h9 h10 h11 F
  have F := HF
  clear HF
  simp only [putAll, z1, z2]
  go_wp2_with (first | go_skip | ((with_reducible apply fL F); exact rfl; exact rfl; (exact tL); (exact tR3)) | ((with_reducible apply fLm F); exact rfl; exact rfl; (exact tL); (exact tM3); (exact tR3)) | ((with_reducible apply fX_rat F); exact rfl; exact rfl))
  go_ret
  exact ⟨rfl, F.below⟩
theorem okZ_neg (h : okZ n d) : okZ (-n) d := by
  rw [okZ_iff] at h ⊢
  rw [Int.natAbs_neg, Int.neg_gcd]
  exact h
end
end
section
open Go.RowKit
def rnd (m x d : Int) : Int := if x % d = 0 then x / d else if upB m (x / d) (cmpZ (2 * (x % d)) d) (decide (x < 0)) = true then x / d + 1 else x / d
theorem rndR_rnd {v : Prop} [Decidable v] {n d p m : Int} (h : v) (hp : 0 ≤ p) (hp2 : p ≤ 9) (hm : 1 ≤ m) (hm2 : m ≤ 6) : rndR v n d p m = (rnd m (n * ((10 ^ p.toNat : Nat) : Int)) d, 0) := by
  unfold rndR rnd
  rw [if_neg (by simpa using h), if_neg (by omega), if_neg (by omega)]
  dsimp only
  have hg : decide (n < 0) = decide (n * ((10 ^ p.toNat : Nat) : Int) < 0) := by
    have h10 : (0 : Int) < ((10 ^ p.toNat : Nat) : Int) := by exact_mod_cast Nat.pow_pos (by decide)
    rw [decide_eq_decide]
    constructor
    · intro h; exact Int.mul_neg_of_neg_of_pos h h10
    · intro h
      rcases Int.lt_or_le n 0 with h2 | h2
      · exact h2
      · have := Int.mul_nonneg h2 (Int.le_of_lt h10); omega
  rw [hg]
  split
  · rfl
  · split <;> rfl
theorem rnd_near {m x d : Int} (hd : 0 < d) : rnd m x d = x / d ∨ (x % d ≠ 0 ∧ rnd m x d = x / d + 1) := by
  unfold rnd
  split
  · exact .inl rfl
  · rename_i h
    split
    · exact .inr ⟨h, rfl⟩
    · exact .inl rfl
theorem rnd_dist {m x d : Int} (hd : 0 < d) : (rnd m x d * d - x).natAbs < d.natAbs := by
  have h1 := Int.emod_add_mul_ediv x d
  have h2 := Int.emod_nonneg x (b := d) (by omega)
  have h3 := Int.emod_lt_of_pos x hd
  rcases rnd_near (m := m) (x := x) hd with h | ⟨h, h'⟩
  · rw [h, Int.mul_comm (x / d) d]; omega
  · rw [h', Int.add_mul, Int.mul_comm (x / d) d, Int.one_mul]; omega
theorem cmpZ_cases (a b : Int) : (a < b ∧ cmpZ a b = -1) ∨ (b < a ∧ cmpZ a b = 1) ∨ (a = b ∧ cmpZ a b = 0) := by
  unfold cmpZ
  split
  · exact .inl ⟨by assumption, rfl⟩
  · split
    · exact .inr (.inl ⟨by assumption, rfl⟩)
    · exact .inr (.inr ⟨by omega, rfl⟩)
end
end Go.Proofs.YtpaodheilchfnaaGreatDoor
