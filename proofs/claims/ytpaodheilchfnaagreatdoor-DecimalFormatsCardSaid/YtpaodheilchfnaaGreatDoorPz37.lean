/- What the laws lean on. -/
import Derived.Test.YtpaodheilchfnaaGreatDoorPz24
import Derived.Test.YtpaodheilchfnaaGreatDoorPz30
namespace Go.Proofs.YtpaodheilchfnaaGreatDoor
set_option linter.unusedVariables false
set_option linter.unusedSimpArgs false
section
open Go.RowKit
set_option maxHeartbeats 4000000
section
variable {n d m e : Int} {r : Int × Int × Int}
set_option maxRecDepth 100000 in
theorem rmulR (h : okZ n d) (k : okZ m e) (hr : mkR (n * m) (d * e) = r) (w : World) : Calls Tryz.prog 37 #[.agg (RC n d), .agg (RC m e)] w (RetB (.tuple #[.agg (RC r.1 r.2.1), .int .i64 r.2.2]) w) := by
  have F := Fr.start w
  have v1 := fun w => rvalidZ h w
  have v2 := fun w => rvalidZ k w
  obtain ⟨⟨hn, hd⟩, -⟩ := okZ_iff.1 h
  obtain ⟨⟨hm, he⟩, -⟩ := okZ_iff.1 k
  have g1 := fun w => rproductZ (b15 hn) (b15 hm) (b30 hn hm) w
  have g2 := fun w => rproductZ (b15 hd) (b15 he) (b30 hd he) w
  have g3 := fun w => rmakeZ (b30 hn hm) (b30 hd he) hr w
  obtain ⟨x, hx⟩ : ∃ x, n * m = x := ⟨_, rfl⟩
  obtain ⟨y, hy⟩ : ∃ y, d * e = y := ⟨_, rfl⟩
  rw [hx] at g1 g3
  rw [hy] at g2 g3
  clear h k hn hd hm he hx hy hr
  go_enter Tryz.func37, Tryz.ntmps37
  go_wp2_with (first | go_skip | ((with_reducible apply fL F); exact rfl; exact rfl; (exact tL); (exact tR3)) | ((with_reducible apply fLm F); exact rfl; exact rfl; (exact tL); (exact tM3); (exact tR3)) | ((with_reducible apply fA_rat F); exact rfl) | ((with_reducible apply fX_rat F); exact rfl; exact rfl) | ((with_reducible apply fS F); exact rfl; exact rfl; exact rfl; (exact tL); (exact tR3); (exact tS2); clear F; intro W F; simp only [z7, z8] at F) | ((with_reducible apply fB_rat0); exact rfl))
  (clear F; intro b2 W F; try simp only [Act.put, z6, z1, z2])
  go_wp2_with (first | go_skip | ((with_reducible apply fL F); exact rfl; exact rfl; (exact tL); (exact tR3)) | ((with_reducible apply fLm F); exact rfl; exact rfl; (exact tL); (exact tM3); (exact tR3)) | ((with_reducible apply fA_rat F); exact rfl) | ((with_reducible apply fX_rat F); exact rfl; exact rfl) | ((with_reducible apply fS F); exact rfl; exact rfl; exact rfl; (exact tL); (exact tR3); (exact tS2); clear F; intro W F; simp only [z7, z8] at F) | ((with_reducible apply fB_rat0); exact rfl))
  (clear F; intro b3 W F; try simp only [Act.put, z6, z1, z2])
  go_wp2_with (first | go_skip | ((with_reducible apply fL F); exact rfl; exact rfl; (exact tL); (exact tR3)) | ((with_reducible apply fLm F); exact rfl; exact rfl; (exact tL); (exact tM3); (exact tR3)) | ((with_reducible apply fA_rat F); exact rfl) | ((with_reducible apply fX_rat F); exact rfl; exact rfl) | ((with_reducible apply fS F); exact rfl; exact rfl; exact rfl; (exact tL); (exact tR3); (exact tS2); clear F; intro W F; simp only [z7, z8] at F) | ((with_reducible apply fB_rat0); exact rfl))
  (clear F; intro b4 W F; try simp only [Act.put, z6, z1, z2])
  go_wp2_with (first | go_skip | ((go_at_call 51); (with_reducible refine fr_call F (v1 _) ?_); (clear F; intro W F); (try dsimp only)) | ((go_at_call 51); (with_reducible refine fr_call F (v2 _) ?_); (clear F; intro W F); (try dsimp only)) | ((with_reducible apply fL F); exact rfl; exact rfl; (exact tL); (exact tR3)) | ((with_reducible apply fLm F); exact rfl; exact rfl; (exact tL); (exact tM3); (exact tR3)) | ((with_reducible apply fA_rat F); exact rfl) | ((with_reducible apply fX_rat F); exact rfl; exact rfl) | ((with_reducible apply fS F); exact rfl; exact rfl; exact rfl; (exact tL); (exact tR3); (exact tS2); clear F; intro W F; simp only [z7, z8] at F) | ((with_reducible apply fB_rat0); exact rfl))
  try simp only [Act.put, z6, z1, z2]
  refine wp_region_slots mixP [5, 15, 16, 17, 18, 19, 20, 21, 22, 23, 24, 25, 26, 27] (fun l mm W => ∃ (s5 s15 s16 s17 s18 s19 s20 s21 s22 s23 s24 s25 s26 s27 : Value) (c_b4 : Array Value), mm = [s5, s15, s16, s17, s18, s19, s20, s21, s22, s23, s24, s25, s26, s27] ∧ (l.getD 0 false = true → s15 = .pointer (some ⟨b2, 0, none⟩)) ∧ (l.getD 1 false = true → s16 = .agg (IC n)) ∧ (l.getD 2 false = true → s17 = .pointer (some ⟨b3, 0, none⟩)) ∧ (l.getD 3 false = true → s18 = .agg (IC m)) ∧ (l.getD 4 false = true → s19 = .agg (IC x)) ∧ (l.getD 5 false = true → s20 = .pointer (some ⟨b2, 33, none⟩)) ∧ (l.getD 6 false = true → s21 = .agg (IC d)) ∧ (l.getD 7 false = true → s22 = .pointer (some ⟨b3, 33, none⟩)) ∧ (l.getD 8 false = true → s23 = .agg (IC e)) ∧ (l.getD 9 false = true → s24 = .agg (IC y)) ∧ (l.getD 10 false = true → s25 = .tuple #[.agg (RC r.1 r.2.1), .int .i64 r.2.2]) ∧ (l.getD 11 false = true → s26 = .agg (RC r.1 r.2.1)) ∧ (l.getD 12 false = true → s27 = .int .i64 r.2.2) ∧ (l.getD 13 false = true → c_b4 = RC r.1 r.2.1) ∧ (l.getD 14 false = true → s5 = .int .i64 r.2.2) ∧ c_b4.size = (RC r.1 r.2.1).size ∧ Fr w W [(b4, c_b4, 31), (b3, RC m e, 31), (b2, RC n d, 31)]) (by kernel_rfl) (putAll_self _ _) ?_ ?_ ?_
  · exact ⟨_, _, _, _, _, _, _, _, _, _, _, _, _, _, (RC 0 0), rfl, nf, nf, nf, nf, nf, nf, nf, nf, nf, nf, nf, nf, nf, nf, nf, by exact tS2, F.drew⟩
  · rintro listed mm W ii hi hsz hoff ⟨s5, s15, s16, s17, s18, s19, s20, s21, s22, s23, s24, s25, s26, s27, c_b4, rfl, h0, h1, h2, h3, h4, h5, h6, h7, h8, h9, h10, h11, h12, h13, h14, hz0, HF⟩ hd
    have hc := dr_c15 hi
    have hsz2 : listed.size = 15 := hsz
    clear hi hsz
    rcases hc with rfl | rfl | rfl | rfl | rfl | rfl | rfl | rfl | rfl | rfl | rfl | rfl | rfl | rfl | rfl
    · refine wpOp_want rfl rfl (fun K hK => ?_)
      simp only [putAll, z1, z2, z3, z4, z5]
      refine ⟨?_⟩
      go_simp
      exact hK _ _ ⟨[s5, (.pointer (some ⟨b2, 0, none⟩)), s16, s17, s18, s19, s20, s21, s22, s23, s24, s25, s26, s27], by simp only [putAll, z1, z2], s5, (.pointer (some ⟨b2, 0, none⟩)), s16, s17, s18, s19, s20, s21, s22, s23, s24, s25, s26, s27, c_b4, rfl, fun _ => rfl, lk h1, lk h2, lk h3, lk h4, lk h5, lk h6, lk h7, lk h8, lk h9, lk h10, lk h11, lk h12, lk h13, lk h14, hz0, HF⟩
    · have d0 := h0 (hd 0 (by kernel_rfl))
      obtain rfl := d0
      refine wpOp_want rfl rfl (fun K hK => ?_)
      simp only [putAll, z1, z2, z3, z4, z5]
      with_reducible apply gLm HF
      · exact rfl
      · (exact tL)
      · exact RC_num _ _
      · (first | (exact tR3))
      go_simp
      exact hK _ _ ⟨[s5, (.pointer (some ⟨b2, 0, none⟩)), (.agg (IC n)), s17, s18, s19, s20, s21, s22, s23, s24, s25, s26, s27], by simp only [putAll, z1, z2], s5, (.pointer (some ⟨b2, 0, none⟩)), (.agg (IC n)), s17, s18, s19, s20, s21, s22, s23, s24, s25, s26, s27, c_b4, rfl, lk h0, fun _ => rfl, lk h2, lk h3, lk h4, lk h5, lk h6, lk h7, lk h8, lk h9, lk h10, lk h11, lk h12, lk h13, lk h14, hz0, HF⟩
    · refine wpOp_want rfl rfl (fun K hK => ?_)
      simp only [putAll, z1, z2, z3, z4, z5]
      refine ⟨?_⟩
      go_simp
      exact hK _ _ ⟨[s5, s15, s16, (.pointer (some ⟨b3, 0, none⟩)), s18, s19, s20, s21, s22, s23, s24, s25, s26, s27], by simp only [putAll, z1, z2], s5, s15, s16, (.pointer (some ⟨b3, 0, none⟩)), s18, s19, s20, s21, s22, s23, s24, s25, s26, s27, c_b4, rfl, lk h0, lk h1, fun _ => rfl, lk h3, lk h4, lk h5, lk h6, lk h7, lk h8, lk h9, lk h10, lk h11, lk h12, lk h13, lk h14, hz0, HF⟩
    · have d2 := h2 (hd 2 (by kernel_rfl))
      obtain rfl := d2
      refine wpOp_want rfl rfl (fun K hK => ?_)
      simp only [putAll, z1, z2, z3, z4, z5]
      with_reducible apply gLm HF
      · exact rfl
      · (exact tL)
      · exact RC_num _ _
      · (first | (exact tR3))
      go_simp
      exact hK _ _ ⟨[s5, s15, s16, (.pointer (some ⟨b3, 0, none⟩)), (.agg (IC m)), s19, s20, s21, s22, s23, s24, s25, s26, s27], by simp only [putAll, z1, z2], s5, s15, s16, (.pointer (some ⟨b3, 0, none⟩)), (.agg (IC m)), s19, s20, s21, s22, s23, s24, s25, s26, s27, c_b4, rfl, lk h0, lk h1, lk h2, fun _ => rfl, lk h4, lk h5, lk h6, lk h7, lk h8, lk h9, lk h10, lk h11, lk h12, lk h13, lk h14, hz0, HF⟩
    · have d1 := h1 (hd 1 (by kernel_rfl))
      have d3 := h3 (hd 3 (by kernel_rfl))
      obtain rfl := d1
      obtain rfl := d3
      refine wpOp_want rfl rfl (fun K hK => ?_)
      simp only [putAll, z1, z2, z3, z4, z5]
      refine ⟨?_⟩
      go_simp
      with_reducible refine fr_call HF (g1 _) ?_
      clear HF
      intro W HF
      (try dsimp only)
      exact hK _ _ ⟨[s5, s15, (.agg (IC n)), s17, (.agg (IC m)), (.agg (IC x)), s20, s21, s22, s23, s24, s25, s26, s27], by simp only [putAll, z1, z2], s5, s15, (.agg (IC n)), s17, (.agg (IC m)), (.agg (IC x)), s20, s21, s22, s23, s24, s25, s26, s27, c_b4, rfl, lk h0, lk h1, lk h2, lk h3, fun _ => rfl, lk h5, lk h6, lk h7, lk h8, lk h9, lk h10, lk h11, lk h12, lk h13, lk h14, hz0, HF⟩
    · refine wpOp_want rfl rfl (fun K hK => ?_)
      simp only [putAll, z1, z2, z3, z4, z5]
      refine ⟨?_⟩
      go_simp
      exact hK _ _ ⟨[s5, s15, s16, s17, s18, s19, (.pointer (some ⟨b2, 33, none⟩)), s21, s22, s23, s24, s25, s26, s27], by simp only [putAll, z1, z2], s5, s15, s16, s17, s18, s19, (.pointer (some ⟨b2, 33, none⟩)), s21, s22, s23, s24, s25, s26, s27, c_b4, rfl, lk h0, lk h1, lk h2, lk h3, lk h4, fun _ => rfl, lk h6, lk h7, lk h8, lk h9, lk h10, lk h11, lk h12, lk h13, lk h14, hz0, HF⟩
    · have d5 := h5 (hd 5 (by kernel_rfl))
      obtain rfl := d5
      refine wpOp_want rfl rfl (fun K hK => ?_)
      simp only [putAll, z1, z2, z3, z4, z5]
      with_reducible apply gLm HF
      · exact rfl
      · (exact tL)
      · exact RC_den _ _
      · (first | (exact tR3))
      go_simp
      exact hK _ _ ⟨[s5, s15, s16, s17, s18, s19, (.pointer (some ⟨b2, 33, none⟩)), (.agg (IC d)), s22, s23, s24, s25, s26, s27], by simp only [putAll, z1, z2], s5, s15, s16, s17, s18, s19, (.pointer (some ⟨b2, 33, none⟩)), (.agg (IC d)), s22, s23, s24, s25, s26, s27, c_b4, rfl, lk h0, lk h1, lk h2, lk h3, lk h4, lk h5, fun _ => rfl, lk h7, lk h8, lk h9, lk h10, lk h11, lk h12, lk h13, lk h14, hz0, HF⟩
    · refine wpOp_want rfl rfl (fun K hK => ?_)
      simp only [putAll, z1, z2, z3, z4, z5]
      refine ⟨?_⟩
      go_simp
      exact hK _ _ ⟨[s5, s15, s16, s17, s18, s19, s20, s21, (.pointer (some ⟨b3, 33, none⟩)), s23, s24, s25, s26, s27], by simp only [putAll, z1, z2], s5, s15, s16, s17, s18, s19, s20, s21, (.pointer (some ⟨b3, 33, none⟩)), s23, s24, s25, s26, s27, c_b4, rfl, lk h0, lk h1, lk h2, lk h3, lk h4, lk h5, lk h6, fun _ => rfl, lk h8, lk h9, lk h10, lk h11, lk h12, lk h13, lk h14, hz0, HF⟩
    · have d7 := h7 (hd 7 (by kernel_rfl))
      obtain rfl := d7
      refine wpOp_want rfl rfl (fun K hK => ?_)
      simp only [putAll, z1, z2, z3, z4, z5]
      with_reducible apply gLm HF
      · exact rfl
      · (exact tL)
      · exact RC_den _ _
      · (first | (exact tR3))
      go_simp
      exact hK _ _ ⟨[s5, s15, s16, s17, s18, s19, s20, s21, (.pointer (some ⟨b3, 33, none⟩)), (.agg (IC e)), s24, s25, s26, s27], by simp only [putAll, z1, z2], s5, s15, s16, s17, s18, s19, s20, s21, (.pointer (some ⟨b3, 33, none⟩)), (.agg (IC e)), s24, s25, s26, s27, c_b4, rfl, lk h0, lk h1, lk h2, lk h3, lk h4, lk h5, lk h6, lk h7, fun _ => rfl, lk h9, lk h10, lk h11, lk h12, lk h13, lk h14, hz0, HF⟩
    · have d6 := h6 (hd 6 (by kernel_rfl))
      have d8 := h8 (hd 8 (by kernel_rfl))
      obtain rfl := d6
      obtain rfl := d8
      refine wpOp_want rfl rfl (fun K hK => ?_)
      simp only [putAll, z1, z2, z3, z4, z5]
      refine ⟨?_⟩
      go_simp
      with_reducible refine fr_call HF (g2 _) ?_
      clear HF
      intro W HF
      (try dsimp only)
      exact hK _ _ ⟨[s5, s15, s16, s17, s18, s19, s20, (.agg (IC d)), s22, (.agg (IC e)), (.agg (IC y)), s25, s26, s27], by simp only [putAll, z1, z2], s5, s15, s16, s17, s18, s19, s20, (.agg (IC d)), s22, (.agg (IC e)), (.agg (IC y)), s25, s26, s27, c_b4, rfl, lk h0, lk h1, lk h2, lk h3, lk h4, lk h5, lk h6, lk h7, lk h8, fun _ => rfl, lk h10, lk h11, lk h12, lk h13, lk h14, hz0, HF⟩
    · have d4 := h4 (hd 4 (by kernel_rfl))
      have d9 := h9 (hd 9 (by kernel_rfl))
      obtain rfl := d4
      obtain rfl := d9
      refine wpOp_want rfl rfl (fun K hK => ?_)
      simp only [putAll, z1, z2, z3, z4, z5]
      refine ⟨?_⟩
      go_simp
      with_reducible refine fr_call HF (g3 _) ?_
      clear HF
      intro W HF
      (try dsimp only)
      exact hK _ _ ⟨[s5, s15, s16, s17, s18, (.agg (IC x)), s20, s21, s22, s23, (.agg (IC y)), (.tuple #[.agg (RC r.1 r.2.1), .int .i64 r.2.2]), s26, s27], by simp only [putAll, z1, z2], s5, s15, s16, s17, s18, (.agg (IC x)), s20, s21, s22, s23, (.agg (IC y)), (.tuple #[.agg (RC r.1 r.2.1), .int .i64 r.2.2]), s26, s27, c_b4, rfl, lk h0, lk h1, lk h2, lk h3, lk h4, lk h5, lk h6, lk h7, lk h8, lk h9, fun _ => rfl, lk h11, lk h12, lk h13, lk h14, hz0, HF⟩
    · have d10 := h10 (hd 10 (by kernel_rfl))
      obtain rfl := d10
      refine wpOp_want rfl rfl (fun K hK => ?_)
      simp only [putAll, z1, z2, z3, z4, z5]
      refine ⟨?_⟩
      go_simp
      exact hK _ _ ⟨[s5, s15, s16, s17, s18, s19, s20, s21, s22, s23, s24, (.tuple #[.agg (RC r.1 r.2.1), .int .i64 r.2.2]), (.agg (RC r.1 r.2.1)), s27], by simp only [putAll, z1, z2], s5, s15, s16, s17, s18, s19, s20, s21, s22, s23, s24, (.tuple #[.agg (RC r.1 r.2.1), .int .i64 r.2.2]), (.agg (RC r.1 r.2.1)), s27, c_b4, rfl, lk h0, lk h1, lk h2, lk h3, lk h4, lk h5, lk h6, lk h7, lk h8, lk h9, lk h10, fun _ => rfl, lk h12, lk h13, lk h14, hz0, HF⟩
    · have d10 := h10 (hd 10 (by kernel_rfl))
      obtain rfl := d10
      refine wpOp_want rfl rfl (fun K hK => ?_)
      simp only [putAll, z1, z2, z3, z4, z5]
      refine ⟨?_⟩
      go_simp
      exact hK _ _ ⟨[s5, s15, s16, s17, s18, s19, s20, s21, s22, s23, s24, (.tuple #[.agg (RC r.1 r.2.1), .int .i64 r.2.2]), s26, (.int .i64 r.2.2)], by simp only [putAll, z1, z2], s5, s15, s16, s17, s18, s19, s20, s21, s22, s23, s24, (.tuple #[.agg (RC r.1 r.2.1), .int .i64 r.2.2]), s26, (.int .i64 r.2.2), c_b4, rfl, lk h0, lk h1, lk h2, lk h3, lk h4, lk h5, lk h6, lk h7, lk h8, lk h9, lk h10, lk h11, fun _ => rfl, lk h13, lk h14, hz0, HF⟩
    · have d11 := h11 (hd 11 (by kernel_rfl))
      obtain rfl := d11
      refine wpOp_want rfl rfl (fun K hK => ?_)
      simp only [putAll, z1, z2, z3, z4, z5]
      with_reducible apply gS HF
      · exact rfl
      · exact rfl
      · (exact tL)
      · (first | (exact tR3))
      · first | exact hz0 | exact tS2
      clear HF
      intro W HF
      simp only [z7, z8, List.append_assoc, List.append_nil] at HF
      go_simp
      exact hK _ _ ⟨[s5, s15, s16, s17, s18, s19, s20, s21, s22, s23, s24, s25, (.agg (RC r.1 r.2.1)), s27], by simp only [putAll, z1, z2], s5, s15, s16, s17, s18, s19, s20, s21, s22, s23, s24, s25, (.agg (RC r.1 r.2.1)), s27, (RC r.1 r.2.1), rfl, lk h0, lk h1, lk h2, lk h3, lk h4, lk h5, lk h6, lk h7, lk h8, lk h9, lk h10, lk h11, lk h12, fun _ => rfl, lk h14, rfl, HF⟩
    · have d12 := h12 (hd 12 (by kernel_rfl))
      obtain rfl := d12
      refine wpOp_want rfl rfl (fun K hK => ?_)
      simp only [putAll, z1, z2, z3, z4, z5]
      refine ⟨?_⟩
      go_simp
      exact hK _ _ ⟨[(.int .i64 r.2.2), s15, s16, s17, s18, s19, s20, s21, s22, s23, s24, s25, s26, (.int .i64 r.2.2)], by simp only [putAll, z1, z2], (.int .i64 r.2.2), s15, s16, s17, s18, s19, s20, s21, s22, s23, s24, s25, s26, (.int .i64 r.2.2), c_b4, rfl, lk h0, lk h1, lk h2, lk h3, lk h4, lk h5, lk h6, lk h7, lk h8, lk h9, lk h10, lk h11, lk h12, lk h13, fun _ => rfl, hz0, HF⟩
  rintro listed mm W ⟨s5, s15, s16, s17, s18, s19, s20, s21, s22, s23, s24, s25, s26, s27, c_b4, rfl, h0, h1, h2, h3, h4, h5, h6, h7, h8, h9, h10, h11, h12, h13, h14, hz0, HF⟩ hall
  obtain rfl := h0 (hall 0 (by decide))
  obtain rfl := h1 (hall 1 (by decide))
  obtain rfl := h2 (hall 2 (by decide))
  obtain rfl := h3 (hall 3 (by decide))
  obtain rfl := h4 (hall 4 (by decide))
  obtain rfl := h5 (hall 5 (by decide))
  obtain rfl := h6 (hall 6 (by decide))
  obtain rfl := h7 (hall 7 (by decide))
  obtain rfl := h8 (hall 8 (by decide))
  obtain rfl := h9 (hall 9 (by decide))
  obtain rfl := h10 (hall 10 (by decide))
  obtain rfl := h11 (hall 11 (by decide))
  obtain rfl := h12 (hall 12 (by decide))
  rw [h13 (hall 13 (by decide))] at HF
  obtain rfl := h14 (hall 14 (by decide))
  clear hall h0 h1 h2 h3 h4 h5 h6 h7 h8 h9 h10 h11 h12 h13 h14 hz0 F
  have F := HF
  clear HF
  simp only [putAll, z1, z2]
  go_wp2_with (first | go_skip | ((with_reducible apply fL F); exact rfl; exact rfl; (exact tL); (exact tR3)) | ((with_reducible apply fLm F); exact rfl; exact rfl; (exact tL); (exact tM3); (exact tR3)) | ((with_reducible apply fA_rat F); exact rfl) | ((with_reducible apply fX_rat F); exact rfl; exact rfl) | ((with_reducible apply fS F); exact rfl; exact rfl; exact rfl; (exact tL); (exact tR3); (exact tS2); clear F; intro W F; simp only [z7, z8] at F) | ((with_reducible apply fB_rat0); exact rfl))
  exact bodyPost_ret (res_cs rfl rfl rfl (Fr.get F tL) (rowRC _ _)) rfl ⟨rfl, F.below⟩
end
end
end Go.Proofs.YtpaodheilchfnaaGreatDoor
