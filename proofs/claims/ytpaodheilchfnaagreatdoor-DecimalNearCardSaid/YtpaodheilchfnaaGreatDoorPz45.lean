/- What the laws lean on. -/
import Derived.Test.YtpaodheilchfnaaGreatDoorPz18
import Derived.Test.YtpaodheilchfnaaGreatDoorPz28
import Derived.Test.YtpaodheilchfnaaGreatDoorPz33
import Derived.Test.YtpaodheilchfnaaGreatDoorPz37
import Derived.Test.YtpaodheilchfnaaGreatDoorPz39
import Derived.Test.YtpaodheilchfnaaGreatDoorPz40
import Derived.Test.YtpaodheilchfnaaGreatDoorPz41
namespace Go.Proofs.YtpaodheilchfnaaGreatDoor
set_option linter.unusedVariables false
set_option linter.unusedSimpArgs false
section
open Go.RowKit
set_option maxHeartbeats 4000000
theorem dr_c17 {i : Nat} (h : i < 17) : i = 0 ∨ i = 1 ∨ i = 2 ∨ i = 3 ∨ i = 4 ∨ i = 5 ∨ i = 6 ∨ i = 7 ∨ i = 8 ∨ i = 9 ∨ i = 10 ∨ i = 11 ∨ i = 12 ∨ i = 13 ∨ i = 14 ∨ i = 15 ∨ i = 16 := by omega
end
section
open Go.RowKit
set_option maxHeartbeats 4000000
section
variable {n d m e : Int} {r : Int × Int × Int}
theorem rzeroR (w : World) : Calls Tryz.prog 40 #[] w (RetB (.agg (RC 0 1)) w) := by
  have F := Fr.start w
  have g1 := fun w => rwholeR (n := 0) (by decide) (by decide) w
  go_enter Tryz.func40, Tryz.ntmps40
  go_wp2_with (first | go_skip | ((with_reducible apply fA_rat F); exact rfl) | ((with_reducible apply fS F); exact rfl; exact rfl; exact rfl; (exact tL); (exact tR3); (exact tS2); clear F; intro W F; simp only [z7, z8] at F))
  (clear F; intro b0 W F; try simp only [Act.put, z6, z1, z2])
  go_wp2_with (first | go_skip | ((go_at_call 36); (with_reducible refine fr_call F (g1 _) ?_); (clear F; intro W F); (try dsimp only)) | ((with_reducible apply fA_rat F); exact rfl) | ((with_reducible apply fS F); exact rfl; exact rfl; exact rfl; (exact tL); (exact tR3); (exact tS2); clear F; intro W F; simp only [z7, z8] at F))
  exact bodyPost_ret (res_c rfl rfl (Fr.get F tL) (rowRC _ _)) rfl ⟨rfl, F.below⟩
set_option maxRecDepth 100000 in
theorem rabsR (h : okZ n d) (w : World) : Calls Tryz.prog 39 #[.agg (RC n d)] w (RetB (.tuple #[.agg (RC (n.natAbs : Nat) d), .int .i64 0]) w) := by
  have F := Fr.start w
  have g1 := fun w => rvalidZ h w
  have g2 := fun w => rabs_any (okZ_b h).1 w
  obtain ⟨a, ha⟩ : ∃ a : Int, ((n.natAbs : Nat) : Int) = a := ⟨_, rfl⟩
  rw [ha] at g2 ⊢
  clear h ha
  go_enter Tryz.func39, Tryz.ntmps39
  go_wp2_with (first | go_skip | ((with_reducible apply fL F); exact rfl; exact rfl; (exact tL); (exact tR3)) | ((with_reducible apply fLm F); exact rfl; exact rfl; (exact tL); (exact tM3); (exact tR3)) | ((with_reducible apply fA_rat F); exact rfl) | ((with_reducible apply fX_rat F); exact rfl; exact rfl) | ((with_reducible apply fS F); exact rfl; exact rfl; exact rfl; (exact tL); (exact tR3); (exact tS2); clear F; intro W F; simp only [z7, z8] at F) | ((with_reducible apply fB_rat0); exact rfl) | ((with_reducible apply fB_rat); exact rfl; exact rfl; exact rfl))
  (clear F; intro b1 W F; try simp only [Act.put, z6, z1, z2])
  go_wp2_with (first | go_skip | ((with_reducible apply fL F); exact rfl; exact rfl; (exact tL); (exact tR3)) | ((with_reducible apply fLm F); exact rfl; exact rfl; (exact tL); (exact tM3); (exact tR3)) | ((with_reducible apply fA_rat F); exact rfl) | ((with_reducible apply fX_rat F); exact rfl; exact rfl) | ((with_reducible apply fS F); exact rfl; exact rfl; exact rfl; (exact tL); (exact tR3); (exact tS2); clear F; intro W F; simp only [z7, z8] at F) | ((with_reducible apply fB_rat0); exact rfl) | ((with_reducible apply fB_rat); exact rfl; exact rfl; exact rfl))
  (clear F; intro b2 W F; try simp only [Act.put, z6, z1, z2])
  go_wp2_with (first | go_skip | ((go_at_call 51); (with_reducible refine fr_call F (g1 _) ?_); (clear F; intro W F); (try dsimp only)) | ((with_reducible apply fL F); exact rfl; exact rfl; (exact tL); (exact tR3)) | ((with_reducible apply fLm F); exact rfl; exact rfl; (exact tL); (exact tM3); (exact tR3)) | ((with_reducible apply fA_rat F); exact rfl) | ((with_reducible apply fX_rat F); exact rfl; exact rfl) | ((with_reducible apply fS F); exact rfl; exact rfl; exact rfl; (exact tL); (exact tR3); (exact tS2); clear F; intro W F; simp only [z7, z8] at F) | ((with_reducible apply fB_rat0); exact rfl) | ((with_reducible apply fB_rat); exact rfl; exact rfl; exact rfl))
  try simp only [Act.put, z6, z1, z2]
  refine wp_region_slots mixP [3, 8, 9, 10, 11, 12, 13] (fun l mm W => ∃ (s3 s8 s9 s10 s11 s12 s13 : Value) (c_b2 : Array Value), mm = [s3, s8, s9, s10, s11, s12, s13] ∧ (l.getD 0 false = true → s8 = .pointer (some ⟨b1, 0, none⟩)) ∧ (l.getD 1 false = true → s9 = .agg (IC n)) ∧ (l.getD 2 false = true → s10 = .agg (IC a)) ∧ (l.getD 3 false = true → s11 = .pointer (some ⟨b1, 33, none⟩)) ∧ (l.getD 4 false = true → s12 = .agg (IC d)) ∧ (l.getD 5 false = true → s13 = .agg (RC a d)) ∧ (l.getD 6 false = true → c_b2 = RC a d) ∧ (l.getD 7 false = true → s3 = .int .i64 0) ∧ c_b2.size = (RC a d).size ∧ Fr w W [(b2, c_b2, 31), (b1, RC n d, 31)]) (by kernel_rfl) (putAll_self _ _) ?_ ?_ ?_
  · exact ⟨_, _, _, _, _, _, _, (RC 0 0), rfl, nf, nf, nf, nf, nf, nf, nf, nf, by exact tS2, F.drew⟩
  · rintro listed mm W ii hi hsz hoff ⟨s3, s8, s9, s10, s11, s12, s13, c_b2, rfl, h0, h1, h2, h3, h4, h5, h6, h7, hz0, HF⟩ hd
    have hc := dr_c8 hi
    have hsz2 : listed.size = 8 := hsz
    clear hi hsz
    rcases hc with rfl | rfl | rfl | rfl | rfl | rfl | rfl | rfl
    · refine wpOp_want rfl rfl (fun K hK => ?_)
      simp only [putAll, z1, z2, z3, z4, z5]
      refine ⟨?_⟩
      go_simp
      exact hK _ _ ⟨[s3, (.pointer (some ⟨b1, 0, none⟩)), s9, s10, s11, s12, s13], by simp only [putAll, z1, z2], s3, (.pointer (some ⟨b1, 0, none⟩)), s9, s10, s11, s12, s13, c_b2, rfl, fun _ => rfl, lk h1, lk h2, lk h3, lk h4, lk h5, lk h6, lk h7, hz0, HF⟩
    · have d0 := h0 (hd 0 (by kernel_rfl))
      obtain rfl := d0
      refine wpOp_want rfl rfl (fun K hK => ?_)
      simp only [putAll, z1, z2, z3, z4, z5]
      with_reducible apply gLm HF
      · exact rfl
      · (exact tL)
      · exact RC_num _ _
      · (first | (exact tR3))
      go_simp
      exact hK _ _ ⟨[s3, (.pointer (some ⟨b1, 0, none⟩)), (.agg (IC n)), s10, s11, s12, s13], by simp only [putAll, z1, z2], s3, (.pointer (some ⟨b1, 0, none⟩)), (.agg (IC n)), s10, s11, s12, s13, c_b2, rfl, lk h0, fun _ => rfl, lk h2, lk h3, lk h4, lk h5, lk h6, lk h7, hz0, HF⟩
    · have d1 := h1 (hd 1 (by kernel_rfl))
      obtain rfl := d1
      refine wpOp_want rfl rfl (fun K hK => ?_)
      simp only [putAll, z1, z2, z3, z4, z5]
      refine ⟨?_⟩
      go_simp
      with_reducible refine fr_call HF (g2 _) ?_
      clear HF
      intro W HF
      (try dsimp only)
      exact hK _ _ ⟨[s3, s8, (.agg (IC n)), (.agg (IC a)), s11, s12, s13], by simp only [putAll, z1, z2], s3, s8, (.agg (IC n)), (.agg (IC a)), s11, s12, s13, c_b2, rfl, lk h0, lk h1, fun _ => rfl, lk h3, lk h4, lk h5, lk h6, lk h7, hz0, HF⟩
    · refine wpOp_want rfl rfl (fun K hK => ?_)
      simp only [putAll, z1, z2, z3, z4, z5]
      refine ⟨?_⟩
      go_simp
      exact hK _ _ ⟨[s3, s8, s9, s10, (.pointer (some ⟨b1, 33, none⟩)), s12, s13], by simp only [putAll, z1, z2], s3, s8, s9, s10, (.pointer (some ⟨b1, 33, none⟩)), s12, s13, c_b2, rfl, lk h0, lk h1, lk h2, fun _ => rfl, lk h4, lk h5, lk h6, lk h7, hz0, HF⟩
    · have d3 := h3 (hd 3 (by kernel_rfl))
      obtain rfl := d3
      refine wpOp_want rfl rfl (fun K hK => ?_)
      simp only [putAll, z1, z2, z3, z4, z5]
      with_reducible apply gLm HF
      · exact rfl
      · (exact tL)
      · exact RC_den _ _
      · (first | (exact tR3))
      go_simp
      exact hK _ _ ⟨[s3, s8, s9, s10, (.pointer (some ⟨b1, 33, none⟩)), (.agg (IC d)), s13], by simp only [putAll, z1, z2], s3, s8, s9, s10, (.pointer (some ⟨b1, 33, none⟩)), (.agg (IC d)), s13, c_b2, rfl, lk h0, lk h1, lk h2, lk h3, fun _ => rfl, lk h5, lk h6, lk h7, hz0, HF⟩
    · have d2 := h2 (hd 2 (by kernel_rfl))
      have d4 := h4 (hd 4 (by kernel_rfl))
      obtain rfl := d2
      obtain rfl := d4
      refine wpOp_want rfl rfl (fun K hK => ?_)
      simp only [putAll, z1, z2, z3, z4, z5]
      with_reducible apply gB_rat
      · exact rfl
      · exact rfl
      go_simp
      exact hK _ _ ⟨[s3, s8, s9, (.agg (IC a)), s11, (.agg (IC d)), (.agg (RC a d))], by simp only [putAll, z1, z2], s3, s8, s9, (.agg (IC a)), s11, (.agg (IC d)), (.agg (RC a d)), c_b2, rfl, lk h0, lk h1, lk h2, lk h3, lk h4, fun _ => rfl, lk h6, lk h7, hz0, HF⟩
    · have d5 := h5 (hd 5 (by kernel_rfl))
      obtain rfl := d5
      refine wpOp_want rfl rfl (fun K hK => ?_)
      simp only [putAll, z1, z2, z3, z4, z5]
      with_reducible apply gS HF
      · exact rfl
      · exact rfl
      · (exact tL)
      · (first | (exact tR3))
      · first | exact hz0 | exact tS2
      clear HF
      intro W HF
      simp only [z7, z8, List.append_assoc, List.append_nil] at HF
      go_simp
      exact hK _ _ ⟨[s3, s8, s9, s10, s11, s12, (.agg (RC a d))], by simp only [putAll, z1, z2], s3, s8, s9, s10, s11, s12, (.agg (RC a d)), (RC a d), rfl, lk h0, lk h1, lk h2, lk h3, lk h4, lk h5, fun _ => rfl, lk h7, rfl, HF⟩
    · refine wpOp_want rfl rfl (fun K hK => ?_)
      simp only [putAll, z1, z2, z3, z4, z5]
      refine ⟨?_⟩
      go_simp
      exact hK _ _ ⟨[(.int .i64 0), s8, s9, s10, s11, s12, s13], by simp only [putAll, z1, z2], (.int .i64 0), s8, s9, s10, s11, s12, s13, c_b2, rfl, lk h0, lk h1, lk h2, lk h3, lk h4, lk h5, lk h6, fun _ => rfl, hz0, HF⟩
  rintro listed mm W ⟨s3, s8, s9, s10, s11, s12, s13, c_b2, rfl, h0, h1, h2, h3, h4, h5, h6, h7, hz0, HF⟩ hall
  obtain rfl := h0 (hall 0 (by decide))
  obtain rfl := h1 (hall 1 (by decide))
  obtain rfl := h2 (hall 2 (by decide))
  obtain rfl := h3 (hall 3 (by decide))
  obtain rfl := h4 (hall 4 (by decide))
  obtain rfl := h5 (hall 5 (by decide))
  rw [h6 (hall 6 (by decide))] at HF
  obtain rfl := h7 (hall 7 (by decide))
  clear hall h0 h1 h2 h3 h4 h5 h6 h7 hz0 F
  have F := HF
  clear HF
  simp only [putAll, z1, z2]
  go_wp2_with (first | go_skip | ((with_reducible apply fL F); exact rfl; exact rfl; (exact tL); (exact tR3)) | ((with_reducible apply fLm F); exact rfl; exact rfl; (exact tL); (exact tM3); (exact tR3)) | ((with_reducible apply fA_rat F); exact rfl) | ((with_reducible apply fX_rat F); exact rfl; exact rfl) | ((with_reducible apply fS F); exact rfl; exact rfl; exact rfl; (exact tL); (exact tR3); (exact tS2); clear F; intro W F; simp only [z7, z8] at F) | ((with_reducible apply fB_rat0); exact rfl) | ((with_reducible apply fB_rat); exact rfl; exact rfl; exact rfl))
  exact bodyPost_ret (res_cs rfl rfl rfl (Fr.get F tL) (rowRC _ _)) rfl ⟨rfl, F.below⟩
set_option maxRecDepth 100000 in
theorem raddR (h : okZ n d) (k : okZ m e) (hr : mkR (n * e + m * d) (d * e) = r) (w : World) : Calls Tryz.prog 87 #[.agg (RC n d), .agg (RC m e)] w (RetB (.tuple #[.agg (RC r.1 r.2.1), .int .i64 r.2.2]) w) := by
  have F := Fr.start w
  have v1 := fun w => rvalidZ h w
  have v2 := fun w => rvalidZ k w
  obtain ⟨⟨hn, hd⟩, -⟩ := okZ_iff.1 h
  obtain ⟨⟨hm, he⟩, -⟩ := okZ_iff.1 k
  have g1 := fun w => rproductZ (b15 hn) (b15 he) (b30 hn he) w
  have g2 := fun w => rproductZ (b15 hm) (b15 hd) (b30 hm hd) w
  have g4 := fun w => rproductZ (b15 hd) (b15 he) (b30 hd he) w
  have hs := b31 (b30' hn he) (b30' hm hd)
  have g3 := fun w => radd_any (b30 hn he) (b30 hm hd) hs w
  have g5 := fun w => rmakeZ hs (b30 hd he) hr w
  obtain ⟨x, hx⟩ : ∃ x, n * e = x := ⟨_, rfl⟩
  obtain ⟨y, hy⟩ : ∃ y, m * d = y := ⟨_, rfl⟩
  obtain ⟨z, hz⟩ : ∃ z, d * e = z := ⟨_, rfl⟩
  rw [hx] at g1 g3 g5
  rw [hy] at g2 g3 g5
  rw [hz] at g4 g5
  obtain ⟨s, hss⟩ : ∃ s, x + y = s := ⟨_, rfl⟩
  rw [hss] at g3 g5
  clear h k hn hd hm he hx hy hz hss hs hr
  go_enter Tryz.func87, Tryz.ntmps87
  go_wp2_with (first | go_skip | ((with_reducible apply fL F); exact rfl; exact rfl; (exact tL); (exact tR3)) | ((with_reducible apply fLm F); exact rfl; exact rfl; (exact tL); (exact tM3); (exact tR3)) | ((with_reducible apply fA_int F); exact rfl) | ((with_reducible apply fA_rat F); exact rfl) | ((with_reducible apply fX_rat F); exact rfl; exact rfl) | ((with_reducible apply fS F); exact rfl; exact rfl; exact rfl; (exact tL); (exact tR3); (exact tS2); clear F; intro W F; simp only [z7, z8] at F) | ((with_reducible apply fB_rat0); exact rfl))
  (clear F; intro b2 W F; try simp only [Act.put, z6, z1, z2])
  go_wp2_with (first | go_skip | ((with_reducible apply fL F); exact rfl; exact rfl; (exact tL); (exact tR3)) | ((with_reducible apply fLm F); exact rfl; exact rfl; (exact tL); (exact tM3); (exact tR3)) | ((with_reducible apply fA_int F); exact rfl) | ((with_reducible apply fA_rat F); exact rfl) | ((with_reducible apply fX_rat F); exact rfl; exact rfl) | ((with_reducible apply fS F); exact rfl; exact rfl; exact rfl; (exact tL); (exact tR3); (exact tS2); clear F; intro W F; simp only [z7, z8] at F) | ((with_reducible apply fB_rat0); exact rfl))
  (clear F; intro b3 W F; try simp only [Act.put, z6, z1, z2])
  go_wp2_with (first | go_skip | ((with_reducible apply fL F); exact rfl; exact rfl; (exact tL); (exact tR3)) | ((with_reducible apply fLm F); exact rfl; exact rfl; (exact tL); (exact tM3); (exact tR3)) | ((with_reducible apply fA_int F); exact rfl) | ((with_reducible apply fA_rat F); exact rfl) | ((with_reducible apply fX_rat F); exact rfl; exact rfl) | ((with_reducible apply fS F); exact rfl; exact rfl; exact rfl; (exact tL); (exact tR3); (exact tS2); clear F; intro W F; simp only [z7, z8] at F) | ((with_reducible apply fB_rat0); exact rfl))
  (clear F; intro b4 W F; try simp only [Act.put, z6, z1, z2])
  go_wp2_with (first | go_skip | ((go_at_call 51); (with_reducible refine fr_call F (v1 _) ?_); (clear F; intro W F); (try dsimp only)) | ((go_at_call 51); (with_reducible refine fr_call F (v2 _) ?_); (clear F; intro W F); (try dsimp only)) | ((with_reducible apply fL F); exact rfl; exact rfl; (exact tL); (exact tR3)) | ((with_reducible apply fLm F); exact rfl; exact rfl; (exact tL); (exact tM3); (exact tR3)) | ((with_reducible apply fA_int F); exact rfl) | ((with_reducible apply fA_rat F); exact rfl) | ((with_reducible apply fX_rat F); exact rfl; exact rfl) | ((with_reducible apply fS F); exact rfl; exact rfl; exact rfl; (exact tL); (exact tR3); (exact tS2); clear F; intro W F; simp only [z7, z8] at F) | ((with_reducible apply fB_rat0); exact rfl))
  try simp only [Act.put, z6, z1, z2]
  refine wp_region_slots mixP [6, 7, 17, 18, 19, 20, 21, 22, 23, 24, 25, 26, 27, 28, 29, 30] (fun l mm W => ∃ (s6 s7 s17 s18 s19 s20 s21 s22 s23 s24 s25 s26 s27 s28 s29 s30 : Value) (c_b6 : Array Value) (b6 : Nat), mm = [s6, s7, s17, s18, s19, s20, s21, s22, s23, s24, s25, s26, s27, s28, s29, s30] ∧ (l.getD 0 false = true → s18 = .pointer (some ⟨b2, 0, none⟩)) ∧ (l.getD 1 false = true → s19 = .agg (IC n)) ∧ (l.getD 2 false = true → s20 = .pointer (some ⟨b3, 33, none⟩)) ∧ (l.getD 3 false = true → s21 = .agg (IC e)) ∧ (l.getD 4 false = true → s22 = .agg (IC x)) ∧ (l.getD 5 false = true → s23 = .pointer (some ⟨b3, 0, none⟩)) ∧ (l.getD 6 false = true → s24 = .agg (IC m)) ∧ (l.getD 7 false = true → s25 = .pointer (some ⟨b2, 33, none⟩)) ∧ (l.getD 8 false = true → s26 = .agg (IC d)) ∧ (l.getD 9 false = true → s27 = .agg (IC y)) ∧ (l.getD 10 false = true → s28 = .tuple #[.agg (IC s), .int .i64 0]) ∧ (l.getD 11 false = true → s17 = .tuple #[.agg (IC s), .int .i64 0]) ∧ (l.getD 12 false = true → s29 = .agg (IC s)) ∧ (l.getD 13 false = true → s30 = .int .i64 0) ∧ (l.getD 14 false = true → s6 = .pointer (some ⟨b6, 0, none⟩)) ∧ (l.getD 15 false = true → c_b6 = IC s) ∧ (l.getD 16 false = true → s7 = .int .i64 0) ∧ (l.getD 15 false = true → l.getD 14 false = true) ∧ c_b6.size = (IC s).size ∧ Fr w W ((b4, RC 0 0, 31) :: (b3, RC m e, 31) :: (b2, RC n d, 31) :: (onl (l.getD 14 false) (b6, c_b6, 29)))) (by kernel_rfl) (putAll_self _ _) ?_ ?_ ?_
  · exact ⟨_, _, _, _, _, _, _, _, _, _, _, _, _, _, _, _, (intC false 0), 0, rfl, nf, nf, nf, nf, nf, nf, nf, nf, nf, nf, nf, nf, nf, nf, nf, nf, nf, nf, by exact tS2, F.drew⟩
  · rintro listed mm W ii hi hsz hoff ⟨s6, s7, s17, s18, s19, s20, s21, s22, s23, s24, s25, s26, s27, s28, s29, s30, c_b6, b6, rfl, h0, h1, h2, h3, h4, h5, h6, h7, h8, h9, h10, h11, h12, h13, h14, h15, h16, hN_b6, hz0, HF⟩ hd
    have hc := dr_c17 hi
    have hsz2 : listed.size = 17 := hsz
    clear hi hsz
    rcases hc with rfl | rfl | rfl | rfl | rfl | rfl | rfl | rfl | rfl | rfl | rfl | rfl | rfl | rfl | rfl | rfl | rfl
    · refine wpOp_want rfl rfl (fun K hK => ?_)
      simp only [putAll, z1, z2, z3, z4, z5]
      refine ⟨?_⟩
      go_simp
      exact hK _ _ ⟨[s6, s7, s17, (.pointer (some ⟨b2, 0, none⟩)), s19, s20, s21, s22, s23, s24, s25, s26, s27, s28, s29, s30], by simp only [putAll, z1, z2], s6, s7, s17, (.pointer (some ⟨b2, 0, none⟩)), s19, s20, s21, s22, s23, s24, s25, s26, s27, s28, s29, s30, c_b6, b6, rfl, fun _ => rfl, lk h1, lk h2, lk h3, lk h4, lk h5, lk h6, lk h7, lk h8, lk h9, lk h10, lk h11, lk h12, lk h13, lk h14, lk h15, lk h16, fun h => by rw [getD_keep (show 0 ≠ 15 by decide)] at h; rw [getD_keep (show 0 ≠ 14 by decide)]; exact hN_b6 h, hz0, by rw [getD_keep (show 0 ≠ 14 by decide)]; exact HF⟩
    · have d0 := h0 (hd 0 (by kernel_rfl))
      obtain rfl := d0
      refine wpOp_want rfl rfl (fun K hK => ?_)
      simp only [putAll, z1, z2, z3, z4, z5]
      with_reducible apply gLm HF
      · exact rfl
      · (exact tL)
      · exact RC_num _ _
      · (first | (exact tR3))
      go_simp
      exact hK _ _ ⟨[s6, s7, s17, (.pointer (some ⟨b2, 0, none⟩)), (.agg (IC n)), s20, s21, s22, s23, s24, s25, s26, s27, s28, s29, s30], by simp only [putAll, z1, z2], s6, s7, s17, (.pointer (some ⟨b2, 0, none⟩)), (.agg (IC n)), s20, s21, s22, s23, s24, s25, s26, s27, s28, s29, s30, c_b6, b6, rfl, lk h0, fun _ => rfl, lk h2, lk h3, lk h4, lk h5, lk h6, lk h7, lk h8, lk h9, lk h10, lk h11, lk h12, lk h13, lk h14, lk h15, lk h16, fun h => by rw [getD_keep (show 1 ≠ 15 by decide)] at h; rw [getD_keep (show 1 ≠ 14 by decide)]; exact hN_b6 h, hz0, by rw [getD_keep (show 1 ≠ 14 by decide)]; exact HF⟩
    · refine wpOp_want rfl rfl (fun K hK => ?_)
      simp only [putAll, z1, z2, z3, z4, z5]
      refine ⟨?_⟩
      go_simp
      exact hK _ _ ⟨[s6, s7, s17, s18, s19, (.pointer (some ⟨b3, 33, none⟩)), s21, s22, s23, s24, s25, s26, s27, s28, s29, s30], by simp only [putAll, z1, z2], s6, s7, s17, s18, s19, (.pointer (some ⟨b3, 33, none⟩)), s21, s22, s23, s24, s25, s26, s27, s28, s29, s30, c_b6, b6, rfl, lk h0, lk h1, fun _ => rfl, lk h3, lk h4, lk h5, lk h6, lk h7, lk h8, lk h9, lk h10, lk h11, lk h12, lk h13, lk h14, lk h15, lk h16, fun h => by rw [getD_keep (show 2 ≠ 15 by decide)] at h; rw [getD_keep (show 2 ≠ 14 by decide)]; exact hN_b6 h, hz0, by rw [getD_keep (show 2 ≠ 14 by decide)]; exact HF⟩
    · have d2 := h2 (hd 2 (by kernel_rfl))
      obtain rfl := d2
      refine wpOp_want rfl rfl (fun K hK => ?_)
      simp only [putAll, z1, z2, z3, z4, z5]
      with_reducible apply gLm HF
      · exact rfl
      · (exact tL)
      · exact RC_den _ _
      · (first | (exact tR3))
      go_simp
      exact hK _ _ ⟨[s6, s7, s17, s18, s19, (.pointer (some ⟨b3, 33, none⟩)), (.agg (IC e)), s22, s23, s24, s25, s26, s27, s28, s29, s30], by simp only [putAll, z1, z2], s6, s7, s17, s18, s19, (.pointer (some ⟨b3, 33, none⟩)), (.agg (IC e)), s22, s23, s24, s25, s26, s27, s28, s29, s30, c_b6, b6, rfl, lk h0, lk h1, lk h2, fun _ => rfl, lk h4, lk h5, lk h6, lk h7, lk h8, lk h9, lk h10, lk h11, lk h12, lk h13, lk h14, lk h15, lk h16, fun h => by rw [getD_keep (show 3 ≠ 15 by decide)] at h; rw [getD_keep (show 3 ≠ 14 by decide)]; exact hN_b6 h, hz0, by rw [getD_keep (show 3 ≠ 14 by decide)]; exact HF⟩
    · have d1 := h1 (hd 1 (by kernel_rfl))
      have d3 := h3 (hd 3 (by kernel_rfl))
      obtain rfl := d1
      obtain rfl := d3
      refine wpOp_want rfl rfl (fun K hK => ?_)
      simp only [putAll, z1, z2, z3, z4, z5]
      refine ⟨?_⟩
      go_simp
      with_reducible refine fr_call HF (g1 _) ?_
      clear HF
      intro W HF
      (try dsimp only)
      exact hK _ _ ⟨[s6, s7, s17, s18, (.agg (IC n)), s20, (.agg (IC e)), (.agg (IC x)), s23, s24, s25, s26, s27, s28, s29, s30], by simp only [putAll, z1, z2], s6, s7, s17, s18, (.agg (IC n)), s20, (.agg (IC e)), (.agg (IC x)), s23, s24, s25, s26, s27, s28, s29, s30, c_b6, b6, rfl, lk h0, lk h1, lk h2, lk h3, fun _ => rfl, lk h5, lk h6, lk h7, lk h8, lk h9, lk h10, lk h11, lk h12, lk h13, lk h14, lk h15, lk h16, fun h => by rw [getD_keep (show 4 ≠ 15 by decide)] at h; rw [getD_keep (show 4 ≠ 14 by decide)]; exact hN_b6 h, hz0, by rw [getD_keep (show 4 ≠ 14 by decide)]; exact HF⟩
    · refine wpOp_want rfl rfl (fun K hK => ?_)
      simp only [putAll, z1, z2, z3, z4, z5]
      refine ⟨?_⟩
      go_simp
      exact hK _ _ ⟨[s6, s7, s17, s18, s19, s20, s21, s22, (.pointer (some ⟨b3, 0, none⟩)), s24, s25, s26, s27, s28, s29, s30], by simp only [putAll, z1, z2], s6, s7, s17, s18, s19, s20, s21, s22, (.pointer (some ⟨b3, 0, none⟩)), s24, s25, s26, s27, s28, s29, s30, c_b6, b6, rfl, lk h0, lk h1, lk h2, lk h3, lk h4, fun _ => rfl, lk h6, lk h7, lk h8, lk h9, lk h10, lk h11, lk h12, lk h13, lk h14, lk h15, lk h16, fun h => by rw [getD_keep (show 5 ≠ 15 by decide)] at h; rw [getD_keep (show 5 ≠ 14 by decide)]; exact hN_b6 h, hz0, by rw [getD_keep (show 5 ≠ 14 by decide)]; exact HF⟩
    · have d5 := h5 (hd 5 (by kernel_rfl))
      obtain rfl := d5
      refine wpOp_want rfl rfl (fun K hK => ?_)
      simp only [putAll, z1, z2, z3, z4, z5]
      with_reducible apply gLm HF
      · exact rfl
      · (exact tL)
      · exact RC_num _ _
      · (first | (exact tR3))
      go_simp
      exact hK _ _ ⟨[s6, s7, s17, s18, s19, s20, s21, s22, (.pointer (some ⟨b3, 0, none⟩)), (.agg (IC m)), s25, s26, s27, s28, s29, s30], by simp only [putAll, z1, z2], s6, s7, s17, s18, s19, s20, s21, s22, (.pointer (some ⟨b3, 0, none⟩)), (.agg (IC m)), s25, s26, s27, s28, s29, s30, c_b6, b6, rfl, lk h0, lk h1, lk h2, lk h3, lk h4, lk h5, fun _ => rfl, lk h7, lk h8, lk h9, lk h10, lk h11, lk h12, lk h13, lk h14, lk h15, lk h16, fun h => by rw [getD_keep (show 6 ≠ 15 by decide)] at h; rw [getD_keep (show 6 ≠ 14 by decide)]; exact hN_b6 h, hz0, by rw [getD_keep (show 6 ≠ 14 by decide)]; exact HF⟩
    · refine wpOp_want rfl rfl (fun K hK => ?_)
      simp only [putAll, z1, z2, z3, z4, z5]
      refine ⟨?_⟩
      go_simp
      exact hK _ _ ⟨[s6, s7, s17, s18, s19, s20, s21, s22, s23, s24, (.pointer (some ⟨b2, 33, none⟩)), s26, s27, s28, s29, s30], by simp only [putAll, z1, z2], s6, s7, s17, s18, s19, s20, s21, s22, s23, s24, (.pointer (some ⟨b2, 33, none⟩)), s26, s27, s28, s29, s30, c_b6, b6, rfl, lk h0, lk h1, lk h2, lk h3, lk h4, lk h5, lk h6, fun _ => rfl, lk h8, lk h9, lk h10, lk h11, lk h12, lk h13, lk h14, lk h15, lk h16, fun h => by rw [getD_keep (show 7 ≠ 15 by decide)] at h; rw [getD_keep (show 7 ≠ 14 by decide)]; exact hN_b6 h, hz0, by rw [getD_keep (show 7 ≠ 14 by decide)]; exact HF⟩
    · have d7 := h7 (hd 7 (by kernel_rfl))
      obtain rfl := d7
      refine wpOp_want rfl rfl (fun K hK => ?_)
      simp only [putAll, z1, z2, z3, z4, z5]
      with_reducible apply gLm HF
      · exact rfl
      · (exact tL)
      · exact RC_den _ _
      · (first | (exact tR3))
      go_simp
      exact hK _ _ ⟨[s6, s7, s17, s18, s19, s20, s21, s22, s23, s24, (.pointer (some ⟨b2, 33, none⟩)), (.agg (IC d)), s27, s28, s29, s30], by simp only [putAll, z1, z2], s6, s7, s17, s18, s19, s20, s21, s22, s23, s24, (.pointer (some ⟨b2, 33, none⟩)), (.agg (IC d)), s27, s28, s29, s30, c_b6, b6, rfl, lk h0, lk h1, lk h2, lk h3, lk h4, lk h5, lk h6, lk h7, fun _ => rfl, lk h9, lk h10, lk h11, lk h12, lk h13, lk h14, lk h15, lk h16, fun h => by rw [getD_keep (show 8 ≠ 15 by decide)] at h; rw [getD_keep (show 8 ≠ 14 by decide)]; exact hN_b6 h, hz0, by rw [getD_keep (show 8 ≠ 14 by decide)]; exact HF⟩
    · have d6 := h6 (hd 6 (by kernel_rfl))
      have d8 := h8 (hd 8 (by kernel_rfl))
      obtain rfl := d6
      obtain rfl := d8
      refine wpOp_want rfl rfl (fun K hK => ?_)
      simp only [putAll, z1, z2, z3, z4, z5]
      refine ⟨?_⟩
      go_simp
      with_reducible refine fr_call HF (g2 _) ?_
      clear HF
      intro W HF
      (try dsimp only)
      exact hK _ _ ⟨[s6, s7, s17, s18, s19, s20, s21, s22, s23, (.agg (IC m)), s25, (.agg (IC d)), (.agg (IC y)), s28, s29, s30], by simp only [putAll, z1, z2], s6, s7, s17, s18, s19, s20, s21, s22, s23, (.agg (IC m)), s25, (.agg (IC d)), (.agg (IC y)), s28, s29, s30, c_b6, b6, rfl, lk h0, lk h1, lk h2, lk h3, lk h4, lk h5, lk h6, lk h7, lk h8, fun _ => rfl, lk h10, lk h11, lk h12, lk h13, lk h14, lk h15, lk h16, fun h => by rw [getD_keep (show 9 ≠ 15 by decide)] at h; rw [getD_keep (show 9 ≠ 14 by decide)]; exact hN_b6 h, hz0, by rw [getD_keep (show 9 ≠ 14 by decide)]; exact HF⟩
    · have d4 := h4 (hd 4 (by kernel_rfl))
      have d9 := h9 (hd 9 (by kernel_rfl))
      obtain rfl := d4
      obtain rfl := d9
      refine wpOp_want rfl rfl (fun K hK => ?_)
      simp only [putAll, z1, z2, z3, z4, z5]
      refine ⟨?_⟩
      go_simp
      with_reducible refine fr_call HF (g3 _) ?_
      clear HF
      intro W HF
      (try dsimp only)
      exact hK _ _ ⟨[s6, s7, s17, s18, s19, s20, s21, (.agg (IC x)), s23, s24, s25, s26, (.agg (IC y)), (.tuple #[.agg (IC s), .int .i64 0]), s29, s30], by simp only [putAll, z1, z2], s6, s7, s17, s18, s19, s20, s21, (.agg (IC x)), s23, s24, s25, s26, (.agg (IC y)), (.tuple #[.agg (IC s), .int .i64 0]), s29, s30, c_b6, b6, rfl, lk h0, lk h1, lk h2, lk h3, lk h4, lk h5, lk h6, lk h7, lk h8, lk h9, fun _ => rfl, lk h11, lk h12, lk h13, lk h14, lk h15, lk h16, fun h => by rw [getD_keep (show 10 ≠ 15 by decide)] at h; rw [getD_keep (show 10 ≠ 14 by decide)]; exact hN_b6 h, hz0, by rw [getD_keep (show 10 ≠ 14 by decide)]; exact HF⟩
    · have d10 := h10 (hd 10 (by kernel_rfl))
      obtain rfl := d10
      refine wpOp_want rfl rfl (fun K hK => ?_)
      simp only [putAll, z1, z2, z3, z4, z5]
      refine ⟨?_⟩
      go_simp
      exact hK _ _ ⟨[s6, s7, (.tuple #[.agg (IC s), .int .i64 0]), s18, s19, s20, s21, s22, s23, s24, s25, s26, s27, (.tuple #[.agg (IC s), .int .i64 0]), s29, s30], by simp only [putAll, z1, z2], s6, s7, (.tuple #[.agg (IC s), .int .i64 0]), s18, s19, s20, s21, s22, s23, s24, s25, s26, s27, (.tuple #[.agg (IC s), .int .i64 0]), s29, s30, c_b6, b6, rfl, lk h0, lk h1, lk h2, lk h3, lk h4, lk h5, lk h6, lk h7, lk h8, lk h9, lk h10, fun _ => rfl, lk h12, lk h13, lk h14, lk h15, lk h16, fun h => by rw [getD_keep (show 11 ≠ 15 by decide)] at h; rw [getD_keep (show 11 ≠ 14 by decide)]; exact hN_b6 h, hz0, by rw [getD_keep (show 11 ≠ 14 by decide)]; exact HF⟩
    · have d11 := h11 (hd 11 (by kernel_rfl))
      obtain rfl := d11
      refine wpOp_want rfl rfl (fun K hK => ?_)
      simp only [putAll, z1, z2, z3, z4, z5]
      refine ⟨?_⟩
      go_simp
      exact hK _ _ ⟨[s6, s7, (.tuple #[.agg (IC s), .int .i64 0]), s18, s19, s20, s21, s22, s23, s24, s25, s26, s27, s28, (.agg (IC s)), s30], by simp only [putAll, z1, z2], s6, s7, (.tuple #[.agg (IC s), .int .i64 0]), s18, s19, s20, s21, s22, s23, s24, s25, s26, s27, s28, (.agg (IC s)), s30, c_b6, b6, rfl, lk h0, lk h1, lk h2, lk h3, lk h4, lk h5, lk h6, lk h7, lk h8, lk h9, lk h10, lk h11, fun _ => rfl, lk h13, lk h14, lk h15, lk h16, fun h => by rw [getD_keep (show 12 ≠ 15 by decide)] at h; rw [getD_keep (show 12 ≠ 14 by decide)]; exact hN_b6 h, hz0, by rw [getD_keep (show 12 ≠ 14 by decide)]; exact HF⟩
    · have d11 := h11 (hd 11 (by kernel_rfl))
      obtain rfl := d11
      refine wpOp_want rfl rfl (fun K hK => ?_)
      simp only [putAll, z1, z2, z3, z4, z5]
      refine ⟨?_⟩
      go_simp
      exact hK _ _ ⟨[s6, s7, (.tuple #[.agg (IC s), .int .i64 0]), s18, s19, s20, s21, s22, s23, s24, s25, s26, s27, s28, s29, (.int .i64 0)], by simp only [putAll, z1, z2], s6, s7, (.tuple #[.agg (IC s), .int .i64 0]), s18, s19, s20, s21, s22, s23, s24, s25, s26, s27, s28, s29, (.int .i64 0), c_b6, b6, rfl, lk h0, lk h1, lk h2, lk h3, lk h4, lk h5, lk h6, lk h7, lk h8, lk h9, lk h10, lk h11, lk h12, fun _ => rfl, lk h14, lk h15, lk h16, fun h => by rw [getD_keep (show 13 ≠ 15 by decide)] at h; rw [getD_keep (show 13 ≠ 14 by decide)]; exact hN_b6 h, hz0, by rw [getD_keep (show 13 ≠ 14 by decide)]; exact HF⟩
    · refine wpOp_want rfl rfl (fun K hK => ?_)
      simp only [putAll, z1, z2, z3, z4, z5]
      rw [show listed.getD 14 false = false from hoff] at HF
      skip
      with_reducible apply gA_int HF
      intro bN W HF
      go_simp
      exact hK _ _ ⟨[(.pointer (some ⟨bN, 0, none⟩)), s7, s17, s18, s19, s20, s21, s22, s23, s24, s25, s26, s27, s28, s29, s30], by simp only [putAll, z1, z2], (.pointer (some ⟨bN, 0, none⟩)), s7, s17, s18, s19, s20, s21, s22, s23, s24, s25, s26, s27, s28, s29, s30, (intC false 0), bN, rfl, lk h0, lk h1, lk h2, lk h3, lk h4, lk h5, lk h6, lk h7, lk h8, lk h9, lk h10, lk h11, lk h12, lk h13, fun _ => rfl, fun h => absurd (hN_b6 (by rw [getD_keep (show 14 ≠ 15 by decide)] at h; exact h)) (by rw [hoff]; decide), lk h16, fun _ => getD_on (by rw [hsz2]; decide), by exact tS2, by rw [getD_on (show 14 < listed.size by rw [hsz2]; decide)]; exact Fr.mid (A := [(b4, RC 0 0, 31), (b3, RC m e, 31), (b2, RC n d, 31)]) HF⟩
    · have d12 := h12 (hd 12 (by kernel_rfl))
      have d14 := h14 (hd 14 (by kernel_rfl))
      obtain rfl := d12
      obtain rfl := d14
      refine wpOp_want rfl rfl (fun K hK => ?_)
      simp only [putAll, z1, z2, z3, z4, z5]
      rw [hd 14 (by kernel_rfl)] at HF
      simp only [onl, if_true, z7, z8] at HF
      with_reducible apply gS HF
      · exact rfl
      · exact rfl
      · (exact tL)
      · (first | (exact tR3))
      · first | exact hz0 | exact tS2
      clear HF
      intro W HF
      simp only [z7, z8, List.append_assoc, List.append_nil] at HF
      go_simp
      exact hK _ _ ⟨[(.pointer (some ⟨b6, 0, none⟩)), s7, s17, s18, s19, s20, s21, s22, s23, s24, s25, s26, s27, s28, (.agg (IC s)), s30], by simp only [putAll, z1, z2], (.pointer (some ⟨b6, 0, none⟩)), s7, s17, s18, s19, s20, s21, s22, s23, s24, s25, s26, s27, s28, (.agg (IC s)), s30, (IC s), b6, rfl, lk h0, lk h1, lk h2, lk h3, lk h4, lk h5, lk h6, lk h7, lk h8, lk h9, lk h10, lk h11, lk h12, lk h13, lk h14, fun _ => rfl, lk h16, fun _ => by rw [getD_keep (show 15 ≠ 14 by decide)]; exact hd 14 (by kernel_rfl), rfl, by rw [getD_keep (show 15 ≠ 14 by decide), hd 14 (by kernel_rfl)]; exact HF⟩
    · have d13 := h13 (hd 13 (by kernel_rfl))
      obtain rfl := d13
      refine wpOp_want rfl rfl (fun K hK => ?_)
      simp only [putAll, z1, z2, z3, z4, z5]
      refine ⟨?_⟩
      go_simp
      exact hK _ _ ⟨[s6, (.int .i64 0), s17, s18, s19, s20, s21, s22, s23, s24, s25, s26, s27, s28, s29, (.int .i64 0)], by simp only [putAll, z1, z2], s6, (.int .i64 0), s17, s18, s19, s20, s21, s22, s23, s24, s25, s26, s27, s28, s29, (.int .i64 0), c_b6, b6, rfl, lk h0, lk h1, lk h2, lk h3, lk h4, lk h5, lk h6, lk h7, lk h8, lk h9, lk h10, lk h11, lk h12, lk h13, lk h14, lk h15, fun _ => rfl, fun h => by rw [getD_keep (show 16 ≠ 15 by decide)] at h; rw [getD_keep (show 16 ≠ 14 by decide)]; exact hN_b6 h, hz0, by rw [getD_keep (show 16 ≠ 14 by decide)]; exact HF⟩
  rintro listed mm W ⟨s6, s7, s17, s18, s19, s20, s21, s22, s23, s24, s25, s26, s27, s28, s29, s30, c_b6, b6, rfl, h0, h1, h2, h3, h4, h5, h6, h7, h8, h9, h10, h11, h12, h13, h14, h15, h16, hN_b6, hz0, HF⟩ hall
  rw [hall 14 (by decide)] at HF
  simp only [onl, if_true, z7, z8] at HF
  obtain rfl := h0 (hall 0 (by decide))
  obtain rfl := h1 (hall 1 (by decide))
  obtain rfl := h2 (hall 2 (by decide))
  obtain rfl := h3 (hall 3 (by decide))
  obtain rfl := h4 (hall 4 (by decide))
  obtain rfl := h5 (hall 5 (by decide))
  obtain rfl := h6 (hall 6 (by decide))
  obtain rfl := h7 (hall 7 (by decide))
  obtain rfl := h8 (hall 8 (by decide))
  obtain rfl := h9 (hall 9 (by decide))
  obtain rfl := h10 (hall 10 (by decide))
  obtain rfl := h11 (hall 11 (by decide))
  obtain rfl := h12 (hall 12 (by decide))
  obtain rfl := h13 (hall 13 (by decide))
  obtain rfl := h14 (hall 14 (by decide))
  rw [h15 (hall 15 (by decide))] at HF
  obtain rfl := h16 (hall 16 (by decide))
  clear hall h0 h1 h2 h3 h4 h5 h6 h7 h8 h9 h10 h11 h12 h13 h14 h15 h16 hN_b6 hz0 F
  have F := HF
  clear HF
  simp only [putAll, z1, z2]
  go_wp2_with (first | go_skip | ((with_reducible apply fL F); exact rfl; exact rfl; (exact tL); (exact tR3)) | ((with_reducible apply fLm F); exact rfl; exact rfl; (exact tL); (exact tM3); (exact tR3)) | ((with_reducible apply fA_int F); exact rfl) | ((with_reducible apply fA_rat F); exact rfl) | ((with_reducible apply fX_rat F); exact rfl; exact rfl) | ((with_reducible apply fS F); exact rfl; exact rfl; exact rfl; (exact tL); (exact tR3); (exact tS2); clear F; intro W F; simp only [z7, z8] at F) | ((with_reducible apply fB_rat0); exact rfl))
  try simp only [Act.put, z6, z1, z2]
  refine wp_region_slots mixP [5, 31, 32, 33, 34, 35, 36, 37, 38, 39] (fun l mm W => ∃ (s5 s31 s32 s33 s34 s35 s36 s37 s38 s39 : Value) (c_b4 : Array Value), mm = [s5, s31, s32, s33, s34, s35, s36, s37, s38, s39] ∧ (l.getD 0 false = true → s31 = .agg (IC s)) ∧ (l.getD 1 false = true → s32 = .pointer (some ⟨b2, 33, none⟩)) ∧ (l.getD 2 false = true → s33 = .agg (IC d)) ∧ (l.getD 3 false = true → s34 = .pointer (some ⟨b3, 33, none⟩)) ∧ (l.getD 4 false = true → s35 = .agg (IC e)) ∧ (l.getD 5 false = true → s36 = .agg (IC z)) ∧ (l.getD 6 false = true → s37 = .tuple #[.agg (RC r.1 r.2.1), .int .i64 r.2.2]) ∧ (l.getD 7 false = true → s38 = .agg (RC r.1 r.2.1)) ∧ (l.getD 8 false = true → s39 = .int .i64 r.2.2) ∧ (l.getD 9 false = true → c_b4 = RC r.1 r.2.1) ∧ (l.getD 10 false = true → s5 = .int .i64 r.2.2) ∧ c_b4.size = (RC r.1 r.2.1).size ∧ Fr w W [(b4, c_b4, 31), (b3, RC m e, 31), (b2, RC n d, 31), (b6, IC s, 29)]) (by kernel_rfl) (putAll_self _ _) ?_ ?_ ?_
  · exact ⟨_, _, _, _, _, _, _, _, _, _, (RC 0 0), rfl, nf, nf, nf, nf, nf, nf, nf, nf, nf, nf, nf, by exact tS2, F.drew⟩
  · rintro listed mm W ii hi hsz hoff ⟨s5, s31, s32, s33, s34, s35, s36, s37, s38, s39, c_b4, rfl, h0, h1, h2, h3, h4, h5, h6, h7, h8, h9, h10, hz0, HF⟩ hd
    have hc := dr_c11 hi
    have hsz2 : listed.size = 11 := hsz
    clear hi hsz
    rcases hc with rfl | rfl | rfl | rfl | rfl | rfl | rfl | rfl | rfl | rfl | rfl
    · refine wpOp_want rfl rfl (fun K hK => ?_)
      simp only [putAll, z1, z2, z3, z4, z5]
      with_reducible apply gL HF
      · exact rfl
      · (exact tL)
      · (first | (exact tR3))
      go_simp
      exact hK _ _ ⟨[s5, (.agg (IC s)), s32, s33, s34, s35, s36, s37, s38, s39], by simp only [putAll, z1, z2], s5, (.agg (IC s)), s32, s33, s34, s35, s36, s37, s38, s39, c_b4, rfl, fun _ => rfl, lk h1, lk h2, lk h3, lk h4, lk h5, lk h6, lk h7, lk h8, lk h9, lk h10, hz0, HF⟩
    · refine wpOp_want rfl rfl (fun K hK => ?_)
      simp only [putAll, z1, z2, z3, z4, z5]
      refine ⟨?_⟩
      go_simp
      exact hK _ _ ⟨[s5, s31, (.pointer (some ⟨b2, 33, none⟩)), s33, s34, s35, s36, s37, s38, s39], by simp only [putAll, z1, z2], s5, s31, (.pointer (some ⟨b2, 33, none⟩)), s33, s34, s35, s36, s37, s38, s39, c_b4, rfl, lk h0, fun _ => rfl, lk h2, lk h3, lk h4, lk h5, lk h6, lk h7, lk h8, lk h9, lk h10, hz0, HF⟩
    · have d1 := h1 (hd 1 (by kernel_rfl))
      obtain rfl := d1
      refine wpOp_want rfl rfl (fun K hK => ?_)
      simp only [putAll, z1, z2, z3, z4, z5]
      with_reducible apply gLm HF
      · exact rfl
      · (exact tL)
      · exact RC_den _ _
      · (first | (exact tR3))
      go_simp
      exact hK _ _ ⟨[s5, s31, (.pointer (some ⟨b2, 33, none⟩)), (.agg (IC d)), s34, s35, s36, s37, s38, s39], by simp only [putAll, z1, z2], s5, s31, (.pointer (some ⟨b2, 33, none⟩)), (.agg (IC d)), s34, s35, s36, s37, s38, s39, c_b4, rfl, lk h0, lk h1, fun _ => rfl, lk h3, lk h4, lk h5, lk h6, lk h7, lk h8, lk h9, lk h10, hz0, HF⟩
    · refine wpOp_want rfl rfl (fun K hK => ?_)
      simp only [putAll, z1, z2, z3, z4, z5]
      refine ⟨?_⟩
      go_simp
      exact hK _ _ ⟨[s5, s31, s32, s33, (.pointer (some ⟨b3, 33, none⟩)), s35, s36, s37, s38, s39], by simp only [putAll, z1, z2], s5, s31, s32, s33, (.pointer (some ⟨b3, 33, none⟩)), s35, s36, s37, s38, s39, c_b4, rfl, lk h0, lk h1, lk h2, fun _ => rfl, lk h4, lk h5, lk h6, lk h7, lk h8, lk h9, lk h10, hz0, HF⟩
    · have d3 := h3 (hd 3 (by kernel_rfl))
      obtain rfl := d3
      refine wpOp_want rfl rfl (fun K hK => ?_)
      simp only [putAll, z1, z2, z3, z4, z5]
      with_reducible apply gLm HF
      · exact rfl
      · (exact tL)
      · exact RC_den _ _
      · (first | (exact tR3))
      go_simp
      exact hK _ _ ⟨[s5, s31, s32, s33, (.pointer (some ⟨b3, 33, none⟩)), (.agg (IC e)), s36, s37, s38, s39], by simp only [putAll, z1, z2], s5, s31, s32, s33, (.pointer (some ⟨b3, 33, none⟩)), (.agg (IC e)), s36, s37, s38, s39, c_b4, rfl, lk h0, lk h1, lk h2, lk h3, fun _ => rfl, lk h5, lk h6, lk h7, lk h8, lk h9, lk h10, hz0, HF⟩
    · have d2 := h2 (hd 2 (by kernel_rfl))
      have d4 := h4 (hd 4 (by kernel_rfl))
      obtain rfl := d2
      obtain rfl := d4
      refine wpOp_want rfl rfl (fun K hK => ?_)
      simp only [putAll, z1, z2, z3, z4, z5]
      refine ⟨?_⟩
      go_simp
      with_reducible refine fr_call HF (g4 _) ?_
      clear HF
      intro W HF
      (try dsimp only)
      exact hK _ _ ⟨[s5, s31, s32, (.agg (IC d)), s34, (.agg (IC e)), (.agg (IC z)), s37, s38, s39], by simp only [putAll, z1, z2], s5, s31, s32, (.agg (IC d)), s34, (.agg (IC e)), (.agg (IC z)), s37, s38, s39, c_b4, rfl, lk h0, lk h1, lk h2, lk h3, lk h4, fun _ => rfl, lk h6, lk h7, lk h8, lk h9, lk h10, hz0, HF⟩
    · have d0 := h0 (hd 0 (by kernel_rfl))
      have d5 := h5 (hd 5 (by kernel_rfl))
      obtain rfl := d0
      obtain rfl := d5
      refine wpOp_want rfl rfl (fun K hK => ?_)
      simp only [putAll, z1, z2, z3, z4, z5]
      refine ⟨?_⟩
      go_simp
      with_reducible refine fr_call HF (g5 _) ?_
      clear HF
      intro W HF
      (try dsimp only)
      exact hK _ _ ⟨[s5, (.agg (IC s)), s32, s33, s34, s35, (.agg (IC z)), (.tuple #[.agg (RC r.1 r.2.1), .int .i64 r.2.2]), s38, s39], by simp only [putAll, z1, z2], s5, (.agg (IC s)), s32, s33, s34, s35, (.agg (IC z)), (.tuple #[.agg (RC r.1 r.2.1), .int .i64 r.2.2]), s38, s39, c_b4, rfl, lk h0, lk h1, lk h2, lk h3, lk h4, lk h5, fun _ => rfl, lk h7, lk h8, lk h9, lk h10, hz0, HF⟩
    · have d6 := h6 (hd 6 (by kernel_rfl))
      obtain rfl := d6
      refine wpOp_want rfl rfl (fun K hK => ?_)
      simp only [putAll, z1, z2, z3, z4, z5]
      refine ⟨?_⟩
      go_simp
      exact hK _ _ ⟨[s5, s31, s32, s33, s34, s35, s36, (.tuple #[.agg (RC r.1 r.2.1), .int .i64 r.2.2]), (.agg (RC r.1 r.2.1)), s39], by simp only [putAll, z1, z2], s5, s31, s32, s33, s34, s35, s36, (.tuple #[.agg (RC r.1 r.2.1), .int .i64 r.2.2]), (.agg (RC r.1 r.2.1)), s39, c_b4, rfl, lk h0, lk h1, lk h2, lk h3, lk h4, lk h5, lk h6, fun _ => rfl, lk h8, lk h9, lk h10, hz0, HF⟩
    · have d6 := h6 (hd 6 (by kernel_rfl))
      obtain rfl := d6
      refine wpOp_want rfl rfl (fun K hK => ?_)
      simp only [putAll, z1, z2, z3, z4, z5]
      refine ⟨?_⟩
      go_simp
      exact hK _ _ ⟨[s5, s31, s32, s33, s34, s35, s36, (.tuple #[.agg (RC r.1 r.2.1), .int .i64 r.2.2]), s38, (.int .i64 r.2.2)], by simp only [putAll, z1, z2], s5, s31, s32, s33, s34, s35, s36, (.tuple #[.agg (RC r.1 r.2.1), .int .i64 r.2.2]), s38, (.int .i64 r.2.2), c_b4, rfl, lk h0, lk h1, lk h2, lk h3, lk h4, lk h5, lk h6, lk h7, fun _ => rfl, lk h9, lk h10, hz0, HF⟩
    · have d7 := h7 (hd 7 (by kernel_rfl))
      obtain rfl := d7
      refine wpOp_want rfl rfl (fun K hK => ?_)
      simp only [putAll, z1, z2, z3, z4, z5]
      with_reducible apply gS HF
      · exact rfl
      · exact rfl
      · (exact tL)
      · (first | (exact tR3))
      · first | exact hz0 | exact tS2
      clear HF
      intro W HF
      simp only [z7, z8, List.append_assoc, List.append_nil] at HF
      go_simp
      exact hK _ _ ⟨[s5, s31, s32, s33, s34, s35, s36, s37, (.agg (RC r.1 r.2.1)), s39], by simp only [putAll, z1, z2], s5, s31, s32, s33, s34, s35, s36, s37, (.agg (RC r.1 r.2.1)), s39, (RC r.1 r.2.1), rfl, lk h0, lk h1, lk h2, lk h3, lk h4, lk h5, lk h6, lk h7, lk h8, fun _ => rfl, lk h10, rfl, HF⟩
    · have d8 := h8 (hd 8 (by kernel_rfl))
      obtain rfl := d8
      refine wpOp_want rfl rfl (fun K hK => ?_)
      simp only [putAll, z1, z2, z3, z4, z5]
      refine ⟨?_⟩
      go_simp
      exact hK _ _ ⟨[(.int .i64 r.2.2), s31, s32, s33, s34, s35, s36, s37, s38, (.int .i64 r.2.2)], by simp only [putAll, z1, z2], (.int .i64 r.2.2), s31, s32, s33, s34, s35, s36, s37, s38, (.int .i64 r.2.2), c_b4, rfl, lk h0, lk h1, lk h2, lk h3, lk h4, lk h5, lk h6, lk h7, lk h8, lk h9, fun _ => rfl, hz0, HF⟩
  rintro listed mm W ⟨s5, s31, s32, s33, s34, s35, s36, s37, s38, s39, c_b4, rfl, h0, h1, h2, h3, h4, h5, h6, h7, h8, h9, h10, hz0, HF⟩ hall
  obtain rfl := h0 (hall 0 (by decide))
  obtain rfl := h1 (hall 1 (by decide))
  obtain rfl := h2 (hall 2 (by decide))
  obtain rfl := h3 (hall 3 (by decide))
  obtain rfl := h4 (hall 4 (by decide))
  obtain rfl := h5 (hall 5 (by decide))
  obtain rfl := h6 (hall 6 (by decide))
  obtain rfl := h7 (hall 7 (by decide))
  obtain rfl := h8 (hall 8 (by decide))
  rw [h9 (hall 9 (by decide))] at HF
  obtain rfl := h10 (hall 10 (by decide))
  clear hall h0 h1 h2 h3 h4 h5 h6 h7 h8 h9 h10 hz0 F
  have F := HF
  clear HF
  simp only [putAll, z1, z2]
  go_wp2_with (first | go_skip | ((with_reducible apply fL F); exact rfl; exact rfl; (exact tL); (exact tR3)) | ((with_reducible apply fLm F); exact rfl; exact rfl; (exact tL); (exact tM3); (exact tR3)) | ((with_reducible apply fA_int F); exact rfl) | ((with_reducible apply fA_rat F); exact rfl) | ((with_reducible apply fX_rat F); exact rfl; exact rfl) | ((with_reducible apply fS F); exact rfl; exact rfl; exact rfl; (exact tL); (exact tR3); (exact tS2); clear F; intro W F; simp only [z7, z8] at F) | ((with_reducible apply fB_rat0); exact rfl))
  exact bodyPost_ret (res_cs rfl rfl rfl (Fr.get F tL) (rowRC _ _)) rfl ⟨rfl, F.below⟩
set_option maxRecDepth 100000 in
theorem rsubR (h : okZ n d) (k : okZ m e) (hr : mkR (n * e + -m * d) (d * e) = r) (w : World) : Calls Tryz.prog 38 #[.agg (RC n d), .agg (RC m e)] w (RetB (.tuple #[.agg (RC r.1 r.2.1), .int .i64 r.2.2]) w) := by
  have F := Fr.start w
  have v1 := fun w => rvalidZ h w
  have v2 := fun w => rvalidZ k w
  have g1 := fun w => rnegativeR (d := e) (okZ_b k).1 w
  have g2 := fun w => raddR h (okZ_neg k) hr w
  clear h k hr
  go_enter Tryz.func38, Tryz.ntmps38
  go_wp2_with (first | go_skip | ((with_reducible apply fL F); exact rfl; exact rfl; (exact tL); (exact tR3)) | ((with_reducible apply fA_rat F); exact rfl) | ((with_reducible apply fX_rat F); exact rfl; exact rfl) | ((with_reducible apply fS F); exact rfl; exact rfl; exact rfl; (exact tL); (exact tR3); (exact tS2); clear F; intro W F; simp only [z7, z8] at F) | ((with_reducible apply fB_rat0); exact rfl))
  (clear F; intro b2 W F; try simp only [Act.put, z6, z1, z2])
  go_wp2_with (first | go_skip | ((with_reducible apply fL F); exact rfl; exact rfl; (exact tL); (exact tR3)) | ((with_reducible apply fA_rat F); exact rfl) | ((with_reducible apply fX_rat F); exact rfl; exact rfl) | ((with_reducible apply fS F); exact rfl; exact rfl; exact rfl; (exact tL); (exact tR3); (exact tS2); clear F; intro W F; simp only [z7, z8] at F) | ((with_reducible apply fB_rat0); exact rfl))
  (clear F; intro b3 W F; try simp only [Act.put, z6, z1, z2])
  go_wp2_with (first | go_skip | ((with_reducible apply fL F); exact rfl; exact rfl; (exact tL); (exact tR3)) | ((with_reducible apply fA_rat F); exact rfl) | ((with_reducible apply fX_rat F); exact rfl; exact rfl) | ((with_reducible apply fS F); exact rfl; exact rfl; exact rfl; (exact tL); (exact tR3); (exact tS2); clear F; intro W F; simp only [z7, z8] at F) | ((with_reducible apply fB_rat0); exact rfl))
  (clear F; intro b4 W F; try simp only [Act.put, z6, z1, z2])
  go_wp2_with (first | go_skip | ((go_at_call 51); (with_reducible refine fr_call F (v1 _) ?_); (clear F; intro W F); (try dsimp only)) | ((go_at_call 51); (with_reducible refine fr_call F (v2 _) ?_); (clear F; intro W F); (try dsimp only)) | ((with_reducible apply fL F); exact rfl; exact rfl; (exact tL); (exact tR3)) | ((with_reducible apply fA_rat F); exact rfl) | ((with_reducible apply fX_rat F); exact rfl; exact rfl) | ((with_reducible apply fS F); exact rfl; exact rfl; exact rfl; (exact tL); (exact tR3); (exact tS2); clear F; intro W F; simp only [z7, z8] at F) | ((with_reducible apply fB_rat0); exact rfl))
  try simp only [Act.put, z6, z1, z2]
  refine wp_region_slots mixP [5, 15, 16, 17, 18, 19, 20] (fun l mm W => ∃ (s5 s15 s16 s17 s18 s19 s20 : Value) (c_b4 : Array Value), mm = [s5, s15, s16, s17, s18, s19, s20] ∧ (l.getD 0 false = true → s15 = .agg (RC n d)) ∧ (l.getD 1 false = true → s16 = .agg (RC m e)) ∧ (l.getD 2 false = true → s17 = .agg (RC (-m) e)) ∧ (l.getD 3 false = true → s18 = .tuple #[.agg (RC r.1 r.2.1), .int .i64 r.2.2]) ∧ (l.getD 4 false = true → s19 = .agg (RC r.1 r.2.1)) ∧ (l.getD 5 false = true → s20 = .int .i64 r.2.2) ∧ (l.getD 6 false = true → c_b4 = RC r.1 r.2.1) ∧ (l.getD 7 false = true → s5 = .int .i64 r.2.2) ∧ c_b4.size = (RC r.1 r.2.1).size ∧ Fr w W [(b4, c_b4, 31), (b3, RC m e, 31), (b2, RC n d, 31)]) (by kernel_rfl) (putAll_self _ _) ?_ ?_ ?_
  · exact ⟨_, _, _, _, _, _, _, (RC 0 0), rfl, nf, nf, nf, nf, nf, nf, nf, nf, by exact tS2, F.drew⟩
  · rintro listed mm W ii hi hsz hoff ⟨s5, s15, s16, s17, s18, s19, s20, c_b4, rfl, h0, h1, h2, h3, h4, h5, h6, h7, hz0, HF⟩ hd
    have hc := dr_c8 hi
    have hsz2 : listed.size = 8 := hsz
    clear hi hsz
    rcases hc with rfl | rfl | rfl | rfl | rfl | rfl | rfl | rfl
    · refine wpOp_want rfl rfl (fun K hK => ?_)
      simp only [putAll, z1, z2, z3, z4, z5]
      with_reducible apply gL HF
      · exact rfl
      · (exact tL)
      · (first | (exact tR3))
      go_simp
      exact hK _ _ ⟨[s5, (.agg (RC n d)), s16, s17, s18, s19, s20], by simp only [putAll, z1, z2], s5, (.agg (RC n d)), s16, s17, s18, s19, s20, c_b4, rfl, fun _ => rfl, lk h1, lk h2, lk h3, lk h4, lk h5, lk h6, lk h7, hz0, HF⟩
    · refine wpOp_want rfl rfl (fun K hK => ?_)
      simp only [putAll, z1, z2, z3, z4, z5]
      with_reducible apply gL HF
      · exact rfl
      · (exact tL)
      · (first | (exact tR3))
      go_simp
      exact hK _ _ ⟨[s5, s15, (.agg (RC m e)), s17, s18, s19, s20], by simp only [putAll, z1, z2], s5, s15, (.agg (RC m e)), s17, s18, s19, s20, c_b4, rfl, lk h0, fun _ => rfl, lk h2, lk h3, lk h4, lk h5, lk h6, lk h7, hz0, HF⟩
    · have d1 := h1 (hd 1 (by kernel_rfl))
      obtain rfl := d1
      refine wpOp_want rfl rfl (fun K hK => ?_)
      simp only [putAll, z1, z2, z3, z4, z5]
      refine ⟨?_⟩
      go_simp
      with_reducible refine fr_call HF (g1 _) ?_
      clear HF
      intro W HF
      (try dsimp only)
      exact hK _ _ ⟨[s5, s15, (.agg (RC m e)), (.agg (RC (-m) e)), s18, s19, s20], by simp only [putAll, z1, z2], s5, s15, (.agg (RC m e)), (.agg (RC (-m) e)), s18, s19, s20, c_b4, rfl, lk h0, lk h1, fun _ => rfl, lk h3, lk h4, lk h5, lk h6, lk h7, hz0, HF⟩
    · have d0 := h0 (hd 0 (by kernel_rfl))
      have d2 := h2 (hd 2 (by kernel_rfl))
      obtain rfl := d0
      obtain rfl := d2
      refine wpOp_want rfl rfl (fun K hK => ?_)
      simp only [putAll, z1, z2, z3, z4, z5]
      refine ⟨?_⟩
      go_simp
      with_reducible refine fr_call HF (g2 _) ?_
      clear HF
      intro W HF
      (try dsimp only)
      exact hK _ _ ⟨[s5, (.agg (RC n d)), s16, (.agg (RC (-m) e)), (.tuple #[.agg (RC r.1 r.2.1), .int .i64 r.2.2]), s19, s20], by simp only [putAll, z1, z2], s5, (.agg (RC n d)), s16, (.agg (RC (-m) e)), (.tuple #[.agg (RC r.1 r.2.1), .int .i64 r.2.2]), s19, s20, c_b4, rfl, lk h0, lk h1, lk h2, fun _ => rfl, lk h4, lk h5, lk h6, lk h7, hz0, HF⟩
    · have d3 := h3 (hd 3 (by kernel_rfl))
      obtain rfl := d3
      refine wpOp_want rfl rfl (fun K hK => ?_)
      simp only [putAll, z1, z2, z3, z4, z5]
      refine ⟨?_⟩
      go_simp
      exact hK _ _ ⟨[s5, s15, s16, s17, (.tuple #[.agg (RC r.1 r.2.1), .int .i64 r.2.2]), (.agg (RC r.1 r.2.1)), s20], by simp only [putAll, z1, z2], s5, s15, s16, s17, (.tuple #[.agg (RC r.1 r.2.1), .int .i64 r.2.2]), (.agg (RC r.1 r.2.1)), s20, c_b4, rfl, lk h0, lk h1, lk h2, lk h3, fun _ => rfl, lk h5, lk h6, lk h7, hz0, HF⟩
    · have d3 := h3 (hd 3 (by kernel_rfl))
      obtain rfl := d3
      refine wpOp_want rfl rfl (fun K hK => ?_)
      simp only [putAll, z1, z2, z3, z4, z5]
      refine ⟨?_⟩
      go_simp
      exact hK _ _ ⟨[s5, s15, s16, s17, (.tuple #[.agg (RC r.1 r.2.1), .int .i64 r.2.2]), s19, (.int .i64 r.2.2)], by simp only [putAll, z1, z2], s5, s15, s16, s17, (.tuple #[.agg (RC r.1 r.2.1), .int .i64 r.2.2]), s19, (.int .i64 r.2.2), c_b4, rfl, lk h0, lk h1, lk h2, lk h3, lk h4, fun _ => rfl, lk h6, lk h7, hz0, HF⟩
    · have d4 := h4 (hd 4 (by kernel_rfl))
      obtain rfl := d4
      refine wpOp_want rfl rfl (fun K hK => ?_)
      simp only [putAll, z1, z2, z3, z4, z5]
      with_reducible apply gS HF
      · exact rfl
      · exact rfl
      · (exact tL)
      · (first | (exact tR3))
      · first | exact hz0 | exact tS2
      clear HF
      intro W HF
      simp only [z7, z8, List.append_assoc, List.append_nil] at HF
      go_simp
      exact hK _ _ ⟨[s5, s15, s16, s17, s18, (.agg (RC r.1 r.2.1)), s20], by simp only [putAll, z1, z2], s5, s15, s16, s17, s18, (.agg (RC r.1 r.2.1)), s20, (RC r.1 r.2.1), rfl, lk h0, lk h1, lk h2, lk h3, lk h4, lk h5, fun _ => rfl, lk h7, rfl, HF⟩
    · have d5 := h5 (hd 5 (by kernel_rfl))
      obtain rfl := d5
      refine wpOp_want rfl rfl (fun K hK => ?_)
      simp only [putAll, z1, z2, z3, z4, z5]
      refine ⟨?_⟩
      go_simp
      exact hK _ _ ⟨[(.int .i64 r.2.2), s15, s16, s17, s18, s19, (.int .i64 r.2.2)], by simp only [putAll, z1, z2], (.int .i64 r.2.2), s15, s16, s17, s18, s19, (.int .i64 r.2.2), c_b4, rfl, lk h0, lk h1, lk h2, lk h3, lk h4, lk h5, lk h6, fun _ => rfl, hz0, HF⟩
  rintro listed mm W ⟨s5, s15, s16, s17, s18, s19, s20, c_b4, rfl, h0, h1, h2, h3, h4, h5, h6, h7, hz0, HF⟩ hall
  obtain rfl := h0 (hall 0 (by decide))
  obtain rfl := h1 (hall 1 (by decide))
  obtain rfl := h2 (hall 2 (by decide))
  obtain rfl := h3 (hall 3 (by decide))
  obtain rfl := h4 (hall 4 (by decide))
  obtain rfl := h5 (hall 5 (by decide))
  rw [h6 (hall 6 (by decide))] at HF
  obtain rfl := h7 (hall 7 (by decide))
  clear hall h0 h1 h2 h3 h4 h5 h6 h7 hz0 F
  have F := HF
  clear HF
  simp only [putAll, z1, z2]
  go_wp2_with (first | go_skip | ((with_reducible apply fL F); exact rfl; exact rfl; (exact tL); (exact tR3)) | ((with_reducible apply fA_rat F); exact rfl) | ((with_reducible apply fX_rat F); exact rfl; exact rfl) | ((with_reducible apply fS F); exact rfl; exact rfl; exact rfl; (exact tL); (exact tR3); (exact tS2); clear F; intro W F; simp only [z7, z8] at F) | ((with_reducible apply fB_rat0); exact rfl))
  exact bodyPost_ret (res_cs rfl rfl rfl (Fr.get F tL) (rowRC _ _)) rfl ⟨rfl, F.below⟩
end
end
section
open Go.RowKit
section
variable {P : Program} {md : Region.Mode} {ops : Array Oper} {Q : Exit → Act → World → Prop} {n m fuel : Nat} {a : Act} {w : World} {ds : List Deferred}
theorem dg_m1 {α0 : Type} (f' m' : Nat) {ts1 : α0 → List Value} (H : α0 → World → Prop) (h : (∀ (x0 : α0) (W : World), H x0 W → wpAny P md ops Q f' (bm n m') ⟨⟨ts1 x0⟩, ds⟩ W) → wpAny P md ops Q fuel (bm n m) a w) (hr : (∀ (x0 : α0) (W : World), H x0 W → wpAny P md ops Q f' (bm n m') ⟨⟨ts1 x0⟩, ds⟩ W)) : wpAny P md ops Q fuel (bm n m) a w := h hr
end
end
section
open Go.RowKit
theorem rnd_floor {x d : Int} (hd : 0 < d) : rnd 3 x d * d ≤ x := by
  have h1 := Int.emod_add_mul_ediv x d
  have h2 := Int.emod_nonneg x (b := d) (by omega)
  have h : rnd 3 x d = x / d := by unfold rnd; split <;> rfl
  rw [h, Int.mul_comm (x / d) d]; omega
theorem rnd_ceil {x d : Int} (hd : 0 < d) : x ≤ rnd 4 x d * d := by
  have h1 := Int.emod_add_mul_ediv x d
  have h3 := Int.emod_lt_of_pos x hd
  unfold rnd
  split
  · rename_i h
    rw [Int.mul_comm (x / d) d]; omega
  · rw [if_pos (by rfl), Int.add_mul, Int.mul_comm (x / d) d]; omega
theorem rnd_half {m x d : Int} (hd : 0 < d) (hm : 5 ≤ m) : 2 * (rnd m x d * d - x).natAbs ≤ d.natAbs := by
  have h1 := Int.emod_add_mul_ediv x d
  have h2 := Int.emod_nonneg x (b := d) (by omega)
  have h3 := Int.emod_lt_of_pos x hd
  unfold rnd
  split
  · rename_i h
    rw [Int.mul_comm (x / d) d]; omega
  · rename_i h
    rcases cmpZ_cases (2 * (x % d)) d with ⟨h5, hc⟩ | ⟨h5, hc⟩ | ⟨h5, hc⟩
    all_goals rw [hc]
    · have hu : upB m (x / d) (-1) (decide (x < 0)) = false := by
        unfold upB
        rw [if_neg (by omega), if_neg (by omega), if_neg (by omega), if_neg (by omega)]
        split <;> rfl
      rw [hu, if_neg (by decide), Int.mul_comm (x / d) d]; omega
    · have hu : upB m (x / d) 1 (decide (x < 0)) = true := by
        unfold upB
        rw [if_neg (by omega), if_neg (by omega), if_neg (by omega), if_neg (by omega)]
        split <;> rfl
      rw [hu, if_pos rfl, Int.add_mul, Int.mul_comm (x / d) d, Int.one_mul]; omega
    · split
      · rw [Int.add_mul, Int.mul_comm (x / d) d, Int.one_mul]; omega
      · rw [Int.mul_comm (x / d) d]; omega
end
section
open Go.RowKit
theorem bp15_two : bp 15 = 2 ^ 240 * 2 ^ 240 := by unfold bp; decide
theorem okZ_1 {e : Int} (h0 : 0 < e) (he : e.natAbs < bp 15) : okZ 1 e := okZ_iff.2 ⟨⟨by unfold bp; decide, he⟩, h0, by simp⟩
theorem mkR_okZ {n d : Int} (h : okZ n d) : mkR n d = (n, d, 0) := by
  obtain ⟨⟨h1, h2⟩, h3, -⟩ := okZ_iff.1 h
  obtain ⟨k1, -⟩ := mkR_ok h3 h1 h2
  obtain ⟨l1, l2⟩ := low_self h
  rw [k1, l1, l2]
theorem mul_cancel_pos {a b c : Int} (hc : 0 < c) (h : a * c = b * c) : a = b := Int.eq_of_mul_eq_mul_right (by omega) h
theorem near_facts {n d : Int} {p : Nat} {m P Z : Int} (h : okZ n d) (hn : n.natAbs ≤ 2 ^ 200) (hd2 : d.natAbs ≤ 2 ^ 200) (hp : p ≤ 9) (h1 : 1 ≤ m) (h6 : m ≤ 6) (hP : ((10 ^ p : Nat) : Int) = P) (hZ : rnd m (n * P) d = Z) :
    ∃ a b s t, qntR (okZ n d) n d p m = (a, b, 0) ∧ okZ a b ∧ mkR (a * d + -n * b) (b * d) = (s, t, 0) ∧ okZ s t ∧ qntR (okZ a b) a b p m = (a, b, 0) ∧ (n * P % d = 0 → a = n ∧ b = d) ∧
      (s.natAbs : Int) * P < t ∧ (5 ≤ m → (s.natAbs : Int) * (P * 2) ≤ t) ∧ (m = 3 → s ≤ 0) ∧ (m = 4 → 0 ≤ s) := by
  obtain ⟨-, hd, -⟩ := okZ_iff.1 h
  have hP0 : 0 < P := by rw [← hP]; exact_mod_cast Nat.pow_pos (by decide)
  have hP9 : P.natAbs ≤ 2 ^ 30 := by
    have : 10 ^ p ≤ 10 ^ 9 := Nat.pow_le_pow_right (by decide) hp
    have e : (10 : Nat) ^ 9 ≤ 2 ^ 30 := by decide
    omega
  have hdist := rnd_dist (m := m) (x := n * P) hd
  rw [hZ] at hdist
  have hb15 := bp15_two
  have hZb : Z.natAbs ≤ 2 ^ 200 * 2 ^ 30 + 1 := by
    have k1 : (n * P).natAbs ≤ 2 ^ 200 * 2 ^ 30 := by rw [Int.natAbs_mul]; exact Nat.mul_le_mul hn hP9
    have k2 : Z.natAbs * d.natAbs ≤ (n * P).natAbs + d.natAbs := by rw [← Int.natAbs_mul]; omega
    have k3 : 1 ≤ d.natAbs := by omega
    generalize (n * P).natAbs = X at *
    have k4 : Z.natAbs * d.natAbs ≤ (X + 1) * d.natAbs := by
      rw [Nat.add_mul, Nat.one_mul]
      have : X ≤ X * d.natAbs := Nat.le_mul_of_pos_right _ k3
      omega
    have := Nat.le_of_mul_le_mul_right k4 (by omega)
    omega
  have big1 : 2 ^ 200 * 2 ^ 30 + 1 < bp 15 := by rw [hb15]; decide
  have big2 : (2 ^ 200 * 2 ^ 30 + 1) * 2 ^ 200 + 2 ^ 200 * 2 ^ 30 < bp 15 := by rw [hb15]; decide
  have big3 : 2 ^ 30 < bp 15 := by rw [hb15]; decide
  have big4 : 2 ^ 30 * 2 ^ 200 < bp 15 := by rw [hb15]; decide
  obtain ⟨q1, q2⟩ := mkR_ok (n := Z) hP0 (by omega) (by omega)
  obtain ⟨e1, e2⟩ := low_mul (n := Z) hP0
  have hg : (0 : Int) < (Int.gcd Z P : Int) := by have := gcd_pos (n := Z) hP0; omega
  have a1 := lowN_abs Z P
  have a2 := lowD_abs Z P
  have a3 := lowD_pos (n := Z) hP0
  generalize lowN Z P = a at *
  generalize lowD Z P = b at *
  generalize (Int.gcd Z P : Int) = g at *
  have hab : a * P = Z * b := by rw [← e1, ← e2, ← Int.mul_assoc, Int.mul_assoc a g b, Int.mul_comm g b, ← Int.mul_assoc]
  have hbd : 0 < b * d := Int.mul_pos a3 hd
  have k1 : (a * d + -n * b).natAbs < bp 15 := by
    have t1 : (a * d).natAbs ≤ (2 ^ 200 * 2 ^ 30 + 1) * 2 ^ 200 := by rw [Int.natAbs_mul]; exact Nat.mul_le_mul (by omega) hd2
    have t2 : (-n * b).natAbs ≤ 2 ^ 200 * 2 ^ 30 := by rw [Int.natAbs_mul, Int.natAbs_neg]; exact Nat.mul_le_mul hn (by omega)
    omega
  have k2 : (b * d).natAbs < bp 15 := by
    have t1 : (b * d).natAbs ≤ 2 ^ 30 * 2 ^ 200 := by rw [Int.natAbs_mul]; exact Nat.mul_le_mul (by omega) hd2
    omega
  obtain ⟨s1, s2⟩ := mkR_ok (n := a * d + -n * b) hbd k1 k2
  obtain ⟨f1, f2⟩ := low_mul (n := a * d + -n * b) hbd
  have hg' : (0 : Int) < (Int.gcd (a * d + -n * b) (b * d) : Int) := by have := gcd_pos (n := a * d + -n * b) hbd; omega
  have t3 := lowD_pos (n := a * d + -n * b) hbd
  generalize lowN (a * d + -n * b) (b * d) = s at *
  generalize lowD (a * d + -n * b) (b * d) = t at *
  generalize (Int.gcd (a * d + -n * b) (b * d) : Int) = g' at *
  have hs : s * (P * d) = (Z * d - n * P) * t := by
    apply mul_cancel_pos hg'
    have l1 : s * (P * d) * g' = (a * d + -n * b) * (P * d) := by rw [Int.mul_assoc, Int.mul_comm (P * d), ← Int.mul_assoc, f1]
    have l2 : (Z * d - n * P) * t * g' = (Z * d - n * P) * (b * d) := by rw [Int.mul_assoc, f2]
    rw [l1, l2]
    have l3 : (a * d + -n * b) * (P * d) = (a * P) * d * d - n * b * P * d := by
      rw [Int.add_mul, Int.neg_mul, Int.neg_mul]
      have : a * d * (P * d) = a * P * d * d := by ac_rfl
      have : n * b * (P * d) = n * b * P * d := by ac_rfl
      omega
    have l4 : (Z * d - n * P) * (b * d) = Z * b * d * d - n * b * P * d := by
      rw [Int.sub_mul]
      have : Z * d * (b * d) = Z * b * d * d := by ac_rfl
      have : n * P * (b * d) = n * b * P * d := by ac_rfl
      omega
    rw [l3, l4, hab]
  have hPd : 0 < P * d := Int.mul_pos hP0 hd
  have hsA : (s.natAbs : Int) * (P * d) = ((Z * d - n * P).natAbs : Int) * t := by
    have := congrArg Int.natAbs hs
    rw [Int.natAbs_mul s (P * d), Int.natAbs_mul (Z * d - n * P) t] at this
    have e1 : ((P * d).natAbs : Int) = P * d := Int.natAbs_of_nonneg (by omega)
    have e2 : (t.natAbs : Int) = t := Int.natAbs_of_nonneg (by omega)
    rw [← e1, ← Int.natCast_mul, this, Int.natCast_mul, e2]
  have hvR := rndR_rnd (v := okZ n d) (n := n) (d := d) (p := p) (m := m) h (by omega) (by omega) h1 h6
  rw [Int.toNat_natCast, hP, hZ] at hvR
  refine ⟨a, b, s, t, ?_, q2, s1, s2, ?_, ?_, ?_, ?_, ?_, ?_⟩
  · unfold qntR
    rw [hvR]
    dsimp only
    rw [if_neg (by decide), Int.toNat_natCast, hP]
    exact q1
  · unfold qntR
    have hv2 := rndR_rnd (v := okZ a b) (n := a) (d := b) (p := p) (m := m) q2 (by omega) (by omega) h1 h6
    rw [Int.toNat_natCast, hP] at hv2
    have : rnd m (a * P) b = Z := by
      unfold rnd
      rw [hab, if_pos (Int.mul_emod_left ..), Int.mul_ediv_cancel _ (by omega)]
    rw [this] at hv2
    rw [hv2]
    dsimp only
    rw [if_neg (by decide), Int.toNat_natCast, hP]
    exact q1
  · intro hx
    have hZd : Z * d = n * P := by
      rw [← hZ]
      unfold rnd
      rw [if_pos hx]
      exact Int.ediv_mul_cancel (Int.dvd_of_emod_eq_zero hx)
    refine okZ_eq q2 h (mul_cancel_pos hP0 ?_)
    calc a * d * P = a * P * d := by ac_rfl
      _ = Z * b * d := by rw [hab]
      _ = Z * d * b := by ac_rfl
      _ = n * P * b := by rw [hZd]
      _ = n * b * P := by ac_rfl
  · have l1 : (s.natAbs : Int) * P * d < t * d := by
      rw [Int.mul_assoc, hsA, Int.mul_comm t d]
      exact Int.mul_lt_mul_of_pos_right (by omega) t3
    exact Int.lt_of_mul_lt_mul_right l1 (Int.le_of_lt hd)
  · intro h5
    have hh := rnd_half (m := m) (x := n * P) hd h5
    rw [hZ] at hh
    have l1 : (s.natAbs : Int) * (P * 2) * d ≤ t * d := by
      have : (s.natAbs : Int) * (P * 2) * d = 2 * ((s.natAbs : Int) * (P * d)) := by ac_rfl
      rw [this, hsA, ← Int.mul_assoc, Int.mul_comm t d]
      exact Int.mul_le_mul_of_nonneg_right (by omega) (Int.le_of_lt t3)
    exact Int.le_of_mul_le_mul_right l1 hd
  · intro h3
    subst h3
    have hf := rnd_floor (x := n * P) hd
    rw [hZ] at hf
    rcases Int.lt_or_le 0 s with h0 | h0
    · exfalso
      have l1 := Int.mul_pos h0 hPd
      have l2 : (Z * d - n * P) * t ≤ 0 := Int.mul_nonpos_of_nonpos_of_nonneg (by omega) (Int.le_of_lt t3)
      omega
    · exact h0
  · intro h4
    subst h4
    have hf := rnd_ceil (x := n * P) hd
    rw [hZ] at hf
    rcases Int.lt_or_le s 0 with h0 | h0
    · exfalso
      have l1 := Int.mul_neg_of_neg_of_pos h0 hPd
      have l2 : 0 ≤ (Z * d - n * P) * t := Int.mul_nonneg (by omega) (Int.le_of_lt t3)
      omega
    · exact h0
end
section
open Go.RowKit
set_option maxHeartbeats 4000000
theorem okZ_absN {n d : Int} (h : okZ n d) : okZ ((n.natAbs : Nat) : Int) d := by
  obtain ⟨⟨h1, h2⟩, h3, h4⟩ := okZ_iff.1 h
  refine okZ_iff.2 ⟨⟨by simpa using h1, h2⟩, h3, ?_⟩
  unfold Int.gcd at h4 ⊢
  simpa using h4
theorem quantize_ok {n d a b : Int} {p m : Nat} (h : okZ n d) (hq : qntR (okZ n d) n d p m = (a, b, 0)) (w : World) : Calls Tryz.prog 28 #[.agg (RC n d), .int .i64 p, .int .i64 m] w (RetB (.tuple #[.agg (RC a b), .int .i64 0]) w) :=
  quantize_any (x := decide (n < 0)) (y := decide (d < 0)) (okZ_b h).1 (okZ_b h).2 (r := (a, b, 0)) (by rw [sZ_z, sZ_z]; exact hq) w
theorem near_step {n d : Int} {p m : Nat} {P : Int} (h : okZ n d) (hn : n.natAbs ≤ 2 ^ 200) (hd : d.natAbs ≤ 2 ^ 200) (hp : p ≤ 9) (h1 : 1 ≤ m) (h6 : m ≤ 6) (hP : ((10 ^ p : Nat) : Int) = P) :
    ∃ a b s t S sg c2 c3 : Int, (∀ w, Calls Tryz.prog 28 #[.agg (RC n d), .int .i64 p, .int .i64 m] w (RetB (.tuple #[.agg (RC a b), .int .i64 0]) w)) ∧ (∀ w, Calls Tryz.prog 38 #[.agg (RC a b), .agg (RC n d)] w (RetB (.tuple #[.agg (RC s t), .int .i64 0]) w)) ∧
      (∀ w, Calls Tryz.prog 39 #[.agg (RC s t)] w (RetB (.tuple #[.agg (RC S t), .int .i64 0]) w)) ∧ (∀ w, Calls Tryz.prog 14 #[.agg (RC s t), .agg (RC 0 1)] w (RetB (.int .i64 sg) w)) ∧
      (∀ w, Calls Tryz.prog 28 #[.agg (RC a b), .int .i64 p, .int .i64 m] w (RetB (.tuple #[.agg (RC a b), .int .i64 0]) w)) ∧ (∀ w, Calls Tryz.prog 14 #[.agg (RC S t), .agg (RC 1 P)] w (RetB (.int .i64 c2) w)) ∧
      (∀ w, Calls Tryz.prog 14 #[.agg (RC S t), .agg (RC 1 (P * 2))] w (RetB (.int .i64 c3) w)) ∧ (n * P % d = 0 → a = n ∧ b = d) ∧ c2 < 0 ∧ (5 ≤ m → c3 ≤ 0) ∧ (m = 3 → sg ≤ 0) ∧ (m = 4 → 0 ≤ sg) ∧ (a.natAbs < bp 32 ∧ b.natAbs < bp 32) := by
  obtain ⟨a, b, s, t, q1, q2, q3, q4, q5, q6, q7, q8, q9, q10⟩ := near_facts h hn hd hp (m := (m : Int)) (by omega) (by omega) hP rfl
  have hP0 : 0 < P := by rw [← hP]; exact_mod_cast Nat.pow_pos (by decide)
  have hP9 : P ≤ 10 ^ 9 := by
    have : 10 ^ p ≤ 10 ^ 9 := Nat.pow_le_pow_right (by decide) hp
    omega
  have hb := bp15_big
  have k1 : okZ 1 P := okZ_1 hP0 (by omega)
  have k2 : okZ 1 (P * 2) := okZ_1 (by omega) (by omega)
  have k0 : okZ 0 1 := okZ_one (bp_pos 15)
  have kS := okZ_absN q4
  refine ⟨a, b, s, t, ((s.natAbs : Nat) : Int), _, _, _, fun w => quantize_ok h q1 w, fun w => rsubR q2 h q3 w, fun w => rabsR q4 w, fun w => rcompareR q4 k0 rfl w, fun w => quantize_ok q2 q5 w, fun w => rcompareR kS k1 rfl w, fun w => rcompareR kS k2 rfl w, q6, ?_, ?_, ?_, ?_, okZ_b q2⟩
  · rw [Int.one_mul]
    rcases cmpZ_cases (((s.natAbs : Nat) : Int) * P) t with ⟨e1, e2⟩ | ⟨e1, e2⟩ | ⟨e1, e2⟩ <;> rw [e2] <;> omega
  · intro h5
    have := q8 (by omega)
    rw [Int.one_mul]
    rcases cmpZ_cases (((s.natAbs : Nat) : Int) * (P * 2)) t with ⟨e1, e2⟩ | ⟨e1, e2⟩ | ⟨e1, e2⟩ <;> rw [e2] <;> omega
  · intro h3
    have := q9 (by omega)
    rw [Int.mul_one, Int.zero_mul]
    rcases cmpZ_cases s 0 with ⟨e1, e2⟩ | ⟨e1, e2⟩ | ⟨e1, e2⟩ <;> rw [e2] <;> omega
  · intro h4
    have := q10 (by omega)
    rw [Int.mul_one, Int.zero_mul]
    rcases cmpZ_cases s 0 with ⟨e1, e2⟩ | ⟨e1, e2⟩ | ⟨e1, e2⟩ <;> rw [e2] <;> omega
theorem exact_ok {n d P : Int} {p : Nat} (h : okZ n d) (hp : p ≤ 9) (hP : ((10 ^ p : Nat) : Int) = P) (w : World) : Calls Tryz.prog 30 #[.agg (RC n d), .int .i64 p] w (RetB (.tuple #[.bool (decide (n * P % d = 0)), .int .i64 0]) w) := by
  refine exact_any (x := decide (n < 0)) (y := decide (d < 0)) (okZ_b h).1 (okZ_b h).2 (r := (decide (n * P % d = 0), 0)) ?_ w
  rw [sZ_z, sZ_z]
  unfold exR
  have hc : chkE (okR (decide (n < 0)) n.natAbs (decide (d < 0)) d.natAbs) (p : Int) = 0 := by
    have h' : okR (decide (n < 0)) n.natAbs (decide (d < 0)) d.natAbs := h
    unfold chkE
    rw [if_neg (by simpa using h'), if_neg (by omega)]
  rw [if_neg (by simp [hc]), Int.toNat_natCast, hP]
set_option maxRecDepth 100000 in
theorem decimalNear_any (A0 : Option Addr) (L0 : List Int) (cap : Nat) {w : World} (hL : IntsAt w A0 L0) (ht : Tab w) : Calls Tryz.prog 8 #[.slice A0 L0.length cap] w (RetB (.bool true) w) := by
  have T0 := tape_start (cap := cap) hL
  have gk := fun u W N L (T : Tp (w.alloc (.cells #[.slice A0 L0.length cap, .int .i64 0] 25)) u w.heap.size w.heap.size N) (F : Fr u W L) => known_any (ht.next (tape_out T F))
  have HO := Lib.hid (fun u W N L (T : Tp (w.alloc (.cells #[.slice A0 L0.length cap, .int .i64 0] 25)) u w.heap.size w.heap.size N) (F : Fr u W L) => (show RetB (.bool true) w (.returned (.bool true)) W from ⟨rfl, tape_out T F⟩))
  clear hL ht
  go_enter Tryz.func8, Tryz.ntmps8
  go_upto_region 2 with fail
  have F := Fr.start (w.alloc (.cells #[.slice A0 L0.length cap, .int .i64 0] 25))
  have T := Tp.start T0
  clear T0
  generalize w.alloc (.cells #[.slice A0 L0.length cap, .int .i64 0] 25) = w1 at *
  generalize w.heap.size = b at *
  have o11 := fun w => makeOf_any (n := 1) (d := 1) (by decide) (by decide) (by decide) (by decide) (show mkR 1 1 = (1, 1, 0) by decide +kernel) w
  have o12 := fun w => makeOf_any (n := 1) (d := 2) (by decide) (by decide) (by decide) (by decide) (show mkR 1 2 = (1, 2, 0) by decide +kernel) w
  go_wp2_with (first | go_skip | ((go_at_call 32); (with_reducible refine fr_tap F T (tratio (T.at F)) ?_); (try clear F T); (rintro _ u W ⟨n, d, rfl, hr⟩ T F); (try dsimp only)) | ((go_at_call 16); (with_reducible refine fr_tap F T (tnext _ (by decide) (by decide) (T.at F)) ?_); (try clear F T); (rintro _ u W ⟨p, rfl, hp⟩ T F); (try dsimp only)) | ((with_reducible apply fL F); exact rfl; exact rfl; (exact tL); (exact tR3)) | ((with_reducible apply fA_rat F); exact rfl) | ((with_reducible apply fS F); exact rfl; exact rfl; exact rfl; (exact tL); (exact tR3); (exact tS2); clear F; intro W F; simp only [z7, z8] at F))
  (clear F; intro b4 W F; try simp only [Act.put, z6, z1, z2])
  have hp6 : p ≤ 6 := by omega
  have HR := Lib.hid hr
  clear hr hp
  go_wp2_with (first | go_skip | ((go_at_call 11); (with_reducible refine fr_call F (o11 _) ?_); (clear F; intro W F); (try dsimp only)) | ((with_reducible apply fL F); exact rfl; exact rfl; (exact tL); (exact tR3)) | ((with_reducible apply fA_rat F); exact rfl) | ((with_reducible apply fS F); exact rfl; exact rfl; exact rfl; (exact tL); (exact tR3); (exact tS2); clear F; intro W F; simp only [z7, z8] at F))
  (clear F; intro b6 W F; try simp only [Act.put, z6, z1, z2])
  go_wp2_with (first | go_skip | ((with_reducible apply fL F); exact rfl; exact rfl; (exact tL); (exact tR3)) | ((with_reducible apply fA_rat F); exact rfl) | ((with_reducible apply fS F); exact rfl; exact rfl; exact rfl; (exact tL); (exact tR3); (exact tS2); clear F; intro W F; simp only [z7, z8] at F))
  clear o11
  have gw := fun w => rwholeR (n := 10) (by decide) (by decide) w
  go_loopw [7] (fun iv wr => ∃ i : Nat, i ≤ p ∧ iv = .int .i64 i ∧ Fr u wr [(b6, RC 1 ((10 ^ i : Nat) : Int), 31), (b4, RC n d, 31)]) (fun iv _ => p + 1 - (intOf iv).toNat)
  case atStart => exact ⟨0, by omega, rfl, F⟩
  case round =>
    clear F
    obtain ⟨i, hi, rfl, F⟩ := hrel
    by_cases hlt : i < p
    · have t1 : decide ((i : Int) < (p : Int)) = true := decide_eq_true (by omega)
      obtain ⟨Q, hQ⟩ : ∃ Q : Int, ((10 ^ i : Nat) : Int) = Q := ⟨_, rfl⟩
      have hQ' : ((10 ^ (i + 1) : Nat) : Int) = Q * 10 := by rw [← hQ, Nat.pow_succ, Int.natCast_mul]; rfl
      have g1 : ∀ w, Calls Tryz.prog 35 #[.agg (RC 1 Q), .agg (RC 10 1)] w (RetB (.tuple #[.agg (RC 1 (Q * 10)), .int .i64 0]) w) := by
        have hQ0 : 0 < Q := by rw [← hQ]; exact_mod_cast Nat.pow_pos (by decide)
        have hQ9 : Q ≤ 10 ^ 9 := by
          have : 10 ^ i ≤ 10 ^ 9 := Nat.pow_le_pow_right (by decide) (by omega)
          omega
        have hb := bp15_big
        refine fun w => rquoR (okZ_1 hQ0 (by omega)) (okZ_one (by unfold bp; decide)) (r := (1, Q * 10, 0)) ?_ w
        rw [Int.mul_one]
        exact mkR_okZ (okZ_1 (by omega) (by omega))
      rw [hQ] at F
      have HQ := Lib.hid hQ'
      clear hQ hQ'
      go_upto_region 7 with (first | go_skip | ((with_reducible apply fL F); exact rfl; exact rfl; (exact tL); (exact tR3)) | ((with_reducible apply fA_rat F); exact rfl) | ((with_reducible apply fS F); exact rfl; exact rfl; exact rfl; (exact tL); (exact tR3); (exact tS2); clear F; intro W F; simp only [z7, z8] at F))
      try simp only [Act.put, z6, z1, z2]
      refine wp_region_bm 7 (by kernel_rfl) rfl ?_
      replace F := F.drew
      revert F
      generalize World.drew _ = W
      intro F
      apply dg_meet (f' := 5) (m' := 3)
      · intro M
        refine dg_ready [0, 1] (by kernel_rfl) rfl ?_
        refine dg_want 0 1 rfl (by kernel_rfl) rfl (fun K hK => ?_) ?_
        · skip
          (simp only [z3, z4, z5])
          (first | ((with_reducible apply gL F); exact rfl; (exact tL); (exact tR3); go_simp) | ((refine ⟨?_⟩); go_simp))
          (refine hK _ _ ?_; clear hK K)
          refine dg_one 1 3 (by kernel_rfl) rfl (by kernel_rfl) rfl (fun K hK => ?_)
          (simp only [z3, z4, z5])
          ((refine ⟨?_⟩); go_simp; (first | ((with_reducible refine fr_call F (gw _) ?_); (try clear F); (intro W F); (try dsimp only)) | ((with_reducible refine fr_call F (g1 _) ?_); (try clear F); (intro W F); (try dsimp only)) | skip))
          (refine hK _ _ ?_; clear hK K)
          exact M _ F
        refine dg_want 1 2 rfl (by kernel_rfl) rfl (fun K hK => ?_) ?_
        · skip
          (simp only [z3, z4, z5])
          ((refine ⟨?_⟩); go_simp; (first | ((with_reducible refine fr_call F (gw _) ?_); (try clear F); (intro W F); (try dsimp only)) | ((with_reducible refine fr_call F (g1 _) ?_); (try clear F); (intro W F); (try dsimp only)) | skip))
          (refine hK _ _ ?_; clear hK K)
          refine dg_one 0 3 (by kernel_rfl) rfl (by kernel_rfl) rfl (fun K hK => ?_)
          (simp only [z3, z4, z5])
          (first | ((with_reducible apply gL F); exact rfl; (exact tL); (exact tR3); go_simp) | ((refine ⟨?_⟩); go_simp))
          (refine hK _ _ ?_; clear hK K)
          exact M _ F
        exact dg_nil
      clear F
      intro W F
      refine dg_one 2 7 (by kernel_rfl) rfl (by kernel_rfl) rfl (fun K hK => ?_)
      (simp only [z3, z4, z5])
      ((refine ⟨?_⟩); go_simp; (first | ((with_reducible refine fr_call F (gw _) ?_); (try clear F); (intro W F); (try dsimp only)) | ((with_reducible refine fr_call F (g1 _) ?_); (try clear F); (intro W F); (try dsimp only)) | skip))
      (refine hK _ _ ?_; clear hK K)
      refine dg_one 3 15 (by kernel_rfl) rfl (by kernel_rfl) rfl (fun K hK => ?_)
      (simp only [z3, z4, z5])
      ((refine ⟨?_⟩); go_simp)
      (refine hK _ _ ?_; clear hK K)
      (refine dg_take 4 39 31 (v := ?_) rfl (by kernel_rfl) (by kernel_rfl) (by kernel_rfl) (by kernel_rfl) (by kernel_rfl) (fun _ _ _ h => h) (Or.inl ⟨by kernel_rfl, ?_⟩) ?_; rotate_left; (focus (intro w; go_simp; try (with_reducible rfl))); (simp only [z1, z2]))
      (refine dg_take 5 40 63 (v := ?_) rfl (by kernel_rfl) (by kernel_rfl) (by kernel_rfl) (by kernel_rfl) (by kernel_rfl) (fun _ _ _ h => h) (Or.inl ⟨by kernel_rfl, ?_⟩) ?_; rotate_left; (focus (intro w; go_simp; try (with_reducible rfl))); (simp only [z1, z2]))
      refine dg_one 6 127 (by kernel_rfl) rfl (by kernel_rfl) rfl (fun K hK => ?_)
      (simp only [z3, z4, z5])
      (first | ((with_reducible apply gS F); exact rfl; exact rfl; (exact tL); (exact tR3); (exact tS2); (try clear F); intro W F; simp only [z7, z8] at F; go_simp) | ((refine ⟨?_⟩); go_simp))
      (refine hK _ _ ?_; clear hK K)
      refine dg_end (by kernel_rfl) ?_ _
      go_wp2_with (first | go_skip | ((with_reducible apply fL F); exact rfl; exact rfl; (exact tL); (exact tR3)) | ((with_reducible apply fA_rat F); exact rfl) | ((with_reducible apply fS F); exact rfl; exact rfl; exact rfl; (exact tL); (exact tR3); (exact tS2); clear F; intro W F; simp only [z7, z8] at F))
      go_roundw
      case rel => exact ⟨i + 1, by omega, by first | rfl | go_num, by rw [HQ.out]; exact F⟩
      case measure => simp [intOf]; omega
    obtain rfl : i = p := by omega
    have t1 : decide ((i : Int) < (i : Int)) = false := decide_eq_false (by omega)
    obtain ⟨P, hP⟩ : ∃ P : Int, ((10 ^ i : Nat) : Int) = P := ⟨_, rfl⟩
    have g1 : ∀ w, Calls Tryz.prog 37 #[.agg (RC 1 P), .agg (RC 1 2)] w (RetB (.tuple #[.agg (RC 1 (P * 2)), .int .i64 0]) w) := by
      have hQ0 : 0 < P := by rw [← hP]; exact_mod_cast Nat.pow_pos (by decide)
      have hQ9 : P ≤ 10 ^ 9 := by
        have : 10 ^ i ≤ 10 ^ 9 := Nat.pow_le_pow_right (by decide) (by omega)
        omega
      have hb := bp15_big
      refine fun w => rmulR (okZ_1 hQ0 (by omega)) (okZ_1 (by decide) (by omega)) (r := (1, P * 2, 0)) ?_ w
      rw [Int.mul_one]
      exact mkR_okZ (okZ_1 (by omega) (by omega))
    rw [hP] at F
    have HP := Lib.hid hP
    clear hP
    have gx := fun w => exact_ok HR.out.1 (p := i) (by omega) HP.out w
    go_upto_region 8 with (first | go_skip | ((with_reducible apply fL F); exact rfl; exact rfl; (exact tL); (exact tR3)) | ((with_reducible apply fA_rat F); exact rfl) | ((with_reducible apply fS F); exact rfl; exact rfl; exact rfl; (exact tL); (exact tR3); (exact tS2); clear F; intro W F; simp only [z7, z8] at F))
    try simp only [Act.put, z6, z1, z2]
    refine wp_region_bm 9 (by kernel_rfl) rfl ?_
    replace F := F.drew
    revert F
    generalize World.drew _ = W
    intro F
    apply dg_m1 (f' := 1) (m' := 255) (H := fun (b8 : Nat) (W : World) => Fr u W [(b8, RC 1 (P * 2), 31), (b6, RC 1 P, 31), (b4, RC n d, 31)])
    · intro M
      refine dg_ready [0, 1, 6] (by kernel_rfl) rfl ?_
      refine dg_want 0 1 rfl (by kernel_rfl) rfl (fun K hK => ?_) ?_
      · skip
        (simp only [z3, z4, z5])
        (first | ((with_reducible apply gL F); exact rfl; (exact tL); (exact tR3); go_simp) | ((refine ⟨?_⟩); go_simp))
        (refine hK _ _ ?_; clear hK K)
        refine dg_ready [1, 6] (by kernel_rfl) rfl ?_
        refine dg_want 1 3 rfl (by kernel_rfl) rfl (fun K hK => ?_) ?_
        · skip
          (simp only [z3, z4, z5])
          ((refine ⟨?_⟩); go_simp; (first | ((with_reducible refine fr_call F (o12 _) ?_); (try clear F); (intro W F); (try dsimp only)) | ((with_reducible refine fr_call F (g1 _) ?_); (try clear F); (intro W F); (try dsimp only)) | skip))
          (refine hK _ _ ?_; clear hK K)
          refine dg_ready [2, 6] (by kernel_rfl) rfl ?_
          refine dg_want 2 7 rfl (by kernel_rfl) rfl (fun K hK => ?_) ?_
          · skip
            (simp only [z3, z4, z5])
            ((refine ⟨?_⟩); go_simp; (first | ((with_reducible refine fr_call F (o12 _) ?_); (try clear F); (intro W F); (try dsimp only)) | ((with_reducible refine fr_call F (g1 _) ?_); (try clear F); (intro W F); (try dsimp only)) | skip))
            (refine hK _ _ ?_; clear hK K)
            (refine dg_take 3 41 15 (v := ?_) rfl (by kernel_rfl) (by kernel_rfl) (by kernel_rfl) (by kernel_rfl) (by kernel_rfl) (fun _ _ _ h => h) (Or.inl ⟨by kernel_rfl, ?_⟩) ?_; rotate_left; (focus (intro w; go_simp; try (with_reducible rfl))); (simp only [z1, z2]))
            (refine dg_take 4 45 31 (v := ?_) rfl (by kernel_rfl) (by kernel_rfl) (by kernel_rfl) (by kernel_rfl) (by kernel_rfl) (fun _ _ _ h => h) (Or.inl ⟨by kernel_rfl, ?_⟩) ?_; rotate_left; (focus (intro w; go_simp; try (with_reducible rfl))); (simp only [z1, z2]))
            (refine dg_take 5 46 63 (v := ?_) rfl (by kernel_rfl) (by kernel_rfl) (by kernel_rfl) (by kernel_rfl) (by kernel_rfl) (fun _ _ _ h => h) (Or.inl ⟨by kernel_rfl, ?_⟩) ?_; rotate_left; (focus (intro w; go_simp; try (with_reducible rfl))); (simp only [z1, z2]))
            refine dg_one 6 127 (by kernel_rfl) rfl (by kernel_rfl) rfl (fun K hK => ?_)
            (simp only [z3, z4, z5])
            (first | ((with_reducible apply gA_rat F)) | ((refine ⟨?_⟩); go_simp))
            ((try clear F); intro b8 W F; (try go_simp))
            (refine hK _ _ ?_; clear hK K)
            refine dg_one 7 255 (by kernel_rfl) rfl (by kernel_rfl) rfl (fun K hK => ?_)
            (simp only [z3, z4, z5])
            (first | ((with_reducible apply gS F); exact rfl; exact rfl; (exact tL); (exact tR3); (exact tS2); (try clear F); intro W F; simp only [z7, z8] at F; go_simp) | ((refine ⟨?_⟩); go_simp))
            (refine hK _ _ ?_; clear hK K)
            exact M b8 W F
          refine dg_want 6 67 rfl (by kernel_rfl) rfl (fun K hK => ?_) ?_
          · skip
            (simp only [z3, z4, z5])
            (first | ((with_reducible apply gA_rat F)) | ((refine ⟨?_⟩); go_simp))
            ((try clear F); intro b8 W F; (try go_simp))
            (refine hK _ _ ?_; clear hK K)
            refine dg_one 2 71 (by kernel_rfl) rfl (by kernel_rfl) rfl (fun K hK => ?_)
            (simp only [z3, z4, z5])
            ((refine ⟨?_⟩); go_simp; (first | ((with_reducible refine fr_call F (o12 _) ?_); (try clear F); (intro W F); (try dsimp only)) | ((with_reducible refine fr_call F (g1 _) ?_); (try clear F); (intro W F); (try dsimp only)) | skip))
            (refine hK _ _ ?_; clear hK K)
            refine dg_one 3 79 (by kernel_rfl) rfl (by kernel_rfl) rfl (fun K hK => ?_)
            (simp only [z3, z4, z5])
            ((refine ⟨?_⟩); go_simp)
            (refine hK _ _ ?_; clear hK K)
            (refine dg_take 4 45 95 (v := ?_) rfl (by kernel_rfl) (by kernel_rfl) (by kernel_rfl) (by kernel_rfl) (by kernel_rfl) (fun _ _ _ h => h) (Or.inl ⟨by kernel_rfl, ?_⟩) ?_; rotate_left; (focus (intro w; go_simp; try (with_reducible rfl))); (simp only [z1, z2]))
            (refine dg_take 5 46 127 (v := ?_) rfl (by kernel_rfl) (by kernel_rfl) (by kernel_rfl) (by kernel_rfl) (by kernel_rfl) (fun _ _ _ h => h) (Or.inl ⟨by kernel_rfl, ?_⟩) ?_; rotate_left; (focus (intro w; go_simp; try (with_reducible rfl))); (simp only [z1, z2]))
            refine dg_one 7 255 (by kernel_rfl) rfl (by kernel_rfl) rfl (fun K hK => ?_)
            (simp only [z3, z4, z5])
            (first | ((with_reducible apply gS F); exact rfl; exact rfl; (exact tL); (exact tR3); (exact tS2); (try clear F); intro W F; simp only [z7, z8] at F; go_simp) | ((refine ⟨?_⟩); go_simp))
            (refine hK _ _ ?_; clear hK K)
            exact M b8 W F
          exact dg_nil
        refine dg_want 6 65 rfl (by kernel_rfl) rfl (fun K hK => ?_) ?_
        · skip
          (simp only [z3, z4, z5])
          (first | ((with_reducible apply gA_rat F)) | ((refine ⟨?_⟩); go_simp))
          ((try clear F); intro b8 W F; (try go_simp))
          (refine hK _ _ ?_; clear hK K)
          refine dg_one 1 67 (by kernel_rfl) rfl (by kernel_rfl) rfl (fun K hK => ?_)
          (simp only [z3, z4, z5])
          ((refine ⟨?_⟩); go_simp; (first | ((with_reducible refine fr_call F (o12 _) ?_); (try clear F); (intro W F); (try dsimp only)) | ((with_reducible refine fr_call F (g1 _) ?_); (try clear F); (intro W F); (try dsimp only)) | skip))
          (refine hK _ _ ?_; clear hK K)
          refine dg_one 2 71 (by kernel_rfl) rfl (by kernel_rfl) rfl (fun K hK => ?_)
          (simp only [z3, z4, z5])
          ((refine ⟨?_⟩); go_simp; (first | ((with_reducible refine fr_call F (o12 _) ?_); (try clear F); (intro W F); (try dsimp only)) | ((with_reducible refine fr_call F (g1 _) ?_); (try clear F); (intro W F); (try dsimp only)) | skip))
          (refine hK _ _ ?_; clear hK K)
          refine dg_one 3 79 (by kernel_rfl) rfl (by kernel_rfl) rfl (fun K hK => ?_)
          (simp only [z3, z4, z5])
          ((refine ⟨?_⟩); go_simp)
          (refine hK _ _ ?_; clear hK K)
          (refine dg_take 4 45 95 (v := ?_) rfl (by kernel_rfl) (by kernel_rfl) (by kernel_rfl) (by kernel_rfl) (by kernel_rfl) (fun _ _ _ h => h) (Or.inl ⟨by kernel_rfl, ?_⟩) ?_; rotate_left; (focus (intro w; go_simp; try (with_reducible rfl))); (simp only [z1, z2]))
          (refine dg_take 5 46 127 (v := ?_) rfl (by kernel_rfl) (by kernel_rfl) (by kernel_rfl) (by kernel_rfl) (by kernel_rfl) (fun _ _ _ h => h) (Or.inl ⟨by kernel_rfl, ?_⟩) ?_; rotate_left; (focus (intro w; go_simp; try (with_reducible rfl))); (simp only [z1, z2]))
          refine dg_one 7 255 (by kernel_rfl) rfl (by kernel_rfl) rfl (fun K hK => ?_)
          (simp only [z3, z4, z5])
          (first | ((with_reducible apply gS F); exact rfl; exact rfl; (exact tL); (exact tR3); (exact tS2); (try clear F); intro W F; simp only [z7, z8] at F; go_simp) | ((refine ⟨?_⟩); go_simp))
          (refine hK _ _ ?_; clear hK K)
          exact M b8 W F
        exact dg_nil
      refine dg_want 1 2 rfl (by kernel_rfl) rfl (fun K hK => ?_) ?_
      · skip
        (simp only [z3, z4, z5])
        ((refine ⟨?_⟩); go_simp; (first | ((with_reducible refine fr_call F (o12 _) ?_); (try clear F); (intro W F); (try dsimp only)) | ((with_reducible refine fr_call F (g1 _) ?_); (try clear F); (intro W F); (try dsimp only)) | skip))
        (refine hK _ _ ?_; clear hK K)
        refine dg_ready [0, 6] (by kernel_rfl) rfl ?_
        refine dg_want 0 3 rfl (by kernel_rfl) rfl (fun K hK => ?_) ?_
        · skip
          (simp only [z3, z4, z5])
          (first | ((with_reducible apply gL F); exact rfl; (exact tL); (exact tR3); go_simp) | ((refine ⟨?_⟩); go_simp))
          (refine hK _ _ ?_; clear hK K)
          refine dg_ready [2, 6] (by kernel_rfl) rfl ?_
          refine dg_want 2 7 rfl (by kernel_rfl) rfl (fun K hK => ?_) ?_
          · skip
            (simp only [z3, z4, z5])
            ((refine ⟨?_⟩); go_simp; (first | ((with_reducible refine fr_call F (o12 _) ?_); (try clear F); (intro W F); (try dsimp only)) | ((with_reducible refine fr_call F (g1 _) ?_); (try clear F); (intro W F); (try dsimp only)) | skip))
            (refine hK _ _ ?_; clear hK K)
            (refine dg_take 3 41 15 (v := ?_) rfl (by kernel_rfl) (by kernel_rfl) (by kernel_rfl) (by kernel_rfl) (by kernel_rfl) (fun _ _ _ h => h) (Or.inl ⟨by kernel_rfl, ?_⟩) ?_; rotate_left; (focus (intro w; go_simp; try (with_reducible rfl))); (simp only [z1, z2]))
            (refine dg_take 4 45 31 (v := ?_) rfl (by kernel_rfl) (by kernel_rfl) (by kernel_rfl) (by kernel_rfl) (by kernel_rfl) (fun _ _ _ h => h) (Or.inl ⟨by kernel_rfl, ?_⟩) ?_; rotate_left; (focus (intro w; go_simp; try (with_reducible rfl))); (simp only [z1, z2]))
            (refine dg_take 5 46 63 (v := ?_) rfl (by kernel_rfl) (by kernel_rfl) (by kernel_rfl) (by kernel_rfl) (by kernel_rfl) (fun _ _ _ h => h) (Or.inl ⟨by kernel_rfl, ?_⟩) ?_; rotate_left; (focus (intro w; go_simp; try (with_reducible rfl))); (simp only [z1, z2]))
            refine dg_one 6 127 (by kernel_rfl) rfl (by kernel_rfl) rfl (fun K hK => ?_)
            (simp only [z3, z4, z5])
            (first | ((with_reducible apply gA_rat F)) | ((refine ⟨?_⟩); go_simp))
            ((try clear F); intro b8 W F; (try go_simp))
            (refine hK _ _ ?_; clear hK K)
            refine dg_one 7 255 (by kernel_rfl) rfl (by kernel_rfl) rfl (fun K hK => ?_)
            (simp only [z3, z4, z5])
            (first | ((with_reducible apply gS F); exact rfl; exact rfl; (exact tL); (exact tR3); (exact tS2); (try clear F); intro W F; simp only [z7, z8] at F; go_simp) | ((refine ⟨?_⟩); go_simp))
            (refine hK _ _ ?_; clear hK K)
            exact M b8 W F
          refine dg_want 6 67 rfl (by kernel_rfl) rfl (fun K hK => ?_) ?_
          · skip
            (simp only [z3, z4, z5])
            (first | ((with_reducible apply gA_rat F)) | ((refine ⟨?_⟩); go_simp))
            ((try clear F); intro b8 W F; (try go_simp))
            (refine hK _ _ ?_; clear hK K)
            refine dg_one 2 71 (by kernel_rfl) rfl (by kernel_rfl) rfl (fun K hK => ?_)
            (simp only [z3, z4, z5])
            ((refine ⟨?_⟩); go_simp; (first | ((with_reducible refine fr_call F (o12 _) ?_); (try clear F); (intro W F); (try dsimp only)) | ((with_reducible refine fr_call F (g1 _) ?_); (try clear F); (intro W F); (try dsimp only)) | skip))
            (refine hK _ _ ?_; clear hK K)
            refine dg_one 3 79 (by kernel_rfl) rfl (by kernel_rfl) rfl (fun K hK => ?_)
            (simp only [z3, z4, z5])
            ((refine ⟨?_⟩); go_simp)
            (refine hK _ _ ?_; clear hK K)
            (refine dg_take 4 45 95 (v := ?_) rfl (by kernel_rfl) (by kernel_rfl) (by kernel_rfl) (by kernel_rfl) (by kernel_rfl) (fun _ _ _ h => h) (Or.inl ⟨by kernel_rfl, ?_⟩) ?_; rotate_left; (focus (intro w; go_simp; try (with_reducible rfl))); (simp only [z1, z2]))
            (refine dg_take 5 46 127 (v := ?_) rfl (by kernel_rfl) (by kernel_rfl) (by kernel_rfl) (by kernel_rfl) (by kernel_rfl) (fun _ _ _ h => h) (Or.inl ⟨by kernel_rfl, ?_⟩) ?_; rotate_left; (focus (intro w; go_simp; try (with_reducible rfl))); (simp only [z1, z2]))
            refine dg_one 7 255 (by kernel_rfl) rfl (by kernel_rfl) rfl (fun K hK => ?_)
            (simp only [z3, z4, z5])
            (first | ((with_reducible apply gS F); exact rfl; exact rfl; (exact tL); (exact tR3); (exact tS2); (try clear F); intro W F; simp only [z7, z8] at F; go_simp) | ((refine ⟨?_⟩); go_simp))
            (refine hK _ _ ?_; clear hK K)
            exact M b8 W F
          exact dg_nil
        refine dg_want 6 66 rfl (by kernel_rfl) rfl (fun K hK => ?_) ?_
        · skip
          (simp only [z3, z4, z5])
          (first | ((with_reducible apply gA_rat F)) | ((refine ⟨?_⟩); go_simp))
          ((try clear F); intro b8 W F; (try go_simp))
          (refine hK _ _ ?_; clear hK K)
          refine dg_one 0 67 (by kernel_rfl) rfl (by kernel_rfl) rfl (fun K hK => ?_)
          (simp only [z3, z4, z5])
          (first | ((with_reducible apply gL F); exact rfl; (exact tL); (exact tR3); go_simp) | ((refine ⟨?_⟩); go_simp))
          (refine hK _ _ ?_; clear hK K)
          refine dg_one 2 71 (by kernel_rfl) rfl (by kernel_rfl) rfl (fun K hK => ?_)
          (simp only [z3, z4, z5])
          ((refine ⟨?_⟩); go_simp; (first | ((with_reducible refine fr_call F (o12 _) ?_); (try clear F); (intro W F); (try dsimp only)) | ((with_reducible refine fr_call F (g1 _) ?_); (try clear F); (intro W F); (try dsimp only)) | skip))
          (refine hK _ _ ?_; clear hK K)
          refine dg_one 3 79 (by kernel_rfl) rfl (by kernel_rfl) rfl (fun K hK => ?_)
          (simp only [z3, z4, z5])
          ((refine ⟨?_⟩); go_simp)
          (refine hK _ _ ?_; clear hK K)
          (refine dg_take 4 45 95 (v := ?_) rfl (by kernel_rfl) (by kernel_rfl) (by kernel_rfl) (by kernel_rfl) (by kernel_rfl) (fun _ _ _ h => h) (Or.inl ⟨by kernel_rfl, ?_⟩) ?_; rotate_left; (focus (intro w; go_simp; try (with_reducible rfl))); (simp only [z1, z2]))
          (refine dg_take 5 46 127 (v := ?_) rfl (by kernel_rfl) (by kernel_rfl) (by kernel_rfl) (by kernel_rfl) (by kernel_rfl) (fun _ _ _ h => h) (Or.inl ⟨by kernel_rfl, ?_⟩) ?_; rotate_left; (focus (intro w; go_simp; try (with_reducible rfl))); (simp only [z1, z2]))
          refine dg_one 7 255 (by kernel_rfl) rfl (by kernel_rfl) rfl (fun K hK => ?_)
          (simp only [z3, z4, z5])
          (first | ((with_reducible apply gS F); exact rfl; exact rfl; (exact tL); (exact tR3); (exact tS2); (try clear F); intro W F; simp only [z7, z8] at F; go_simp) | ((refine ⟨?_⟩); go_simp))
          (refine hK _ _ ?_; clear hK K)
          exact M b8 W F
        exact dg_nil
      refine dg_want 6 64 rfl (by kernel_rfl) rfl (fun K hK => ?_) ?_
      · skip
        (simp only [z3, z4, z5])
        (first | ((with_reducible apply gA_rat F)) | ((refine ⟨?_⟩); go_simp))
        ((try clear F); intro b8 W F; (try go_simp))
        (refine hK _ _ ?_; clear hK K)
        refine dg_ready [0, 1] (by kernel_rfl) rfl ?_
        refine dg_want 0 65 rfl (by kernel_rfl) rfl (fun K hK => ?_) ?_
        · skip
          (simp only [z3, z4, z5])
          (first | ((with_reducible apply gL F); exact rfl; (exact tL); (exact tR3); go_simp) | ((refine ⟨?_⟩); go_simp))
          (refine hK _ _ ?_; clear hK K)
          refine dg_one 1 67 (by kernel_rfl) rfl (by kernel_rfl) rfl (fun K hK => ?_)
          (simp only [z3, z4, z5])
          ((refine ⟨?_⟩); go_simp; (first | ((with_reducible refine fr_call F (o12 _) ?_); (try clear F); (intro W F); (try dsimp only)) | ((with_reducible refine fr_call F (g1 _) ?_); (try clear F); (intro W F); (try dsimp only)) | skip))
          (refine hK _ _ ?_; clear hK K)
          refine dg_one 2 71 (by kernel_rfl) rfl (by kernel_rfl) rfl (fun K hK => ?_)
          (simp only [z3, z4, z5])
          ((refine ⟨?_⟩); go_simp; (first | ((with_reducible refine fr_call F (o12 _) ?_); (try clear F); (intro W F); (try dsimp only)) | ((with_reducible refine fr_call F (g1 _) ?_); (try clear F); (intro W F); (try dsimp only)) | skip))
          (refine hK _ _ ?_; clear hK K)
          refine dg_one 3 79 (by kernel_rfl) rfl (by kernel_rfl) rfl (fun K hK => ?_)
          (simp only [z3, z4, z5])
          ((refine ⟨?_⟩); go_simp)
          (refine hK _ _ ?_; clear hK K)
          (refine dg_take 4 45 95 (v := ?_) rfl (by kernel_rfl) (by kernel_rfl) (by kernel_rfl) (by kernel_rfl) (by kernel_rfl) (fun _ _ _ h => h) (Or.inl ⟨by kernel_rfl, ?_⟩) ?_; rotate_left; (focus (intro w; go_simp; try (with_reducible rfl))); (simp only [z1, z2]))
          (refine dg_take 5 46 127 (v := ?_) rfl (by kernel_rfl) (by kernel_rfl) (by kernel_rfl) (by kernel_rfl) (by kernel_rfl) (fun _ _ _ h => h) (Or.inl ⟨by kernel_rfl, ?_⟩) ?_; rotate_left; (focus (intro w; go_simp; try (with_reducible rfl))); (simp only [z1, z2]))
          refine dg_one 7 255 (by kernel_rfl) rfl (by kernel_rfl) rfl (fun K hK => ?_)
          (simp only [z3, z4, z5])
          (first | ((with_reducible apply gS F); exact rfl; exact rfl; (exact tL); (exact tR3); (exact tS2); (try clear F); intro W F; simp only [z7, z8] at F; go_simp) | ((refine ⟨?_⟩); go_simp))
          (refine hK _ _ ?_; clear hK K)
          exact M b8 W F
        refine dg_want 1 66 rfl (by kernel_rfl) rfl (fun K hK => ?_) ?_
        · skip
          (simp only [z3, z4, z5])
          ((refine ⟨?_⟩); go_simp; (first | ((with_reducible refine fr_call F (o12 _) ?_); (try clear F); (intro W F); (try dsimp only)) | ((with_reducible refine fr_call F (g1 _) ?_); (try clear F); (intro W F); (try dsimp only)) | skip))
          (refine hK _ _ ?_; clear hK K)
          refine dg_one 0 67 (by kernel_rfl) rfl (by kernel_rfl) rfl (fun K hK => ?_)
          (simp only [z3, z4, z5])
          (first | ((with_reducible apply gL F); exact rfl; (exact tL); (exact tR3); go_simp) | ((refine ⟨?_⟩); go_simp))
          (refine hK _ _ ?_; clear hK K)
          refine dg_one 2 71 (by kernel_rfl) rfl (by kernel_rfl) rfl (fun K hK => ?_)
          (simp only [z3, z4, z5])
          ((refine ⟨?_⟩); go_simp; (first | ((with_reducible refine fr_call F (o12 _) ?_); (try clear F); (intro W F); (try dsimp only)) | ((with_reducible refine fr_call F (g1 _) ?_); (try clear F); (intro W F); (try dsimp only)) | skip))
          (refine hK _ _ ?_; clear hK K)
          refine dg_one 3 79 (by kernel_rfl) rfl (by kernel_rfl) rfl (fun K hK => ?_)
          (simp only [z3, z4, z5])
          ((refine ⟨?_⟩); go_simp)
          (refine hK _ _ ?_; clear hK K)
          (refine dg_take 4 45 95 (v := ?_) rfl (by kernel_rfl) (by kernel_rfl) (by kernel_rfl) (by kernel_rfl) (by kernel_rfl) (fun _ _ _ h => h) (Or.inl ⟨by kernel_rfl, ?_⟩) ?_; rotate_left; (focus (intro w; go_simp; try (with_reducible rfl))); (simp only [z1, z2]))
          (refine dg_take 5 46 127 (v := ?_) rfl (by kernel_rfl) (by kernel_rfl) (by kernel_rfl) (by kernel_rfl) (by kernel_rfl) (fun _ _ _ h => h) (Or.inl ⟨by kernel_rfl, ?_⟩) ?_; rotate_left; (focus (intro w; go_simp; try (with_reducible rfl))); (simp only [z1, z2]))
          refine dg_one 7 255 (by kernel_rfl) rfl (by kernel_rfl) rfl (fun K hK => ?_)
          (simp only [z3, z4, z5])
          (first | ((with_reducible apply gS F); exact rfl; exact rfl; (exact tL); (exact tR3); (exact tS2); (try clear F); intro W F; simp only [z7, z8] at F; go_simp) | ((refine ⟨?_⟩); go_simp))
          (refine hK _ _ ?_; clear hK K)
          exact M b8 W F
        exact dg_nil
      exact dg_nil
    clear F
    intro b8 W hM
    have F := hM
    refine dg_one 8 511 (by kernel_rfl) rfl (by kernel_rfl) rfl (fun K hK => ?_)
    (simp only [z3, z4, z5])
    ((refine ⟨?_⟩); go_simp)
    (refine hK _ _ ?_; clear hK K)
    refine dg_end (by kernel_rfl) ?_ _
    obtain ⟨ex, hex⟩ : ∃ ex, decide (n * P % d = 0) = ex := ⟨_, rfl⟩
    rw [hex] at gx
    have HX := Lib.hid hex
    clear hex g1 o12
    go_wp2_with (first | go_skip | ((go_at_call 30); (with_reducible refine fr_call F (gx _) ?_); (clear F; intro W F); (try dsimp only)) | ((with_reducible apply fL F); exact rfl; exact rfl; (exact tL); (exact tR3)) | ((with_reducible apply fA_rat F); exact rfl) | ((with_reducible apply fS F); exact rfl; exact rfl; exact rfl; (exact tL); (exact tR3); (exact tS2); clear F; intro W F; simp only [z7, z8] at F))
    go_loopw [12, 13, 14, 15, 16, 17, 18, 19, 20, 21] (fun iv v13 v14 v15 v16 v17 v18 v19 v20 v21 wr => ∃ k : Nat, 1 ≤ k ∧ k ≤ 7 ∧ iv = .int .i64 k ∧ Fr u wr [(b8, RC 1 (P * 2), 31), (b6, RC 1 P, 31), (b4, RC n d, 31)]) (fun iv v13 v14 v15 v16 v17 v18 v19 v20 v21 _ => 8 - (intOf iv).toNat)
    case atStart => exact ⟨1, by omega, by omega, rfl, F⟩
    case round =>
      clear F
      obtain ⟨k, h1, h7, rfl, F⟩ := hrel
      by_cases h6 : k ≤ 6
      · obtain ⟨x, y, s, t, S, sg, c2, c3, g1, g2, g3, g4, g5, g6, g7, hx, hc2, hc3, hs3, hs4, hb⟩ := near_step HR.out.1 HR.out.2.1 HR.out.2.2 (p := i) (m := k) (by omega) h1 h6 HP.out
        have gz := fun w => rzeroR w
        have t1 : decide ((k : Int) ≤ 6) = true := decide_eq_true (by omega)
        have q1 := fun w => eq_RC hb.1 hb.2 hb.1 hb.2 w
        have HS := Lib.hid (And.intro hc3 (And.intro hs3 (And.intro hs4 hx)))
        have t2 : decide (0 ≤ c2) = false := decide_eq_false (by omega)
        clear hc3 hs3 hs4 hc2 hb hx
        go_wp2_with (first | go_skip | ((go_at_call 28); (with_reducible refine fr_call F (g1 _) ?_); (clear F; intro W F); (try dsimp only)) | ((with_reducible apply fL F); exact rfl; exact rfl; (exact tL); (exact tR3)) | ((with_reducible apply fA_rat F); exact rfl) | ((with_reducible apply fS F); exact rfl; exact rfl; exact rfl; (exact tL); (exact tR3); (exact tS2); clear F; intro W F; simp only [z7, z8] at F))
        (clear F; intro b13 W F; try simp only [Act.put, z6, z1, z2])
        go_wp2_with (first | go_skip | ((go_at_call 38); (with_reducible refine fr_call F (g2 _) ?_); (clear F; intro W F); (try dsimp only)) | ((with_reducible apply fL F); exact rfl; exact rfl; (exact tL); (exact tR3)) | ((with_reducible apply fA_rat F); exact rfl) | ((with_reducible apply fS F); exact rfl; exact rfl; exact rfl; (exact tL); (exact tR3); (exact tS2); clear F; intro W F; simp only [z7, z8] at F))
        (clear F; intro b15 W F; try simp only [Act.put, z6, z1, z2])
        go_wp2_with (first | go_skip | ((go_at_call 39); (with_reducible refine fr_call F (g3 _) ?_); (clear F; intro W F); (try dsimp only)) | ((with_reducible apply fL F); exact rfl; exact rfl; (exact tL); (exact tR3)) | ((with_reducible apply fA_rat F); exact rfl) | ((with_reducible apply fS F); exact rfl; exact rfl; exact rfl; (exact tL); (exact tR3); (exact tS2); clear F; intro W F; simp only [z7, z8] at F))
        (clear F; intro b17 W F; try simp only [Act.put, z6, z1, z2])
        go_upto_region 18 with (first | go_skip | ((with_reducible apply fL F); exact rfl; exact rfl; (exact tL); (exact tR3)) | ((with_reducible apply fA_rat F); exact rfl) | ((with_reducible apply fS F); exact rfl; exact rfl; exact rfl; (exact tL); (exact tR3); (exact tS2); clear F; intro W F; simp only [z7, z8] at F))
        try simp only [Act.put, z6, z1, z2]
        refine wp_region_bm 4 (by kernel_rfl) rfl ?_
        replace F := F.drew
        revert F
        generalize World.drew _ = W
        intro F
        apply dg_meet (f' := 2) (m' := 3)
        · intro M
          refine dg_ready [0, 1] (by kernel_rfl) rfl ?_
          refine dg_want 0 1 rfl (by kernel_rfl) rfl (fun K hK => ?_) ?_
          · skip
            (simp only [z3, z4, z5])
            (first | ((with_reducible apply gL F); exact rfl; (exact tL); (exact tR3); go_simp) | ((refine ⟨?_⟩); go_simp))
            (refine hK _ _ ?_; clear hK K)
            refine dg_one 1 3 (by kernel_rfl) rfl (by kernel_rfl) rfl (fun K hK => ?_)
            (simp only [z3, z4, z5])
            ((refine ⟨?_⟩); go_simp; (first | ((with_reducible refine fr_call F (gz _) ?_); (try clear F); (intro W F); (try dsimp only)) | ((with_reducible refine fr_call F (g4 _) ?_); (try clear F); (intro W F); (try dsimp only)) | skip))
            (refine hK _ _ ?_; clear hK K)
            exact M _ F
          refine dg_want 1 2 rfl (by kernel_rfl) rfl (fun K hK => ?_) ?_
          · skip
            (simp only [z3, z4, z5])
            ((refine ⟨?_⟩); go_simp; (first | ((with_reducible refine fr_call F (gz _) ?_); (try clear F); (intro W F); (try dsimp only)) | ((with_reducible refine fr_call F (g4 _) ?_); (try clear F); (intro W F); (try dsimp only)) | skip))
            (refine hK _ _ ?_; clear hK K)
            refine dg_one 0 3 (by kernel_rfl) rfl (by kernel_rfl) rfl (fun K hK => ?_)
            (simp only [z3, z4, z5])
            (first | ((with_reducible apply gL F); exact rfl; (exact tL); (exact tR3); go_simp) | ((refine ⟨?_⟩); go_simp))
            (refine hK _ _ ?_; clear hK K)
            exact M _ F
          exact dg_nil
        clear F
        intro W F
        refine dg_one 2 7 (by kernel_rfl) rfl (by kernel_rfl) rfl (fun K hK => ?_)
        (simp only [z3, z4, z5])
        ((refine ⟨?_⟩); go_simp; (first | ((with_reducible refine fr_call F (gz _) ?_); (try clear F); (intro W F); (try dsimp only)) | ((with_reducible refine fr_call F (g4 _) ?_); (try clear F); (intro W F); (try dsimp only)) | skip))
        (refine hK _ _ ?_; clear hK K)
        refine dg_one 3 15 (by kernel_rfl) rfl (by kernel_rfl) rfl (fun K hK => ?_)
        (simp only [z3, z4, z5])
        ((refine ⟨?_⟩); go_simp)
        (refine hK _ _ ?_; clear hK K)
        refine dg_end (by kernel_rfl) ?_ _
        go_wp2_with (first | go_skip | ((go_at_call 28); (with_reducible refine fr_call F (g5 _) ?_); (clear F; intro W F); (try dsimp only)) | ((with_reducible apply fL F); exact rfl; exact rfl; (exact tL); (exact tR3)) | ((with_reducible apply fA_rat F); exact rfl) | ((with_reducible apply fS F); exact rfl; exact rfl; exact rfl; (exact tL); (exact tR3); (exact tS2); clear F; intro W F; simp only [z7, z8] at F))
        (clear F; intro b20 W F; try simp only [Act.put, z6, z1, z2])
        clear g1 g2 g3 g4 g5 gz
        go_upto_region 20 with (first | go_skip | ((with_reducible apply fL F); exact rfl; exact rfl; (exact tL); (exact tR3)) | ((with_reducible apply fA_rat F); exact rfl) | ((with_reducible apply fS F); exact rfl; exact rfl; exact rfl; (exact tL); (exact tR3); (exact tS2); clear F; intro W F; simp only [z7, z8] at F))
        have hm : (k = 3 ∧ decide (0 < sg) = false) ∨ (k = 4 ∧ decide (sg < 0) = false) ∨ (((k : Int) == 3) = false ∧ ((k : Int) == 4) = false ∧ ((decide (5 ≤ (k : Int)) = true ∧ decide (0 < c3) = false) ∨ decide (5 ≤ (k : Int)) = false)) := by
          obtain ⟨e1, e2, e3, -⟩ := HS.out
          by_cases k3 : k = 3
          · exact .inl ⟨k3, decide_eq_false (by have := e2 k3; omega)⟩
          · by_cases k4 : k = 4
            · exact .inr (.inl ⟨k4, decide_eq_false (by have := e3 k4; omega)⟩)
            · refine .inr (.inr ⟨beq_eq_false_iff_ne.2 (by omega), beq_eq_false_iff_ne.2 (by omega), ?_⟩)
              by_cases k5 : 5 ≤ k
              · exact .inl ⟨decide_eq_true (by omega), decide_eq_false (by have := e1 k5; omega)⟩
              · exact .inr (decide_eq_false (by omega))
        have hxx : ex = false ∨ (ex = true ∧ x = n ∧ y = d) := by
          cases ex
          · exact .inl rfl
          · exact .inr ⟨rfl, HS.out.2.2.2 (of_decide_eq_true HX.out)⟩
        clear HS
        have fin : ∀ W, Fr u W [(b20, RC x y, 31), (b17, RC S t, 31), (b15, RC s t, 31), (b13, RC x y, 31), (b8, RC 1 (P * 2), 31), (b6, RC 1 P, 31), (b4, RC n d, 31)] → Fr u W [(b8, RC 1 (P * 2), 31), (b6, RC 1 P, 31), (b4, RC n d, 31)] := fun W F => F.sub (by repeat (first | exact List.Sublist.slnil | apply List.Sublist.cons_cons | apply List.Sublist.cons))
        rcases hxx with rfl | ⟨rfl, rfl, rfl⟩ <;> rcases hm with ⟨rfl, t3⟩ | ⟨rfl, t3⟩ | ⟨t3, t4, ⟨t5, t6⟩ | t5⟩
        all_goals
          go_wp2_with (first | go_skip | ((go_at_call 14); (with_reducible refine fr_call F (g6 _) ?_); (clear F; intro W F); (try dsimp only)) | ((go_at_call 14); (with_reducible refine fr_call F (g7 _) ?_); (clear F; intro W F); (try dsimp only)) | ((with_reducible apply fL F); exact rfl; exact rfl; (exact tL); (exact tR3)) | ((with_reducible apply fA_rat F); exact rfl) | ((with_reducible apply fS F); exact rfl; exact rfl; exact rfl; (exact tL); (exact tR3); (exact tS2); clear F; intro W F; simp only [z7, z8] at F))
          go_roundw
          case rel =>
            first
            | exact ⟨k + 1, by omega, by omega, by first | rfl | go_num, fin _ F⟩
            | exact ⟨4, by decide, by decide, rfl, fin _ F⟩
            | exact ⟨5, by decide, by decide, rfl, fin _ F⟩
          case measure => first | (simp [intOf]; omega) | simp [intOf]
      · have t1 : decide ((k : Int) ≤ 6) = false := decide_eq_false (by omega)
        go_wp2_with (first | go_skip | ((go_at_call 18); (with_reducible refine fr_call F (gk _ _ _ _ T F) ?_); (clear F; intro W F); (try dsimp only)) | ((with_reducible apply fL F); exact rfl; exact rfl; (exact tL); (exact tR3)) | ((with_reducible apply fA_rat F); exact rfl) | ((with_reducible apply fS F); exact rfl; exact rfl; exact rfl; (exact tL); (exact tR3); (exact tS2); clear F; intro W F; simp only [z7, z8] at F))
        go_ret
        exact HO.out _ _ _ _ T F
end
end Go.Proofs.YtpaodheilchfnaaGreatDoor
