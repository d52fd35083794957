/- What the laws lean on. -/
import Derived.Test.YtpaodheilchfnaaGreatDoorPz6
import Derived.Lib.SmallJoins
import Derived.Lib.SlBytesRow
namespace Go.Proofs.YtpaodheilchfnaaGreatDoor
set_option linter.unusedVariables false
set_option linter.unusedSimpArgs false
section
open Go.RowKit
set_option maxHeartbeats 4000000
theorem canon_self {x : Int} (hx : x.natAbs < bp 32) (w : World) : Calls Tryz.prog 129 #[.bool (decide (x < 0)), .agg (limA 32 x.natAbs)] w (RetB (.agg (IC x)) w) :=
  rcanonZ hx rfl (fun h => decide_eq_true h) (fun h => decide_eq_false (by omega)) w
set_option maxRecDepth 100000 in
theorem radd_any {x y : Int} (hx : x.natAbs < bp 32) (hy : y.natAbs < bp 32) (h : (x + y).natAbs < bp 32) (w : World) : Calls Tryz.prog 78 #[.agg (IC x), .agg (IC y)] w (RetB (.tuple #[.agg (IC (x + y)), .int .i64 0]) w) := by
  have F := Fr.start w
  have g1 := fun w => canon_self hx w
  have g2 := fun w => canon_self hy w
  obtain ⟨p, hp⟩ : ∃ p, decide (x < 0) = p := ⟨_, rfl⟩
  obtain ⟨q, hq⟩ : ∃ q, decide (y < 0) = q := ⟨_, rfl⟩
  have HX := Lib.hid (And.intro hx (And.intro hy (And.intro h (And.intro hp hq))))
  clear hx hy h hp hq
  go_enter Tryz.func78, Tryz.ntmps78
  go_wp2_with (first | go_skip | ((with_reducible apply fL F); exact rfl; exact rfl; (exact tL); (exact tR3)) | ((with_reducible apply fLm F); exact rfl; exact rfl; (exact tL); (exact tM3); (exact tR3)) | ((with_reducible apply fA_int F); exact rfl) | ((with_reducible apply fX_int F); exact rfl; exact rfl) | ((with_reducible apply fA_arr F); exact rfl) | ((with_reducible apply fS F); exact rfl; exact rfl; exact rfl; (exact tL); (exact tR3); (exact tS2); clear F; intro W F; simp only [z7, z8] at F) | ((with_reducible apply fB_int0); exact rfl))
  (clear F; intro b2 W F; try simp only [Act.put, z6, z1, z2])
  go_wp2_with (first | go_skip | ((with_reducible apply fL F); exact rfl; exact rfl; (exact tL); (exact tR3)) | ((with_reducible apply fLm F); exact rfl; exact rfl; (exact tL); (exact tM3); (exact tR3)) | ((with_reducible apply fA_int F); exact rfl) | ((with_reducible apply fX_int F); exact rfl; exact rfl) | ((with_reducible apply fA_arr F); exact rfl) | ((with_reducible apply fS F); exact rfl; exact rfl; exact rfl; (exact tL); (exact tR3); (exact tS2); clear F; intro W F; simp only [z7, z8] at F) | ((with_reducible apply fB_int0); exact rfl))
  (clear F; intro b3 W F; try simp only [Act.put, z6, z1, z2])
  go_wp2_with (first | go_skip | ((with_reducible apply fL F); exact rfl; exact rfl; (exact tL); (exact tR3)) | ((with_reducible apply fLm F); exact rfl; exact rfl; (exact tL); (exact tM3); (exact tR3)) | ((with_reducible apply fA_int F); exact rfl) | ((with_reducible apply fX_int F); exact rfl; exact rfl) | ((with_reducible apply fA_arr F); exact rfl) | ((with_reducible apply fS F); exact rfl; exact rfl; exact rfl; (exact tL); (exact tR3); (exact tS2); clear F; intro W F; simp only [z7, z8] at F) | ((with_reducible apply fB_int0); exact rfl))
  (clear F; intro b4 W F; try simp only [Act.put, z6, z1, z2])
  go_wp2_with (first | go_skip | ((with_reducible apply fL F); exact rfl; exact rfl; (exact tL); (exact tR3)) | ((with_reducible apply fLm F); exact rfl; exact rfl; (exact tL); (exact tM3); (exact tR3)) | ((with_reducible apply fA_int F); exact rfl) | ((with_reducible apply fX_int F); exact rfl; exact rfl) | ((with_reducible apply fA_arr F); exact rfl) | ((with_reducible apply fS F); exact rfl; exact rfl; exact rfl; (exact tL); (exact tR3); (exact tS2); clear F; intro W F; simp only [z7, z8] at F) | ((with_reducible apply fB_int0); exact rfl))
  try simp only [Act.put, z6, z1, z2]
  refine wp_region_slots mixP [8, 9, 10, 11, 12, 13, 14, 15, 16, 17] (fun l mm W => ∃ (s8 s9 s10 s11 s12 s13 s14 s15 s16 s17 : Value) (c_b2 c_b3 : Array Value), mm = [s8, s9, s10, s11, s12, s13, s14, s15, s16, s17] ∧ (l.getD 0 false = true → s8 = .pointer (some ⟨b2, 0, none⟩)) ∧ (l.getD 1 false = true → s9 = .bool (decide (x < 0))) ∧ (l.getD 2 false = true → s10 = .pointer (some ⟨b2, 1, none⟩)) ∧ (l.getD 3 false = true → s11 = .agg (limA 32 ((x).natAbs))) ∧ (l.getD 4 false = true → s12 = .agg (IC x)) ∧ (l.getD 5 false = true → s13 = .pointer (some ⟨b3, 0, none⟩)) ∧ (l.getD 6 false = true → s14 = .bool (decide (y < 0))) ∧ (l.getD 7 false = true → s15 = .pointer (some ⟨b3, 1, none⟩)) ∧ (l.getD 8 false = true → s16 = .agg (limA 32 ((y).natAbs))) ∧ (l.getD 9 false = true → s17 = .agg (IC y)) ∧ (l.getD 10 false = true → c_b2 = IC x) ∧ (l.getD 11 false = true → c_b3 = IC y) ∧ (l.getD 10 false = false → c_b2 = IC x) ∧ (l.getD 10 false = true → l.getD 1 false = true) ∧ (l.getD 10 false = true → l.getD 3 false = true) ∧ (l.getD 11 false = false → c_b3 = IC y) ∧ (l.getD 11 false = true → l.getD 6 false = true) ∧ (l.getD 11 false = true → l.getD 8 false = true) ∧ c_b2.size = (IC x).size ∧ c_b3.size = (IC y).size ∧ Fr w W [(b4, intC false 0, 29), (b3, c_b3, 29), (b2, c_b2, 29)]) (by kernel_rfl) rfl ?_ ?_ ?_
  · exact ⟨_, _, _, _, _, _, _, _, _, _, (IC x), (IC y), rfl, nf, nf, nf, nf, nf, nf, nf, nf, nf, nf, nf, nf, fun _ => rfl, nf, nf, fun _ => rfl, nf, nf, by exact tS2, by exact tS2, F.drew⟩
  · rintro listed mm W ii hi hsz hoff ⟨s8, s9, s10, s11, s12, s13, s14, s15, s16, s17, c_b2, c_b3, rfl, h0, h1, h2, h3, h4, h5, h6, h7, h8, h9, h10, h11, hO_b2, hW_b2_1, hW_b2_3, hO_b3, hW_b3_6, hW_b3_8, hz0, hz1, HF⟩ hd
    have hc : ii = 0 ∨ ii = 1 ∨ ii = 2 ∨ ii = 3 ∨ ii = 4 ∨ ii = 5 ∨ ii = 6 ∨ ii = 7 ∨ ii = 8 ∨ ii = 9 ∨ ii = 10 ∨ ii = 11 := by
      have hi2 : ii < 12 := hi
      omega
    have hsz2 : listed.size = 12 := hsz
    clear hi hsz
    rcases hc with rfl | rfl | rfl | rfl | rfl | rfl | rfl | rfl | rfl | rfl | rfl | rfl
    · refine wpOp_want rfl rfl (fun K hK => ?_)
      simp only [putAll, z1, z2, z3, z4, z5]
      refine ⟨?_⟩
      go_simp
      exact hK _ _ ⟨[(.pointer (some ⟨b2, 0, none⟩)), s9, s10, s11, s12, s13, s14, s15, s16, s17], by simp only [putAll, z1, z2], (.pointer (some ⟨b2, 0, none⟩)), s9, s10, s11, s12, s13, s14, s15, s16, s17, c_b2, c_b3, rfl, fun _ => rfl, lk h1, lk h2, lk h3, lk h4, lk h5, lk h6, lk h7, lk h8, lk h9, lk h10, lk h11, listed_keepF (by decide) hO_b2, fun h => by rw [getD_keep (show 0 ≠ 10 by decide)] at h; rw [getD_keep (show 0 ≠ 1 by decide)]; exact hW_b2_1 h, fun h => by rw [getD_keep (show 0 ≠ 10 by decide)] at h; rw [getD_keep (show 0 ≠ 3 by decide)]; exact hW_b2_3 h, listed_keepF (by decide) hO_b3, fun h => by rw [getD_keep (show 0 ≠ 11 by decide)] at h; rw [getD_keep (show 0 ≠ 6 by decide)]; exact hW_b3_6 h, fun h => by rw [getD_keep (show 0 ≠ 11 by decide)] at h; rw [getD_keep (show 0 ≠ 8 by decide)]; exact hW_b3_8 h, hz0, hz1, HF⟩
    · have d0 := h0 (hd 0 (by kernel_rfl))
      obtain rfl := d0
      refine wpOp_want rfl rfl (fun K hK => ?_)
      simp only [putAll, z1, z2, z3, z4, z5]
      have hold := hO_b2 (by cases hx : listed.getD 10 false with | false => rfl | true => exact absurd (hW_b2_1 hx) (by rw [hoff]; decide))
      rw [hold] at HF
      have cF := BlkAt.cell (Fr.get HF (b := b2) (cs := IC x) (by (exact tL))) (intC_neg _ _)
      rw [← hold] at HF
      refine ⟨?_⟩
      go_simp
      exact hK _ _ ⟨[(.pointer (some ⟨b2, 0, none⟩)), (.bool (decide (x < 0))), s10, s11, s12, s13, s14, s15, s16, s17], by simp only [putAll, z1, z2], (.pointer (some ⟨b2, 0, none⟩)), (.bool (decide (x < 0))), s10, s11, s12, s13, s14, s15, s16, s17, c_b2, c_b3, rfl, lk h0, fun _ => rfl, lk h2, lk h3, lk h4, lk h5, lk h6, lk h7, lk h8, lk h9, lk h10, lk h11, listed_keepF (by decide) hO_b2, fun _ => getD_on (by omega), fun h => by rw [getD_keep (show 1 ≠ 10 by decide)] at h; rw [getD_keep (show 1 ≠ 3 by decide)]; exact hW_b2_3 h, listed_keepF (by decide) hO_b3, fun h => by rw [getD_keep (show 1 ≠ 11 by decide)] at h; rw [getD_keep (show 1 ≠ 6 by decide)]; exact hW_b3_6 h, fun h => by rw [getD_keep (show 1 ≠ 11 by decide)] at h; rw [getD_keep (show 1 ≠ 8 by decide)]; exact hW_b3_8 h, hz0, hz1, HF⟩
    · refine wpOp_want rfl rfl (fun K hK => ?_)
      simp only [putAll, z1, z2, z3, z4, z5]
      refine ⟨?_⟩
      go_simp
      exact hK _ _ ⟨[s8, s9, (.pointer (some ⟨b2, 1, none⟩)), s11, s12, s13, s14, s15, s16, s17], by simp only [putAll, z1, z2], s8, s9, (.pointer (some ⟨b2, 1, none⟩)), s11, s12, s13, s14, s15, s16, s17, c_b2, c_b3, rfl, lk h0, lk h1, fun _ => rfl, lk h3, lk h4, lk h5, lk h6, lk h7, lk h8, lk h9, lk h10, lk h11, listed_keepF (by decide) hO_b2, fun h => by rw [getD_keep (show 2 ≠ 10 by decide)] at h; rw [getD_keep (show 2 ≠ 1 by decide)]; exact hW_b2_1 h, fun h => by rw [getD_keep (show 2 ≠ 10 by decide)] at h; rw [getD_keep (show 2 ≠ 3 by decide)]; exact hW_b2_3 h, listed_keepF (by decide) hO_b3, fun h => by rw [getD_keep (show 2 ≠ 11 by decide)] at h; rw [getD_keep (show 2 ≠ 6 by decide)]; exact hW_b3_6 h, fun h => by rw [getD_keep (show 2 ≠ 11 by decide)] at h; rw [getD_keep (show 2 ≠ 8 by decide)]; exact hW_b3_8 h, hz0, hz1, HF⟩
    · have d2 := h2 (hd 2 (by kernel_rfl))
      obtain rfl := d2
      refine wpOp_want rfl rfl (fun K hK => ?_)
      simp only [putAll, z1, z2, z3, z4, z5]
      have hold := hO_b2 (by cases hx : listed.getD 10 false with | false => rfl | true => exact absurd (hW_b2_3 hx) (by rw [hoff]; decide))
      rw [hold] at HF
      with_reducible apply gLm HF
      · exact rfl
      · (exact tL)
      · exact IC_tail _
      · (first | (exact tR3))
      rw [← hold] at HF
      go_simp
      exact hK _ _ ⟨[s8, s9, (.pointer (some ⟨b2, 1, none⟩)), (.agg (limA 32 ((x).natAbs))), s12, s13, s14, s15, s16, s17], by simp only [putAll, z1, z2], s8, s9, (.pointer (some ⟨b2, 1, none⟩)), (.agg (limA 32 ((x).natAbs))), s12, s13, s14, s15, s16, s17, c_b2, c_b3, rfl, lk h0, lk h1, lk h2, fun _ => rfl, lk h4, lk h5, lk h6, lk h7, lk h8, lk h9, lk h10, lk h11, listed_keepF (by decide) hO_b2, fun h => by rw [getD_keep (show 3 ≠ 10 by decide)] at h; rw [getD_keep (show 3 ≠ 1 by decide)]; exact hW_b2_1 h, fun _ => getD_on (by omega), listed_keepF (by decide) hO_b3, fun h => by rw [getD_keep (show 3 ≠ 11 by decide)] at h; rw [getD_keep (show 3 ≠ 6 by decide)]; exact hW_b3_6 h, fun h => by rw [getD_keep (show 3 ≠ 11 by decide)] at h; rw [getD_keep (show 3 ≠ 8 by decide)]; exact hW_b3_8 h, hz0, hz1, HF⟩
    · have d1 := h1 (hd 1 (by kernel_rfl))
      have d3 := h3 (hd 3 (by kernel_rfl))
      obtain rfl := d1
      obtain rfl := d3
      refine wpOp_want rfl rfl (fun K hK => ?_)
      simp only [putAll, z1, z2, z3, z4, z5]
      refine ⟨?_⟩
      go_simp
      with_reducible refine fr_call HF (g1 _) ?_
      clear HF
      intro W HF
      (try dsimp only)
      exact hK _ _ ⟨[s8, (.bool (decide (x < 0))), s10, (.agg (limA 32 ((x).natAbs))), (.agg (IC x)), s13, s14, s15, s16, s17], by simp only [putAll, z1, z2], s8, (.bool (decide (x < 0))), s10, (.agg (limA 32 ((x).natAbs))), (.agg (IC x)), s13, s14, s15, s16, s17, c_b2, c_b3, rfl, lk h0, lk h1, lk h2, lk h3, fun _ => rfl, lk h5, lk h6, lk h7, lk h8, lk h9, lk h10, lk h11, listed_keepF (by decide) hO_b2, fun h => by rw [getD_keep (show 4 ≠ 10 by decide)] at h; rw [getD_keep (show 4 ≠ 1 by decide)]; exact hW_b2_1 h, fun h => by rw [getD_keep (show 4 ≠ 10 by decide)] at h; rw [getD_keep (show 4 ≠ 3 by decide)]; exact hW_b2_3 h, listed_keepF (by decide) hO_b3, fun h => by rw [getD_keep (show 4 ≠ 11 by decide)] at h; rw [getD_keep (show 4 ≠ 6 by decide)]; exact hW_b3_6 h, fun h => by rw [getD_keep (show 4 ≠ 11 by decide)] at h; rw [getD_keep (show 4 ≠ 8 by decide)]; exact hW_b3_8 h, hz0, hz1, HF⟩
    · refine wpOp_want rfl rfl (fun K hK => ?_)
      simp only [putAll, z1, z2, z3, z4, z5]
      refine ⟨?_⟩
      go_simp
      exact hK _ _ ⟨[s8, s9, s10, s11, s12, (.pointer (some ⟨b3, 0, none⟩)), s14, s15, s16, s17], by simp only [putAll, z1, z2], s8, s9, s10, s11, s12, (.pointer (some ⟨b3, 0, none⟩)), s14, s15, s16, s17, c_b2, c_b3, rfl, lk h0, lk h1, lk h2, lk h3, lk h4, fun _ => rfl, lk h6, lk h7, lk h8, lk h9, lk h10, lk h11, listed_keepF (by decide) hO_b2, fun h => by rw [getD_keep (show 5 ≠ 10 by decide)] at h; rw [getD_keep (show 5 ≠ 1 by decide)]; exact hW_b2_1 h, fun h => by rw [getD_keep (show 5 ≠ 10 by decide)] at h; rw [getD_keep (show 5 ≠ 3 by decide)]; exact hW_b2_3 h, listed_keepF (by decide) hO_b3, fun h => by rw [getD_keep (show 5 ≠ 11 by decide)] at h; rw [getD_keep (show 5 ≠ 6 by decide)]; exact hW_b3_6 h, fun h => by rw [getD_keep (show 5 ≠ 11 by decide)] at h; rw [getD_keep (show 5 ≠ 8 by decide)]; exact hW_b3_8 h, hz0, hz1, HF⟩
    · have d5 := h5 (hd 5 (by kernel_rfl))
      obtain rfl := d5
      refine wpOp_want rfl rfl (fun K hK => ?_)
      simp only [putAll, z1, z2, z3, z4, z5]
      have hold := hO_b3 (by cases hx : listed.getD 11 false with | false => rfl | true => exact absurd (hW_b3_6 hx) (by rw [hoff]; decide))
      rw [hold] at HF
      have cF := BlkAt.cell (Fr.get HF (b := b3) (cs := IC y) (by (exact tL))) (intC_neg _ _)
      rw [← hold] at HF
      refine ⟨?_⟩
      go_simp
      exact hK _ _ ⟨[s8, s9, s10, s11, s12, (.pointer (some ⟨b3, 0, none⟩)), (.bool (decide (y < 0))), s15, s16, s17], by simp only [putAll, z1, z2], s8, s9, s10, s11, s12, (.pointer (some ⟨b3, 0, none⟩)), (.bool (decide (y < 0))), s15, s16, s17, c_b2, c_b3, rfl, lk h0, lk h1, lk h2, lk h3, lk h4, lk h5, fun _ => rfl, lk h7, lk h8, lk h9, lk h10, lk h11, listed_keepF (by decide) hO_b2, fun h => by rw [getD_keep (show 6 ≠ 10 by decide)] at h; rw [getD_keep (show 6 ≠ 1 by decide)]; exact hW_b2_1 h, fun h => by rw [getD_keep (show 6 ≠ 10 by decide)] at h; rw [getD_keep (show 6 ≠ 3 by decide)]; exact hW_b2_3 h, listed_keepF (by decide) hO_b3, fun _ => getD_on (by omega), fun h => by rw [getD_keep (show 6 ≠ 11 by decide)] at h; rw [getD_keep (show 6 ≠ 8 by decide)]; exact hW_b3_8 h, hz0, hz1, HF⟩
    · refine wpOp_want rfl rfl (fun K hK => ?_)
      simp only [putAll, z1, z2, z3, z4, z5]
      refine ⟨?_⟩
      go_simp
      exact hK _ _ ⟨[s8, s9, s10, s11, s12, s13, s14, (.pointer (some ⟨b3, 1, none⟩)), s16, s17], by simp only [putAll, z1, z2], s8, s9, s10, s11, s12, s13, s14, (.pointer (some ⟨b3, 1, none⟩)), s16, s17, c_b2, c_b3, rfl, lk h0, lk h1, lk h2, lk h3, lk h4, lk h5, lk h6, fun _ => rfl, lk h8, lk h9, lk h10, lk h11, listed_keepF (by decide) hO_b2, fun h => by rw [getD_keep (show 7 ≠ 10 by decide)] at h; rw [getD_keep (show 7 ≠ 1 by decide)]; exact hW_b2_1 h, fun h => by rw [getD_keep (show 7 ≠ 10 by decide)] at h; rw [getD_keep (show 7 ≠ 3 by decide)]; exact hW_b2_3 h, listed_keepF (by decide) hO_b3, fun h => by rw [getD_keep (show 7 ≠ 11 by decide)] at h; rw [getD_keep (show 7 ≠ 6 by decide)]; exact hW_b3_6 h, fun h => by rw [getD_keep (show 7 ≠ 11 by decide)] at h; rw [getD_keep (show 7 ≠ 8 by decide)]; exact hW_b3_8 h, hz0, hz1, HF⟩
    · have d7 := h7 (hd 7 (by kernel_rfl))
      obtain rfl := d7
      refine wpOp_want rfl rfl (fun K hK => ?_)
      simp only [putAll, z1, z2, z3, z4, z5]
      have hold := hO_b3 (by cases hx : listed.getD 11 false with | false => rfl | true => exact absurd (hW_b3_8 hx) (by rw [hoff]; decide))
      rw [hold] at HF
      with_reducible apply gLm HF
      · exact rfl
      · (exact tL)
      · exact IC_tail _
      · (first | (exact tR3))
      rw [← hold] at HF
      go_simp
      exact hK _ _ ⟨[s8, s9, s10, s11, s12, s13, s14, (.pointer (some ⟨b3, 1, none⟩)), (.agg (limA 32 ((y).natAbs))), s17], by simp only [putAll, z1, z2], s8, s9, s10, s11, s12, s13, s14, (.pointer (some ⟨b3, 1, none⟩)), (.agg (limA 32 ((y).natAbs))), s17, c_b2, c_b3, rfl, lk h0, lk h1, lk h2, lk h3, lk h4, lk h5, lk h6, lk h7, fun _ => rfl, lk h9, lk h10, lk h11, listed_keepF (by decide) hO_b2, fun h => by rw [getD_keep (show 8 ≠ 10 by decide)] at h; rw [getD_keep (show 8 ≠ 1 by decide)]; exact hW_b2_1 h, fun h => by rw [getD_keep (show 8 ≠ 10 by decide)] at h; rw [getD_keep (show 8 ≠ 3 by decide)]; exact hW_b2_3 h, listed_keepF (by decide) hO_b3, fun h => by rw [getD_keep (show 8 ≠ 11 by decide)] at h; rw [getD_keep (show 8 ≠ 6 by decide)]; exact hW_b3_6 h, fun _ => getD_on (by omega), hz0, hz1, HF⟩
    · have d6 := h6 (hd 6 (by kernel_rfl))
      have d8 := h8 (hd 8 (by kernel_rfl))
      obtain rfl := d6
      obtain rfl := d8
      refine wpOp_want rfl rfl (fun K hK => ?_)
      simp only [putAll, z1, z2, z3, z4, z5]
      refine ⟨?_⟩
      go_simp
      with_reducible refine fr_call HF (g2 _) ?_
      clear HF
      intro W HF
      (try dsimp only)
      exact hK _ _ ⟨[s8, s9, s10, s11, s12, s13, (.bool (decide (y < 0))), s15, (.agg (limA 32 ((y).natAbs))), (.agg (IC y))], by simp only [putAll, z1, z2], s8, s9, s10, s11, s12, s13, (.bool (decide (y < 0))), s15, (.agg (limA 32 ((y).natAbs))), (.agg (IC y)), c_b2, c_b3, rfl, lk h0, lk h1, lk h2, lk h3, lk h4, lk h5, lk h6, lk h7, lk h8, fun _ => rfl, lk h10, lk h11, listed_keepF (by decide) hO_b2, fun h => by rw [getD_keep (show 9 ≠ 10 by decide)] at h; rw [getD_keep (show 9 ≠ 1 by decide)]; exact hW_b2_1 h, fun h => by rw [getD_keep (show 9 ≠ 10 by decide)] at h; rw [getD_keep (show 9 ≠ 3 by decide)]; exact hW_b2_3 h, listed_keepF (by decide) hO_b3, fun h => by rw [getD_keep (show 9 ≠ 11 by decide)] at h; rw [getD_keep (show 9 ≠ 6 by decide)]; exact hW_b3_6 h, fun h => by rw [getD_keep (show 9 ≠ 11 by decide)] at h; rw [getD_keep (show 9 ≠ 8 by decide)]; exact hW_b3_8 h, hz0, hz1, HF⟩
    · have d4 := h4 (hd 4 (by kernel_rfl))
      obtain rfl := d4
      refine wpOp_want rfl rfl (fun K hK => ?_)
      simp only [putAll, z1, z2, z3, z4, z5]
      with_reducible apply gS HF
      · exact rfl
      · exact rfl
      · (exact tL)
      · (first | (exact tR3))
      · first | exact hz0 | exact tS2
      clear HF
      intro W HF
      simp only [z7, z8] at HF
      go_simp
      exact hK _ _ ⟨[s8, s9, s10, s11, (.agg (IC x)), s13, s14, s15, s16, s17], by simp only [putAll, z1, z2], s8, s9, s10, s11, (.agg (IC x)), s13, s14, s15, s16, s17, (IC x), c_b3, rfl, lk h0, lk h1, lk h2, lk h3, lk h4, lk h5, lk h6, lk h7, lk h8, lk h9, fun _ => rfl, lk h11, fun h => absurd h (by rw [getD_on (show 10 < listed.size by omega)]; decide), fun _ => by rw [getD_keep (show 10 ≠ 1 by decide)]; exact hd 1 (by kernel_rfl), fun _ => by rw [getD_keep (show 10 ≠ 3 by decide)]; exact hd 3 (by kernel_rfl), listed_keepF (by decide) hO_b3, fun h => by rw [getD_keep (show 10 ≠ 11 by decide)] at h; rw [getD_keep (show 10 ≠ 6 by decide)]; exact hW_b3_6 h, fun h => by rw [getD_keep (show 10 ≠ 11 by decide)] at h; rw [getD_keep (show 10 ≠ 8 by decide)]; exact hW_b3_8 h, rfl, hz1, HF⟩
    · have d9 := h9 (hd 9 (by kernel_rfl))
      obtain rfl := d9
      refine wpOp_want rfl rfl (fun K hK => ?_)
      simp only [putAll, z1, z2, z3, z4, z5]
      with_reducible apply gS HF
      · exact rfl
      · exact rfl
      · (exact tL)
      · (first | (exact tR3))
      · first | exact hz1 | exact tS2
      clear HF
      intro W HF
      simp only [z7, z8] at HF
      go_simp
      exact hK _ _ ⟨[s8, s9, s10, s11, s12, s13, s14, s15, s16, (.agg (IC y))], by simp only [putAll, z1, z2], s8, s9, s10, s11, s12, s13, s14, s15, s16, (.agg (IC y)), c_b2, (IC y), rfl, lk h0, lk h1, lk h2, lk h3, lk h4, lk h5, lk h6, lk h7, lk h8, lk h9, lk h10, fun _ => rfl, listed_keepF (by decide) hO_b2, fun h => by rw [getD_keep (show 11 ≠ 10 by decide)] at h; rw [getD_keep (show 11 ≠ 1 by decide)]; exact hW_b2_1 h, fun h => by rw [getD_keep (show 11 ≠ 10 by decide)] at h; rw [getD_keep (show 11 ≠ 3 by decide)]; exact hW_b2_3 h, fun h => absurd h (by rw [getD_on (show 11 < listed.size by omega)]; decide), fun _ => by rw [getD_keep (show 11 ≠ 6 by decide)]; exact hd 6 (by kernel_rfl), fun _ => by rw [getD_keep (show 11 ≠ 8 by decide)]; exact hd 8 (by kernel_rfl), hz0, rfl, HF⟩
  rintro listed mm W ⟨s8, s9, s10, s11, s12, s13, s14, s15, s16, s17, c_b2, c_b3, rfl, h0, h1, h2, h3, h4, h5, h6, h7, h8, h9, h10, h11, hO_b2, hW_b2_1, hW_b2_3, hO_b3, hW_b3_6, hW_b3_8, hz0, hz1, HF⟩ hall
  obtain rfl := h0 (hall 0 (by decide))
  obtain rfl := h1 (hall 1 (by decide))
  obtain rfl := h2 (hall 2 (by decide))
  obtain rfl := h3 (hall 3 (by decide))
  obtain rfl := h4 (hall 4 (by decide))
  obtain rfl := h5 (hall 5 (by decide))
  obtain rfl := h6 (hall 6 (by decide))
  obtain rfl := h7 (hall 7 (by decide))
  obtain rfl := h8 (hall 8 (by decide))
  obtain rfl := h9 (hall 9 (by decide))
  rw [h10 (hall 10 (by decide))] at HF
  rw [h11 (hall 11 (by decide))] at HF
  clear hall h0 h1 h2 h3 h4 h5 h6 h7 h8 h9 h10 h11 hO_b2 hW_b2_1 hW_b2_3 hO_b3 hW_b3_6 hW_b3_8 hz0 hz1 F
  have F := HF
  clear HF
  simp only [putAll, z1, z2]
  have c2 := BlkAt.cell (F.get (b := b2) (cs := IC x) tL) (intC_neg (decide (x < 0)) x.natAbs)
  have c3 := BlkAt.cell (F.get (b := b3) (cs := IC y) tL) (intC_neg (decide (y < 0)) y.natAbs)
  rw [HX.out.2.2.2.1] at c2
  rw [HX.out.2.2.2.2] at c3
  clear g1 g2
  by_cases hpq : p = q
  · subst hpq
    have hs : (x + y).natAbs = x.natAbs + y.natAbs := by
      have h1 := HX.out.2.2.2.1
      have h2 := HX.out.2.2.2.2
      cases p
      · have := of_decide_eq_false h1; have := of_decide_eq_false h2; omega
      · have := of_decide_eq_true h1; have := of_decide_eq_true h2; omega
    have g3 := fun w => rsum_any HX.out.1 HX.out.2.1 (c := (x + y).natAbs) (f := true) (by rw [← hs]; exact Nat.mod_eq_of_lt HX.out.2.2.1) (by rw [← hs]; exact decide_eq_true HX.out.2.2.1) w
    have g4 := fun w => rcanonZ (n := p) (m := (x + y).natAbs) (x := x + y) HX.out.2.2.1 rfl (fun h => by
      have h1 := HX.out.2.2.2.1
      have h2 := HX.out.2.2.2.2
      cases p
      · have := of_decide_eq_false h1; have := of_decide_eq_false h2; omega
      · rfl) (fun h => by
      have h1 := HX.out.2.2.2.1
      have h2 := HX.out.2.2.2.2
      cases p
      · rfl
      · have := of_decide_eq_true h1; have := of_decide_eq_true h2; omega) w
    clear hs
    have cb : ∀ W, Fr w W [(b2, IC x, 29)] → W.cell? ⟨b2, 0, none⟩ = some (.bool p) := fun W h => by
      have h := BlkAt.cell (h.get (b := b2) (cs := IC x) tL) (intC_neg (decide (x < 0)) x.natAbs)
      rwa [HX.out.2.2.2.1] at h
    clear HX
    have t1 : (p == p) = true := beq_self_eq_true p
    go_wp2_with (first | go_skip | ((go_at_call 128); (with_reducible refine fr_call F (g3 _) ?_); (clear F; intro W F); (try dsimp only)) | ((with_reducible apply fL F); exact rfl; exact rfl; (exact tL); (exact tR3)) | ((with_reducible apply fLm F); exact rfl; exact rfl; (exact tL); (exact tM3); (exact tR3)) | ((with_reducible apply fA_int F); exact rfl) | ((with_reducible apply fX_int F); exact rfl; exact rfl) | ((with_reducible apply fA_arr F); exact rfl) | ((with_reducible apply fS F); exact rfl; exact rfl; exact rfl; (exact tL); (exact tR3); (exact tS2); clear F; intro W F; simp only [z7, z8] at F) | ((with_reducible apply fB_int0); exact rfl))
    (clear F; intro b6 W F; try simp only [Act.put, z6, z1, z2])
    clear c2 c3
    go_upto_region 6 with (first | go_skip | ((with_reducible apply fL F); exact rfl; exact rfl; (exact tL); (exact tR3)) | ((with_reducible apply fLm F); exact rfl; exact rfl; (exact tL); (exact tM3); (exact tR3)) | ((with_reducible apply fA_int F); exact rfl) | ((with_reducible apply fX_int F); exact rfl; exact rfl) | ((with_reducible apply fA_arr F); exact rfl) | ((with_reducible apply fS F); exact rfl; exact rfl; exact rfl; (exact tL); (exact tR3); (exact tS2); clear F; intro W F; simp only [z7, z8] at F) | ((with_reducible apply fB_int0); exact rfl))
    have c2 := cb _ (F.sub (by repeat (first | exact List.Sublist.slnil | apply List.Sublist.cons_cons | apply List.Sublist.cons)))
    clear cb
    go_wp2_with (first | go_skip | ((go_at_call 129); (with_reducible refine fr_call F (g4 _) ?_); (clear F; intro W F); (try dsimp only)) | ((with_reducible apply fL F); exact rfl; exact rfl; (exact tL); (exact tR3)) | ((with_reducible apply fLm F); exact rfl; exact rfl; (exact tL); (exact tM3); (exact tR3)) | ((with_reducible apply fA_int F); exact rfl) | ((with_reducible apply fX_int F); exact rfl; exact rfl) | ((with_reducible apply fA_arr F); exact rfl) | ((with_reducible apply fS F); exact rfl; exact rfl; exact rfl; (exact tL); (exact tR3); (exact tS2); clear F; intro W F; simp only [z7, z8] at F) | ((with_reducible apply fB_int0); exact rfl))
    exact bodyPost_ret (res_cs rfl rfl rfl (Fr.get F tL) (rowIC _)) rfl ⟨rfl, F.below⟩
  have t1 : (p == q) = false := by rw [beq_eq_false_iff_ne]; exact hpq
  have g3 := fun w => rcompare_any HX.out.1 HX.out.2.1 w
  by_cases hlt : x.natAbs < y.natAbs
  · have hc : cmpN x.natAbs y.natAbs = -1 := by unfold cmpN; rw [if_pos hlt]
    rw [hc] at g3
    have hs : y.natAbs - x.natAbs = (x + y).natAbs := by
      have h1 := HX.out.2.2.2.1
      have h2 := HX.out.2.2.2.2
      cases p <;> cases q
      · exact absurd rfl hpq
      · have := of_decide_eq_false h1; have := of_decide_eq_true h2; omega
      · have := of_decide_eq_true h1; have := of_decide_eq_false h2; omega
      · exact absurd rfl hpq
    have g4 := fun w => rdiff_le HX.out.2.1 HX.out.1 (Nat.le_of_lt hlt) w
    rw [hs] at g4
    have g5 := fun w => rcanonZ (n := q) (m := (x + y).natAbs) (x := x + y) HX.out.2.2.1 rfl (fun h => by
      have h2 := HX.out.2.2.2.2
      cases q
      · have := of_decide_eq_false h2; omega
      · rfl) (fun h => by
      have h2 := HX.out.2.2.2.2
      cases q
      · rfl
      · have := of_decide_eq_true h2; omega) w
    have cb : ∀ W, Fr w W [(b2, IC y, 29)] → W.cell? ⟨b2, 0, none⟩ = some (.bool q) := fun W h => by
      have h := BlkAt.cell (h.get (b := b2) (cs := IC y) tL) (intC_neg (decide (y < 0)) y.natAbs)
      rwa [HX.out.2.2.2.2] at h
    clear hc hs HX hpq hlt
    go_upto_region 9 with (first | go_skip | ((go_at_call 95); (with_reducible refine fr_call F (g3 _) ?_); (clear F; intro W F); (try dsimp only)) | ((with_reducible apply fL F); exact rfl; exact rfl; (exact tL); (exact tR3)) | ((with_reducible apply fLm F); exact rfl; exact rfl; (exact tL); (exact tM3); (exact tR3)) | ((with_reducible apply fA_int F); exact rfl) | ((with_reducible apply fX_int F); exact rfl; exact rfl) | ((with_reducible apply fA_arr F); exact rfl) | ((with_reducible apply fS F); exact rfl; exact rfl; exact rfl; (exact tL); (exact tR3); (exact tS2); clear F; intro W F; simp only [z7, z8] at F) | ((with_reducible apply fB_int0); exact rfl))
    clear c2 c3
    have hq2 : decide (y < 0) = q := by
      have h := cb _ (F.sub (by repeat (first | exact List.Sublist.slnil | apply List.Sublist.cons_cons | apply List.Sublist.cons)))
      have h2 := BlkAt.cell (F.get (b := b2) (cs := IC y) tL) (intC_neg (decide (y < 0)) y.natAbs)
      rw [h] at h2
      injection h2 with h2
      injection h2 with h2
      exact h2.symm
    rw [← hq2] at g5
    clear hq2 cb
    try simp only [Act.put, z6, z1, z2]
    refine wp_region_slots mixP [5, 46, 47, 48, 49, 50, 51, 52, 53] (fun l mm W => ∃ (s5 s46 s47 s48 s49 s50 s51 s52 s53 : Value) (c_b4 : Array Value), mm = [s5, s46, s47, s48, s49, s50, s51, s52, s53] ∧ (l.getD 0 false = true → s46 = .pointer (some ⟨b2, 0, none⟩)) ∧ (l.getD 1 false = true → s47 = .bool (decide (y < 0))) ∧ (l.getD 2 false = true → s48 = .pointer (some ⟨b2, 1, none⟩)) ∧ (l.getD 3 false = true → s49 = .agg (limA 32 ((y).natAbs))) ∧ (l.getD 4 false = true → s50 = .pointer (some ⟨b3, 1, none⟩)) ∧ (l.getD 5 false = true → s51 = .agg (limA 32 ((x).natAbs))) ∧ (l.getD 6 false = true → s52 = .agg (limA 32 (x + y).natAbs)) ∧ (l.getD 7 false = true → s53 = .agg (IC (x + y))) ∧ (l.getD 8 false = true → c_b4 = IC (x + y)) ∧ (l.getD 9 false = true → s5 = .int .i64 0) ∧ c_b4.size = (IC (x + y)).size ∧ Fr w W [(b4, c_b4, 29), (b3, IC x, 29), (b2, IC y, 29)]) (by kernel_rfl) rfl ?_ ?_ ?_
    · exact ⟨_, _, _, _, _, _, _, _, _, (intC false 0), rfl, nf, nf, nf, nf, nf, nf, nf, nf, nf, nf, by exact tS2, F.drew⟩
    · rintro listed mm W ii hi hsz hoff ⟨s5, s46, s47, s48, s49, s50, s51, s52, s53, c_b4, rfl, h0, h1, h2, h3, h4, h5, h6, h7, h8, h9, hz0, HF⟩ hd
      have hc : ii = 0 ∨ ii = 1 ∨ ii = 2 ∨ ii = 3 ∨ ii = 4 ∨ ii = 5 ∨ ii = 6 ∨ ii = 7 ∨ ii = 8 ∨ ii = 9 := by
        have hi2 : ii < 10 := hi
        omega
      have hsz2 : listed.size = 10 := hsz
      clear hi hsz
      rcases hc with rfl | rfl | rfl | rfl | rfl | rfl | rfl | rfl | rfl | rfl
      · refine wpOp_want rfl rfl (fun K hK => ?_)
        simp only [putAll, z1, z2, z3, z4, z5]
        refine ⟨?_⟩
        go_simp
        exact hK _ _ ⟨[s5, (.pointer (some ⟨b2, 0, none⟩)), s47, s48, s49, s50, s51, s52, s53], by simp only [putAll, z1, z2], s5, (.pointer (some ⟨b2, 0, none⟩)), s47, s48, s49, s50, s51, s52, s53, c_b4, rfl, fun _ => rfl, lk h1, lk h2, lk h3, lk h4, lk h5, lk h6, lk h7, lk h8, lk h9, hz0, HF⟩
      · have d0 := h0 (hd 0 (by kernel_rfl))
        obtain rfl := d0
        refine wpOp_want rfl rfl (fun K hK => ?_)
        simp only [putAll, z1, z2, z3, z4, z5]
        have cF := BlkAt.cell (Fr.get HF (b := b2) (cs := IC y) (by (exact tL))) (intC_neg _ _)
        refine ⟨?_⟩
        go_simp
        exact hK _ _ ⟨[s5, (.pointer (some ⟨b2, 0, none⟩)), (.bool (decide (y < 0))), s48, s49, s50, s51, s52, s53], by simp only [putAll, z1, z2], s5, (.pointer (some ⟨b2, 0, none⟩)), (.bool (decide (y < 0))), s48, s49, s50, s51, s52, s53, c_b4, rfl, lk h0, fun _ => rfl, lk h2, lk h3, lk h4, lk h5, lk h6, lk h7, lk h8, lk h9, hz0, HF⟩
      · refine wpOp_want rfl rfl (fun K hK => ?_)
        simp only [putAll, z1, z2, z3, z4, z5]
        refine ⟨?_⟩
        go_simp
        exact hK _ _ ⟨[s5, s46, s47, (.pointer (some ⟨b2, 1, none⟩)), s49, s50, s51, s52, s53], by simp only [putAll, z1, z2], s5, s46, s47, (.pointer (some ⟨b2, 1, none⟩)), s49, s50, s51, s52, s53, c_b4, rfl, lk h0, lk h1, fun _ => rfl, lk h3, lk h4, lk h5, lk h6, lk h7, lk h8, lk h9, hz0, HF⟩
      · have d2 := h2 (hd 2 (by kernel_rfl))
        obtain rfl := d2
        refine wpOp_want rfl rfl (fun K hK => ?_)
        simp only [putAll, z1, z2, z3, z4, z5]
        with_reducible apply gLm HF
        · exact rfl
        · (exact tL)
        · exact IC_tail _
        · (first | (exact tR3))
        go_simp
        exact hK _ _ ⟨[s5, s46, s47, (.pointer (some ⟨b2, 1, none⟩)), (.agg (limA 32 ((y).natAbs))), s50, s51, s52, s53], by simp only [putAll, z1, z2], s5, s46, s47, (.pointer (some ⟨b2, 1, none⟩)), (.agg (limA 32 ((y).natAbs))), s50, s51, s52, s53, c_b4, rfl, lk h0, lk h1, lk h2, fun _ => rfl, lk h4, lk h5, lk h6, lk h7, lk h8, lk h9, hz0, HF⟩
      · refine wpOp_want rfl rfl (fun K hK => ?_)
        simp only [putAll, z1, z2, z3, z4, z5]
        refine ⟨?_⟩
        go_simp
        exact hK _ _ ⟨[s5, s46, s47, s48, s49, (.pointer (some ⟨b3, 1, none⟩)), s51, s52, s53], by simp only [putAll, z1, z2], s5, s46, s47, s48, s49, (.pointer (some ⟨b3, 1, none⟩)), s51, s52, s53, c_b4, rfl, lk h0, lk h1, lk h2, lk h3, fun _ => rfl, lk h5, lk h6, lk h7, lk h8, lk h9, hz0, HF⟩
      · have d4 := h4 (hd 4 (by kernel_rfl))
        obtain rfl := d4
        refine wpOp_want rfl rfl (fun K hK => ?_)
        simp only [putAll, z1, z2, z3, z4, z5]
        with_reducible apply gLm HF
        · exact rfl
        · (exact tL)
        · exact IC_tail _
        · (first | (exact tR3))
        go_simp
        exact hK _ _ ⟨[s5, s46, s47, s48, s49, (.pointer (some ⟨b3, 1, none⟩)), (.agg (limA 32 ((x).natAbs))), s52, s53], by simp only [putAll, z1, z2], s5, s46, s47, s48, s49, (.pointer (some ⟨b3, 1, none⟩)), (.agg (limA 32 ((x).natAbs))), s52, s53, c_b4, rfl, lk h0, lk h1, lk h2, lk h3, lk h4, fun _ => rfl, lk h6, lk h7, lk h8, lk h9, hz0, HF⟩
      · have d3 := h3 (hd 3 (by kernel_rfl))
        have d5 := h5 (hd 5 (by kernel_rfl))
        obtain rfl := d3
        obtain rfl := d5
        refine wpOp_want rfl rfl (fun K hK => ?_)
        simp only [putAll, z1, z2, z3, z4, z5]
        refine ⟨?_⟩
        go_simp
        with_reducible refine fr_call HF (g4 _) ?_
        clear HF
        intro W HF
        (try dsimp only)
        exact hK _ _ ⟨[s5, s46, s47, s48, (.agg (limA 32 ((y).natAbs))), s50, (.agg (limA 32 ((x).natAbs))), (.agg (limA 32 (x + y).natAbs)), s53], by simp only [putAll, z1, z2], s5, s46, s47, s48, (.agg (limA 32 ((y).natAbs))), s50, (.agg (limA 32 ((x).natAbs))), (.agg (limA 32 (x + y).natAbs)), s53, c_b4, rfl, lk h0, lk h1, lk h2, lk h3, lk h4, lk h5, fun _ => rfl, lk h7, lk h8, lk h9, hz0, HF⟩
      · have d1 := h1 (hd 1 (by kernel_rfl))
        have d6 := h6 (hd 6 (by kernel_rfl))
        obtain rfl := d1
        obtain rfl := d6
        refine wpOp_want rfl rfl (fun K hK => ?_)
        simp only [putAll, z1, z2, z3, z4, z5]
        refine ⟨?_⟩
        go_simp
        with_reducible refine fr_call HF (g5 _) ?_
        clear HF
        intro W HF
        (try dsimp only)
        exact hK _ _ ⟨[s5, s46, (.bool (decide (y < 0))), s48, s49, s50, s51, (.agg (limA 32 (x + y).natAbs)), (.agg (IC (x + y)))], by simp only [putAll, z1, z2], s5, s46, (.bool (decide (y < 0))), s48, s49, s50, s51, (.agg (limA 32 (x + y).natAbs)), (.agg (IC (x + y))), c_b4, rfl, lk h0, lk h1, lk h2, lk h3, lk h4, lk h5, lk h6, fun _ => rfl, lk h8, lk h9, hz0, HF⟩
      · have d7 := h7 (hd 7 (by kernel_rfl))
        obtain rfl := d7
        refine wpOp_want rfl rfl (fun K hK => ?_)
        simp only [putAll, z1, z2, z3, z4, z5]
        with_reducible apply gS HF
        · exact rfl
        · exact rfl
        · (exact tL)
        · (first | (exact tR3))
        · first | exact hz0 | exact tS2
        clear HF
        intro W HF
        simp only [z7, z8] at HF
        go_simp
        exact hK _ _ ⟨[s5, s46, s47, s48, s49, s50, s51, s52, (.agg (IC (x + y)))], by simp only [putAll, z1, z2], s5, s46, s47, s48, s49, s50, s51, s52, (.agg (IC (x + y))), (IC (x + y)), rfl, lk h0, lk h1, lk h2, lk h3, lk h4, lk h5, lk h6, lk h7, fun _ => rfl, lk h9, rfl, HF⟩
      · refine wpOp_want rfl rfl (fun K hK => ?_)
        simp only [putAll, z1, z2, z3, z4, z5]
        refine ⟨?_⟩
        go_simp
        exact hK _ _ ⟨[(.int .i64 0), s46, s47, s48, s49, s50, s51, s52, s53], by simp only [putAll, z1, z2], (.int .i64 0), s46, s47, s48, s49, s50, s51, s52, s53, c_b4, rfl, lk h0, lk h1, lk h2, lk h3, lk h4, lk h5, lk h6, lk h7, lk h8, fun _ => rfl, hz0, HF⟩
    rintro listed mm W ⟨s5, s46, s47, s48, s49, s50, s51, s52, s53, c_b4, rfl, h0, h1, h2, h3, h4, h5, h6, h7, h8, h9, hz0, HF⟩ hall
    obtain rfl := h0 (hall 0 (by decide))
    obtain rfl := h1 (hall 1 (by decide))
    obtain rfl := h2 (hall 2 (by decide))
    obtain rfl := h3 (hall 3 (by decide))
    obtain rfl := h4 (hall 4 (by decide))
    obtain rfl := h5 (hall 5 (by decide))
    obtain rfl := h6 (hall 6 (by decide))
    obtain rfl := h7 (hall 7 (by decide))
    rw [h8 (hall 8 (by decide))] at HF
    obtain rfl := h9 (hall 9 (by decide))
    clear hall h0 h1 h2 h3 h4 h5 h6 h7 h8 h9 hz0 F
    have F := HF
    clear HF
    simp only [putAll, z1, z2]
    go_wp2_with (first | go_skip | ((with_reducible apply fL F); exact rfl; exact rfl; (exact tL); (exact tR3)) | ((with_reducible apply fLm F); exact rfl; exact rfl; (exact tL); (exact tM3); (exact tR3)) | ((with_reducible apply fA_int F); exact rfl) | ((with_reducible apply fX_int F); exact rfl; exact rfl) | ((with_reducible apply fA_arr F); exact rfl) | ((with_reducible apply fS F); exact rfl; exact rfl; exact rfl; (exact tL); (exact tR3); (exact tS2); clear F; intro W F; simp only [z7, z8] at F) | ((with_reducible apply fB_int0); exact rfl))
    exact bodyPost_ret (res_cs rfl rfl rfl (Fr.get F tL) (rowIC _)) rfl ⟨rfl, F.below⟩
  · have hc : ¬ cmpN x.natAbs y.natAbs < 0 := by unfold cmpN; rw [if_neg hlt]; split <;> omega
    obtain ⟨c, hcc⟩ : ∃ c, cmpN x.natAbs y.natAbs = c := ⟨_, rfl⟩
    rw [hcc] at g3 hc
    have t2 : decide (c < 0) = false := decide_eq_false hc
    have hs : x.natAbs - y.natAbs = (x + y).natAbs := by
      have h1 := HX.out.2.2.2.1
      have h2 := HX.out.2.2.2.2
      cases p <;> cases q
      · exact absurd rfl hpq
      · have := of_decide_eq_false h1; have := of_decide_eq_true h2; omega
      · have := of_decide_eq_true h1; have := of_decide_eq_false h2; omega
      · exact absurd rfl hpq
    have g4 := fun w => rdiff_le HX.out.1 HX.out.2.1 (Nat.le_of_not_lt hlt) w
    rw [hs] at g4
    have g5 := fun w => rcanonZ (n := decide (x < 0)) (m := (x + y).natAbs) (x := x + y) HX.out.2.2.1 rfl (fun h => by
      rw [decide_eq_true_eq]
      have h1 := HX.out.2.2.2.1
      have h2 := HX.out.2.2.2.2
      cases p <;> cases q
      · exact absurd rfl hpq
      · have := of_decide_eq_false h1; have := of_decide_eq_true h2; omega
      · exact of_decide_eq_true h1
      · exact absurd rfl hpq) (fun h => by
      rw [decide_eq_false_iff_not]
      have h1 := HX.out.2.2.2.1
      have h2 := HX.out.2.2.2.2
      cases p <;> cases q
      · exact absurd rfl hpq
      · have := of_decide_eq_false h1; omega
      · have := of_decide_eq_true h1; have := of_decide_eq_false h2; omega
      · exact absurd rfl hpq) w
    clear hcc hc hs HX hpq hlt
    go_upto_region 9 with (first | go_skip | ((go_at_call 95); (with_reducible refine fr_call F (g3 _) ?_); (clear F; intro W F); (try dsimp only)) | ((with_reducible apply fL F); exact rfl; exact rfl; (exact tL); (exact tR3)) | ((with_reducible apply fLm F); exact rfl; exact rfl; (exact tL); (exact tM3); (exact tR3)) | ((with_reducible apply fA_int F); exact rfl) | ((with_reducible apply fX_int F); exact rfl; exact rfl) | ((with_reducible apply fA_arr F); exact rfl) | ((with_reducible apply fS F); exact rfl; exact rfl; exact rfl; (exact tL); (exact tR3); (exact tS2); clear F; intro W F; simp only [z7, z8] at F) | ((with_reducible apply fB_int0); exact rfl))
    clear c2 c3
    try simp only [Act.put, z6, z1, z2]
    refine wp_region_slots mixP [5, 46, 47, 48, 49, 50, 51, 52, 53] (fun l mm W => ∃ (s5 s46 s47 s48 s49 s50 s51 s52 s53 : Value) (c_b4 : Array Value), mm = [s5, s46, s47, s48, s49, s50, s51, s52, s53] ∧ (l.getD 0 false = true → s46 = .pointer (some ⟨b2, 0, none⟩)) ∧ (l.getD 1 false = true → s47 = .bool (decide (x < 0))) ∧ (l.getD 2 false = true → s48 = .pointer (some ⟨b2, 1, none⟩)) ∧ (l.getD 3 false = true → s49 = .agg (limA 32 ((x).natAbs))) ∧ (l.getD 4 false = true → s50 = .pointer (some ⟨b3, 1, none⟩)) ∧ (l.getD 5 false = true → s51 = .agg (limA 32 ((y).natAbs))) ∧ (l.getD 6 false = true → s52 = .agg (limA 32 (x + y).natAbs)) ∧ (l.getD 7 false = true → s53 = .agg (IC (x + y))) ∧ (l.getD 8 false = true → c_b4 = IC (x + y)) ∧ (l.getD 9 false = true → s5 = .int .i64 0) ∧ c_b4.size = (IC (x + y)).size ∧ Fr w W [(b4, c_b4, 29), (b3, IC y, 29), (b2, IC x, 29)]) (by kernel_rfl) rfl ?_ ?_ ?_
    · exact ⟨_, _, _, _, _, _, _, _, _, (intC false 0), rfl, nf, nf, nf, nf, nf, nf, nf, nf, nf, nf, by exact tS2, F.drew⟩
    · rintro listed mm W ii hi hsz hoff ⟨s5, s46, s47, s48, s49, s50, s51, s52, s53, c_b4, rfl, h0, h1, h2, h3, h4, h5, h6, h7, h8, h9, hz0, HF⟩ hd
      have hc : ii = 0 ∨ ii = 1 ∨ ii = 2 ∨ ii = 3 ∨ ii = 4 ∨ ii = 5 ∨ ii = 6 ∨ ii = 7 ∨ ii = 8 ∨ ii = 9 := by
        have hi2 : ii < 10 := hi
        omega
      have hsz2 : listed.size = 10 := hsz
      clear hi hsz
      rcases hc with rfl | rfl | rfl | rfl | rfl | rfl | rfl | rfl | rfl | rfl
      · refine wpOp_want rfl rfl (fun K hK => ?_)
        simp only [putAll, z1, z2, z3, z4, z5]
        refine ⟨?_⟩
        go_simp
        exact hK _ _ ⟨[s5, (.pointer (some ⟨b2, 0, none⟩)), s47, s48, s49, s50, s51, s52, s53], by simp only [putAll, z1, z2], s5, (.pointer (some ⟨b2, 0, none⟩)), s47, s48, s49, s50, s51, s52, s53, c_b4, rfl, fun _ => rfl, lk h1, lk h2, lk h3, lk h4, lk h5, lk h6, lk h7, lk h8, lk h9, hz0, HF⟩
      · have d0 := h0 (hd 0 (by kernel_rfl))
        obtain rfl := d0
        refine wpOp_want rfl rfl (fun K hK => ?_)
        simp only [putAll, z1, z2, z3, z4, z5]
        have cF := BlkAt.cell (Fr.get HF (b := b2) (cs := IC x) (by (exact tL))) (intC_neg _ _)
        refine ⟨?_⟩
        go_simp
        exact hK _ _ ⟨[s5, (.pointer (some ⟨b2, 0, none⟩)), (.bool (decide (x < 0))), s48, s49, s50, s51, s52, s53], by simp only [putAll, z1, z2], s5, (.pointer (some ⟨b2, 0, none⟩)), (.bool (decide (x < 0))), s48, s49, s50, s51, s52, s53, c_b4, rfl, lk h0, fun _ => rfl, lk h2, lk h3, lk h4, lk h5, lk h6, lk h7, lk h8, lk h9, hz0, HF⟩
      · refine wpOp_want rfl rfl (fun K hK => ?_)
        simp only [putAll, z1, z2, z3, z4, z5]
        refine ⟨?_⟩
        go_simp
        exact hK _ _ ⟨[s5, s46, s47, (.pointer (some ⟨b2, 1, none⟩)), s49, s50, s51, s52, s53], by simp only [putAll, z1, z2], s5, s46, s47, (.pointer (some ⟨b2, 1, none⟩)), s49, s50, s51, s52, s53, c_b4, rfl, lk h0, lk h1, fun _ => rfl, lk h3, lk h4, lk h5, lk h6, lk h7, lk h8, lk h9, hz0, HF⟩
      · have d2 := h2 (hd 2 (by kernel_rfl))
        obtain rfl := d2
        refine wpOp_want rfl rfl (fun K hK => ?_)
        simp only [putAll, z1, z2, z3, z4, z5]
        with_reducible apply gLm HF
        · exact rfl
        · (exact tL)
        · exact IC_tail _
        · (first | (exact tR3))
        go_simp
        exact hK _ _ ⟨[s5, s46, s47, (.pointer (some ⟨b2, 1, none⟩)), (.agg (limA 32 ((x).natAbs))), s50, s51, s52, s53], by simp only [putAll, z1, z2], s5, s46, s47, (.pointer (some ⟨b2, 1, none⟩)), (.agg (limA 32 ((x).natAbs))), s50, s51, s52, s53, c_b4, rfl, lk h0, lk h1, lk h2, fun _ => rfl, lk h4, lk h5, lk h6, lk h7, lk h8, lk h9, hz0, HF⟩
      · refine wpOp_want rfl rfl (fun K hK => ?_)
        simp only [putAll, z1, z2, z3, z4, z5]
        refine ⟨?_⟩
        go_simp
        exact hK _ _ ⟨[s5, s46, s47, s48, s49, (.pointer (some ⟨b3, 1, none⟩)), s51, s52, s53], by simp only [putAll, z1, z2], s5, s46, s47, s48, s49, (.pointer (some ⟨b3, 1, none⟩)), s51, s52, s53, c_b4, rfl, lk h0, lk h1, lk h2, lk h3, fun _ => rfl, lk h5, lk h6, lk h7, lk h8, lk h9, hz0, HF⟩
      · have d4 := h4 (hd 4 (by kernel_rfl))
        obtain rfl := d4
        refine wpOp_want rfl rfl (fun K hK => ?_)
        simp only [putAll, z1, z2, z3, z4, z5]
        with_reducible apply gLm HF
        · exact rfl
        · (exact tL)
        · exact IC_tail _
        · (first | (exact tR3))
        go_simp
        exact hK _ _ ⟨[s5, s46, s47, s48, s49, (.pointer (some ⟨b3, 1, none⟩)), (.agg (limA 32 ((y).natAbs))), s52, s53], by simp only [putAll, z1, z2], s5, s46, s47, s48, s49, (.pointer (some ⟨b3, 1, none⟩)), (.agg (limA 32 ((y).natAbs))), s52, s53, c_b4, rfl, lk h0, lk h1, lk h2, lk h3, lk h4, fun _ => rfl, lk h6, lk h7, lk h8, lk h9, hz0, HF⟩
      · have d3 := h3 (hd 3 (by kernel_rfl))
        have d5 := h5 (hd 5 (by kernel_rfl))
        obtain rfl := d3
        obtain rfl := d5
        refine wpOp_want rfl rfl (fun K hK => ?_)
        simp only [putAll, z1, z2, z3, z4, z5]
        refine ⟨?_⟩
        go_simp
        with_reducible refine fr_call HF (g4 _) ?_
        clear HF
        intro W HF
        (try dsimp only)
        exact hK _ _ ⟨[s5, s46, s47, s48, (.agg (limA 32 ((x).natAbs))), s50, (.agg (limA 32 ((y).natAbs))), (.agg (limA 32 (x + y).natAbs)), s53], by simp only [putAll, z1, z2], s5, s46, s47, s48, (.agg (limA 32 ((x).natAbs))), s50, (.agg (limA 32 ((y).natAbs))), (.agg (limA 32 (x + y).natAbs)), s53, c_b4, rfl, lk h0, lk h1, lk h2, lk h3, lk h4, lk h5, fun _ => rfl, lk h7, lk h8, lk h9, hz0, HF⟩
      · have d1 := h1 (hd 1 (by kernel_rfl))
        have d6 := h6 (hd 6 (by kernel_rfl))
        obtain rfl := d1
        obtain rfl := d6
        refine wpOp_want rfl rfl (fun K hK => ?_)
        simp only [putAll, z1, z2, z3, z4, z5]
        refine ⟨?_⟩
        go_simp
        with_reducible refine fr_call HF (g5 _) ?_
        clear HF
        intro W HF
        (try dsimp only)
        exact hK _ _ ⟨[s5, s46, (.bool (decide (x < 0))), s48, s49, s50, s51, (.agg (limA 32 (x + y).natAbs)), (.agg (IC (x + y)))], by simp only [putAll, z1, z2], s5, s46, (.bool (decide (x < 0))), s48, s49, s50, s51, (.agg (limA 32 (x + y).natAbs)), (.agg (IC (x + y))), c_b4, rfl, lk h0, lk h1, lk h2, lk h3, lk h4, lk h5, lk h6, fun _ => rfl, lk h8, lk h9, hz0, HF⟩
      · have d7 := h7 (hd 7 (by kernel_rfl))
        obtain rfl := d7
        refine wpOp_want rfl rfl (fun K hK => ?_)
        simp only [putAll, z1, z2, z3, z4, z5]
        with_reducible apply gS HF
        · exact rfl
        · exact rfl
        · (exact tL)
        · (first | (exact tR3))
        · first | exact hz0 | exact tS2
        clear HF
        intro W HF
        simp only [z7, z8] at HF
        go_simp
        exact hK _ _ ⟨[s5, s46, s47, s48, s49, s50, s51, s52, (.agg (IC (x + y)))], by simp only [putAll, z1, z2], s5, s46, s47, s48, s49, s50, s51, s52, (.agg (IC (x + y))), (IC (x + y)), rfl, lk h0, lk h1, lk h2, lk h3, lk h4, lk h5, lk h6, lk h7, fun _ => rfl, lk h9, rfl, HF⟩
      · refine wpOp_want rfl rfl (fun K hK => ?_)
        simp only [putAll, z1, z2, z3, z4, z5]
        refine ⟨?_⟩
        go_simp
        exact hK _ _ ⟨[(.int .i64 0), s46, s47, s48, s49, s50, s51, s52, s53], by simp only [putAll, z1, z2], (.int .i64 0), s46, s47, s48, s49, s50, s51, s52, s53, c_b4, rfl, lk h0, lk h1, lk h2, lk h3, lk h4, lk h5, lk h6, lk h7, lk h8, fun _ => rfl, hz0, HF⟩
    rintro listed mm W ⟨s5, s46, s47, s48, s49, s50, s51, s52, s53, c_b4, rfl, h0, h1, h2, h3, h4, h5, h6, h7, h8, h9, hz0, HF⟩ hall
    obtain rfl := h0 (hall 0 (by decide))
    obtain rfl := h1 (hall 1 (by decide))
    obtain rfl := h2 (hall 2 (by decide))
    obtain rfl := h3 (hall 3 (by decide))
    obtain rfl := h4 (hall 4 (by decide))
    obtain rfl := h5 (hall 5 (by decide))
    obtain rfl := h6 (hall 6 (by decide))
    obtain rfl := h7 (hall 7 (by decide))
    rw [h8 (hall 8 (by decide))] at HF
    obtain rfl := h9 (hall 9 (by decide))
    clear hall h0 h1 h2 h3 h4 h5 h6 h7 h8 h9 hz0 F
    have F := HF
    clear HF
    simp only [putAll, z1, z2]
    go_wp2_with (first | go_skip | ((with_reducible apply fL F); exact rfl; exact rfl; (exact tL); (exact tR3)) | ((with_reducible apply fLm F); exact rfl; exact rfl; (exact tL); (exact tM3); (exact tR3)) | ((with_reducible apply fA_int F); exact rfl) | ((with_reducible apply fX_int F); exact rfl; exact rfl) | ((with_reducible apply fA_arr F); exact rfl) | ((with_reducible apply fS F); exact rfl; exact rfl; exact rfl; (exact tL); (exact tR3); (exact tS2); clear F; intro W F; simp only [z7, z8] at F) | ((with_reducible apply fB_int0); exact rfl))
    exact bodyPost_ret (res_cs rfl rfl rfl (Fr.get F tL) (rowIC _)) rfl ⟨rfl, F.below⟩
end
section
open Go.RowKit
set_option maxHeartbeats 4000000
section
variable {n d m e : Int} {r : Int × Int × Int}
theorem rwholeR (h1 : -9223372036854775808 ≤ n) (h2 : n < 9223372036854775808) (w : World) : Calls Tryz.prog 36 #[.int .i64 n] w (RetB (.agg (RC n 1)) w) := by
  have F := Fr.start w
  have g1 := fun w => rfromZ h1 h2 w
  have g2 := fun w => rfromZ (n := 1) (by decide) (by decide) w
  clear h1 h2
  go_enter Tryz.func36, Tryz.ntmps36
  go_wp2_with (first | go_skip | ((with_reducible apply fA_rat F); exact rfl) | ((with_reducible apply fS F); exact rfl; exact rfl; exact rfl; (exact tL); (exact tR3); (exact tS2); clear F; intro W F; simp only [z7, z8] at F) | ((with_reducible apply fB_rat); exact rfl; exact rfl; exact rfl))
  (clear F; intro b2 W F; try simp only [Act.put, z6, z1, z2])
  go_wp2_with (first | go_skip | ((go_at_call 80); (with_reducible refine fr_call F (g1 _) ?_); (clear F; intro W F); (try dsimp only)) | ((go_at_call 80); (with_reducible refine fr_call F (g2 _) ?_); (clear F; intro W F); (try dsimp only)) | ((with_reducible apply fA_rat F); exact rfl) | ((with_reducible apply fS F); exact rfl; exact rfl; exact rfl; (exact tL); (exact tR3); (exact tS2); clear F; intro W F; simp only [z7, z8] at F) | ((with_reducible apply fB_rat); exact rfl; exact rfl; exact rfl))
  exact bodyPost_ret (res_c rfl rfl (Fr.get F tL) (rowRC _ _)) rfl ⟨rfl, F.below⟩
end
end
end Go.Proofs.YtpaodheilchfnaaGreatDoor
