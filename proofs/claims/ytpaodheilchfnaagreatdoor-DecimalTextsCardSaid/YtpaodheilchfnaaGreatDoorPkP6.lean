/-
  What the laws lean on.
-/
import Derived.Test.YtpaodheilchfnaaGreatDoorPkP5
namespace Go.Proofs.YtpaodheilchfnaaGreatDoor
set_option linter.unusedVariables false
set_option linter.unusedSimpArgs false
section
open Go.RowKit
set_option maxHeartbeats 2000000
theorem Fr.push {w W W' : World} {L : List Ent} {b : Nat} {cs : Array Value} {t : TypeId} (h : Fr w W L) (hb : Below W.heap.size W W') (hB : W.heap.size ≤ b) (hk : BlkAt W' b cs t) : Fr w W' ((b, cs, t) :: L) := by
  have h2 := h.next hb
  refine ⟨h2.below, fun x hx => ?_, fun x hx => ?_, ?_⟩
  · rcases List.mem_cons.1 hx with rfl | hx
    · exact hk
    · exact h2.blk x hx
  · rcases List.mem_cons.1 hx with rfl | hx
    · exact Nat.le_trans h.below.size hB
    · exact h.own x hx
  · rw [List.map_cons, List.nodup_cons]
    refine ⟨fun hm => ?_, h.dis⟩
    obtain ⟨y, hy, he⟩ := List.mem_map.1 hm
    have := (h.blk y hy).lt
    omega
set_option maxRecDepth 100000 in
theorem combine_any (m : Bool) (w : World) : Calls Tryz.prog 107 #[.bool m] w (fun e w' => ∃ b, e = .returned (.func (.func 153) #[] #[.pointer (some ⟨b, 0, none⟩)]) ∧ Below w.heap.size w w' ∧ w.heap.size ≤ b ∧ BlkAt w' b #[.bool m] 4) := by
  go_enter Tryz.func107, Tryz.ntmps107
  go_wp2_with fail
  go_ret
  exact ⟨_, rfl, bal0 _ _, Nat.le_refl _, BlkAt.new _ _ _⟩
set_option maxRecDepth 100000 in
theorem addF {n d m e : Int} (hn : n.natAbs < bp 15) (hd : d.natAbs < bp 15) (hm : m.natAbs < bp 15) (he : e.natAbs < bp 15) {k : Nat} {w : World} (hk : BlkAt w k #[.bool false] 4) : Calls Tryz.prog 153 #[.agg (RC n d), .agg (RC m e), .pointer (some ⟨k, 0, none⟩)] w (RetB (.tuple #[.agg (IC (n * e + m * d)), .agg (IC (d * e))]) w) := by
  have F := Fr.start w
  have g1 := fun w => productZ (b15 hm) (b15 hd) (b30 hm hd) w
  have g2 := fun w => productZ (b15 hn) (b15 he) (b30 hn he) w
  have g3 := fun w => addZ (b30 hn he) (b30 hm hd) (b31 (b30' hn he) (b30' hm hd)) w
  have g4 := fun w => productZ (b15 hd) (b15 he) (b30 hd he) w
  have HB : Hid (∀ {W : World} {L : List Ent}, Fr w W L → W.cell? ⟨k, 0, none⟩ = some (.bool false)) := Lib.hid (fun F => (hk.under F.below hk.lt).cell rfl)
  clear hn hd hm he hk
  go_enter Tryz.func153, Tryz.ntmps153
  go_wp2_with (first | go_skip | ((with_reducible apply fL F); exact rfl; exact rfl; (exact tL); (exact tR2)) | ((with_reducible apply fLm F); exact rfl; exact rfl; (exact tL); (exact tM2); (exact tR2)) | ((with_reducible apply fA_int F); exact rfl) | ((with_reducible apply fX_rat F); exact rfl; exact rfl) | ((with_reducible apply fS F); exact rfl; exact rfl; exact rfl; (exact tL); (exact tR2); (exact tS2); clear F; intro W F; simp only [List.cons_append, List.nil_append] at F))
  (clear F; intro b3 W F; try simp only [Act.put, List.setIfInBounds_toArray, List.set_cons_zero, List.set_cons_succ])
  go_wp2_with (first | go_skip | ((with_reducible apply fL F); exact rfl; exact rfl; (exact tL); (exact tR2)) | ((with_reducible apply fLm F); exact rfl; exact rfl; (exact tL); (exact tM2); (exact tR2)) | ((with_reducible apply fA_int F); exact rfl) | ((with_reducible apply fX_rat F); exact rfl; exact rfl) | ((with_reducible apply fS F); exact rfl; exact rfl; exact rfl; (exact tL); (exact tR2); (exact tS2); clear F; intro W F; simp only [List.cons_append, List.nil_append] at F))
  (clear F; intro b4 W F; try simp only [Act.put, List.setIfInBounds_toArray, List.set_cons_zero, List.set_cons_succ])
  go_wp2_with (first | go_skip | ((with_reducible apply fL F); exact rfl; exact rfl; (exact tL); (exact tR2)) | ((with_reducible apply fLm F); exact rfl; exact rfl; (exact tL); (exact tM2); (exact tR2)) | ((with_reducible apply fA_int F); exact rfl) | ((with_reducible apply fX_rat F); exact rfl; exact rfl) | ((with_reducible apply fS F); exact rfl; exact rfl; exact rfl; (exact tL); (exact tR2); (exact tS2); clear F; intro W F; simp only [List.cons_append, List.nil_append] at F))
  (clear F; intro b5 W F; try simp only [Act.put, List.setIfInBounds_toArray, List.set_cons_zero, List.set_cons_succ])
  go_wp2_with (first | go_skip | ((with_reducible apply fL F); exact rfl; exact rfl; (exact tL); (exact tR2)) | ((with_reducible apply fLm F); exact rfl; exact rfl; (exact tL); (exact tM2); (exact tR2)) | ((with_reducible apply fA_int F); exact rfl) | ((with_reducible apply fX_rat F); exact rfl; exact rfl) | ((with_reducible apply fS F); exact rfl; exact rfl; exact rfl; (exact tL); (exact tR2); (exact tS2); clear F; intro W F; simp only [List.cons_append, List.nil_append] at F))
  (clear F; intro b6 W F; try simp only [Act.put, List.setIfInBounds_toArray, List.set_cons_zero, List.set_cons_succ])
  go_wp2_with (first | go_skip | ((go_at_call 112); (with_reducible refine fr_call F (g1 _) ?_); (clear F; intro W F); (try dsimp only)) | ((with_reducible apply fL F); exact rfl; exact rfl; (exact tL); (exact tR2)) | ((with_reducible apply fLm F); exact rfl; exact rfl; (exact tL); (exact tM2); (exact tR2)) | ((with_reducible apply fA_int F); exact rfl) | ((with_reducible apply fX_rat F); exact rfl; exact rfl) | ((with_reducible apply fS F); exact rfl; exact rfl; exact rfl; (exact tL); (exact tR2); (exact tS2); clear F; intro W F; simp only [List.cons_append, List.nil_append] at F))
  (clear F; intro b7 W F; try simp only [Act.put, List.setIfInBounds_toArray, List.set_cons_zero, List.set_cons_succ])
  go_upto_region 2 with (first | go_skip | ((with_reducible apply fL F); exact rfl; exact rfl; (exact tL); (exact tR2)) | ((with_reducible apply fLm F); exact rfl; exact rfl; (exact tL); (exact tM2); (exact tR2)) | ((with_reducible apply fA_int F); exact rfl) | ((with_reducible apply fX_rat F); exact rfl; exact rfl) | ((with_reducible apply fS F); exact rfl; exact rfl; exact rfl; (exact tL); (exact tR2); (exact tS2); clear F; intro W F; simp only [List.cons_append, List.nil_append] at F))
  have c2 := HB.out F
  go_wp2_with (first | go_skip | ((with_reducible apply fL F); exact rfl; exact rfl; (exact tL); (exact tR2)) | ((with_reducible apply fLm F); exact rfl; exact rfl; (exact tL); (exact tM2); (exact tR2)) | ((with_reducible apply fA_int F); exact rfl) | ((with_reducible apply fX_rat F); exact rfl; exact rfl) | ((with_reducible apply fS F); exact rfl; exact rfl; exact rfl; (exact tL); (exact tR2); (exact tS2); clear F; intro W F; simp only [List.cons_append, List.nil_append] at F))
  clear c2
  try simp only [Act.put, List.setIfInBounds_toArray, List.set_cons_zero, List.set_cons_succ]
  have hpl : Tryz.prog.follows .mixedOrders = true := by kernel_rfl
  refine wp_region_slots hpl [16, 17, 18, 19, 20, 21, 22, 23, 24, 25] (fun l mm W => ∃ (s16 s17 s18 s19 s20 s21 s22 s23 s24 s25 : Value) (c_b5 : Array Value), mm = [s16, s17, s18, s19, s20, s21, s22, s23, s24, s25] ∧ (l.getD 0 false = true → s17 = .pointer (some ⟨b3, 0, none⟩)) ∧ (l.getD 1 false = true → s18 = .agg (IC n)) ∧ (l.getD 2 false = true → s19 = .pointer (some ⟨b4, 33, none⟩)) ∧ (l.getD 3 false = true → s20 = .agg (IC e)) ∧ (l.getD 4 false = true → s21 = .agg (IC (n * e))) ∧ (l.getD 5 false = true → s22 = .agg (IC (m * d))) ∧ (l.getD 6 false = true → s23 = .tuple #[.agg (IC (n * e + m * d)), .int .i64 0]) ∧ (l.getD 7 false = true → s16 = .tuple #[.agg (IC (n * e + m * d)), .int .i64 0]) ∧ (l.getD 8 false = true → s24 = .agg (IC (n * e + m * d))) ∧ (l.getD 9 false = true → s25 = .int .i64 0) ∧ (l.getD 10 false = true → c_b5 = IC (n * e + m * d)) ∧ c_b5.size = (IC (n * e + m * d)).size ∧ Fr w W [(b7, IC (m * d), 29), (b6, intC false 0, 29), (b5, c_b5, 29), (b4, RC m e, 31), (b3, RC n d, 31)]) (by kernel_rfl) rfl ?_ ?_ ?_
  · exact ⟨_, _, _, _, _, _, _, _, _, _, (intC false 0), rfl, fun h => absurd h (by decide), fun h => absurd h (by decide), fun h => absurd h (by decide), fun h => absurd h (by decide), fun h => absurd h (by decide), fun h => absurd h (by decide), fun h => absurd h (by decide), fun h => absurd h (by decide), fun h => absurd h (by decide), fun h => absurd h (by decide), fun h => absurd h (by decide), by first | (focus (simp only [IC_size, intC_size, limA_size, RC_size, ratC_size]; done)) | exact rfl, F.drew⟩
  · rintro listed mm W ii hi hsz hoff ⟨s16, s17, s18, s19, s20, s21, s22, s23, s24, s25, c_b5, rfl, h0, h1, h2, h3, h4, h5, h6, h7, h8, h9, h10, hz0, HF⟩ hd
    have hc : ii = 0 ∨ ii = 1 ∨ ii = 2 ∨ ii = 3 ∨ ii = 4 ∨ ii = 5 ∨ ii = 6 ∨ ii = 7 ∨ ii = 8 ∨ ii = 9 ∨ ii = 10 := by
      have hi2 : ii < 11 := hi
      omega
    have hsz2 : listed.size = 11 := hsz
    clear hi hsz
    rcases hc with rfl | rfl | rfl | rfl | rfl | rfl | rfl | rfl | rfl | rfl | rfl
    · refine wpOp_want rfl rfl (fun K hK => ?_)
      simp only [putAll, List.set_cons_zero, List.set_cons_succ, List.getElem_toArray, List.getElem_cons_succ, List.getElem_cons_zero]
      refine ⟨?_⟩
      go_simp
      exact hK _ _ ⟨[s16, (.pointer (some ⟨b3, 0, none⟩)), s18, s19, s20, s21, s22, s23, s24, s25], by simp only [putAll, List.set_cons_zero, List.set_cons_succ], s16, (.pointer (some ⟨b3, 0, none⟩)), s18, s19, s20, s21, s22, s23, s24, s25, c_b5, rfl, fun _ => rfl, lk h1, lk h2, lk h3, lk h4, lk h5, lk h6, lk h7, lk h8, lk h9, lk h10, hz0, HF⟩
    · have d0 := h0 (hd 0 (by kernel_rfl))
      obtain rfl := d0
      refine wpOp_want rfl rfl (fun K hK => ?_)
      simp only [putAll, List.set_cons_zero, List.set_cons_succ, List.getElem_toArray, List.getElem_cons_succ, List.getElem_cons_zero]
      with_reducible apply gLm HF
      · exact rfl
      · (exact tL)
      · exact RC_num _ _
      · (first | (exact tR2))
      go_simp
      exact hK _ _ ⟨[s16, (.pointer (some ⟨b3, 0, none⟩)), (.agg (IC n)), s19, s20, s21, s22, s23, s24, s25], by simp only [putAll, List.set_cons_zero, List.set_cons_succ], s16, (.pointer (some ⟨b3, 0, none⟩)), (.agg (IC n)), s19, s20, s21, s22, s23, s24, s25, c_b5, rfl, lk h0, fun _ => rfl, lk h2, lk h3, lk h4, lk h5, lk h6, lk h7, lk h8, lk h9, lk h10, hz0, HF⟩
    · refine wpOp_want rfl rfl (fun K hK => ?_)
      simp only [putAll, List.set_cons_zero, List.set_cons_succ, List.getElem_toArray, List.getElem_cons_succ, List.getElem_cons_zero]
      refine ⟨?_⟩
      go_simp
      exact hK _ _ ⟨[s16, s17, s18, (.pointer (some ⟨b4, 33, none⟩)), s20, s21, s22, s23, s24, s25], by simp only [putAll, List.set_cons_zero, List.set_cons_succ], s16, s17, s18, (.pointer (some ⟨b4, 33, none⟩)), s20, s21, s22, s23, s24, s25, c_b5, rfl, lk h0, lk h1, fun _ => rfl, lk h3, lk h4, lk h5, lk h6, lk h7, lk h8, lk h9, lk h10, hz0, HF⟩
    · have d2 := h2 (hd 2 (by kernel_rfl))
      obtain rfl := d2
      refine wpOp_want rfl rfl (fun K hK => ?_)
      simp only [putAll, List.set_cons_zero, List.set_cons_succ, List.getElem_toArray, List.getElem_cons_succ, List.getElem_cons_zero]
      with_reducible apply gLm HF
      · exact rfl
      · (exact tL)
      · exact RC_den _ _
      · (first | (exact tR2))
      go_simp
      exact hK _ _ ⟨[s16, s17, s18, (.pointer (some ⟨b4, 33, none⟩)), (.agg (IC e)), s21, s22, s23, s24, s25], by simp only [putAll, List.set_cons_zero, List.set_cons_succ], s16, s17, s18, (.pointer (some ⟨b4, 33, none⟩)), (.agg (IC e)), s21, s22, s23, s24, s25, c_b5, rfl, lk h0, lk h1, lk h2, fun _ => rfl, lk h4, lk h5, lk h6, lk h7, lk h8, lk h9, lk h10, hz0, HF⟩
    · have d1 := h1 (hd 1 (by kernel_rfl))
      have d3 := h3 (hd 3 (by kernel_rfl))
      obtain rfl := d1
      obtain rfl := d3
      refine wpOp_want rfl rfl (fun K hK => ?_)
      simp only [putAll, List.set_cons_zero, List.set_cons_succ, List.getElem_toArray, List.getElem_cons_succ, List.getElem_cons_zero]
      refine ⟨?_⟩
      go_simp
      with_reducible refine fr_call HF (g2 _) ?_
      clear HF
      intro W HF
      (try dsimp only)
      exact hK _ _ ⟨[s16, s17, (.agg (IC n)), s19, (.agg (IC e)), (.agg (IC (n * e))), s22, s23, s24, s25], by simp only [putAll, List.set_cons_zero, List.set_cons_succ], s16, s17, (.agg (IC n)), s19, (.agg (IC e)), (.agg (IC (n * e))), s22, s23, s24, s25, c_b5, rfl, lk h0, lk h1, lk h2, lk h3, fun _ => rfl, lk h5, lk h6, lk h7, lk h8, lk h9, lk h10, hz0, HF⟩
    · refine wpOp_want rfl rfl (fun K hK => ?_)
      simp only [putAll, List.set_cons_zero, List.set_cons_succ, List.getElem_toArray, List.getElem_cons_succ, List.getElem_cons_zero]
      with_reducible apply gL HF
      · exact rfl
      · (exact tL)
      · (first | (exact tR2))
      go_simp
      exact hK _ _ ⟨[s16, s17, s18, s19, s20, s21, (.agg (IC (m * d))), s23, s24, s25], by simp only [putAll, List.set_cons_zero, List.set_cons_succ], s16, s17, s18, s19, s20, s21, (.agg (IC (m * d))), s23, s24, s25, c_b5, rfl, lk h0, lk h1, lk h2, lk h3, lk h4, fun _ => rfl, lk h6, lk h7, lk h8, lk h9, lk h10, hz0, HF⟩
    · have d4 := h4 (hd 4 (by kernel_rfl))
      have d5 := h5 (hd 5 (by kernel_rfl))
      obtain rfl := d4
      obtain rfl := d5
      refine wpOp_want rfl rfl (fun K hK => ?_)
      simp only [putAll, List.set_cons_zero, List.set_cons_succ, List.getElem_toArray, List.getElem_cons_succ, List.getElem_cons_zero]
      refine ⟨?_⟩
      go_simp
      with_reducible refine fr_call HF (g3 _) ?_
      clear HF
      intro W HF
      (try dsimp only)
      exact hK _ _ ⟨[s16, s17, s18, s19, s20, (.agg (IC (n * e))), (.agg (IC (m * d))), (.tuple #[.agg (IC (n * e + m * d)), .int .i64 0]), s24, s25], by simp only [putAll, List.set_cons_zero, List.set_cons_succ], s16, s17, s18, s19, s20, (.agg (IC (n * e))), (.agg (IC (m * d))), (.tuple #[.agg (IC (n * e + m * d)), .int .i64 0]), s24, s25, c_b5, rfl, lk h0, lk h1, lk h2, lk h3, lk h4, lk h5, fun _ => rfl, lk h7, lk h8, lk h9, lk h10, hz0, HF⟩
    · have d6 := h6 (hd 6 (by kernel_rfl))
      obtain rfl := d6
      refine wpOp_want rfl rfl (fun K hK => ?_)
      simp only [putAll, List.set_cons_zero, List.set_cons_succ, List.getElem_toArray, List.getElem_cons_succ, List.getElem_cons_zero]
      refine ⟨?_⟩
      go_simp
      exact hK _ _ ⟨[(.tuple #[.agg (IC (n * e + m * d)), .int .i64 0]), s17, s18, s19, s20, s21, s22, (.tuple #[.agg (IC (n * e + m * d)), .int .i64 0]), s24, s25], by simp only [putAll, List.set_cons_zero, List.set_cons_succ], (.tuple #[.agg (IC (n * e + m * d)), .int .i64 0]), s17, s18, s19, s20, s21, s22, (.tuple #[.agg (IC (n * e + m * d)), .int .i64 0]), s24, s25, c_b5, rfl, lk h0, lk h1, lk h2, lk h3, lk h4, lk h5, lk h6, fun _ => rfl, lk h8, lk h9, lk h10, hz0, HF⟩
    · have d7 := h7 (hd 7 (by kernel_rfl))
      obtain rfl := d7
      refine wpOp_want rfl rfl (fun K hK => ?_)
      simp only [putAll, List.set_cons_zero, List.set_cons_succ, List.getElem_toArray, List.getElem_cons_succ, List.getElem_cons_zero]
      refine ⟨?_⟩
      go_simp
      exact hK _ _ ⟨[(.tuple #[.agg (IC (n * e + m * d)), .int .i64 0]), s17, s18, s19, s20, s21, s22, s23, (.agg (IC (n * e + m * d))), s25], by simp only [putAll, List.set_cons_zero, List.set_cons_succ], (.tuple #[.agg (IC (n * e + m * d)), .int .i64 0]), s17, s18, s19, s20, s21, s22, s23, (.agg (IC (n * e + m * d))), s25, c_b5, rfl, lk h0, lk h1, lk h2, lk h3, lk h4, lk h5, lk h6, lk h7, fun _ => rfl, lk h9, lk h10, hz0, HF⟩
    · have d7 := h7 (hd 7 (by kernel_rfl))
      obtain rfl := d7
      refine wpOp_want rfl rfl (fun K hK => ?_)
      simp only [putAll, List.set_cons_zero, List.set_cons_succ, List.getElem_toArray, List.getElem_cons_succ, List.getElem_cons_zero]
      refine ⟨?_⟩
      go_simp
      exact hK _ _ ⟨[(.tuple #[.agg (IC (n * e + m * d)), .int .i64 0]), s17, s18, s19, s20, s21, s22, s23, s24, (.int .i64 0)], by simp only [putAll, List.set_cons_zero, List.set_cons_succ], (.tuple #[.agg (IC (n * e + m * d)), .int .i64 0]), s17, s18, s19, s20, s21, s22, s23, s24, (.int .i64 0), c_b5, rfl, lk h0, lk h1, lk h2, lk h3, lk h4, lk h5, lk h6, lk h7, lk h8, fun _ => rfl, lk h10, hz0, HF⟩
    · have d8 := h8 (hd 8 (by kernel_rfl))
      obtain rfl := d8
      refine wpOp_want rfl rfl (fun K hK => ?_)
      simp only [putAll, List.set_cons_zero, List.set_cons_succ, List.getElem_toArray, List.getElem_cons_succ, List.getElem_cons_zero]
      with_reducible apply gS HF
      · exact rfl
      · exact rfl
      · (exact tL)
      · (first | (exact tR2))
      · first | exact hz0 | first | (focus (simp only [IC_size, intC_size, limA_size, RC_size, ratC_size]; done)) | exact rfl
      clear HF
      intro W HF
      simp only [List.cons_append, List.nil_append] at HF
      go_simp
      exact hK _ _ ⟨[s16, s17, s18, s19, s20, s21, s22, s23, (.agg (IC (n * e + m * d))), s25], by simp only [putAll, List.set_cons_zero, List.set_cons_succ], s16, s17, s18, s19, s20, s21, s22, s23, (.agg (IC (n * e + m * d))), s25, (IC (n * e + m * d)), rfl, lk h0, lk h1, lk h2, lk h3, lk h4, lk h5, lk h6, lk h7, lk h8, lk h9, fun _ => rfl, rfl, HF⟩
  rintro listed mm W ⟨s16, s17, s18, s19, s20, s21, s22, s23, s24, s25, c_b5, rfl, h0, h1, h2, h3, h4, h5, h6, h7, h8, h9, h10, hz0, HF⟩ hall
  obtain rfl := h0 (hall 0 (by decide))
  obtain rfl := h1 (hall 1 (by decide))
  obtain rfl := h2 (hall 2 (by decide))
  obtain rfl := h3 (hall 3 (by decide))
  obtain rfl := h4 (hall 4 (by decide))
  obtain rfl := h5 (hall 5 (by decide))
  obtain rfl := h6 (hall 6 (by decide))
  obtain rfl := h7 (hall 7 (by decide))
  obtain rfl := h8 (hall 8 (by decide))
  obtain rfl := h9 (hall 9 (by decide))
  rw [h10 (hall 10 (by decide))] at HF
  clear hall h0 h1 h2 h3 h4 h5 h6 h7 h8 h9 h10 hz0 F
  have F := HF
  clear HF
  simp only [putAll, List.set_cons_zero, List.set_cons_succ]
  go_wp2_with (first | go_skip | ((with_reducible apply fL F); exact rfl; exact rfl; (exact tL); (exact tR2)) | ((with_reducible apply fLm F); exact rfl; exact rfl; (exact tL); (exact tM2); (exact tR2)) | ((with_reducible apply fA_int F); exact rfl) | ((with_reducible apply fX_rat F); exact rfl; exact rfl) | ((with_reducible apply fS F); exact rfl; exact rfl; exact rfl; (exact tL); (exact tR2); (exact tS2); clear F; intro W F; simp only [List.cons_append, List.nil_append] at F))
  try simp only [Act.put, List.setIfInBounds_toArray, List.set_cons_zero, List.set_cons_succ]
  have hpl : Tryz.prog.follows .mixedOrders = true := by kernel_rfl
  refine wp_region_slots hpl [26, 27, 28, 29, 30, 31] (fun l mm W => ∃ (s26 s27 s28 s29 s30 s31 : Value) (c_b5 c_b6 : Array Value), mm = [s26, s27, s28, s29, s30, s31] ∧ (l.getD 0 false = true → s26 = .agg (IC (n * e + m * d))) ∧ (l.getD 1 false = true → s27 = .pointer (some ⟨b3, 33, none⟩)) ∧ (l.getD 2 false = true → s28 = .agg (IC d)) ∧ (l.getD 3 false = true → s29 = .pointer (some ⟨b4, 33, none⟩)) ∧ (l.getD 4 false = true → s30 = .agg (IC e)) ∧ (l.getD 5 false = true → s31 = .agg (IC (d * e))) ∧ (l.getD 6 false = true → c_b5 = IC (n * e + m * d)) ∧ (l.getD 7 false = true → c_b6 = IC (d * e)) ∧ (l.getD 6 false = false → c_b5 = IC (n * e + m * d)) ∧ (l.getD 6 false = true → l.getD 0 false = true) ∧ c_b5.size = (IC (n * e + m * d)).size ∧ c_b6.size = (IC (d * e)).size ∧ Fr w W [(b7, IC (m * d), 29), (b6, c_b6, 29), (b5, c_b5, 29), (b4, RC m e, 31), (b3, RC n d, 31)]) (by kernel_rfl) rfl ?_ ?_ ?_
  · exact ⟨_, _, _, _, _, _, (IC (n * e + m * d)), (intC false 0), rfl, fun h => absurd h (by decide), fun h => absurd h (by decide), fun h => absurd h (by decide), fun h => absurd h (by decide), fun h => absurd h (by decide), fun h => absurd h (by decide), fun h => absurd h (by decide), fun h => absurd h (by decide), fun _ => rfl, fun h => absurd h (by decide), by first | (focus (simp only [IC_size, intC_size, limA_size, RC_size, ratC_size]; done)) | exact rfl, by first | (focus (simp only [IC_size, intC_size, limA_size, RC_size, ratC_size]; done)) | exact rfl, F.drew⟩
  · rintro listed mm W ii hi hsz hoff ⟨s26, s27, s28, s29, s30, s31, c_b5, c_b6, rfl, h0, h1, h2, h3, h4, h5, h6, h7, hO_b5, hW_b5_0, hz0, hz1, HF⟩ hd
    have hc : ii = 0 ∨ ii = 1 ∨ ii = 2 ∨ ii = 3 ∨ ii = 4 ∨ ii = 5 ∨ ii = 6 ∨ ii = 7 := by
      have hi2 : ii < 8 := hi
      omega
    have hsz2 : listed.size = 8 := hsz
    clear hi hsz
    rcases hc with rfl | rfl | rfl | rfl | rfl | rfl | rfl | rfl
    · refine wpOp_want rfl rfl (fun K hK => ?_)
      simp only [putAll, List.set_cons_zero, List.set_cons_succ, List.getElem_toArray, List.getElem_cons_succ, List.getElem_cons_zero]
      have hold := hO_b5 (by cases hx : listed.getD 6 false with | false => rfl | true => exact absurd (hW_b5_0 hx) (by rw [hoff]; decide))
      rw [hold] at HF
      with_reducible apply gL HF
      · exact rfl
      · (exact tL)
      · (first | (exact tR2))
      rw [← hold] at HF
      go_simp
      exact hK _ _ ⟨[(.agg (IC (n * e + m * d))), s27, s28, s29, s30, s31], by simp only [putAll, List.set_cons_zero, List.set_cons_succ], (.agg (IC (n * e + m * d))), s27, s28, s29, s30, s31, c_b5, c_b6, rfl, fun _ => rfl, lk h1, lk h2, lk h3, lk h4, lk h5, lk h6, lk h7, listed_keepF (by decide) hO_b5, fun _ => getD_on (by omega), hz0, hz1, HF⟩
    · refine wpOp_want rfl rfl (fun K hK => ?_)
      simp only [putAll, List.set_cons_zero, List.set_cons_succ, List.getElem_toArray, List.getElem_cons_succ, List.getElem_cons_zero]
      refine ⟨?_⟩
      go_simp
      exact hK _ _ ⟨[s26, (.pointer (some ⟨b3, 33, none⟩)), s28, s29, s30, s31], by simp only [putAll, List.set_cons_zero, List.set_cons_succ], s26, (.pointer (some ⟨b3, 33, none⟩)), s28, s29, s30, s31, c_b5, c_b6, rfl, lk h0, fun _ => rfl, lk h2, lk h3, lk h4, lk h5, lk h6, lk h7, listed_keepF (by decide) hO_b5, fun h => by rw [getD_keep (show 1 ≠ 6 by decide)] at h; rw [getD_keep (show 1 ≠ 0 by decide)]; exact hW_b5_0 h, hz0, hz1, HF⟩
    · have d1 := h1 (hd 1 (by kernel_rfl))
      obtain rfl := d1
      refine wpOp_want rfl rfl (fun K hK => ?_)
      simp only [putAll, List.set_cons_zero, List.set_cons_succ, List.getElem_toArray, List.getElem_cons_succ, List.getElem_cons_zero]
      with_reducible apply gLm HF
      · exact rfl
      · (exact tL)
      · exact RC_den _ _
      · (first | (exact tR2))
      go_simp
      exact hK _ _ ⟨[s26, (.pointer (some ⟨b3, 33, none⟩)), (.agg (IC d)), s29, s30, s31], by simp only [putAll, List.set_cons_zero, List.set_cons_succ], s26, (.pointer (some ⟨b3, 33, none⟩)), (.agg (IC d)), s29, s30, s31, c_b5, c_b6, rfl, lk h0, lk h1, fun _ => rfl, lk h3, lk h4, lk h5, lk h6, lk h7, listed_keepF (by decide) hO_b5, fun h => by rw [getD_keep (show 2 ≠ 6 by decide)] at h; rw [getD_keep (show 2 ≠ 0 by decide)]; exact hW_b5_0 h, hz0, hz1, HF⟩
    · refine wpOp_want rfl rfl (fun K hK => ?_)
      simp only [putAll, List.set_cons_zero, List.set_cons_succ, List.getElem_toArray, List.getElem_cons_succ, List.getElem_cons_zero]
      refine ⟨?_⟩
      go_simp
      exact hK _ _ ⟨[s26, s27, s28, (.pointer (some ⟨b4, 33, none⟩)), s30, s31], by simp only [putAll, List.set_cons_zero, List.set_cons_succ], s26, s27, s28, (.pointer (some ⟨b4, 33, none⟩)), s30, s31, c_b5, c_b6, rfl, lk h0, lk h1, lk h2, fun _ => rfl, lk h4, lk h5, lk h6, lk h7, listed_keepF (by decide) hO_b5, fun h => by rw [getD_keep (show 3 ≠ 6 by decide)] at h; rw [getD_keep (show 3 ≠ 0 by decide)]; exact hW_b5_0 h, hz0, hz1, HF⟩
    · have d3 := h3 (hd 3 (by kernel_rfl))
      obtain rfl := d3
      refine wpOp_want rfl rfl (fun K hK => ?_)
      simp only [putAll, List.set_cons_zero, List.set_cons_succ, List.getElem_toArray, List.getElem_cons_succ, List.getElem_cons_zero]
      with_reducible apply gLm HF
      · exact rfl
      · (exact tL)
      · exact RC_den _ _
      · (first | (exact tR2))
      go_simp
      exact hK _ _ ⟨[s26, s27, s28, (.pointer (some ⟨b4, 33, none⟩)), (.agg (IC e)), s31], by simp only [putAll, List.set_cons_zero, List.set_cons_succ], s26, s27, s28, (.pointer (some ⟨b4, 33, none⟩)), (.agg (IC e)), s31, c_b5, c_b6, rfl, lk h0, lk h1, lk h2, lk h3, fun _ => rfl, lk h5, lk h6, lk h7, listed_keepF (by decide) hO_b5, fun h => by rw [getD_keep (show 4 ≠ 6 by decide)] at h; rw [getD_keep (show 4 ≠ 0 by decide)]; exact hW_b5_0 h, hz0, hz1, HF⟩
    · have d2 := h2 (hd 2 (by kernel_rfl))
      have d4 := h4 (hd 4 (by kernel_rfl))
      obtain rfl := d2
      obtain rfl := d4
      refine wpOp_want rfl rfl (fun K hK => ?_)
      simp only [putAll, List.set_cons_zero, List.set_cons_succ, List.getElem_toArray, List.getElem_cons_succ, List.getElem_cons_zero]
      refine ⟨?_⟩
      go_simp
      with_reducible refine fr_call HF (g4 _) ?_
      clear HF
      intro W HF
      (try dsimp only)
      exact hK _ _ ⟨[s26, s27, (.agg (IC d)), s29, (.agg (IC e)), (.agg (IC (d * e)))], by simp only [putAll, List.set_cons_zero, List.set_cons_succ], s26, s27, (.agg (IC d)), s29, (.agg (IC e)), (.agg (IC (d * e))), c_b5, c_b6, rfl, lk h0, lk h1, lk h2, lk h3, lk h4, fun _ => rfl, lk h6, lk h7, listed_keepF (by decide) hO_b5, fun h => by rw [getD_keep (show 5 ≠ 6 by decide)] at h; rw [getD_keep (show 5 ≠ 0 by decide)]; exact hW_b5_0 h, hz0, hz1, HF⟩
    · have d0 := h0 (hd 0 (by kernel_rfl))
      obtain rfl := d0
      refine wpOp_want rfl rfl (fun K hK => ?_)
      simp only [putAll, List.set_cons_zero, List.set_cons_succ, List.getElem_toArray, List.getElem_cons_succ, List.getElem_cons_zero]
      with_reducible apply gS HF
      · exact rfl
      · exact rfl
      · (exact tL)
      · (first | (exact tR2))
      · first | exact hz0 | first | (focus (simp only [IC_size, intC_size, limA_size, RC_size, ratC_size]; done)) | exact rfl
      clear HF
      intro W HF
      simp only [List.cons_append, List.nil_append] at HF
      go_simp
      exact hK _ _ ⟨[(.agg (IC (n * e + m * d))), s27, s28, s29, s30, s31], by simp only [putAll, List.set_cons_zero, List.set_cons_succ], (.agg (IC (n * e + m * d))), s27, s28, s29, s30, s31, (IC (n * e + m * d)), c_b6, rfl, lk h0, lk h1, lk h2, lk h3, lk h4, lk h5, fun _ => rfl, lk h7, fun h => absurd h (by rw [getD_on (show 6 < listed.size by omega)]; decide), fun _ => by rw [getD_keep (show 6 ≠ 0 by decide)]; exact hd 0 (by kernel_rfl), rfl, hz1, HF⟩
    · have d5 := h5 (hd 5 (by kernel_rfl))
      obtain rfl := d5
      refine wpOp_want rfl rfl (fun K hK => ?_)
      simp only [putAll, List.set_cons_zero, List.set_cons_succ, List.getElem_toArray, List.getElem_cons_succ, List.getElem_cons_zero]
      with_reducible apply gS HF
      · exact rfl
      · exact rfl
      · (exact tL)
      · (first | (exact tR2))
      · first | exact hz1 | first | (focus (simp only [IC_size, intC_size, limA_size, RC_size, ratC_size]; done)) | exact rfl
      clear HF
      intro W HF
      simp only [List.cons_append, List.nil_append] at HF
      go_simp
      exact hK _ _ ⟨[s26, s27, s28, s29, s30, (.agg (IC (d * e)))], by simp only [putAll, List.set_cons_zero, List.set_cons_succ], s26, s27, s28, s29, s30, (.agg (IC (d * e))), c_b5, (IC (d * e)), rfl, lk h0, lk h1, lk h2, lk h3, lk h4, lk h5, lk h6, fun _ => rfl, listed_keepF (by decide) hO_b5, fun h => by rw [getD_keep (show 7 ≠ 6 by decide)] at h; rw [getD_keep (show 7 ≠ 0 by decide)]; exact hW_b5_0 h, hz0, rfl, HF⟩
  rintro listed mm W ⟨s26, s27, s28, s29, s30, s31, c_b5, c_b6, rfl, h0, h1, h2, h3, h4, h5, h6, h7, hO_b5, hW_b5_0, hz0, hz1, HF⟩ hall
  obtain rfl := h0 (hall 0 (by decide))
  obtain rfl := h1 (hall 1 (by decide))
  obtain rfl := h2 (hall 2 (by decide))
  obtain rfl := h3 (hall 3 (by decide))
  obtain rfl := h4 (hall 4 (by decide))
  obtain rfl := h5 (hall 5 (by decide))
  rw [h6 (hall 6 (by decide))] at HF
  rw [h7 (hall 7 (by decide))] at HF
  clear hall h0 h1 h2 h3 h4 h5 h6 h7 hO_b5 hW_b5_0 hz0 hz1 F
  have F := HF
  clear HF
  simp only [putAll, List.set_cons_zero, List.set_cons_succ]
  go_wp2_with (first | go_skip | ((with_reducible apply fL F); exact rfl; exact rfl; (exact tL); (exact tR2)) | ((with_reducible apply fLm F); exact rfl; exact rfl; (exact tL); (exact tM2); (exact tR2)) | ((with_reducible apply fA_int F); exact rfl) | ((with_reducible apply fX_rat F); exact rfl; exact rfl) | ((with_reducible apply fS F); exact rfl; exact rfl; exact rfl; (exact tL); (exact tR2); (exact tS2); clear F; intro W F; simp only [List.cons_append, List.nil_append] at F))
  exact bodyPost_ret (res_cc rfl rfl rfl (Fr.get F tL) (rowIC _) (Fr.get F tL) (rowIC _)) rfl ⟨rfl, F.below⟩
set_option maxRecDepth 100000 in
theorem calcAdd {x : Bool} {a : Nat} {y : Bool} {b : Nat} {x' : Bool} {a' : Nat} {y' : Bool} {b' : Nat} (ha : a < bp 32) (hb : b < bp 32) (ha' : a' < bp 32) (hb' : b' < bp 32) {k : Nat} {w : World} (hk : BlkAt w k #[.bool false] 4) {r : Int × Int × Int}
    (hr : (if okR x a y b ∧ okR x' a' y' b' then mkR (sZ x a * sZ y' b' + sZ x' a' * sZ y b) (sZ y b * sZ y' b') else (0, 0, 20)) = r) : Calls Tryz.prog 106 #[.agg (ratC x a y b), .agg (ratC x' a' y' b'), .func (.func 153) #[] #[.pointer (some ⟨k, 0, none⟩)]] w (RetB (.tuple #[.agg (RC r.1 r.2.1), .int .i64 r.2.2]) w) := by
  have F := Fr.start w
  obtain ⟨f, hf⟩ : ∃ f, decide (okR x a y b) = f := ⟨_, rfl⟩
  obtain ⟨f', hf'⟩ : ∃ f, decide (okR x' a' y' b') = f := ⟨_, rfl⟩
  have g1 := fun w => valid_any ha hb hf w
  have g2 := fun w => valid_any ha' hb' hf' w
  have HR := Lib.hid hr
  clear hr ha hb ha' hb'
  go_enter Tryz.func106, Tryz.ntmps106
  go_wp2_with (first | go_skip | ((with_reducible apply fL F); exact rfl; exact rfl; (exact tL); (exact tR2)) | ((with_reducible apply fA_rat F); exact rfl) | ((with_reducible apply fX_rat F); exact rfl; exact rfl) | ((with_reducible apply fS F); exact rfl; exact rfl; exact rfl; (exact tL); (exact tR2); (exact tS2); clear F; intro W F; simp only [List.cons_append, List.nil_append] at F) | ((with_reducible apply fB_rat0); exact rfl))
  (clear F; intro b3 W F; try simp only [Act.put, List.setIfInBounds_toArray, List.set_cons_zero, List.set_cons_succ])
  go_wp2_with (first | go_skip | ((with_reducible apply fL F); exact rfl; exact rfl; (exact tL); (exact tR2)) | ((with_reducible apply fA_rat F); exact rfl) | ((with_reducible apply fX_rat F); exact rfl; exact rfl) | ((with_reducible apply fS F); exact rfl; exact rfl; exact rfl; (exact tL); (exact tR2); (exact tS2); clear F; intro W F; simp only [List.cons_append, List.nil_append] at F) | ((with_reducible apply fB_rat0); exact rfl))
  (clear F; intro b4 W F; try simp only [Act.put, List.setIfInBounds_toArray, List.set_cons_zero, List.set_cons_succ])
  go_wp2_with (first | go_skip | ((with_reducible apply fL F); exact rfl; exact rfl; (exact tL); (exact tR2)) | ((with_reducible apply fA_rat F); exact rfl) | ((with_reducible apply fX_rat F); exact rfl; exact rfl) | ((with_reducible apply fS F); exact rfl; exact rfl; exact rfl; (exact tL); (exact tR2); (exact tS2); clear F; intro W F; simp only [List.cons_append, List.nil_append] at F) | ((with_reducible apply fB_rat0); exact rfl))
  (clear F; intro b6 W F; try simp only [Act.put, List.setIfInBounds_toArray, List.set_cons_zero, List.set_cons_succ])
  cases f
  · have hr := HR.out
    rw [if_neg (fun h => of_decide_eq_false hf h.1)] at hr
    subst hr
    clear HR hf hf'
    go_wp2_with (first | go_skip | ((go_at_call 93); (with_reducible refine fr_call F (g1 _) ?_); (clear F; intro W F); (try dsimp only)) | ((with_reducible apply fL F); exact rfl; exact rfl; (exact tL); (exact tR2)) | ((with_reducible apply fA_rat F); exact rfl) | ((with_reducible apply fX_rat F); exact rfl; exact rfl) | ((with_reducible apply fS F); exact rfl; exact rfl; exact rfl; (exact tL); (exact tR2); (exact tS2); clear F; intro W F; simp only [List.cons_append, List.nil_append] at F) | ((with_reducible apply fB_rat0); exact rfl))
    exact bodyPost_ret (res_cs rfl rfl rfl (Fr.get F tL) (rowRC _ _)) rfl ⟨rfl, F.below⟩
  cases f'
  · have hr := HR.out
    rw [if_neg (fun h => of_decide_eq_false hf' h.2)] at hr
    subst hr
    clear HR hf hf'
    go_wp2_with (first | go_skip | ((go_at_call 93); (with_reducible refine fr_call F (g1 _) ?_); (clear F; intro W F); (try dsimp only)) | ((go_at_call 93); (with_reducible refine fr_call F (g2 _) ?_); (clear F; intro W F); (try dsimp only)) | ((with_reducible apply fL F); exact rfl; exact rfl; (exact tL); (exact tR2)) | ((with_reducible apply fA_rat F); exact rfl) | ((with_reducible apply fX_rat F); exact rfl; exact rfl) | ((with_reducible apply fS F); exact rfl; exact rfl; exact rfl; (exact tL); (exact tR2); (exact tS2); clear F; intro W F; simp only [List.cons_append, List.nil_append] at F) | ((with_reducible apply fB_rat0); exact rfl))
    exact bodyPost_ret (res_cs rfl rfl rfl (Fr.get F tL) (rowRC _ _)) rfl ⟨rfl, F.below⟩
  have o1 := of_decide_eq_true hf
  have o2 := of_decide_eq_true hf'
  have hr := HR.out
  rw [if_pos ⟨o1, o2⟩] at hr
  obtain ⟨n, d, he1, h1, h2, hd1⟩ := okR_ints o1
  obtain ⟨m, e, he2, h3, h4, hd2⟩ := okR_ints o2
  rw [he1.2.1, he1.2.2, he2.2.1, he2.2.2] at hr
  have g3 := fun {W : World} {L : List Ent} (F : Fr w W L) => addF h1 h2 h3 h4 (hk.under F.below hk.lt)
  rw [← he1.1, ← he2.1] at g3
  have g4 := fun w => makeZ (n := n * e + m * d) (d := d * e) (b31 (b30' h1 h4) (b30' h3 h2)) (b30 h2 h4) hr w
  clear HR hf hf' hr o1 o2 he1 he2 h1 h2 h3 h4 hd1 hd2
  go_wp2_with (first | go_skip | ((go_at_call 93); (with_reducible refine fr_call F (g1 _) ?_); (clear F; intro W F); (try dsimp only)) | ((go_at_call 93); (with_reducible refine fr_call F (g2 _) ?_); (clear F; intro W F); (try dsimp only)) | ((go_at_call 153); (with_reducible refine fr_call F (g3 F) ?_); (clear F; intro W F); (try dsimp only)) | ((go_at_call 82); (with_reducible refine fr_call F (g4 _) ?_); (clear F; intro W F); (try dsimp only)) | ((with_reducible apply fL F); exact rfl; exact rfl; (exact tL); (exact tR2)) | ((with_reducible apply fA_rat F); exact rfl) | ((with_reducible apply fX_rat F); exact rfl; exact rfl) | ((with_reducible apply fS F); exact rfl; exact rfl; exact rfl; (exact tL); (exact tR2); (exact tS2); clear F; intro W F; simp only [List.cons_append, List.nil_append] at F) | ((with_reducible apply fB_rat0); exact rfl))
  exact bodyPost_ret (res_cs rfl rfl rfl (Fr.get F tL) (rowRC _ _)) rfl ⟨rfl, F.below⟩
set_option maxRecDepth 100000 in
theorem addR {x : Bool} {a : Nat} {y : Bool} {b : Nat} {x' : Bool} {a' : Nat} {y' : Bool} {b' : Nat} (ha : a < bp 32) (hb : b < bp 32) (ha' : a' < bp 32) (hb' : b' < bp 32) (w : World) {r : Int × Int × Int}
    (hr : (if okR x a y b ∧ okR x' a' y' b' then mkR (sZ x a * sZ y' b' + sZ x' a' * sZ y b) (sZ y b * sZ y' b') else (0, 0, 20)) = r) : Calls Tryz.prog 61 #[.agg (ratC x a y b), .agg (ratC x' a' y' b')] w (RetB (.tuple #[.agg (RC r.1 r.2.1), .int .i64 r.2.2]) w) := by
  have F := Fr.start w
  have g1 := fun {W : World} {k : Nat} (hk : BlkAt W k #[.bool false] 4) => calcAdd ha hb ha' hb' hk hr
  clear hr
  go_enter Tryz.func61, Tryz.ntmps61
  go_wp2_with (first | go_skip | ((with_reducible apply fL F); exact rfl; exact rfl; (exact tL); (exact tR2)) | ((with_reducible apply fA_rat F); exact rfl) | ((with_reducible apply fX_rat F); exact rfl; exact rfl) | ((with_reducible apply fS F); exact rfl; exact rfl; exact rfl; (exact tL); (exact tR2); (exact tS2); clear F; intro W F; simp only [List.cons_append, List.nil_append] at F))
  (clear F; intro b2 W F; try simp only [Act.put, List.setIfInBounds_toArray, List.set_cons_zero, List.set_cons_succ])
  go_wp2_with (first | go_skip | ((with_reducible apply fL F); exact rfl; exact rfl; (exact tL); (exact tR2)) | ((with_reducible apply fA_rat F); exact rfl) | ((with_reducible apply fX_rat F); exact rfl; exact rfl) | ((with_reducible apply fS F); exact rfl; exact rfl; exact rfl; (exact tL); (exact tR2); (exact tS2); clear F; intro W F; simp only [List.cons_append, List.nil_append] at F))
  (clear F; intro b3 W F; try simp only [Act.put, List.setIfInBounds_toArray, List.set_cons_zero, List.set_cons_succ])
  go_wp2_with (first | go_skip | ((with_reducible apply fL F); exact rfl; exact rfl; (exact tL); (exact tR2)) | ((with_reducible apply fA_rat F); exact rfl) | ((with_reducible apply fX_rat F); exact rfl; exact rfl) | ((with_reducible apply fS F); exact rfl; exact rfl; exact rfl; (exact tL); (exact tR2); (exact tS2); clear F; intro W F; simp only [List.cons_append, List.nil_append] at F))
  (clear F; intro b4 W F; try simp only [Act.put, List.setIfInBounds_toArray, List.set_cons_zero, List.set_cons_succ])
  go_wp2_with (first | go_skip | ((with_reducible apply fL F); exact rfl; exact rfl; (exact tL); (exact tR2)) | ((with_reducible apply fA_rat F); exact rfl) | ((with_reducible apply fX_rat F); exact rfl; exact rfl) | ((with_reducible apply fS F); exact rfl; exact rfl; exact rfl; (exact tL); (exact tR2); (exact tS2); clear F; intro W F; simp only [List.cons_append, List.nil_append] at F))
  try simp only [Act.put, List.setIfInBounds_toArray, List.set_cons_zero, List.set_cons_succ]
  have hpl : Tryz.prog.follows .mixedOrders = true := by kernel_rfl
  refine wp_region_slots hpl [5, 6, 7, 8, 9, 10, 11] (fun l mm W => ∃ (s5 s6 s7 s8 s9 s10 s11 : Value) (c_b4 : Array Value) (bk : Nat), mm = [s5, s6, s7, s8, s9, s10, s11] ∧ (l.getD 0 false = true → s6 = .agg (ratC x a y b)) ∧ (l.getD 1 false = true → s7 = .agg (ratC x' a' y' b')) ∧ (l.getD 2 false = true → s8 = .func (.func 153) #[] #[.pointer (some ⟨bk, 0, none⟩)]) ∧ (l.getD 3 false = true → s9 = .tuple #[.agg (RC r.1 r.2.1), .int .i64 r.2.2]) ∧ (l.getD 4 false = true → s10 = .agg (RC r.1 r.2.1)) ∧ (l.getD 5 false = true → s11 = .int .i64 r.2.2) ∧ (l.getD 6 false = true → c_b4 = RC r.1 r.2.1) ∧ (l.getD 7 false = true → s5 = .int .i64 r.2.2) ∧ c_b4.size = (RC r.1 r.2.1).size ∧ Fr w W ((b4, c_b4, 31) :: (b3, ratC x' a' y' b', 31) :: (b2, ratC x a y b, 31) :: (onl (l.getD 2 false) (bk, #[.bool false], 4)))) (by kernel_rfl) rfl ?_ ?_ ?_
  · exact ⟨_, _, _, _, _, _, _, (RC 0 0), 0, rfl, fun h => absurd h (by decide), fun h => absurd h (by decide), fun h => absurd h (by decide), fun h => absurd h (by decide), fun h => absurd h (by decide), fun h => absurd h (by decide), fun h => absurd h (by decide), fun h => absurd h (by decide), by first | (focus (simp only [IC_size, intC_size, limA_size, RC_size, ratC_size]; done)) | exact rfl, F.drew⟩
  · rintro listed mm W ii hi hsz hoff ⟨s5, s6, s7, s8, s9, s10, s11, c_b4, bk, rfl, h0, h1, h2, h3, h4, h5, h6, h7, hz0, HF⟩ hd
    have hc : ii = 0 ∨ ii = 1 ∨ ii = 2 ∨ ii = 3 ∨ ii = 4 ∨ ii = 5 ∨ ii = 6 ∨ ii = 7 := by
      have hi2 : ii < 8 := hi
      omega
    have hsz2 : listed.size = 8 := hsz
    clear hi hsz
    rcases hc with rfl | rfl | rfl | rfl | rfl | rfl | rfl | rfl
    · refine wpOp_want rfl rfl (fun K hK => ?_)
      simp only [putAll, List.set_cons_zero, List.set_cons_succ, List.getElem_toArray, List.getElem_cons_succ, List.getElem_cons_zero]
      with_reducible apply gL HF
      · exact rfl
      · (exact tL)
      · (first | (exact tR2))
      go_simp
      exact hK _ _ ⟨[s5, (.agg (ratC x a y b)), s7, s8, s9, s10, s11], by simp only [putAll, List.set_cons_zero, List.set_cons_succ], s5, (.agg (ratC x a y b)), s7, s8, s9, s10, s11, c_b4, bk, rfl, fun _ => rfl, lk h1, lk h2, lk h3, lk h4, lk h5, lk h6, lk h7, hz0, by rw [getD_keep (show 0 ≠ 2 by decide)]; exact HF⟩
    · refine wpOp_want rfl rfl (fun K hK => ?_)
      simp only [putAll, List.set_cons_zero, List.set_cons_succ, List.getElem_toArray, List.getElem_cons_succ, List.getElem_cons_zero]
      with_reducible apply gL HF
      · exact rfl
      · (exact tL)
      · (first | (exact tR2))
      go_simp
      exact hK _ _ ⟨[s5, s6, (.agg (ratC x' a' y' b')), s8, s9, s10, s11], by simp only [putAll, List.set_cons_zero, List.set_cons_succ], s5, s6, (.agg (ratC x' a' y' b')), s8, s9, s10, s11, c_b4, bk, rfl, lk h0, fun _ => rfl, lk h2, lk h3, lk h4, lk h5, lk h6, lk h7, hz0, by rw [getD_keep (show 1 ≠ 2 by decide)]; exact HF⟩
    · refine wpOp_want rfl rfl (fun K hK => ?_)
      simp only [putAll, List.set_cons_zero, List.set_cons_succ, List.getElem_toArray, List.getElem_cons_succ, List.getElem_cons_zero]
      rw [show listed.getD 2 false = false from hoff] at HF
      refine ⟨?_⟩
      go_simp
      refine (combine_any false _).mono ?_
      rintro e W2 ⟨bN, rfl, hb1, hb2, hb3⟩
      replace HF := Fr.push HF hb1 hb2 hb3
      (try dsimp only)
      exact hK _ _ ⟨[s5, s6, s7, (.func (.func 153) #[] #[.pointer (some ⟨bN, 0, none⟩)]), s9, s10, s11], by simp only [putAll, List.set_cons_zero, List.set_cons_succ], s5, s6, s7, (.func (.func 153) #[] #[.pointer (some ⟨bN, 0, none⟩)]), s9, s10, s11, c_b4, bN, rfl, lk h0, lk h1, fun _ => rfl, lk h3, lk h4, lk h5, lk h6, lk h7, hz0, by rw [getD_on (show 2 < listed.size by omega)]; exact Fr.mid (A := [(b4, c_b4, 31), (b3, ratC x' a' y' b', 31), (b2, ratC x a y b, 31)]) HF⟩
    · have d0 := h0 (hd 0 (by kernel_rfl))
      have d1 := h1 (hd 1 (by kernel_rfl))
      have d2 := h2 (hd 2 (by kernel_rfl))
      obtain rfl := d0
      obtain rfl := d1
      obtain rfl := d2
      refine wpOp_want rfl rfl (fun K hK => ?_)
      simp only [putAll, List.set_cons_zero, List.set_cons_succ, List.getElem_toArray, List.getElem_cons_succ, List.getElem_cons_zero]
      have hbk : BlkAt W bk #[.bool false] 4 := Fr.get (by have h := HF; rw [hd 2 (by kernel_rfl)] at h; exact h) (by repeat (first | exact Lies.here | apply Lies.tl))
      refine ⟨?_⟩
      go_simp
      with_reducible refine fr_call HF (g1 hbk) ?_
      clear HF
      intro W HF
      (try dsimp only)
      exact hK _ _ ⟨[s5, (.agg (ratC x a y b)), (.agg (ratC x' a' y' b')), (.func (.func 153) #[] #[.pointer (some ⟨bk, 0, none⟩)]), (.tuple #[.agg (RC r.1 r.2.1), .int .i64 r.2.2]), s10, s11], by simp only [putAll, List.set_cons_zero, List.set_cons_succ], s5, (.agg (ratC x a y b)), (.agg (ratC x' a' y' b')), (.func (.func 153) #[] #[.pointer (some ⟨bk, 0, none⟩)]), (.tuple #[.agg (RC r.1 r.2.1), .int .i64 r.2.2]), s10, s11, c_b4, bk, rfl, lk h0, lk h1, lk h2, fun _ => rfl, lk h4, lk h5, lk h6, lk h7, hz0, by rw [getD_keep (show 3 ≠ 2 by decide)]; exact HF⟩
    · have d3 := h3 (hd 3 (by kernel_rfl))
      obtain rfl := d3
      refine wpOp_want rfl rfl (fun K hK => ?_)
      simp only [putAll, List.set_cons_zero, List.set_cons_succ, List.getElem_toArray, List.getElem_cons_succ, List.getElem_cons_zero]
      refine ⟨?_⟩
      go_simp
      exact hK _ _ ⟨[s5, s6, s7, s8, (.tuple #[.agg (RC r.1 r.2.1), .int .i64 r.2.2]), (.agg (RC r.1 r.2.1)), s11], by simp only [putAll, List.set_cons_zero, List.set_cons_succ], s5, s6, s7, s8, (.tuple #[.agg (RC r.1 r.2.1), .int .i64 r.2.2]), (.agg (RC r.1 r.2.1)), s11, c_b4, bk, rfl, lk h0, lk h1, lk h2, lk h3, fun _ => rfl, lk h5, lk h6, lk h7, hz0, by rw [getD_keep (show 4 ≠ 2 by decide)]; exact HF⟩
    · have d3 := h3 (hd 3 (by kernel_rfl))
      obtain rfl := d3
      refine wpOp_want rfl rfl (fun K hK => ?_)
      simp only [putAll, List.set_cons_zero, List.set_cons_succ, List.getElem_toArray, List.getElem_cons_succ, List.getElem_cons_zero]
      refine ⟨?_⟩
      go_simp
      exact hK _ _ ⟨[s5, s6, s7, s8, (.tuple #[.agg (RC r.1 r.2.1), .int .i64 r.2.2]), s10, (.int .i64 r.2.2)], by simp only [putAll, List.set_cons_zero, List.set_cons_succ], s5, s6, s7, s8, (.tuple #[.agg (RC r.1 r.2.1), .int .i64 r.2.2]), s10, (.int .i64 r.2.2), c_b4, bk, rfl, lk h0, lk h1, lk h2, lk h3, lk h4, fun _ => rfl, lk h6, lk h7, hz0, by rw [getD_keep (show 5 ≠ 2 by decide)]; exact HF⟩
    · have d4 := h4 (hd 4 (by kernel_rfl))
      obtain rfl := d4
      refine wpOp_want rfl rfl (fun K hK => ?_)
      simp only [putAll, List.set_cons_zero, List.set_cons_succ, List.getElem_toArray, List.getElem_cons_succ, List.getElem_cons_zero]
      with_reducible apply gS HF
      · exact rfl
      · exact rfl
      · (exact tL)
      · (first | (exact tR2))
      · first | exact hz0 | first | (focus (simp only [IC_size, intC_size, limA_size, RC_size, ratC_size]; done)) | exact rfl
      clear HF
      intro W HF
      simp only [List.cons_append, List.nil_append] at HF
      go_simp
      exact hK _ _ ⟨[s5, s6, s7, s8, s9, (.agg (RC r.1 r.2.1)), s11], by simp only [putAll, List.set_cons_zero, List.set_cons_succ], s5, s6, s7, s8, s9, (.agg (RC r.1 r.2.1)), s11, (RC r.1 r.2.1), bk, rfl, lk h0, lk h1, lk h2, lk h3, lk h4, lk h5, fun _ => rfl, lk h7, rfl, by rw [getD_keep (show 6 ≠ 2 by decide)]; exact HF⟩
    · have d5 := h5 (hd 5 (by kernel_rfl))
      obtain rfl := d5
      refine wpOp_want rfl rfl (fun K hK => ?_)
      simp only [putAll, List.set_cons_zero, List.set_cons_succ, List.getElem_toArray, List.getElem_cons_succ, List.getElem_cons_zero]
      refine ⟨?_⟩
      go_simp
      exact hK _ _ ⟨[(.int .i64 r.2.2), s6, s7, s8, s9, s10, (.int .i64 r.2.2)], by simp only [putAll, List.set_cons_zero, List.set_cons_succ], (.int .i64 r.2.2), s6, s7, s8, s9, s10, (.int .i64 r.2.2), c_b4, bk, rfl, lk h0, lk h1, lk h2, lk h3, lk h4, lk h5, lk h6, fun _ => rfl, hz0, by rw [getD_keep (show 7 ≠ 2 by decide)]; exact HF⟩
  rintro listed mm W ⟨s5, s6, s7, s8, s9, s10, s11, c_b4, bk, rfl, h0, h1, h2, h3, h4, h5, h6, h7, hz0, HF⟩ hall
  rw [hall 2 (by decide)] at HF
  simp only [onl, if_true, List.cons_append, List.nil_append] at HF
  obtain rfl := h0 (hall 0 (by decide))
  obtain rfl := h1 (hall 1 (by decide))
  obtain rfl := h2 (hall 2 (by decide))
  obtain rfl := h3 (hall 3 (by decide))
  obtain rfl := h4 (hall 4 (by decide))
  obtain rfl := h5 (hall 5 (by decide))
  rw [h6 (hall 6 (by decide))] at HF
  obtain rfl := h7 (hall 7 (by decide))
  clear hall h0 h1 h2 h3 h4 h5 h6 h7 hz0 F
  have F := HF
  clear HF
  simp only [putAll, List.set_cons_zero, List.set_cons_succ]
  go_wp2_with (first | go_skip | ((with_reducible apply fL F); exact rfl; exact rfl; (exact tL); (exact tR2)) | ((with_reducible apply fA_rat F); exact rfl) | ((with_reducible apply fX_rat F); exact rfl; exact rfl) | ((with_reducible apply fS F); exact rfl; exact rfl; exact rfl; (exact tL); (exact tR2); (exact tS2); clear F; intro W F; simp only [List.cons_append, List.nil_append] at F))
  exact bodyPost_ret (res_cs rfl rfl rfl (Fr.get F tL) (rowRC _ _)) rfl ⟨rfl, F.below⟩
end
section
open Go.RowKit
set_option maxHeartbeats 2000000
theorem ten_le {n : Nat} (h : n ≤ 9) : 10 ^ n ≤ 1000000000 := by
  have : 10 ^ n ≤ 10 ^ 9 := Nat.pow_le_pow_right (by decide) h
  omega
set_option maxRecDepth 100000 in
theorem power_any {n : Nat} (hn : n ≤ 9) (w : World) : Calls Tryz.prog 60 #[.int .i64 n] w (RetB (.int .i64 (10 ^ n : Nat)) w) := by
  go_enter Tryz.func60, Tryz.ntmps60
  go_wp2_with fail
  go_loopw [3, 5] (fun pv iv wr => ∃ i p : Nat, i ≤ n ∧ p = 10 ^ i ∧ pv = .int .i64 p ∧ iv = .int .i64 i ∧ Below w.heap.size w wr) (fun _ iv _ => n - (intOf iv).toNat)
  case atStart => exact ⟨0, 1, by omega, rfl, rfl, rfl, Below.refl _ _⟩
  case round =>
    obtain ⟨i, p, hi, hp, rfl, rfl, hb⟩ := hrel
    have HB := Lib.hid hb
    clear hb
    by_cases hin : i < n
    · have hp1 : p ≤ 1000000000 := by rw [hp]; exact ten_le (by omega)
      obtain ⟨q, hq⟩ : ∃ q, p * 10 = q := ⟨_, rfl⟩
      have HP := Lib.hid (show q = 10 ^ (i + 1) from by rw [← hq, hp, Nat.pow_succ])
      have m1 : IntKind.i64.wrap ((p : Int) * 10) = (q : Int) := by
        rw [show (p : Int) * 10 = (q : Int) by omega]
        exact IntWalk.i64_in _ (by omega)
      clear hp hq
      go_wp2_with fail
      go_roundw
      case rel => exact ⟨i + 1, q, by omega, HP.out, rfl, by go_num, HB.out⟩
      case measure => simp [intOf]; omega
    · obtain rfl : n = i := by omega
      have HP := Lib.hid hp
      clear hp
      go_wp2_with fail
      go_ret
      exact ⟨by rw [HP.out]; rfl, HB.out⟩
def chkE (v : Prop) [Decidable v] (p : Int) : Int := if ¬ v then 20 else if p < 0 ∨ 9 < p then 30 else 0
set_option maxRecDepth 100000 in
theorem check_any {x : Bool} {a : Nat} {y : Bool} {b : Nat} (ha : a < bp 32) (hb : b < bp 32) {p e : Int} (he : chkE (okR x a y b) p = e) (w : World) : Calls Tryz.prog 68 #[.agg (ratC x a y b), .int .i64 p] w (RetB (.int .i64 e) w) := by
  have F := Fr.start w
  obtain ⟨f, hf⟩ : ∃ f, decide (okR x a y b) = f := ⟨_, rfl⟩
  have g1 := fun w => valid_any ha hb hf w
  unfold chkE at he
  have HE := Lib.hid he
  clear he ha hb
  go_enter Tryz.func68, Tryz.ntmps68
  go_wp2_with (first | go_skip | ((with_reducible apply fL F); exact rfl; exact rfl; (exact tL); (exact tR2)) | ((with_reducible apply fX_rat F); exact rfl; exact rfl))
  (clear F; intro b2 W F; try simp only [Act.put, List.setIfInBounds_toArray, List.set_cons_zero, List.set_cons_succ])
  cases f
  · have he := HE.out
    rw [if_pos (of_decide_eq_false hf)] at he
    subst he
    clear HE hf
    go_wp2_with (first | go_skip | ((go_at_call 93); (with_reducible refine fr_call F (g1 _) ?_); (clear F; intro W F); (try dsimp only)) | ((with_reducible apply fL F); exact rfl; exact rfl; (exact tL); (exact tR2)) | ((with_reducible apply fX_rat F); exact rfl; exact rfl))
    go_ret
    exact ⟨rfl, F.below⟩
  have he := HE.out
  rw [if_neg (by rw [Classical.not_not]; exact of_decide_eq_true hf)] at he
  clear HE hf
  by_cases h1 : p < 0
  · rw [if_pos (.inl h1)] at he
    subst he
    go_wp2_with (first | go_skip | ((go_at_call 93); (with_reducible refine fr_call F (g1 _) ?_); (clear F; intro W F); (try dsimp only)) | ((with_reducible apply fL F); exact rfl; exact rfl; (exact tL); (exact tR2)) | ((with_reducible apply fX_rat F); exact rfl; exact rfl))
    go_ret
    exact ⟨rfl, F.below⟩
  have d1 : decide (p < 0) = false := decide_eq_false h1
  by_cases h2 : 9 < p
  · rw [if_pos (.inr h2)] at he
    subst he
    clear h1
    go_wp2_with (first | go_skip | ((go_at_call 93); (with_reducible refine fr_call F (g1 _) ?_); (clear F; intro W F); (try dsimp only)) | ((with_reducible apply fL F); exact rfl; exact rfl; (exact tL); (exact tR2)) | ((with_reducible apply fX_rat F); exact rfl; exact rfl))
    go_ret
    exact ⟨rfl, F.below⟩
  · rw [if_neg (by omega)] at he
    subst he
    have d2 : decide (9 < p) = false := decide_eq_false h2
    clear h1 h2
    go_wp2_with (first | go_skip | ((go_at_call 93); (with_reducible refine fr_call F (g1 _) ?_); (clear F; intro W F); (try dsimp only)) | ((with_reducible apply fL F); exact rfl; exact rfl; (exact tL); (exact tR2)) | ((with_reducible apply fX_rat F); exact rfl; exact rfl))
    go_ret
    exact ⟨rfl, F.below⟩
theorem b_ten {n : Int} {p : Nat} (hn : n.natAbs < bp 15) (hp : p ≤ 9) : (n * ((10 ^ p : Nat) : Int)).natAbs < bp 17 := by
  rw [Int.natAbs_mul, Int.natAbs_natCast]
  have h1 := ten_le hp
  have h2 : bp 17 = bp 15 * 4294967296 * 4294967296 := by rw [← bp_succ, ← bp_succ]
  have h3 := Nat.mul_le_mul_left n.natAbs h1
  have h4 := Nat.mul_lt_mul_of_pos_right hn (show 0 < 1000000000 by decide)
  omega
set_option maxRecDepth 100000 in
theorem scaledZ {n d : Int} (hn : n.natAbs < bp 15) (hd : d.natAbs < bp 15) (h0 : d ≠ 0) {p : Nat} (hp : p ≤ 9) (w : World) : Calls Tryz.prog 69 #[.agg (RC n d), .int .i64 p] w (RetB (.tuple #[.agg (IC (n * ((10 ^ p : Nat) : Int) / d)), .agg (IC (n * ((10 ^ p : Nat) : Int) % d))]) w) := by
  have F := Fr.start w
  have hb := b_ten hn hp
  have hb2 : (n * ((10 ^ p : Nat) : Int)).natAbs < bp 32 := Nat.lt_of_lt_of_le hb (bp_le (by decide))
  have ht := ten_le hp
  have g1 := fun w => power_any hp w
  obtain ⟨q, hq⟩ : ∃ q : Nat, 10 ^ p = q := ⟨_, rfl⟩
  rw [hq] at g1 ht hb2
  rw [hq]
  have g2 := fun w => fromZ (n := (q : Int)) (by omega) (by omega) w
  have hq2 : (q : Int).natAbs < bp 32 := Nat.lt_of_lt_of_le (show (q : Int).natAbs < bp 2 by unfold bp; omega) (bp_le (by decide))
  have g3 := fun w => mulZ (b15 hn) hq2 hb2 w
  have g4 := fun w => divmodZ hb2 (b15 hd) h0 w
  obtain ⟨m, hm⟩ : ∃ m, n * (q : Int) = m := ⟨_, rfl⟩
  rw [hm] at g3 g4
  rw [hm]
  obtain ⟨u, hu⟩ : ∃ u, m / d = u := ⟨_, rfl⟩
  obtain ⟨v, hv⟩ : ∃ v, m % d = v := ⟨_, rfl⟩
  rw [hu, hv] at g4
  rw [hu, hv]
  clear hb hb2 ht hq hq2 hm hu hv hn hd h0 hp
  go_enter Tryz.func69, Tryz.ntmps69
  go_wp2_with (first | go_skip | ((with_reducible apply fL F); exact rfl; exact rfl; (exact tL); (exact tR2)) | ((with_reducible apply fLm F); exact rfl; exact rfl; (exact tL); (exact tM2); (exact tR2)) | ((with_reducible apply fA_int F); exact rfl) | ((with_reducible apply fX_rat F); exact rfl; exact rfl) | ((with_reducible apply fS F); exact rfl; exact rfl; exact rfl; (exact tL); (exact tR2); (exact tS2); clear F; intro W F; simp only [List.cons_append, List.nil_append] at F))
  (clear F; intro b2 W F; try simp only [Act.put, List.setIfInBounds_toArray, List.set_cons_zero, List.set_cons_succ])
  go_wp2_with (first | go_skip | ((with_reducible apply fL F); exact rfl; exact rfl; (exact tL); (exact tR2)) | ((with_reducible apply fLm F); exact rfl; exact rfl; (exact tL); (exact tM2); (exact tR2)) | ((with_reducible apply fA_int F); exact rfl) | ((with_reducible apply fX_rat F); exact rfl; exact rfl) | ((with_reducible apply fS F); exact rfl; exact rfl; exact rfl; (exact tL); (exact tR2); (exact tS2); clear F; intro W F; simp only [List.cons_append, List.nil_append] at F))
  (clear F; intro b4 W F; try simp only [Act.put, List.setIfInBounds_toArray, List.set_cons_zero, List.set_cons_succ])
  go_wp2_with (first | go_skip | ((with_reducible apply fL F); exact rfl; exact rfl; (exact tL); (exact tR2)) | ((with_reducible apply fLm F); exact rfl; exact rfl; (exact tL); (exact tM2); (exact tR2)) | ((with_reducible apply fA_int F); exact rfl) | ((with_reducible apply fX_rat F); exact rfl; exact rfl) | ((with_reducible apply fS F); exact rfl; exact rfl; exact rfl; (exact tL); (exact tR2); (exact tS2); clear F; intro W F; simp only [List.cons_append, List.nil_append] at F))
  (clear F; intro b5 W F; try simp only [Act.put, List.setIfInBounds_toArray, List.set_cons_zero, List.set_cons_succ])
  go_wp2_with (first | go_skip | ((with_reducible apply fL F); exact rfl; exact rfl; (exact tL); (exact tR2)) | ((with_reducible apply fLm F); exact rfl; exact rfl; (exact tL); (exact tM2); (exact tR2)) | ((with_reducible apply fA_int F); exact rfl) | ((with_reducible apply fX_rat F); exact rfl; exact rfl) | ((with_reducible apply fS F); exact rfl; exact rfl; exact rfl; (exact tL); (exact tR2); (exact tS2); clear F; intro W F; simp only [List.cons_append, List.nil_append] at F))
  try simp only [Act.put, List.setIfInBounds_toArray, List.set_cons_zero, List.set_cons_succ]
  have hpl : Tryz.prog.follows .mixedOrders = true := by kernel_rfl
  refine wp_region_slots hpl [6, 7, 8, 9, 10, 11, 12, 13, 14, 15, 16] (fun l mm W => ∃ (s6 s7 s8 s9 s10 s11 s12 s13 s14 s15 s16 : Value) (c_b6 : Array Value) (b6 : Nat), mm = [s6, s7, s8, s9, s10, s11, s12, s13, s14, s15, s16] ∧ (l.getD 0 false = true → s9 = .pointer (some ⟨b2, 0, none⟩)) ∧ (l.getD 1 false = true → s10 = .agg (IC n)) ∧ (l.getD 2 false = true → s11 = .int .i64 (p : Int)) ∧ (l.getD 3 false = true → s12 = .int .i64 (q : Int)) ∧ (l.getD 4 false = true → s13 = .agg (IC (q : Int))) ∧ (l.getD 5 false = true → s14 = .tuple #[.agg (IC m), .int .i64 0]) ∧ (l.getD 6 false = true → s8 = .tuple #[.agg (IC m), .int .i64 0]) ∧ (l.getD 7 false = true → s15 = .agg (IC m)) ∧ (l.getD 8 false = true → s16 = .int .i64 0) ∧ (l.getD 9 false = true → s6 = .pointer (some ⟨b6, 0, none⟩)) ∧ (l.getD 10 false = true → c_b6 = IC m) ∧ (l.getD 11 false = true → s7 = .int .i64 0) ∧ (l.getD 10 false = true → l.getD 9 false = true) ∧ c_b6.size = (IC m).size ∧ Fr w W ((b5, intC false 0, 29) :: (b4, intC false 0, 29) :: (b2, RC n d, 31) :: (onl (l.getD 9 false) (b6, c_b6, 29)))) (by kernel_rfl) rfl ?_ ?_ ?_
  · exact ⟨_, _, _, _, _, _, _, _, _, _, _, (intC false 0), 0, rfl, fun h => absurd h (by decide), fun h => absurd h (by decide), fun h => absurd h (by decide), fun h => absurd h (by decide), fun h => absurd h (by decide), fun h => absurd h (by decide), fun h => absurd h (by decide), fun h => absurd h (by decide), fun h => absurd h (by decide), fun h => absurd h (by decide), fun h => absurd h (by decide), fun h => absurd h (by decide), fun h => absurd h (by decide), by first | (focus (simp only [IC_size, intC_size, limA_size, RC_size, ratC_size]; done)) | exact rfl, F.drew⟩
  · rintro listed mm W ii hi hsz hoff ⟨s6, s7, s8, s9, s10, s11, s12, s13, s14, s15, s16, c_b6, b6, rfl, h0, h1, h2, h3, h4, h5, h6, h7, h8, h9, h10, h11, hN_b6, hz0, HF⟩ hd
    have hc : ii = 0 ∨ ii = 1 ∨ ii = 2 ∨ ii = 3 ∨ ii = 4 ∨ ii = 5 ∨ ii = 6 ∨ ii = 7 ∨ ii = 8 ∨ ii = 9 ∨ ii = 10 ∨ ii = 11 := by
      have hi2 : ii < 12 := hi
      omega
    have hsz2 : listed.size = 12 := hsz
    clear hi hsz
    rcases hc with rfl | rfl | rfl | rfl | rfl | rfl | rfl | rfl | rfl | rfl | rfl | rfl
    · refine wpOp_want rfl rfl (fun K hK => ?_)
      simp only [putAll, List.set_cons_zero, List.set_cons_succ, List.getElem_toArray, List.getElem_cons_succ, List.getElem_cons_zero]
      refine ⟨?_⟩
      go_simp
      exact hK _ _ ⟨[s6, s7, s8, (.pointer (some ⟨b2, 0, none⟩)), s10, s11, s12, s13, s14, s15, s16], by simp only [putAll, List.set_cons_zero, List.set_cons_succ], s6, s7, s8, (.pointer (some ⟨b2, 0, none⟩)), s10, s11, s12, s13, s14, s15, s16, c_b6, b6, rfl, fun _ => rfl, lk h1, lk h2, lk h3, lk h4, lk h5, lk h6, lk h7, lk h8, lk h9, lk h10, lk h11, fun h => by rw [getD_keep (show 0 ≠ 10 by decide)] at h; rw [getD_keep (show 0 ≠ 9 by decide)]; exact hN_b6 h, hz0, by rw [getD_keep (show 0 ≠ 9 by decide)]; exact HF⟩
    · have d0 := h0 (hd 0 (by kernel_rfl))
      obtain rfl := d0
      refine wpOp_want rfl rfl (fun K hK => ?_)
      simp only [putAll, List.set_cons_zero, List.set_cons_succ, List.getElem_toArray, List.getElem_cons_succ, List.getElem_cons_zero]
      with_reducible apply gLm HF
      · exact rfl
      · (exact tL)
      · exact RC_num _ _
      · (first | (exact tR2))
      go_simp
      exact hK _ _ ⟨[s6, s7, s8, (.pointer (some ⟨b2, 0, none⟩)), (.agg (IC n)), s11, s12, s13, s14, s15, s16], by simp only [putAll, List.set_cons_zero, List.set_cons_succ], s6, s7, s8, (.pointer (some ⟨b2, 0, none⟩)), (.agg (IC n)), s11, s12, s13, s14, s15, s16, c_b6, b6, rfl, lk h0, fun _ => rfl, lk h2, lk h3, lk h4, lk h5, lk h6, lk h7, lk h8, lk h9, lk h10, lk h11, fun h => by rw [getD_keep (show 1 ≠ 10 by decide)] at h; rw [getD_keep (show 1 ≠ 9 by decide)]; exact hN_b6 h, hz0, by rw [getD_keep (show 1 ≠ 9 by decide)]; exact HF⟩
    · refine wpOp_want rfl rfl (fun K hK => ?_)
      simp only [putAll, List.set_cons_zero, List.set_cons_succ, List.getElem_toArray, List.getElem_cons_succ, List.getElem_cons_zero]
      refine ⟨?_⟩
      go_simp
      exact hK _ _ ⟨[s6, s7, s8, s9, s10, (.int .i64 (p : Int)), s12, s13, s14, s15, s16], by simp only [putAll, List.set_cons_zero, List.set_cons_succ], s6, s7, s8, s9, s10, (.int .i64 (p : Int)), s12, s13, s14, s15, s16, c_b6, b6, rfl, lk h0, lk h1, fun _ => rfl, lk h3, lk h4, lk h5, lk h6, lk h7, lk h8, lk h9, lk h10, lk h11, fun h => by rw [getD_keep (show 2 ≠ 10 by decide)] at h; rw [getD_keep (show 2 ≠ 9 by decide)]; exact hN_b6 h, hz0, by rw [getD_keep (show 2 ≠ 9 by decide)]; exact HF⟩
    · have d2 := h2 (hd 2 (by kernel_rfl))
      obtain rfl := d2
      refine wpOp_want rfl rfl (fun K hK => ?_)
      simp only [putAll, List.set_cons_zero, List.set_cons_succ, List.getElem_toArray, List.getElem_cons_succ, List.getElem_cons_zero]
      refine ⟨?_⟩
      go_simp
      with_reducible refine fr_call HF (g1 _) ?_
      clear HF
      intro W HF
      (try dsimp only)
      exact hK _ _ ⟨[s6, s7, s8, s9, s10, (.int .i64 (p : Int)), (.int .i64 (q : Int)), s13, s14, s15, s16], by simp only [putAll, List.set_cons_zero, List.set_cons_succ], s6, s7, s8, s9, s10, (.int .i64 (p : Int)), (.int .i64 (q : Int)), s13, s14, s15, s16, c_b6, b6, rfl, lk h0, lk h1, lk h2, fun _ => rfl, lk h4, lk h5, lk h6, lk h7, lk h8, lk h9, lk h10, lk h11, fun h => by rw [getD_keep (show 3 ≠ 10 by decide)] at h; rw [getD_keep (show 3 ≠ 9 by decide)]; exact hN_b6 h, hz0, by rw [getD_keep (show 3 ≠ 9 by decide)]; exact HF⟩
    · have d3 := h3 (hd 3 (by kernel_rfl))
      obtain rfl := d3
      refine wpOp_want rfl rfl (fun K hK => ?_)
      simp only [putAll, List.set_cons_zero, List.set_cons_succ, List.getElem_toArray, List.getElem_cons_succ, List.getElem_cons_zero]
      refine ⟨?_⟩
      go_simp
      with_reducible refine fr_call HF (g2 _) ?_
      clear HF
      intro W HF
      (try dsimp only)
      exact hK _ _ ⟨[s6, s7, s8, s9, s10, s11, (.int .i64 (q : Int)), (.agg (IC (q : Int))), s14, s15, s16], by simp only [putAll, List.set_cons_zero, List.set_cons_succ], s6, s7, s8, s9, s10, s11, (.int .i64 (q : Int)), (.agg (IC (q : Int))), s14, s15, s16, c_b6, b6, rfl, lk h0, lk h1, lk h2, lk h3, fun _ => rfl, lk h5, lk h6, lk h7, lk h8, lk h9, lk h10, lk h11, fun h => by rw [getD_keep (show 4 ≠ 10 by decide)] at h; rw [getD_keep (show 4 ≠ 9 by decide)]; exact hN_b6 h, hz0, by rw [getD_keep (show 4 ≠ 9 by decide)]; exact HF⟩
    · have d1 := h1 (hd 1 (by kernel_rfl))
      have d4 := h4 (hd 4 (by kernel_rfl))
      obtain rfl := d1
      obtain rfl := d4
      refine wpOp_want rfl rfl (fun K hK => ?_)
      simp only [putAll, List.set_cons_zero, List.set_cons_succ, List.getElem_toArray, List.getElem_cons_succ, List.getElem_cons_zero]
      refine ⟨?_⟩
      go_simp
      with_reducible refine fr_call HF (g3 _) ?_
      clear HF
      intro W HF
      (try dsimp only)
      exact hK _ _ ⟨[s6, s7, s8, s9, (.agg (IC n)), s11, s12, (.agg (IC (q : Int))), (.tuple #[.agg (IC m), .int .i64 0]), s15, s16], by simp only [putAll, List.set_cons_zero, List.set_cons_succ], s6, s7, s8, s9, (.agg (IC n)), s11, s12, (.agg (IC (q : Int))), (.tuple #[.agg (IC m), .int .i64 0]), s15, s16, c_b6, b6, rfl, lk h0, lk h1, lk h2, lk h3, lk h4, fun _ => rfl, lk h6, lk h7, lk h8, lk h9, lk h10, lk h11, fun h => by rw [getD_keep (show 5 ≠ 10 by decide)] at h; rw [getD_keep (show 5 ≠ 9 by decide)]; exact hN_b6 h, hz0, by rw [getD_keep (show 5 ≠ 9 by decide)]; exact HF⟩
    · have d5 := h5 (hd 5 (by kernel_rfl))
      obtain rfl := d5
      refine wpOp_want rfl rfl (fun K hK => ?_)
      simp only [putAll, List.set_cons_zero, List.set_cons_succ, List.getElem_toArray, List.getElem_cons_succ, List.getElem_cons_zero]
      refine ⟨?_⟩
      go_simp
      exact hK _ _ ⟨[s6, s7, (.tuple #[.agg (IC m), .int .i64 0]), s9, s10, s11, s12, s13, (.tuple #[.agg (IC m), .int .i64 0]), s15, s16], by simp only [putAll, List.set_cons_zero, List.set_cons_succ], s6, s7, (.tuple #[.agg (IC m), .int .i64 0]), s9, s10, s11, s12, s13, (.tuple #[.agg (IC m), .int .i64 0]), s15, s16, c_b6, b6, rfl, lk h0, lk h1, lk h2, lk h3, lk h4, lk h5, fun _ => rfl, lk h7, lk h8, lk h9, lk h10, lk h11, fun h => by rw [getD_keep (show 6 ≠ 10 by decide)] at h; rw [getD_keep (show 6 ≠ 9 by decide)]; exact hN_b6 h, hz0, by rw [getD_keep (show 6 ≠ 9 by decide)]; exact HF⟩
    · have d6 := h6 (hd 6 (by kernel_rfl))
      obtain rfl := d6
      refine wpOp_want rfl rfl (fun K hK => ?_)
      simp only [putAll, List.set_cons_zero, List.set_cons_succ, List.getElem_toArray, List.getElem_cons_succ, List.getElem_cons_zero]
      refine ⟨?_⟩
      go_simp
      exact hK _ _ ⟨[s6, s7, (.tuple #[.agg (IC m), .int .i64 0]), s9, s10, s11, s12, s13, s14, (.agg (IC m)), s16], by simp only [putAll, List.set_cons_zero, List.set_cons_succ], s6, s7, (.tuple #[.agg (IC m), .int .i64 0]), s9, s10, s11, s12, s13, s14, (.agg (IC m)), s16, c_b6, b6, rfl, lk h0, lk h1, lk h2, lk h3, lk h4, lk h5, lk h6, fun _ => rfl, lk h8, lk h9, lk h10, lk h11, fun h => by rw [getD_keep (show 7 ≠ 10 by decide)] at h; rw [getD_keep (show 7 ≠ 9 by decide)]; exact hN_b6 h, hz0, by rw [getD_keep (show 7 ≠ 9 by decide)]; exact HF⟩
    · have d6 := h6 (hd 6 (by kernel_rfl))
      obtain rfl := d6
      refine wpOp_want rfl rfl (fun K hK => ?_)
      simp only [putAll, List.set_cons_zero, List.set_cons_succ, List.getElem_toArray, List.getElem_cons_succ, List.getElem_cons_zero]
      refine ⟨?_⟩
      go_simp
      exact hK _ _ ⟨[s6, s7, (.tuple #[.agg (IC m), .int .i64 0]), s9, s10, s11, s12, s13, s14, s15, (.int .i64 0)], by simp only [putAll, List.set_cons_zero, List.set_cons_succ], s6, s7, (.tuple #[.agg (IC m), .int .i64 0]), s9, s10, s11, s12, s13, s14, s15, (.int .i64 0), c_b6, b6, rfl, lk h0, lk h1, lk h2, lk h3, lk h4, lk h5, lk h6, lk h7, fun _ => rfl, lk h9, lk h10, lk h11, fun h => by rw [getD_keep (show 8 ≠ 10 by decide)] at h; rw [getD_keep (show 8 ≠ 9 by decide)]; exact hN_b6 h, hz0, by rw [getD_keep (show 8 ≠ 9 by decide)]; exact HF⟩
    · refine wpOp_want rfl rfl (fun K hK => ?_)
      simp only [putAll, List.set_cons_zero, List.set_cons_succ, List.getElem_toArray, List.getElem_cons_succ, List.getElem_cons_zero]
      rw [show listed.getD 9 false = false from hoff] at HF
      skip
      with_reducible apply gA_int HF
      intro bN W HF
      go_simp
      exact hK _ _ ⟨[(.pointer (some ⟨bN, 0, none⟩)), s7, s8, s9, s10, s11, s12, s13, s14, s15, s16], by simp only [putAll, List.set_cons_zero, List.set_cons_succ], (.pointer (some ⟨bN, 0, none⟩)), s7, s8, s9, s10, s11, s12, s13, s14, s15, s16, (intC false 0), bN, rfl, lk h0, lk h1, lk h2, lk h3, lk h4, lk h5, lk h6, lk h7, lk h8, fun _ => rfl, fun h => absurd (hN_b6 (by rw [getD_keep (show 9 ≠ 10 by decide)] at h; exact h)) (by rw [hoff]; decide), lk h11, fun _ => getD_on (by omega), by first | (focus (simp only [IC_size, intC_size, limA_size, RC_size, ratC_size]; done)) | exact rfl, by rw [getD_on (show 9 < listed.size by omega)]; exact Fr.mid (A := [(b5, intC false 0, 29), (b4, intC false 0, 29), (b2, RC n d, 31)]) HF⟩
    · have d7 := h7 (hd 7 (by kernel_rfl))
      have d9 := h9 (hd 9 (by kernel_rfl))
      obtain rfl := d7
      obtain rfl := d9
      refine wpOp_want rfl rfl (fun K hK => ?_)
      simp only [putAll, List.set_cons_zero, List.set_cons_succ, List.getElem_toArray, List.getElem_cons_succ, List.getElem_cons_zero]
      rw [hd 9 (by kernel_rfl)] at HF
      simp only [onl, if_true, List.cons_append, List.nil_append] at HF
      with_reducible apply gS HF
      · exact rfl
      · exact rfl
      · (exact tL)
      · (first | (exact tR2))
      · first | exact hz0 | first | (focus (simp only [IC_size, intC_size, limA_size, RC_size, ratC_size]; done)) | exact rfl
      clear HF
      intro W HF
      simp only [List.cons_append, List.nil_append] at HF
      go_simp
      exact hK _ _ ⟨[(.pointer (some ⟨b6, 0, none⟩)), s7, s8, s9, s10, s11, s12, s13, s14, (.agg (IC m)), s16], by simp only [putAll, List.set_cons_zero, List.set_cons_succ], (.pointer (some ⟨b6, 0, none⟩)), s7, s8, s9, s10, s11, s12, s13, s14, (.agg (IC m)), s16, (IC m), b6, rfl, lk h0, lk h1, lk h2, lk h3, lk h4, lk h5, lk h6, lk h7, lk h8, lk h9, fun _ => rfl, lk h11, fun _ => by rw [getD_keep (show 10 ≠ 9 by decide)]; exact hd 9 (by kernel_rfl), rfl, by rw [getD_keep (show 10 ≠ 9 by decide), hd 9 (by kernel_rfl)]; exact HF⟩
    · have d8 := h8 (hd 8 (by kernel_rfl))
      obtain rfl := d8
      refine wpOp_want rfl rfl (fun K hK => ?_)
      simp only [putAll, List.set_cons_zero, List.set_cons_succ, List.getElem_toArray, List.getElem_cons_succ, List.getElem_cons_zero]
      refine ⟨?_⟩
      go_simp
      exact hK _ _ ⟨[s6, (.int .i64 0), s8, s9, s10, s11, s12, s13, s14, s15, (.int .i64 0)], by simp only [putAll, List.set_cons_zero, List.set_cons_succ], s6, (.int .i64 0), s8, s9, s10, s11, s12, s13, s14, s15, (.int .i64 0), c_b6, b6, rfl, lk h0, lk h1, lk h2, lk h3, lk h4, lk h5, lk h6, lk h7, lk h8, lk h9, lk h10, fun _ => rfl, fun h => by rw [getD_keep (show 11 ≠ 10 by decide)] at h; rw [getD_keep (show 11 ≠ 9 by decide)]; exact hN_b6 h, hz0, by rw [getD_keep (show 11 ≠ 9 by decide)]; exact HF⟩
  rintro listed mm W ⟨s6, s7, s8, s9, s10, s11, s12, s13, s14, s15, s16, c_b6, b6, rfl, h0, h1, h2, h3, h4, h5, h6, h7, h8, h9, h10, h11, hN_b6, hz0, HF⟩ hall
  rw [hall 9 (by decide)] at HF
  simp only [onl, if_true, List.cons_append, List.nil_append] at HF
  obtain rfl := h0 (hall 0 (by decide))
  obtain rfl := h1 (hall 1 (by decide))
  obtain rfl := h2 (hall 2 (by decide))
  obtain rfl := h3 (hall 3 (by decide))
  obtain rfl := h4 (hall 4 (by decide))
  obtain rfl := h5 (hall 5 (by decide))
  obtain rfl := h6 (hall 6 (by decide))
  obtain rfl := h7 (hall 7 (by decide))
  obtain rfl := h8 (hall 8 (by decide))
  obtain rfl := h9 (hall 9 (by decide))
  rw [h10 (hall 10 (by decide))] at HF
  obtain rfl := h11 (hall 11 (by decide))
  clear hall h0 h1 h2 h3 h4 h5 h6 h7 h8 h9 h10 h11 hN_b6 hz0 F
  have F := HF
  clear HF
  simp only [putAll, List.set_cons_zero, List.set_cons_succ]
  go_wp2_with (first | go_skip | ((go_at_call 114); (with_reducible refine fr_call F (g4 _) ?_); (clear F; intro W F); (try dsimp only)) | ((with_reducible apply fL F); exact rfl; exact rfl; (exact tL); (exact tR2)) | ((with_reducible apply fLm F); exact rfl; exact rfl; (exact tL); (exact tM2); (exact tR2)) | ((with_reducible apply fA_int F); exact rfl) | ((with_reducible apply fX_rat F); exact rfl; exact rfl) | ((with_reducible apply fS F); exact rfl; exact rfl; exact rfl; (exact tL); (exact tR2); (exact tS2); clear F; intro W F; simp only [List.cons_append, List.nil_append] at F))
  try simp only [Act.put, List.setIfInBounds_toArray, List.set_cons_zero, List.set_cons_succ]
  have hpl : Tryz.prog.follows .mixedOrders = true := by kernel_rfl
  refine wp_region_slots hpl [25, 26] (fun l mm W => ∃ (s25 s26 : Value) (c_b4 c_b5 : Array Value), mm = [s25, s26] ∧ (l.getD 0 false = true → s25 = .agg (IC u)) ∧ (l.getD 1 false = true → s26 = .agg (IC v)) ∧ (l.getD 2 false = true → c_b4 = IC u) ∧ (l.getD 3 false = true → c_b5 = IC v) ∧ (l.getD 2 false = false → c_b4 = IC u) ∧ (l.getD 2 false = true → l.getD 0 false = true) ∧ (l.getD 3 false = false → c_b5 = IC v) ∧ (l.getD 3 false = true → l.getD 1 false = true) ∧ c_b4.size = (IC u).size ∧ c_b5.size = (IC v).size ∧ Fr w W [(b5, c_b5, 29), (b4, c_b4, 29), (b2, RC n d, 31), (b6, IC m, 29)]) (by kernel_rfl) rfl ?_ ?_ ?_
  · exact ⟨_, _, (IC u), (IC v), rfl, fun h => absurd h (by decide), fun h => absurd h (by decide), fun h => absurd h (by decide), fun h => absurd h (by decide), fun _ => rfl, fun h => absurd h (by decide), fun _ => rfl, fun h => absurd h (by decide), by first | (focus (simp only [IC_size, intC_size, limA_size, RC_size, ratC_size]; done)) | exact rfl, by first | (focus (simp only [IC_size, intC_size, limA_size, RC_size, ratC_size]; done)) | exact rfl, F.drew⟩
  · rintro listed mm W ii hi hsz hoff ⟨s25, s26, c_b4, c_b5, rfl, h0, h1, h2, h3, hO_b4, hW_b4_0, hO_b5, hW_b5_1, hz0, hz1, HF⟩ hd
    have hc : ii = 0 ∨ ii = 1 ∨ ii = 2 ∨ ii = 3 := by
      have hi2 : ii < 4 := hi
      omega
    have hsz2 : listed.size = 4 := hsz
    clear hi hsz
    rcases hc with rfl | rfl | rfl | rfl
    · refine wpOp_want rfl rfl (fun K hK => ?_)
      simp only [putAll, List.set_cons_zero, List.set_cons_succ, List.getElem_toArray, List.getElem_cons_succ, List.getElem_cons_zero]
      have hold := hO_b4 (by cases hx : listed.getD 2 false with | false => rfl | true => exact absurd (hW_b4_0 hx) (by rw [hoff]; decide))
      rw [hold] at HF
      with_reducible apply gL HF
      · exact rfl
      · (exact tL)
      · (first | (exact tR2))
      rw [← hold] at HF
      go_simp
      exact hK _ _ ⟨[(.agg (IC u)), s26], by simp only [putAll, List.set_cons_zero, List.set_cons_succ], (.agg (IC u)), s26, c_b4, c_b5, rfl, fun _ => rfl, lk h1, lk h2, lk h3, listed_keepF (by decide) hO_b4, fun _ => getD_on (by omega), listed_keepF (by decide) hO_b5, fun h => by rw [getD_keep (show 0 ≠ 3 by decide)] at h; rw [getD_keep (show 0 ≠ 1 by decide)]; exact hW_b5_1 h, hz0, hz1, HF⟩
    · refine wpOp_want rfl rfl (fun K hK => ?_)
      simp only [putAll, List.set_cons_zero, List.set_cons_succ, List.getElem_toArray, List.getElem_cons_succ, List.getElem_cons_zero]
      have hold := hO_b5 (by cases hx : listed.getD 3 false with | false => rfl | true => exact absurd (hW_b5_1 hx) (by rw [hoff]; decide))
      rw [hold] at HF
      with_reducible apply gL HF
      · exact rfl
      · (exact tL)
      · (first | (exact tR2))
      rw [← hold] at HF
      go_simp
      exact hK _ _ ⟨[s25, (.agg (IC v))], by simp only [putAll, List.set_cons_zero, List.set_cons_succ], s25, (.agg (IC v)), c_b4, c_b5, rfl, lk h0, fun _ => rfl, lk h2, lk h3, listed_keepF (by decide) hO_b4, fun h => by rw [getD_keep (show 1 ≠ 2 by decide)] at h; rw [getD_keep (show 1 ≠ 0 by decide)]; exact hW_b4_0 h, listed_keepF (by decide) hO_b5, fun _ => getD_on (by omega), hz0, hz1, HF⟩
    · have d0 := h0 (hd 0 (by kernel_rfl))
      obtain rfl := d0
      refine wpOp_want rfl rfl (fun K hK => ?_)
      simp only [putAll, List.set_cons_zero, List.set_cons_succ, List.getElem_toArray, List.getElem_cons_succ, List.getElem_cons_zero]
      with_reducible apply gS HF
      · exact rfl
      · exact rfl
      · (exact tL)
      · (first | (exact tR2))
      · first | exact hz0 | first | (focus (simp only [IC_size, intC_size, limA_size, RC_size, ratC_size]; done)) | exact rfl
      clear HF
      intro W HF
      simp only [List.cons_append, List.nil_append] at HF
      go_simp
      exact hK _ _ ⟨[(.agg (IC u)), s26], by simp only [putAll, List.set_cons_zero, List.set_cons_succ], (.agg (IC u)), s26, (IC u), c_b5, rfl, lk h0, lk h1, fun _ => rfl, lk h3, fun h => absurd h (by rw [getD_on (show 2 < listed.size by omega)]; decide), fun _ => by rw [getD_keep (show 2 ≠ 0 by decide)]; exact hd 0 (by kernel_rfl), listed_keepF (by decide) hO_b5, fun h => by rw [getD_keep (show 2 ≠ 3 by decide)] at h; rw [getD_keep (show 2 ≠ 1 by decide)]; exact hW_b5_1 h, rfl, hz1, HF⟩
    · have d1 := h1 (hd 1 (by kernel_rfl))
      obtain rfl := d1
      refine wpOp_want rfl rfl (fun K hK => ?_)
      simp only [putAll, List.set_cons_zero, List.set_cons_succ, List.getElem_toArray, List.getElem_cons_succ, List.getElem_cons_zero]
      with_reducible apply gS HF
      · exact rfl
      · exact rfl
      · (exact tL)
      · (first | (exact tR2))
      · first | exact hz1 | first | (focus (simp only [IC_size, intC_size, limA_size, RC_size, ratC_size]; done)) | exact rfl
      clear HF
      intro W HF
      simp only [List.cons_append, List.nil_append] at HF
      go_simp
      exact hK _ _ ⟨[s25, (.agg (IC v))], by simp only [putAll, List.set_cons_zero, List.set_cons_succ], s25, (.agg (IC v)), c_b4, (IC v), rfl, lk h0, lk h1, lk h2, fun _ => rfl, listed_keepF (by decide) hO_b4, fun h => by rw [getD_keep (show 3 ≠ 2 by decide)] at h; rw [getD_keep (show 3 ≠ 0 by decide)]; exact hW_b4_0 h, fun h => absurd h (by rw [getD_on (show 3 < listed.size by omega)]; decide), fun _ => by rw [getD_keep (show 3 ≠ 1 by decide)]; exact hd 1 (by kernel_rfl), hz0, rfl, HF⟩
  rintro listed mm W ⟨s25, s26, c_b4, c_b5, rfl, h0, h1, h2, h3, hO_b4, hW_b4_0, hO_b5, hW_b5_1, hz0, hz1, HF⟩ hall
  obtain rfl := h0 (hall 0 (by decide))
  obtain rfl := h1 (hall 1 (by decide))
  rw [h2 (hall 2 (by decide))] at HF
  rw [h3 (hall 3 (by decide))] at HF
  clear hall h0 h1 h2 h3 hO_b4 hW_b4_0 hO_b5 hW_b5_1 hz0 hz1 F
  have F := HF
  clear HF
  simp only [putAll, List.set_cons_zero, List.set_cons_succ]
  go_wp2_with (first | go_skip | ((with_reducible apply fL F); exact rfl; exact rfl; (exact tL); (exact tR2)) | ((with_reducible apply fLm F); exact rfl; exact rfl; (exact tL); (exact tM2); (exact tR2)) | ((with_reducible apply fA_int F); exact rfl) | ((with_reducible apply fX_rat F); exact rfl; exact rfl) | ((with_reducible apply fS F); exact rfl; exact rfl; exact rfl; (exact tL); (exact tR2); (exact tS2); clear F; intro W F; simp only [List.cons_append, List.nil_append] at F))
  exact bodyPost_ret (res_cc rfl rfl rfl (Fr.get F tL) (rowIC _) (Fr.get F tL) (rowIC _)) rfl ⟨rfl, F.below⟩
end
section
open Go.RowKit
set_option maxHeartbeats 2000000
def btC (z h : Int) (g : Bool) : Array Value := IC z ++ #[.int .i64 h, .bool g]
theorem btC_size (z h : Int) (g : Bool) : (btC z h g).size = 35 := by simp [btC, IC_size]
theorem rowBtT : RowT Tryz.prog 92 35 := ⟨⟨_, Tryz.underlying92, rfl⟩, by kernel_rfl⟩
theorem rowBt (z h : Int) (g : Bool) : RowV Tryz.prog 92 (btC z h g) := ⟨by rw [btC_size]; exact rowBtT, by
  have h1 := (rowIC z).one
  unfold btC
  rw [Array.all_append, h1]
  simp [Value.oneCell']⟩
theorem bt_half (z h : Int) (g : Bool) : (btC z h g)[33]? = some (.int .i64 h) := by
  unfold btC
  rw [Array.getElem?_append_right (by rw [IC_size]; decide), IC_size]
  rfl
theorem bt_neg (z h : Int) (g : Bool) : (btC z h g)[34]? = some (.bool g) := by
  unfold btC
  rw [Array.getElem?_append_right (by rw [IC_size]; decide), IC_size]
  rfl
theorem bt_first (z h : Int) (g : Bool) : (btC z h g)[1]? = some (.int .u32 (lim z.natAbs 0 : Nat)) := by
  unfold btC
  rw [Array.getElem?_append_left (by rw [IC_size]; decide)]
  unfold IC intC
  rw [Array.getElem?_append_right (by simp)]
  simp [limA]
section
variable {o : Oper} {a : Act} {W w : World} {F : List Ent} {K : Act → World → Prop} {Q : Exit → Act → World → Prop} {ops : Array Oper} {rest : List Oper} {cs : Array Value} {x y z' : Operand} {dst : Option Tmp} {ty : TypeId} {pos : String} {af : Array Edge} {gd : Option (Nat × Bool)}
theorem box_bt (ho : o.op = .box 92 x) (hx : a.eval x = .agg cs) : (execOp a.eval o).run Tryz.prog W = .ok (.value (.pointer (some ⟨W.heap.size, 0, none⟩))) (W.alloc (.cells cs 92)) := by
  obtain ⟨dst, op, pos, af, g, z⟩ := o
  subst ho
  unfold execOp
  simp only [hx]
  go_simp
theorem fX_bt (h : Fr w W F) (hw : Region.wanted ⟨dst, .box 92 x, ty, pos, af, gd⟩ (yielded ops a.tmps) = true) (hx : a.eval x = .agg cs) (hk : Hold (∀ b W', Fr w W' ((b, cs, 92) :: F) → wpList Tryz.prog ops Q rest (a.put dst (.pointer (some ⟨b, 0, none⟩))) W')) : wpList Tryz.prog ops Q (⟨dst, .box 92 x, ty, pos, af, gd⟩ :: rest) a W := wplF_alloc h hw (box_bt rfl hx) hk
theorem built_btR (x : Bool) (a : Nat) (h : Int) (g : Bool) : Tryz.prog.built 92 [(0, .agg (intC x a)), (1, .int .i64 h), (2, .bool g)] = some (intC x a ++ #[.int .i64 h, .bool g]) := by kernel_rfl
theorem gB_bt {z h : Int} {g : Bool} (hx : a.eval x = .agg (IC z)) (hy : a.eval y = .int .i64 h) (hz : a.eval z' = .bool g) (hk : K (a.put dst (.agg (btC z h g))) W) : OpW Tryz.prog ⟨dst, .build 92 #[(0, x), (1, y), (2, z')], ty, pos, af, gd⟩ a W K Q :=
  op_build _ _ rfl (by simp only [List.map_toArray, List.map_cons, List.map_nil, hx, hy, hz]; exact built_btR _ _ h g) hk
end
set_option maxRecDepth 100000 in
theorem down_any {z h : Int} {g : Bool} (w : World) : Calls Tryz.prog 119 #[.agg (btC z h g)] w (RetB (.bool (g)) w) := by
  have F := Fr.start w
  go_enter Tryz.func119, Tryz.ntmps119
  go_wp2_with (first | go_skip | ((with_reducible apply fX_bt F); exact rfl; exact rfl) | ((with_reducible apply fL F); exact rfl; exact rfl; (exact tL); (with_reducible exact rowBt _ _ _)))
  (clear F; intro b1 W F; try simp only [Act.put, List.setIfInBounds_toArray, List.set_cons_zero, List.set_cons_succ])
  have c2 := (F.get Lies.here).cell (bt_neg z h g)
  go_wp2_with (first | go_skip | ((with_reducible apply fX_bt F); exact rfl; exact rfl) | ((with_reducible apply fL F); exact rfl; exact rfl; (exact tL); (with_reducible exact rowBt _ _ _)))
  go_ret
  exact ⟨rfl, F.below⟩
set_option maxRecDepth 100000 in
theorem up_any {z h : Int} {g : Bool} (w : World) : Calls Tryz.prog 120 #[.agg (btC z h g)] w (RetB (.bool (!g)) w) := by
  have F := Fr.start w
  go_enter Tryz.func120, Tryz.ntmps120
  go_wp2_with (first | go_skip | ((with_reducible apply fX_bt F); exact rfl; exact rfl) | ((with_reducible apply fL F); exact rfl; exact rfl; (exact tL); (with_reducible exact rowBt _ _ _)))
  (clear F; intro b1 W F; try simp only [Act.put, List.setIfInBounds_toArray, List.set_cons_zero, List.set_cons_succ])
  have c2 := (F.get Lies.here).cell (bt_neg z h g)
  go_wp2_with (first | go_skip | ((with_reducible apply fX_bt F); exact rfl; exact rfl) | ((with_reducible apply fL F); exact rfl; exact rfl; (exact tL); (with_reducible exact rowBt _ _ _)))
  go_ret
  exact ⟨rfl, F.below⟩
set_option maxRecDepth 100000 in
theorem floor_any {z h : Int} {g : Bool} (w : World) : Calls Tryz.prog 121 #[.agg (btC z h g)] w (RetB (.bool false) w) := by
  have F := Fr.start w
  go_enter Tryz.func121, Tryz.ntmps121
  go_wp2_with (first | go_skip | ((with_reducible apply fX_bt F); exact rfl; exact rfl) | ((with_reducible apply fL F); exact rfl; exact rfl; (exact tL); (with_reducible exact rowBt _ _ _)))
  (clear F; intro b1 W F; try simp only [Act.put, List.setIfInBounds_toArray, List.set_cons_zero, List.set_cons_succ])
  go_wp2_with (first | go_skip | ((with_reducible apply fX_bt F); exact rfl; exact rfl) | ((with_reducible apply fL F); exact rfl; exact rfl; (exact tL); (with_reducible exact rowBt _ _ _)))
  go_ret
  exact ⟨rfl, F.below⟩
set_option maxRecDepth 100000 in
theorem ceil_any {z h : Int} {g : Bool} (w : World) : Calls Tryz.prog 122 #[.agg (btC z h g)] w (RetB (.bool true) w) := by
  have F := Fr.start w
  go_enter Tryz.func122, Tryz.ntmps122
  go_wp2_with (first | go_skip | ((with_reducible apply fX_bt F); exact rfl; exact rfl) | ((with_reducible apply fL F); exact rfl; exact rfl; (exact tL); (with_reducible exact rowBt _ _ _)))
  (clear F; intro b1 W F; try simp only [Act.put, List.setIfInBounds_toArray, List.set_cons_zero, List.set_cons_succ])
  go_wp2_with (first | go_skip | ((with_reducible apply fX_bt F); exact rfl; exact rfl) | ((with_reducible apply fL F); exact rfl; exact rfl; (exact tL); (with_reducible exact rowBt _ _ _)))
  go_ret
  exact ⟨rfl, F.below⟩
set_option maxRecDepth 100000 in
theorem halfUp_any {z h : Int} {g : Bool} {r : Bool} (hr : (if h = 0 then !g else decide (0 < h)) = r) (w : World) : Calls Tryz.prog 123 #[.agg (btC z h g)] w (RetB (.bool r) w) := by
  have HR := Lib.hid hr
  clear hr
  have F := Fr.start w
  have g1 := fun w => up_any (z := z) (h := h) (g := g) w
  go_enter Tryz.func123, Tryz.ntmps123
  go_wp2_with (first | go_skip | ((with_reducible apply fX_bt F); exact rfl; exact rfl) | ((with_reducible apply fL F); exact rfl; exact rfl; (exact tL); (with_reducible exact rowBt _ _ _)))
  (clear F; intro b1 W F; try simp only [Act.put, List.setIfInBounds_toArray, List.set_cons_zero, List.set_cons_succ])
  have c2 := (F.get Lies.here).cell (bt_half z h g)
  by_cases h0 : h = 0
  · have hr := HR.out
    rw [if_pos h0] at hr
    subst h0
    clear HR
    subst hr
    go_wp2_with (first | go_skip | ((go_at_call 120); (with_reducible refine fr_call F (g1 _) ?_); (clear F; intro W F); (try dsimp only)) | ((with_reducible apply fX_bt F); exact rfl; exact rfl) | ((with_reducible apply fL F); exact rfl; exact rfl; (exact tL); (with_reducible exact rowBt _ _ _)))
    go_ret
    exact ⟨rfl, F.below⟩
  · have hr := HR.out
    rw [if_neg h0] at hr
    clear HR
    subst hr
    go_wp2_with (first | go_skip | ((with_reducible apply fX_bt F); exact rfl; exact rfl) | ((with_reducible apply fL F); exact rfl; exact rfl; (exact tL); (with_reducible exact rowBt _ _ _)))
    go_ret
    exact ⟨rfl, F.below⟩
set_option maxRecDepth 100000 in
theorem halfEven_any {z h : Int} {g : Bool} {r : Bool} (hr : (if h = 0 then decide (z % 2 = 1) else decide (0 < h)) = r) (w : World) : Calls Tryz.prog 124 #[.agg (btC z h g)] w (RetB (.bool r) w) := by
  have HR := Lib.hid hr
  clear hr
  have F := Fr.start w
  go_enter Tryz.func124, Tryz.ntmps124
  go_wp2_with (first | go_skip | ((with_reducible apply fX_bt F); exact rfl; exact rfl) | ((with_reducible apply fL F); exact rfl; exact rfl; (exact tL); (with_reducible exact rowBt _ _ _)))
  (clear F; intro b1 W F; try simp only [Act.put, List.setIfInBounds_toArray, List.set_cons_zero, List.set_cons_succ])
  have c2 := (F.get Lies.here).cell (bt_half z h g)
  have c1 := (F.get Lies.here).cell (bt_first z h g)
  obtain ⟨l, hl⟩ : ∃ l, lim z.natAbs 0 = l := ⟨_, rfl⟩
  rw [hl] at c1
  have hz : l % 2 = 1 ↔ z % 2 = 1 := by
    rw [← hl]
    unfold lim
    rw [bp_zero, Nat.div_one]
    omega
  have HZ := Lib.hid hz
  clear hz hl
  by_cases h0 : h = 0
  · have hr := HR.out
    rw [if_pos h0] at hr
    subst h0
    clear HR
    subst hr
    go_wp2_with (first | go_skip | ((with_reducible apply fX_bt F); exact rfl; exact rfl) | ((with_reducible apply fL F); exact rfl; exact rfl; (exact tL); (with_reducible exact rowBt _ _ _)))
    go_ret
    have e : ((l : Int) % 2 == 1) = decide (z % 2 = 1) := by
      have h := HZ.out
      rw [Bool.eq_iff_iff, beq_iff_eq, decide_eq_true_eq]
      omega
    exact ⟨ret_bool e, F.below⟩
  · have hr := HR.out
    rw [if_neg h0] at hr
    clear HR
    subst hr
    go_wp2_with (first | go_skip | ((with_reducible apply fX_bt F); exact rfl; exact rfl) | ((with_reducible apply fL F); exact rfl; exact rfl; (exact tL); (with_reducible exact rowBt _ _ _)))
    go_ret
    exact ⟨rfl, F.below⟩
def modeV (m : Int) (cs : Array Value) : Value := if m = 1 then .func (.func 119) #[.agg cs] #[] else if m = 2 then .func (.func 120) #[.agg cs] #[] else if m = 3 then .func (.func 121) #[.agg cs] #[] else if m = 4 then .func (.func 122) #[.agg cs] #[] else if m = 5 then .func (.func 123) #[.agg cs] #[] else if m = 6 then .func (.func 124) #[.agg cs] #[] else .nilFunc
set_option maxRecDepth 100000 in
theorem mode_any {z h : Int} {g : Bool} {m : Int} {v : Value} (hv : modeV m (btC z h g) = v) (w : World) : Calls Tryz.prog 73 #[.agg (btC z h g), .int .i64 m] w (RetB v w) := by
  have F := Fr.start w
  have HV := Lib.hid hv
  clear hv
  go_enter Tryz.func73, Tryz.ntmps73
  go_wp2_with (first | go_skip | ((with_reducible apply fX_bt F); exact rfl; exact rfl) | ((with_reducible apply fL F); exact rfl; exact rfl; (exact tL); (with_reducible exact rowBt _ _ _)))
  (clear F; intro b2 W F; try simp only [Act.put, List.setIfInBounds_toArray, List.set_cons_zero, List.set_cons_succ])
  by_cases m1 : m = 1
  · subst m1
    have hv : Value.func (.func 119) #[.agg (btC z h g)] #[] = v := HV.out
    clear HV
    subst hv
    go_wp2_with (first | go_skip | ((with_reducible apply fX_bt F); exact rfl; exact rfl) | ((with_reducible apply fL F); exact rfl; exact rfl; (exact tL); (with_reducible exact rowBt _ _ _)))
    go_ret
    exact ⟨rfl, F.below⟩
  by_cases m2 : m = 2
  · subst m2
    have hv : Value.func (.func 120) #[.agg (btC z h g)] #[] = v := HV.out
    clear HV
    subst hv
    go_wp2_with (first | go_skip | ((with_reducible apply fX_bt F); exact rfl; exact rfl) | ((with_reducible apply fL F); exact rfl; exact rfl; (exact tL); (with_reducible exact rowBt _ _ _)))
    go_ret
    exact ⟨rfl, F.below⟩
  by_cases m3 : m = 3
  · subst m3
    have hv : Value.func (.func 121) #[.agg (btC z h g)] #[] = v := HV.out
    clear HV
    subst hv
    go_wp2_with (first | go_skip | ((with_reducible apply fX_bt F); exact rfl; exact rfl) | ((with_reducible apply fL F); exact rfl; exact rfl; (exact tL); (with_reducible exact rowBt _ _ _)))
    go_ret
    exact ⟨rfl, F.below⟩
  by_cases m4 : m = 4
  · subst m4
    have hv : Value.func (.func 122) #[.agg (btC z h g)] #[] = v := HV.out
    clear HV
    subst hv
    go_wp2_with (first | go_skip | ((with_reducible apply fX_bt F); exact rfl; exact rfl) | ((with_reducible apply fL F); exact rfl; exact rfl; (exact tL); (with_reducible exact rowBt _ _ _)))
    go_ret
    exact ⟨rfl, F.below⟩
  by_cases m5 : m = 5
  · subst m5
    have hv : Value.func (.func 123) #[.agg (btC z h g)] #[] = v := HV.out
    clear HV
    subst hv
    go_wp2_with (first | go_skip | ((with_reducible apply fX_bt F); exact rfl; exact rfl) | ((with_reducible apply fL F); exact rfl; exact rfl; (exact tL); (with_reducible exact rowBt _ _ _)))
    go_ret
    exact ⟨rfl, F.below⟩
  by_cases m6 : m = 6
  · subst m6
    have hv : Value.func (.func 124) #[.agg (btC z h g)] #[] = v := HV.out
    clear HV
    subst hv
    go_wp2_with (first | go_skip | ((with_reducible apply fX_bt F); exact rfl; exact rfl) | ((with_reducible apply fL F); exact rfl; exact rfl; (exact tL); (with_reducible exact rowBt _ _ _)))
    go_ret
    exact ⟨rfl, F.below⟩
  have hv := HV.out
  unfold modeV at hv
  rw [if_neg m1, if_neg m2, if_neg m3, if_neg m4, if_neg m5, if_neg m6] at hv
  clear HV
  subst hv
  go_wp2_with (first | go_skip | ((with_reducible apply fX_bt F); exact rfl; exact rfl) | ((with_reducible apply fL F); exact rfl; exact rfl; (exact tL); (with_reducible exact rowBt _ _ _)))
  go_ret
  exact ⟨rfl, F.below⟩
end
section
open Go.RowKit
set_option maxHeartbeats 2000000
def upB (m z h : Int) (g : Bool) : Bool :=
  if m = 1 then g else if m = 2 then !g else if m = 3 then false else if m = 4 then true else if m = 5 then (if h = 0 then !g else decide (0 < h)) else (if h = 0 then decide (z % 2 = 1) else decide (0 < h))
theorem mode_up {m z h : Int} {g : Bool} (h1 : 1 ≤ m) (h2 : m ≤ 6) : ∃ f, modeV m (btC z h g) = .func (.func f) #[.agg (btC z h g)] #[] ∧ (∀ w, Calls Tryz.prog f #[.agg (btC z h g)] w (RetB (.bool (upB m z h g)) w)) ∧ ∀ args w, (callFunc f args).run Tryz.prog w = .ok (.enter f args) w := by
  have hm : m = 1 ∨ m = 2 ∨ m = 3 ∨ m = 4 ∨ m = 5 ∨ m = 6 := by omega
  rcases hm with rfl | rfl | rfl | rfl | rfl | rfl
  · exact ⟨_, rfl, fun w => down_any w, enters_of Tryz.func119 (by kernel_rfl) rfl⟩
  · exact ⟨_, rfl, fun w => up_any w, enters_of Tryz.func120 (by kernel_rfl) rfl⟩
  · exact ⟨_, rfl, fun w => floor_any w, enters_of Tryz.func121 (by kernel_rfl) rfl⟩
  · exact ⟨_, rfl, fun w => ceil_any w, enters_of Tryz.func122 (by kernel_rfl) rfl⟩
  · exact ⟨_, rfl, fun w => halfUp_any rfl w, enters_of Tryz.func123 (by kernel_rfl) rfl⟩
  · exact ⟨_, rfl, fun w => halfEven_any rfl w, enters_of Tryz.func124 (by kernel_rfl) rfl⟩
def rndR (v : Prop) [Decidable v] (n d p m : Int) : Int × Int :=
  if ¬ v then (0, 20) else if p < 0 ∨ 9 < p then (0, 30) else if m < 1 ∨ 6 < m then (0, 31)
  else
    let N := n * ((10 ^ p.toNat : Nat) : Int)
    if N % d = 0 then (N / d, 0) else if upB m (N / d) (cmpZ (2 * (N % d)) d) (decide (n < 0)) = true then (N / d + 1, 0) else (N / d, 0)
theorem func_und : ∃ a b c, Tryz.prog.underlying 42 = some (.func a b c) := ⟨_, _, _, Tryz.underlying42⟩
theorem eq_nilF' (d : Nat) (w : World) : (Op.equalIn (d + 1) 42 .nilFunc .nilFunc).run Tryz.prog w = .ok true w := by
  obtain ⟨a, b, c, h⟩ := func_und
  simp [Op.equalIn, run_underlying h]
theorem eq_someF' (d : Nat) (f : Fn) (l m : Array Value) (w : World) : (Op.equalIn (d + 1) 42 (.func f l m) .nilFunc).run Tryz.prog w = .ok false w := by
  obtain ⟨a, b, c, h⟩ := func_und
  simp [Op.equalIn, run_underlying h]
theorem eq_nilF (w : World) : (binOp .eql 42 .nilFunc .nilFunc).run Tryz.prog w = .ok (.bool true) w := by
  simp only [binOp, Op.equal, Sem.run_bind, show Op.maxDepth = 9999 + 1 from rfl, eq_nilF', Result.andThen_ok, Sem.run_pure]
theorem eq_someF (f : Fn) (l m : Array Value) (w : World) : (binOp .eql 42 (.func f l m) .nilFunc).run Tryz.prog w = .ok (.bool false) w := by
  simp only [binOp, Op.equal, Sem.run_bind, show Op.maxDepth = 9999 + 1 from rfl, eq_someF', Result.andThen_ok, Sem.run_pure]
theorem b17 {x y : Int} (h : x.natAbs < bp 15) (k : y.natAbs < bp 15) : (x + y).natAbs < bp 32 := by
  have k1 : bp 16 = bp 15 * 4294967296 := bp_succ 15
  have k2 := bp_le (show 16 ≤ 32 by decide)
  omega
set_option maxRecDepth 100000 in
theorem round_any {x : Bool} {a : Nat} {y : Bool} {b : Nat} (ha : a < bp 32) (hb : b < bp 32) {p m : Int} {r : Int × Int} (hr : rndR (okR x a y b) (sZ x a) (sZ y b) p m = r) (w : World) : Calls Tryz.prog 25 #[.agg (ratC x a y b), .int .i64 p, .int .i64 m] w (RetB (.tuple #[.agg (IC r.1), .int .i64 r.2]) w) := by
  have F := Fr.start w
  obtain ⟨e, he⟩ : ∃ e, chkE (okR x a y b) p = e := ⟨_, rfl⟩
  have g1 := fun w => check_any ha hb he w
  have HR := Lib.hid hr
  have HE := Lib.hid he
  clear hr he
  go_enter Tryz.func25, Tryz.ntmps25
  go_wp2_with (first | go_skip | ((with_reducible apply fL F); exact rfl; exact rfl; (exact tL); (exact tR2)) | ((with_reducible apply fLm F); exact rfl; exact rfl; (exact tL); (exact tM2); (exact tR2)) | ((with_reducible apply fA_int F); exact rfl) | ((with_reducible apply fX_rat F); exact rfl; exact rfl) | ((with_reducible apply fS F); exact rfl; exact rfl; exact rfl; (exact tL); (exact tR2); (exact tS2); clear F; intro W F; simp only [List.cons_append, List.nil_append] at F) | ((with_reducible apply fB_int0); exact rfl))
  (clear F; intro b3 W F; try simp only [Act.put, List.setIfInBounds_toArray, List.set_cons_zero, List.set_cons_succ])
  go_wp2_with (first | go_skip | ((with_reducible apply fL F); exact rfl; exact rfl; (exact tL); (exact tR2)) | ((with_reducible apply fLm F); exact rfl; exact rfl; (exact tL); (exact tM2); (exact tR2)) | ((with_reducible apply fA_int F); exact rfl) | ((with_reducible apply fX_rat F); exact rfl; exact rfl) | ((with_reducible apply fS F); exact rfl; exact rfl; exact rfl; (exact tL); (exact tR2); (exact tS2); clear F; intro W F; simp only [List.cons_append, List.nil_append] at F) | ((with_reducible apply fB_int0); exact rfl))
  (clear F; intro b6 W F; try simp only [Act.put, List.setIfInBounds_toArray, List.set_cons_zero, List.set_cons_succ])
  by_cases hv : ¬ okR x a y b
  · have he : (20 : Int) = e := by have := HE.out; rwa [chkE, if_pos hv] at this
    have hr : (0, 20) = r := by have := HR.out; rwa [rndR, if_pos hv] at this
    subst he
    subst hr
    clear HE HR hv
    go_wp2_with (first | go_skip | ((go_at_call 68); (with_reducible refine fr_call F (g1 _) ?_); (clear F; intro W F); (try dsimp only)) | ((with_reducible apply fL F); exact rfl; exact rfl; (exact tL); (exact tR2)) | ((with_reducible apply fLm F); exact rfl; exact rfl; (exact tL); (exact tM2); (exact tR2)) | ((with_reducible apply fA_int F); exact rfl) | ((with_reducible apply fX_rat F); exact rfl; exact rfl) | ((with_reducible apply fS F); exact rfl; exact rfl; exact rfl; (exact tL); (exact tR2); (exact tS2); clear F; intro W F; simp only [List.cons_append, List.nil_append] at F) | ((with_reducible apply fB_int0); exact rfl))
    exact bodyPost_ret (res_cs rfl rfl rfl (Fr.get F tL) (rowIC 0)) rfl ⟨rfl, F.below⟩
  rw [Classical.not_not] at hv
  by_cases hp : p < 0 ∨ 9 < p
  · have he : (30 : Int) = e := by have := HE.out; rwa [chkE, if_neg (by rw [Classical.not_not]; exact hv), if_pos hp] at this
    have hr : (0, 30) = r := by have := HR.out; rwa [rndR, if_neg (by rw [Classical.not_not]; exact hv), if_pos hp] at this
    subst he
    subst hr
    clear HE HR hv hp
    go_wp2_with (first | go_skip | ((go_at_call 68); (with_reducible refine fr_call F (g1 _) ?_); (clear F; intro W F); (try dsimp only)) | ((with_reducible apply fL F); exact rfl; exact rfl; (exact tL); (exact tR2)) | ((with_reducible apply fLm F); exact rfl; exact rfl; (exact tL); (exact tM2); (exact tR2)) | ((with_reducible apply fA_int F); exact rfl) | ((with_reducible apply fX_rat F); exact rfl; exact rfl) | ((with_reducible apply fS F); exact rfl; exact rfl; exact rfl; (exact tL); (exact tR2); (exact tS2); clear F; intro W F; simp only [List.cons_append, List.nil_append] at F) | ((with_reducible apply fB_int0); exact rfl))
    exact bodyPost_ret (res_cs rfl rfl rfl (Fr.get F tL) (rowIC 0)) rfl ⟨rfl, F.below⟩
  have he : (0 : Int) = e := by have := HE.out; rwa [chkE, if_neg (by rw [Classical.not_not]; exact hv), if_neg hp] at this
  have hr := HR.out
  rw [rndR, if_neg (by rw [Classical.not_not]; exact hv), if_neg hp] at hr
  subst he
  obtain ⟨n, d, ⟨h1, h2, h3⟩, hn, hd, hd0⟩ := okR_ints hv
  rw [h2, h3] at hr
  obtain ⟨q, rfl⟩ : ∃ q : Nat, p = (q : Int) := ⟨p.toNat, by omega⟩
  have hq : q ≤ 9 := by omega
  rw [Int.toNat_natCast] at hr
  have g2 := fun w => scaledZ hn hd (show d ≠ 0 by omega) hq w
  have hN := b_ten hn hq
  have hNd : (n * ((10 ^ q : Nat) : Int)).natAbs < bp 32 := Nat.lt_of_lt_of_le hN (bp_le (by decide))
  obtain ⟨N, hNN⟩ : ∃ N, n * ((10 ^ q : Nat) : Int) = N := ⟨_, rfl⟩
  simp only [hNN] at hr g2 hN
  have hu : (N / d).natAbs < bp 17 := Nat.lt_of_le_of_lt (div_le_abs N d) hN
  have hvv : (N % d).natAbs < bp 15 := by
    have k1 := Int.emod_nonneg N (show d ≠ 0 by omega)
    have k2 := Int.emod_lt_of_pos N hd0
    omega
  obtain ⟨u, huu⟩ : ∃ u, N / d = u := ⟨_, rfl⟩
  obtain ⟨v, hv2⟩ : ∃ v, N % d = v := ⟨_, rfl⟩
  rw [huu, hv2] at hr g2
  rw [huu] at hu
  rw [hv2] at hvv
  rw [h1] at g1 F
  have g3 := fun w => addZ (b15 hvv) (b15 hvv) (b17 hvv hvv) w
  have g4 := fun w => cmpZ_ok (x := v + v) (y := d) (b17 hvv hvv) (b15 hd) w
  have g5 := fun w => signZ (b15 hn) w
  have hs : decide (n.sign < 0) = decide (n < 0) := by rw [decide_eq_decide]; exact Int.sign_neg_iff
  rw [← hs] at hr
  clear hs
  obtain ⟨s, hss⟩ : ∃ s, n.sign = s := ⟨_, rfl⟩
  rw [hss] at g5 hr
  obtain ⟨g, hg⟩ : ∃ g, decide (s < 0) = g := ⟨_, rfl⟩
  rw [hg] at hr
  have HS := Lib.hid hg
  clear hg
  rw [show 2 * v = v + v by omega] at hr
  obtain ⟨c, hc⟩ : ∃ c, cmpZ (v + v) d = c := ⟨_, rfl⟩
  rw [hc] at g4 hr
  have g6 := fun w => mode_any (z := u) (h := c) (g := g) (m := m) rfl w
  have g8 := fun w => signZ (b15 hvv) w
  have hv0 : v.sign = 0 ↔ v = 0 := Int.sign_eq_zero_iff_zero
  obtain ⟨t, ht⟩ : ∃ t, v.sign = t := ⟨_, rfl⟩
  rw [ht] at g8 hv0
  have hu1 : u.natAbs < bp 32 ∧ (u + 1).natAbs < bp 32 := by
    have k1 : bp 18 = bp 17 * 4294967296 := bp_succ 17
    have k2 := bp_le (show 18 ≤ 32 by decide)
    omega
  have g9 := fun w => fromZ (n := 1) (by decide) (by decide) w
  have g10 := fun w => addZ (x := u) (y := 1) hu1.1 (by decide) hu1.2 w
  have HR2 := Lib.hid hr
  have HV0 := Lib.hid hv0
  obtain ⟨w2, hw2⟩ : ∃ z, v + v = z := ⟨_, rfl⟩
  rw [hw2] at g3 g4
  clear HR HE hp hq hNd hNN hN hu huu hvv hr hv2 hn hd hd0 h1 h2 h3 hv hss hc ht hu1 hv0 hw2
  go_wp2_with (first | go_skip | ((go_at_call 68); (with_reducible refine fr_call F (g1 _) ?_); (clear F; intro W F); (try dsimp only)) | ((go_at_call 69); (with_reducible refine fr_call F (g2 _) ?_); (clear F; intro W F); (try dsimp only)) | ((with_reducible apply fL F); exact rfl; exact rfl; (exact tL); (exact tR2)) | ((with_reducible apply fLm F); exact rfl; exact rfl; (exact tL); (exact tM2); (exact tR2)) | ((with_reducible apply fA_int F); exact rfl) | ((with_reducible apply fX_rat F); exact rfl; exact rfl) | ((with_reducible apply fS F); exact rfl; exact rfl; exact rfl; (exact tL); (exact tR2); (exact tS2); clear F; intro W F; simp only [List.cons_append, List.nil_append] at F) | ((with_reducible apply fB_int0); exact rfl))
  (clear F; intro b9 W F; try simp only [Act.put, List.setIfInBounds_toArray, List.set_cons_zero, List.set_cons_succ])
  go_wp2_with (first | go_skip | ((with_reducible apply fL F); exact rfl; exact rfl; (exact tL); (exact tR2)) | ((with_reducible apply fLm F); exact rfl; exact rfl; (exact tL); (exact tM2); (exact tR2)) | ((with_reducible apply fA_int F); exact rfl) | ((with_reducible apply fX_rat F); exact rfl; exact rfl) | ((with_reducible apply fS F); exact rfl; exact rfl; exact rfl; (exact tL); (exact tR2); (exact tS2); clear F; intro W F; simp only [List.cons_append, List.nil_append] at F) | ((with_reducible apply fB_int0); exact rfl))
  (clear F; intro b10 W F; try simp only [Act.put, List.setIfInBounds_toArray, List.set_cons_zero, List.set_cons_succ])
  go_wp2_with (first | go_skip | ((go_at_call 70); (with_reducible refine fr_call F (g3 _) ?_); (clear F; intro W F); (try dsimp only)) | ((with_reducible apply fL F); exact rfl; exact rfl; (exact tL); (exact tR2)) | ((with_reducible apply fLm F); exact rfl; exact rfl; (exact tL); (exact tM2); (exact tR2)) | ((with_reducible apply fA_int F); exact rfl) | ((with_reducible apply fX_rat F); exact rfl; exact rfl) | ((with_reducible apply fS F); exact rfl; exact rfl; exact rfl; (exact tL); (exact tR2); (exact tS2); clear F; intro W F; simp only [List.cons_append, List.nil_append] at F) | ((with_reducible apply fB_int0); exact rfl))
  (clear F; intro b11 W F; try simp only [Act.put, List.setIfInBounds_toArray, List.set_cons_zero, List.set_cons_succ])
  go_wp2_with (first | go_skip | ((with_reducible apply fL F); exact rfl; exact rfl; (exact tL); (exact tR2)) | ((with_reducible apply fLm F); exact rfl; exact rfl; (exact tL); (exact tM2); (exact tR2)) | ((with_reducible apply fA_int F); exact rfl) | ((with_reducible apply fX_rat F); exact rfl; exact rfl) | ((with_reducible apply fS F); exact rfl; exact rfl; exact rfl; (exact tL); (exact tR2); (exact tS2); clear F; intro W F; simp only [List.cons_append, List.nil_append] at F) | ((with_reducible apply fB_int0); exact rfl))
  try simp only [Act.put, List.setIfInBounds_toArray, List.set_cons_zero, List.set_cons_succ]
  have hpl : Tryz.prog.follows .mixedOrders = true := by kernel_rfl
  refine wp_region_slots hpl [13, 35, 36, 37, 38, 39, 40, 41, 42, 43, 44, 45, 46] (fun l mm W => ∃ (s13 s35 s36 s37 s38 s39 s40 s41 s42 s43 s44 s45 s46 : Value), mm = [s13, s35, s36, s37, s38, s39, s40, s41, s42, s43, s44, s45, s46] ∧ (l.getD 0 false = true → s35 = .agg (IC u)) ∧ (l.getD 1 false = true → s36 = .agg (IC w2)) ∧ (l.getD 2 false = true → s37 = .pointer (some ⟨b3, 33, none⟩)) ∧ (l.getD 3 false = true → s38 = .agg (IC d)) ∧ (l.getD 4 false = true → s39 = .int .i64 c) ∧ (l.getD 5 false = true → s40 = .pointer (some ⟨b3, 0, none⟩)) ∧ (l.getD 6 false = true → s41 = .agg (IC n)) ∧ (l.getD 7 false = true → s42 = .int .i64 s) ∧ (l.getD 8 false = true → s43 = .bool g) ∧ (l.getD 9 false = true → s44 = .agg (btC u c g)) ∧ (l.getD 10 false = true → s45 = .int .i64 m) ∧ (l.getD 11 false = true → s46 = modeV m (btC u c g)) ∧ (l.getD 12 false = true → s13 = modeV m (btC u c g)) ∧ Fr w W [(b11, IC w2, 29), (b10, IC v, 29), (b9, IC u, 29), (b6, intC false 0, 29), (b3, RC n d, 31)]) (by kernel_rfl) rfl ?_ ?_ ?_
  · exact ⟨_, _, _, _, _, _, _, _, _, _, _, _, _, rfl, fun h => absurd h (by decide), fun h => absurd h (by decide), fun h => absurd h (by decide), fun h => absurd h (by decide), fun h => absurd h (by decide), fun h => absurd h (by decide), fun h => absurd h (by decide), fun h => absurd h (by decide), fun h => absurd h (by decide), fun h => absurd h (by decide), fun h => absurd h (by decide), fun h => absurd h (by decide), fun h => absurd h (by decide), F.drew⟩
  · rintro listed mm W ii hi hsz hoff ⟨s13, s35, s36, s37, s38, s39, s40, s41, s42, s43, s44, s45, s46, rfl, h0, h1, h2, h3, h4, h5, h6, h7, h8, h9, h10, h11, h12, HF⟩ hd
    have hc : ii = 0 ∨ ii = 1 ∨ ii = 2 ∨ ii = 3 ∨ ii = 4 ∨ ii = 5 ∨ ii = 6 ∨ ii = 7 ∨ ii = 8 ∨ ii = 9 ∨ ii = 10 ∨ ii = 11 ∨ ii = 12 := by
      have hi2 : ii < 13 := hi
      omega
    have hsz2 : listed.size = 13 := hsz
    clear hi hsz
    rcases hc with rfl | rfl | rfl | rfl | rfl | rfl | rfl | rfl | rfl | rfl | rfl | rfl | rfl
    · refine wpOp_want rfl rfl (fun K hK => ?_)
      simp only [putAll, List.set_cons_zero, List.set_cons_succ, List.getElem_toArray, List.getElem_cons_succ, List.getElem_cons_zero]
      with_reducible apply gL HF
      · exact rfl
      · (exact tL)
      · (first | (exact tR2))
      go_simp
      exact hK _ _ ⟨[s13, (.agg (IC u)), s36, s37, s38, s39, s40, s41, s42, s43, s44, s45, s46], by simp only [putAll, List.set_cons_zero, List.set_cons_succ], s13, (.agg (IC u)), s36, s37, s38, s39, s40, s41, s42, s43, s44, s45, s46, rfl, fun _ => rfl, lk h1, lk h2, lk h3, lk h4, lk h5, lk h6, lk h7, lk h8, lk h9, lk h10, lk h11, lk h12, HF⟩
    · refine wpOp_want rfl rfl (fun K hK => ?_)
      simp only [putAll, List.set_cons_zero, List.set_cons_succ, List.getElem_toArray, List.getElem_cons_succ, List.getElem_cons_zero]
      with_reducible apply gL HF
      · exact rfl
      · (exact tL)
      · (first | (exact tR2))
      go_simp
      exact hK _ _ ⟨[s13, s35, (.agg (IC w2)), s37, s38, s39, s40, s41, s42, s43, s44, s45, s46], by simp only [putAll, List.set_cons_zero, List.set_cons_succ], s13, s35, (.agg (IC w2)), s37, s38, s39, s40, s41, s42, s43, s44, s45, s46, rfl, lk h0, fun _ => rfl, lk h2, lk h3, lk h4, lk h5, lk h6, lk h7, lk h8, lk h9, lk h10, lk h11, lk h12, HF⟩
    · refine wpOp_want rfl rfl (fun K hK => ?_)
      simp only [putAll, List.set_cons_zero, List.set_cons_succ, List.getElem_toArray, List.getElem_cons_succ, List.getElem_cons_zero]
      refine ⟨?_⟩
      go_simp
      exact hK _ _ ⟨[s13, s35, s36, (.pointer (some ⟨b3, 33, none⟩)), s38, s39, s40, s41, s42, s43, s44, s45, s46], by simp only [putAll, List.set_cons_zero, List.set_cons_succ], s13, s35, s36, (.pointer (some ⟨b3, 33, none⟩)), s38, s39, s40, s41, s42, s43, s44, s45, s46, rfl, lk h0, lk h1, fun _ => rfl, lk h3, lk h4, lk h5, lk h6, lk h7, lk h8, lk h9, lk h10, lk h11, lk h12, HF⟩
    · have d2 := h2 (hd 2 (by kernel_rfl))
      obtain rfl := d2
      refine wpOp_want rfl rfl (fun K hK => ?_)
      simp only [putAll, List.set_cons_zero, List.set_cons_succ, List.getElem_toArray, List.getElem_cons_succ, List.getElem_cons_zero]
      with_reducible apply gLm HF
      · exact rfl
      · (exact tL)
      · exact RC_den _ _
      · (first | (exact tR2))
      go_simp
      exact hK _ _ ⟨[s13, s35, s36, (.pointer (some ⟨b3, 33, none⟩)), (.agg (IC d)), s39, s40, s41, s42, s43, s44, s45, s46], by simp only [putAll, List.set_cons_zero, List.set_cons_succ], s13, s35, s36, (.pointer (some ⟨b3, 33, none⟩)), (.agg (IC d)), s39, s40, s41, s42, s43, s44, s45, s46, rfl, lk h0, lk h1, lk h2, fun _ => rfl, lk h4, lk h5, lk h6, lk h7, lk h8, lk h9, lk h10, lk h11, lk h12, HF⟩
    · have d1 := h1 (hd 1 (by kernel_rfl))
      have d3 := h3 (hd 3 (by kernel_rfl))
      obtain rfl := d1
      obtain rfl := d3
      refine wpOp_want rfl rfl (fun K hK => ?_)
      simp only [putAll, List.set_cons_zero, List.set_cons_succ, List.getElem_toArray, List.getElem_cons_succ, List.getElem_cons_zero]
      refine ⟨?_⟩
      go_simp
      with_reducible refine fr_call HF (g4 _) ?_
      clear HF
      intro W HF
      (try dsimp only)
      exact hK _ _ ⟨[s13, s35, (.agg (IC w2)), s37, (.agg (IC d)), (.int .i64 c), s40, s41, s42, s43, s44, s45, s46], by simp only [putAll, List.set_cons_zero, List.set_cons_succ], s13, s35, (.agg (IC w2)), s37, (.agg (IC d)), (.int .i64 c), s40, s41, s42, s43, s44, s45, s46, rfl, lk h0, lk h1, lk h2, lk h3, fun _ => rfl, lk h5, lk h6, lk h7, lk h8, lk h9, lk h10, lk h11, lk h12, HF⟩
    · refine wpOp_want rfl rfl (fun K hK => ?_)
      simp only [putAll, List.set_cons_zero, List.set_cons_succ, List.getElem_toArray, List.getElem_cons_succ, List.getElem_cons_zero]
      refine ⟨?_⟩
      go_simp
      exact hK _ _ ⟨[s13, s35, s36, s37, s38, s39, (.pointer (some ⟨b3, 0, none⟩)), s41, s42, s43, s44, s45, s46], by simp only [putAll, List.set_cons_zero, List.set_cons_succ], s13, s35, s36, s37, s38, s39, (.pointer (some ⟨b3, 0, none⟩)), s41, s42, s43, s44, s45, s46, rfl, lk h0, lk h1, lk h2, lk h3, lk h4, fun _ => rfl, lk h6, lk h7, lk h8, lk h9, lk h10, lk h11, lk h12, HF⟩
    · have d5 := h5 (hd 5 (by kernel_rfl))
      obtain rfl := d5
      refine wpOp_want rfl rfl (fun K hK => ?_)
      simp only [putAll, List.set_cons_zero, List.set_cons_succ, List.getElem_toArray, List.getElem_cons_succ, List.getElem_cons_zero]
      with_reducible apply gLm HF
      · exact rfl
      · (exact tL)
      · exact RC_num _ _
      · (first | (exact tR2))
      go_simp
      exact hK _ _ ⟨[s13, s35, s36, s37, s38, s39, (.pointer (some ⟨b3, 0, none⟩)), (.agg (IC n)), s42, s43, s44, s45, s46], by simp only [putAll, List.set_cons_zero, List.set_cons_succ], s13, s35, s36, s37, s38, s39, (.pointer (some ⟨b3, 0, none⟩)), (.agg (IC n)), s42, s43, s44, s45, s46, rfl, lk h0, lk h1, lk h2, lk h3, lk h4, lk h5, fun _ => rfl, lk h7, lk h8, lk h9, lk h10, lk h11, lk h12, HF⟩
    · have d6 := h6 (hd 6 (by kernel_rfl))
      obtain rfl := d6
      refine wpOp_want rfl rfl (fun K hK => ?_)
      simp only [putAll, List.set_cons_zero, List.set_cons_succ, List.getElem_toArray, List.getElem_cons_succ, List.getElem_cons_zero]
      refine ⟨?_⟩
      go_simp
      with_reducible refine fr_call HF (g5 _) ?_
      clear HF
      intro W HF
      (try dsimp only)
      exact hK _ _ ⟨[s13, s35, s36, s37, s38, s39, s40, (.agg (IC n)), (.int .i64 s), s43, s44, s45, s46], by simp only [putAll, List.set_cons_zero, List.set_cons_succ], s13, s35, s36, s37, s38, s39, s40, (.agg (IC n)), (.int .i64 s), s43, s44, s45, s46, rfl, lk h0, lk h1, lk h2, lk h3, lk h4, lk h5, lk h6, fun _ => rfl, lk h8, lk h9, lk h10, lk h11, lk h12, HF⟩
    · have d7 := h7 (hd 7 (by kernel_rfl))
      obtain rfl := d7
      refine wpOp_want rfl rfl (fun K hK => ?_)
      simp only [putAll, List.set_cons_zero, List.set_cons_succ, List.getElem_toArray, List.getElem_cons_succ, List.getElem_cons_zero]
      refine ⟨?_⟩
      go_simp
      rw [HS.out]
      exact hK _ _ ⟨[s13, s35, s36, s37, s38, s39, s40, s41, (.int .i64 s), (.bool g), s44, s45, s46], by simp only [putAll, List.set_cons_zero, List.set_cons_succ], s13, s35, s36, s37, s38, s39, s40, s41, (.int .i64 s), (.bool g), s44, s45, s46, rfl, lk h0, lk h1, lk h2, lk h3, lk h4, lk h5, lk h6, lk h7, fun _ => rfl, lk h9, lk h10, lk h11, lk h12, HF⟩
    · have d0 := h0 (hd 0 (by kernel_rfl))
      have d4 := h4 (hd 4 (by kernel_rfl))
      have d8 := h8 (hd 8 (by kernel_rfl))
      obtain rfl := d0
      obtain rfl := d4
      obtain rfl := d8
      refine wpOp_want rfl rfl (fun K hK => ?_)
      simp only [putAll, List.set_cons_zero, List.set_cons_succ, List.getElem_toArray, List.getElem_cons_succ, List.getElem_cons_zero]
      with_reducible apply gB_bt
      · exact rfl
      · exact rfl
      · exact rfl
      go_simp
      exact hK _ _ ⟨[s13, (.agg (IC u)), s36, s37, s38, (.int .i64 c), s40, s41, s42, (.bool g), (.agg (btC u c g)), s45, s46], by simp only [putAll, List.set_cons_zero, List.set_cons_succ], s13, (.agg (IC u)), s36, s37, s38, (.int .i64 c), s40, s41, s42, (.bool g), (.agg (btC u c g)), s45, s46, rfl, lk h0, lk h1, lk h2, lk h3, lk h4, lk h5, lk h6, lk h7, lk h8, fun _ => rfl, lk h10, lk h11, lk h12, HF⟩
    · refine wpOp_want rfl rfl (fun K hK => ?_)
      simp only [putAll, List.set_cons_zero, List.set_cons_succ, List.getElem_toArray, List.getElem_cons_succ, List.getElem_cons_zero]
      refine ⟨?_⟩
      go_simp
      exact hK _ _ ⟨[s13, s35, s36, s37, s38, s39, s40, s41, s42, s43, s44, (.int .i64 m), s46], by simp only [putAll, List.set_cons_zero, List.set_cons_succ], s13, s35, s36, s37, s38, s39, s40, s41, s42, s43, s44, (.int .i64 m), s46, rfl, lk h0, lk h1, lk h2, lk h3, lk h4, lk h5, lk h6, lk h7, lk h8, lk h9, fun _ => rfl, lk h11, lk h12, HF⟩
    · have d9 := h9 (hd 9 (by kernel_rfl))
      have d10 := h10 (hd 10 (by kernel_rfl))
      obtain rfl := d9
      obtain rfl := d10
      refine wpOp_want rfl rfl (fun K hK => ?_)
      simp only [putAll, List.set_cons_zero, List.set_cons_succ, List.getElem_toArray, List.getElem_cons_succ, List.getElem_cons_zero]
      refine ⟨?_⟩
      go_simp
      with_reducible refine fr_call HF (g6 _) ?_
      clear HF
      intro W HF
      (try dsimp only)
      exact hK _ _ ⟨[s13, s35, s36, s37, s38, s39, s40, s41, s42, s43, (.agg (btC u c g)), (.int .i64 m), (modeV m (btC u c g))], by simp only [putAll, List.set_cons_zero, List.set_cons_succ], s13, s35, s36, s37, s38, s39, s40, s41, s42, s43, (.agg (btC u c g)), (.int .i64 m), (modeV m (btC u c g)), rfl, lk h0, lk h1, lk h2, lk h3, lk h4, lk h5, lk h6, lk h7, lk h8, lk h9, lk h10, fun _ => rfl, lk h12, HF⟩
    · have d11 := h11 (hd 11 (by kernel_rfl))
      obtain rfl := d11
      refine wpOp_want rfl rfl (fun K hK => ?_)
      simp only [putAll, List.set_cons_zero, List.set_cons_succ, List.getElem_toArray, List.getElem_cons_succ, List.getElem_cons_zero]
      refine ⟨?_⟩
      go_simp
      exact hK _ _ ⟨[(modeV m (btC u c g)), s35, s36, s37, s38, s39, s40, s41, s42, s43, s44, s45, (modeV m (btC u c g))], by simp only [putAll, List.set_cons_zero, List.set_cons_succ], (modeV m (btC u c g)), s35, s36, s37, s38, s39, s40, s41, s42, s43, s44, s45, (modeV m (btC u c g)), rfl, lk h0, lk h1, lk h2, lk h3, lk h4, lk h5, lk h6, lk h7, lk h8, lk h9, lk h10, lk h11, fun _ => rfl, HF⟩
  rintro listed mm W ⟨s13, s35, s36, s37, s38, s39, s40, s41, s42, s43, s44, s45, s46, rfl, h0, h1, h2, h3, h4, h5, h6, h7, h8, h9, h10, h11, h12, HF⟩ hall
  obtain rfl := h0 (hall 0 (by decide))
  obtain rfl := h1 (hall 1 (by decide))
  obtain rfl := h2 (hall 2 (by decide))
  obtain rfl := h3 (hall 3 (by decide))
  obtain rfl := h4 (hall 4 (by decide))
  obtain rfl := h5 (hall 5 (by decide))
  obtain rfl := h6 (hall 6 (by decide))
  obtain rfl := h7 (hall 7 (by decide))
  obtain rfl := h8 (hall 8 (by decide))
  obtain rfl := h9 (hall 9 (by decide))
  obtain rfl := h10 (hall 10 (by decide))
  obtain rfl := h11 (hall 11 (by decide))
  obtain rfl := h12 (hall 12 (by decide))
  clear hall h0 h1 h2 h3 h4 h5 h6 h7 h8 h9 h10 h11 h12 F
  have F := HF
  clear HF
  simp only [putAll, List.set_cons_zero, List.set_cons_succ]
  by_cases hm : m < 1 ∨ 6 < m
  · have hr := HR2.out
    rw [if_pos hm] at hr
    have hmv : modeV m (btC u c g) = Value.nilFunc := by
      unfold modeV
      rw [if_neg (by omega), if_neg (by omega), if_neg (by omega), if_neg (by omega), if_neg (by omega), if_neg (by omega)]
    rw [hmv]
    subst hr
    have hq := eq_nilF
    clear HR2 HV0 hm hmv g6
    go_wp2_with (first | go_skip | ((with_reducible apply fL F); exact rfl; exact rfl; (exact tL); (exact tR2)) | ((with_reducible apply fLm F); exact rfl; exact rfl; (exact tL); (exact tM2); (exact tR2)) | ((with_reducible apply fA_int F); exact rfl) | ((with_reducible apply fX_rat F); exact rfl; exact rfl) | ((with_reducible apply fS F); exact rfl; exact rfl; exact rfl; (exact tL); (exact tR2); (exact tS2); clear F; intro W F; simp only [List.cons_append, List.nil_append] at F) | ((with_reducible apply fB_int0); exact rfl))
    exact bodyPost_ret (res_cs rfl rfl rfl (Fr.get F tL) (rowIC 0)) rfl ⟨rfl, F.below⟩
  obtain ⟨f, hf, g7, g7e⟩ := mode_up (m := m) (z := u) (h := c) (g := g) (by omega) (by omega)
  rw [hf]
  have hr := HR2.out
  rw [if_neg hm] at hr
  obtain ⟨ub, hub⟩ : ∃ ub, upB m u c g = ub := ⟨_, rfl⟩
  rw [hub] at hr g7
  clear HR2 hm hub g6 hf
  have hq := eq_someF (.func f) #[.agg (btC u c g)] #[]
  by_cases hv0 : v = 0
  · rw [if_pos hv0] at hr
    have ht0 := HV0.out.2 hv0
    subst hr
    subst ht0
    clear HV0 hv0
    go_wp2_with (first | go_skip | ((go_at_call 72); (with_reducible refine fr_call F (g8 _) ?_); (clear F; intro W F); (try dsimp only)) | ((with_reducible apply fL F); exact rfl; exact rfl; (exact tL); (exact tR2)) | ((with_reducible apply fLm F); exact rfl; exact rfl; (exact tL); (exact tM2); (exact tR2)) | ((with_reducible apply fA_int F); exact rfl) | ((with_reducible apply fX_rat F); exact rfl; exact rfl) | ((with_reducible apply fS F); exact rfl; exact rfl; exact rfl; (exact tL); (exact tR2); (exact tS2); clear F; intro W F; simp only [List.cons_append, List.nil_append] at F) | ((with_reducible apply fB_int0); exact rfl))
    exact bodyPost_ret (res_cs rfl rfl rfl (Fr.get F tL) (rowIC _)) rfl ⟨rfl, F.below⟩
  rw [if_neg hv0] at hr
  have ht0 : ¬ t = 0 := fun h => hv0 (HV0.out.1 h)
  clear HV0 hv0
  cases ub
  · rw [if_neg (by decide)] at hr
    subst hr
    go_wp2_with (first | go_skip | ((go_at_call 72); (with_reducible refine fr_call F (g8 _) ?_); (clear F; intro W F); (try dsimp only)) | ((with_reducible refine fr_call F (g7 _) ?_); (clear F; intro W F); (try dsimp only)) | ((with_reducible apply fL F); exact rfl; exact rfl; (exact tL); (exact tR2)) | ((with_reducible apply fLm F); exact rfl; exact rfl; (exact tL); (exact tM2); (exact tR2)) | ((with_reducible apply fA_int F); exact rfl) | ((with_reducible apply fX_rat F); exact rfl; exact rfl) | ((with_reducible apply fS F); exact rfl; exact rfl; exact rfl; (exact tL); (exact tR2); (exact tS2); clear F; intro W F; simp only [List.cons_append, List.nil_append] at F) | ((with_reducible apply fB_int0); exact rfl))
    exact bodyPost_ret (res_cs rfl rfl rfl (Fr.get F tL) (rowIC _)) rfl ⟨rfl, F.below⟩
  · rw [if_pos rfl] at hr
    subst hr
    go_wp2_with (first | go_skip | ((go_at_call 72); (with_reducible refine fr_call F (g8 _) ?_); (clear F; intro W F); (try dsimp only)) | ((with_reducible refine fr_call F (g7 _) ?_); (clear F; intro W F); (try dsimp only)) | ((with_reducible apply fL F); exact rfl; exact rfl; (exact tL); (exact tR2)) | ((with_reducible apply fLm F); exact rfl; exact rfl; (exact tL); (exact tM2); (exact tR2)) | ((with_reducible apply fA_int F); exact rfl) | ((with_reducible apply fX_rat F); exact rfl; exact rfl) | ((with_reducible apply fS F); exact rfl; exact rfl; exact rfl; (exact tL); (exact tR2); (exact tS2); clear F; intro W F; simp only [List.cons_append, List.nil_append] at F) | ((with_reducible apply fB_int0); exact rfl))
    try simp only [Act.put, List.setIfInBounds_toArray, List.set_cons_zero, List.set_cons_succ]
    have hpl : Tryz.prog.follows .mixedOrders = true := by kernel_rfl
    refine wp_region_slots hpl [14, 15, 61, 62, 63, 64, 65, 66] (fun l mm W => ∃ (s14 s15 s61 s62 s63 s64 s65 s66 : Value) (c_b14 : Array Value) (b14 : Nat), mm = [s14, s15, s61, s62, s63, s64, s65, s66] ∧ (l.getD 0 false = true → s62 = .agg (IC u)) ∧ (l.getD 1 false = true → s63 = .agg (IC 1)) ∧ (l.getD 2 false = true → s64 = .tuple #[.agg (IC (u + 1)), .int .i64 0]) ∧ (l.getD 3 false = true → s61 = .tuple #[.agg (IC (u + 1)), .int .i64 0]) ∧ (l.getD 4 false = true → s65 = .agg (IC (u + 1))) ∧ (l.getD 5 false = true → s66 = .int .i64 0) ∧ (l.getD 6 false = true → s14 = .pointer (some ⟨b14, 0, none⟩)) ∧ (l.getD 7 false = true → c_b14 = IC (u + 1)) ∧ (l.getD 8 false = true → s15 = .int .i64 0) ∧ (l.getD 7 false = true → l.getD 6 false = true) ∧ c_b14.size = (IC (u + 1)).size ∧ Fr w W ((b11, IC w2, 29) :: (b10, IC v, 29) :: (b9, IC u, 29) :: (b6, intC false 0, 29) :: (b3, RC n d, 31) :: (onl (l.getD 6 false) (b14, c_b14, 29)))) (by kernel_rfl) rfl ?_ ?_ ?_
    · exact ⟨_, _, _, _, _, _, _, _, (intC false 0), 0, rfl, fun h => absurd h (by decide), fun h => absurd h (by decide), fun h => absurd h (by decide), fun h => absurd h (by decide), fun h => absurd h (by decide), fun h => absurd h (by decide), fun h => absurd h (by decide), fun h => absurd h (by decide), fun h => absurd h (by decide), fun h => absurd h (by decide), by first | (focus (simp only [IC_size, intC_size, limA_size, RC_size, ratC_size]; done)) | exact rfl, F.drew⟩
    · rintro listed mm W ii hi hsz hoff ⟨s14, s15, s61, s62, s63, s64, s65, s66, c_b14, b14, rfl, h0, h1, h2, h3, h4, h5, h6, h7, h8, hN_b14, hz0, HF⟩ hd
      have hc : ii = 0 ∨ ii = 1 ∨ ii = 2 ∨ ii = 3 ∨ ii = 4 ∨ ii = 5 ∨ ii = 6 ∨ ii = 7 ∨ ii = 8 := by
        have hi2 : ii < 9 := hi
        omega
      have hsz2 : listed.size = 9 := hsz
      clear hi hsz
      rcases hc with rfl | rfl | rfl | rfl | rfl | rfl | rfl | rfl | rfl
      · refine wpOp_want rfl rfl (fun K hK => ?_)
        simp only [putAll, List.set_cons_zero, List.set_cons_succ, List.getElem_toArray, List.getElem_cons_succ, List.getElem_cons_zero]
        with_reducible apply gL HF
        · exact rfl
        · (exact tL)
        · (first | (exact tR2))
        go_simp
        exact hK _ _ ⟨[s14, s15, s61, (.agg (IC u)), s63, s64, s65, s66], by simp only [putAll, List.set_cons_zero, List.set_cons_succ], s14, s15, s61, (.agg (IC u)), s63, s64, s65, s66, c_b14, b14, rfl, fun _ => rfl, lk h1, lk h2, lk h3, lk h4, lk h5, lk h6, lk h7, lk h8, fun h => by rw [getD_keep (show 0 ≠ 7 by decide)] at h; rw [getD_keep (show 0 ≠ 6 by decide)]; exact hN_b14 h, hz0, by rw [getD_keep (show 0 ≠ 6 by decide)]; exact HF⟩
      · refine wpOp_want rfl rfl (fun K hK => ?_)
        simp only [putAll, List.set_cons_zero, List.set_cons_succ, List.getElem_toArray, List.getElem_cons_succ, List.getElem_cons_zero]
        refine ⟨?_⟩
        go_simp
        with_reducible refine fr_call HF (g9 _) ?_
        clear HF
        intro W HF
        (try dsimp only)
        exact hK _ _ ⟨[s14, s15, s61, s62, (.agg (IC 1)), s64, s65, s66], by simp only [putAll, List.set_cons_zero, List.set_cons_succ], s14, s15, s61, s62, (.agg (IC 1)), s64, s65, s66, c_b14, b14, rfl, lk h0, fun _ => rfl, lk h2, lk h3, lk h4, lk h5, lk h6, lk h7, lk h8, fun h => by rw [getD_keep (show 1 ≠ 7 by decide)] at h; rw [getD_keep (show 1 ≠ 6 by decide)]; exact hN_b14 h, hz0, by rw [getD_keep (show 1 ≠ 6 by decide)]; exact HF⟩
      · have d0 := h0 (hd 0 (by kernel_rfl))
        have d1 := h1 (hd 1 (by kernel_rfl))
        obtain rfl := d0
        obtain rfl := d1
        refine wpOp_want rfl rfl (fun K hK => ?_)
        simp only [putAll, List.set_cons_zero, List.set_cons_succ, List.getElem_toArray, List.getElem_cons_succ, List.getElem_cons_zero]
        refine ⟨?_⟩
        go_simp
        with_reducible refine fr_call HF (g10 _) ?_
        clear HF
        intro W HF
        (try dsimp only)
        exact hK _ _ ⟨[s14, s15, s61, (.agg (IC u)), (.agg (IC 1)), (.tuple #[.agg (IC (u + 1)), .int .i64 0]), s65, s66], by simp only [putAll, List.set_cons_zero, List.set_cons_succ], s14, s15, s61, (.agg (IC u)), (.agg (IC 1)), (.tuple #[.agg (IC (u + 1)), .int .i64 0]), s65, s66, c_b14, b14, rfl, lk h0, lk h1, fun _ => rfl, lk h3, lk h4, lk h5, lk h6, lk h7, lk h8, fun h => by rw [getD_keep (show 2 ≠ 7 by decide)] at h; rw [getD_keep (show 2 ≠ 6 by decide)]; exact hN_b14 h, hz0, by rw [getD_keep (show 2 ≠ 6 by decide)]; exact HF⟩
      · have d2 := h2 (hd 2 (by kernel_rfl))
        obtain rfl := d2
        refine wpOp_want rfl rfl (fun K hK => ?_)
        simp only [putAll, List.set_cons_zero, List.set_cons_succ, List.getElem_toArray, List.getElem_cons_succ, List.getElem_cons_zero]
        refine ⟨?_⟩
        go_simp
        exact hK _ _ ⟨[s14, s15, (.tuple #[.agg (IC (u + 1)), .int .i64 0]), s62, s63, (.tuple #[.agg (IC (u + 1)), .int .i64 0]), s65, s66], by simp only [putAll, List.set_cons_zero, List.set_cons_succ], s14, s15, (.tuple #[.agg (IC (u + 1)), .int .i64 0]), s62, s63, (.tuple #[.agg (IC (u + 1)), .int .i64 0]), s65, s66, c_b14, b14, rfl, lk h0, lk h1, lk h2, fun _ => rfl, lk h4, lk h5, lk h6, lk h7, lk h8, fun h => by rw [getD_keep (show 3 ≠ 7 by decide)] at h; rw [getD_keep (show 3 ≠ 6 by decide)]; exact hN_b14 h, hz0, by rw [getD_keep (show 3 ≠ 6 by decide)]; exact HF⟩
      · have d3 := h3 (hd 3 (by kernel_rfl))
        obtain rfl := d3
        refine wpOp_want rfl rfl (fun K hK => ?_)
        simp only [putAll, List.set_cons_zero, List.set_cons_succ, List.getElem_toArray, List.getElem_cons_succ, List.getElem_cons_zero]
        refine ⟨?_⟩
        go_simp
        exact hK _ _ ⟨[s14, s15, (.tuple #[.agg (IC (u + 1)), .int .i64 0]), s62, s63, s64, (.agg (IC (u + 1))), s66], by simp only [putAll, List.set_cons_zero, List.set_cons_succ], s14, s15, (.tuple #[.agg (IC (u + 1)), .int .i64 0]), s62, s63, s64, (.agg (IC (u + 1))), s66, c_b14, b14, rfl, lk h0, lk h1, lk h2, lk h3, fun _ => rfl, lk h5, lk h6, lk h7, lk h8, fun h => by rw [getD_keep (show 4 ≠ 7 by decide)] at h; rw [getD_keep (show 4 ≠ 6 by decide)]; exact hN_b14 h, hz0, by rw [getD_keep (show 4 ≠ 6 by decide)]; exact HF⟩
      · have d3 := h3 (hd 3 (by kernel_rfl))
        obtain rfl := d3
        refine wpOp_want rfl rfl (fun K hK => ?_)
        simp only [putAll, List.set_cons_zero, List.set_cons_succ, List.getElem_toArray, List.getElem_cons_succ, List.getElem_cons_zero]
        refine ⟨?_⟩
        go_simp
        exact hK _ _ ⟨[s14, s15, (.tuple #[.agg (IC (u + 1)), .int .i64 0]), s62, s63, s64, s65, (.int .i64 0)], by simp only [putAll, List.set_cons_zero, List.set_cons_succ], s14, s15, (.tuple #[.agg (IC (u + 1)), .int .i64 0]), s62, s63, s64, s65, (.int .i64 0), c_b14, b14, rfl, lk h0, lk h1, lk h2, lk h3, lk h4, fun _ => rfl, lk h6, lk h7, lk h8, fun h => by rw [getD_keep (show 5 ≠ 7 by decide)] at h; rw [getD_keep (show 5 ≠ 6 by decide)]; exact hN_b14 h, hz0, by rw [getD_keep (show 5 ≠ 6 by decide)]; exact HF⟩
      · refine wpOp_want rfl rfl (fun K hK => ?_)
        simp only [putAll, List.set_cons_zero, List.set_cons_succ, List.getElem_toArray, List.getElem_cons_succ, List.getElem_cons_zero]
        rw [show listed.getD 6 false = false from hoff] at HF
        skip
        with_reducible apply gA_int HF
        intro bN W HF
        go_simp
        exact hK _ _ ⟨[(.pointer (some ⟨bN, 0, none⟩)), s15, s61, s62, s63, s64, s65, s66], by simp only [putAll, List.set_cons_zero, List.set_cons_succ], (.pointer (some ⟨bN, 0, none⟩)), s15, s61, s62, s63, s64, s65, s66, (intC false 0), bN, rfl, lk h0, lk h1, lk h2, lk h3, lk h4, lk h5, fun _ => rfl, fun h => absurd (hN_b14 (by rw [getD_keep (show 6 ≠ 7 by decide)] at h; exact h)) (by rw [hoff]; decide), lk h8, fun _ => getD_on (by omega), by first | (focus (simp only [IC_size, intC_size, limA_size, RC_size, ratC_size]; done)) | exact rfl, by rw [getD_on (show 6 < listed.size by omega)]; exact Fr.mid (A := [(b11, IC w2, 29), (b10, IC v, 29), (b9, IC u, 29), (b6, intC false 0, 29), (b3, RC n d, 31)]) HF⟩
      · have d4 := h4 (hd 4 (by kernel_rfl))
        have d6 := h6 (hd 6 (by kernel_rfl))
        obtain rfl := d4
        obtain rfl := d6
        refine wpOp_want rfl rfl (fun K hK => ?_)
        simp only [putAll, List.set_cons_zero, List.set_cons_succ, List.getElem_toArray, List.getElem_cons_succ, List.getElem_cons_zero]
        rw [hd 6 (by kernel_rfl)] at HF
        simp only [onl, if_true, List.cons_append, List.nil_append] at HF
        with_reducible apply gS HF
        · exact rfl
        · exact rfl
        · (exact tL)
        · (first | (exact tR2))
        · first | exact hz0 | first | (focus (simp only [IC_size, intC_size, limA_size, RC_size, ratC_size]; done)) | exact rfl
        clear HF
        intro W HF
        simp only [List.cons_append, List.nil_append] at HF
        go_simp
        exact hK _ _ ⟨[(.pointer (some ⟨b14, 0, none⟩)), s15, s61, s62, s63, s64, (.agg (IC (u + 1))), s66], by simp only [putAll, List.set_cons_zero, List.set_cons_succ], (.pointer (some ⟨b14, 0, none⟩)), s15, s61, s62, s63, s64, (.agg (IC (u + 1))), s66, (IC (u + 1)), b14, rfl, lk h0, lk h1, lk h2, lk h3, lk h4, lk h5, lk h6, fun _ => rfl, lk h8, fun _ => by rw [getD_keep (show 7 ≠ 6 by decide)]; exact hd 6 (by kernel_rfl), rfl, by rw [getD_keep (show 7 ≠ 6 by decide), hd 6 (by kernel_rfl)]; exact HF⟩
      · have d5 := h5 (hd 5 (by kernel_rfl))
        obtain rfl := d5
        refine wpOp_want rfl rfl (fun K hK => ?_)
        simp only [putAll, List.set_cons_zero, List.set_cons_succ, List.getElem_toArray, List.getElem_cons_succ, List.getElem_cons_zero]
        refine ⟨?_⟩
        go_simp
        exact hK _ _ ⟨[s14, (.int .i64 0), s61, s62, s63, s64, s65, (.int .i64 0)], by simp only [putAll, List.set_cons_zero, List.set_cons_succ], s14, (.int .i64 0), s61, s62, s63, s64, s65, (.int .i64 0), c_b14, b14, rfl, lk h0, lk h1, lk h2, lk h3, lk h4, lk h5, lk h6, lk h7, fun _ => rfl, fun h => by rw [getD_keep (show 8 ≠ 7 by decide)] at h; rw [getD_keep (show 8 ≠ 6 by decide)]; exact hN_b14 h, hz0, by rw [getD_keep (show 8 ≠ 6 by decide)]; exact HF⟩
    rintro listed mm W ⟨s14, s15, s61, s62, s63, s64, s65, s66, c_b14, b14, rfl, h0, h1, h2, h3, h4, h5, h6, h7, h8, hN_b14, hz0, HF⟩ hall
    rw [hall 6 (by decide)] at HF
    simp only [onl, if_true, List.cons_append, List.nil_append] at HF
    obtain rfl := h0 (hall 0 (by decide))
    obtain rfl := h1 (hall 1 (by decide))
    obtain rfl := h2 (hall 2 (by decide))
    obtain rfl := h3 (hall 3 (by decide))
    obtain rfl := h4 (hall 4 (by decide))
    obtain rfl := h5 (hall 5 (by decide))
    obtain rfl := h6 (hall 6 (by decide))
    rw [h7 (hall 7 (by decide))] at HF
    obtain rfl := h8 (hall 8 (by decide))
    clear hall h0 h1 h2 h3 h4 h5 h6 h7 h8 hN_b14 hz0 F
    have F := HF
    clear HF
    simp only [putAll, List.set_cons_zero, List.set_cons_succ]
    go_wp2_with (first | go_skip | ((with_reducible apply fL F); exact rfl; exact rfl; (exact tL); (exact tR2)) | ((with_reducible apply fLm F); exact rfl; exact rfl; (exact tL); (exact tM2); (exact tR2)) | ((with_reducible apply fA_int F); exact rfl) | ((with_reducible apply fX_rat F); exact rfl; exact rfl) | ((with_reducible apply fS F); exact rfl; exact rfl; exact rfl; (exact tL); (exact tR2); (exact tS2); clear F; intro W F; simp only [List.cons_append, List.nil_append] at F) | ((with_reducible apply fB_int0); exact rfl))
    exact bodyPost_ret (res_cs rfl rfl rfl (Fr.get F tL) (rowIC _)) rfl ⟨rfl, F.below⟩
end
section
open Go.RowKit
set_option maxHeartbeats 2000000
def toI (z : Int) : Int × Bool := if -9223372036854775808 ≤ z ∧ z < 9223372036854775808 then (z, true) else (0, false)
theorem two_lims {m : Nat} (h : m < 18446744073709551616) : m = lim m 1 * 4294967296 + lim m 0 := by
  unfold lim
  rw [bp_zero, bp_one]
  omega
set_option maxRecDepth 100000 in
theorem toInt_any {z : Int} (hz : z.natAbs < bp 32) {r : Int × Bool} (hr : toI z = r) (w : World) : Calls Tryz.prog 54 #[.agg (IC z)] w (RetB (.tuple #[.int .i64 r.1, .bool r.2]) w) := by
  have F := Fr.start w
  have g1 := fun w => splitZ hz w
  obtain ⟨m, hm⟩ : ∃ m, z.natAbs = m := ⟨_, rfl⟩
  rw [hm] at g1 hz
  obtain ⟨g, hg⟩ : ∃ g, decide (z < 0) = g := ⟨_, rfl⟩
  rw [hg] at g1
  have HR := Lib.hid (And.intro hr (And.intro hm hg))
  clear hr hm hg
  go_enter Tryz.func54, Tryz.ntmps54
  go_wp2_with (first | go_skip | ((with_reducible apply fL F); exact rfl; exact rfl; (exact tL); (exact tR2)) | ((with_reducible apply fX_int F); exact rfl; exact rfl) | ((with_reducible apply fA_mag F); exact rfl) | ((with_reducible apply fS F); exact rfl; exact rfl; exact rfl; (exact tL); (exact tR2); (exact tS2); clear F; intro W F; simp only [List.cons_append, List.nil_append] at F))
  (clear F; intro b1 W F; try simp only [Act.put, List.setIfInBounds_toArray, List.set_cons_zero, List.set_cons_succ])
  go_wp2_with (first | go_skip | ((go_at_call 100); (with_reducible refine fr_call F (g1 _) ?_); (clear F; intro W F); (try dsimp only)) | ((with_reducible apply fL F); exact rfl; exact rfl; (exact tL); (exact tR2)) | ((with_reducible apply fX_int F); exact rfl; exact rfl) | ((with_reducible apply fA_mag F); exact rfl) | ((with_reducible apply fS F); exact rfl; exact rfl; exact rfl; (exact tL); (exact tR2); (exact tS2); clear F; intro W F; simp only [List.cons_append, List.nil_append] at F))
  (clear F; intro b5 W F; try simp only [Act.put, List.setIfInBounds_toArray, List.set_cons_zero, List.set_cons_succ])
  have g2 := fun W (h : Fr w W ((b5, limA 32 m, 108) :: [(b1, IC z, 29)])) => mbits_any (m := m) (g := b5) (w := W) (Fr.get h tL) hz
  by_cases h64 : 64 < bl m
  · have hr : (0, false) = r := by
      obtain ⟨h1, h2, h3⟩ := HR.out
      rw [← h1, toI, if_neg]
      intro ⟨h4, h5⟩
      have := bl_le_of (m := m) (n := 64) (by omega)
      omega
    subst hr
    go_wp2_with (first | go_skip | ((go_at_call 101); (with_reducible refine fr_call F (g2 _ F) ?_); (clear F; intro W F); (try dsimp only)) | ((with_reducible apply fL F); exact rfl; exact rfl; (exact tL); (exact tR2)) | ((with_reducible apply fX_int F); exact rfl; exact rfl) | ((with_reducible apply fA_mag F); exact rfl) | ((with_reducible apply fS F); exact rfl; exact rfl; exact rfl; (exact tL); (exact tR2); (exact tS2); clear F; intro W F; simp only [List.cons_append, List.nil_append] at F))
    go_ret2
    exact ⟨rfl, F.below⟩
  have hl : m < 18446744073709551616 := lt_of_bl (n := 64) (by omega)
  have e := two_lims hl
  have k1 := lim_lt m 1
  have k0 := lim_lt m 0
  have c1 : ∀ W, Fr w W ((b5, limA 32 m, 108) :: [(b1, IC z, 29)]) → W.cell? ⟨b5, 1, none⟩ = some (.int .u32 (lim m 1)) := fun W h => (h.get Lies.here).cell (limA_at (by omega))
  have c0 : ∀ W, Fr w W ((b5, limA 32 m, 108) :: [(b1, IC z, 29)]) → W.cell? ⟨b5, 0, none⟩ = some (.int .u32 (lim m 0)) := fun W h => (h.get Lies.here).cell (limA_at (by omega))
  obtain ⟨x, hx⟩ : ∃ x, lim m 1 = x := ⟨_, rfl⟩
  obtain ⟨y, hy⟩ : ∃ y, lim m 0 = y := ⟨_, rfl⟩
  rw [hx, hy] at e
  rw [hx] at c1 k1
  rw [hy] at c0 k0
  have ho := or64 k1 k0
  rw [← e] at ho
  clear hx hy e
  go_upto_region 4 with (first | go_skip | ((go_at_call 101); (with_reducible refine fr_call F (g2 _ F) ?_); (clear F; intro W F); (try dsimp only)) | ((with_reducible apply fL F); exact rfl; exact rfl; (exact tL); (exact tR2)) | ((with_reducible apply fX_int F); exact rfl; exact rfl) | ((with_reducible apply fA_mag F); exact rfl) | ((with_reducible apply fS F); exact rfl; exact rfl; exact rfl; (exact tL); (exact tR2); (exact tS2); clear F; intro W F; simp only [List.cons_append, List.nil_append] at F))
  have d1 := c1 _ F
  have d0 := c0 _ F
  clear c1 c0 g1 g2 hz
  cases g
  · have hz := of_decide_eq_false HR.out.2.2
    by_cases h63 : m < 9223372036854775808
    · have hr : ((m : Int), true) = r := by
        obtain ⟨h1, h2, h3⟩ := HR.out
        rw [← h1, toI, if_pos (by omega)]
        have : z = (m : Int) := by omega
        rw [this]
      subst hr
      have e := IntWalk.i64_in (m : Int) (by omega)
      have t1 : decide ((m : Int) < 9223372036854775808) = true := decide_eq_true (by omega)
      clear h63 hz hl
      go_wp2_with fail
      go_ret2
      exact ⟨rfl, F.below⟩
    · have hr : (0, false) = r := by
        obtain ⟨h1, h2, h3⟩ := HR.out
        rw [← h1, toI, if_neg (by omega)]
      subst hr
      have t1 : decide ((m : Int) < 9223372036854775808) = false := decide_eq_false (by omega)
      clear h63 hz hl
      go_wp2_with fail
      go_ret2
      exact ⟨rfl, F.below⟩
  · have hz := of_decide_eq_true HR.out.2.2
    by_cases h63 : m ≤ 9223372036854775808
    · have hr : (-(m : Int), true) = r := by
        obtain ⟨h1, h2, h3⟩ := HR.out
        rw [← h1, toI, if_pos (by omega)]
        have : z = -(m : Int) := by omega
        rw [this]
      subst hr
      go_wp2_with fail
      go_ret2
      have e : RowKit.wrap64 (IntKind.u64.wrap (-(m : Int))) = -(m : Int) := by
        rw [IntKind.wrap_u64, RowKit.wrap64]
        omega
      exact ⟨by
        rw [e]; rfl, F.below⟩
    · have hr : (0, false) = r := by
        obtain ⟨h1, h2, h3⟩ := HR.out
        rw [← h1, toI, if_neg (by omega)]
      subst hr
      go_wp2_with fail
      go_ret2
      exact ⟨rfl, F.below⟩
end
section
open Go.RowKit
set_option maxHeartbeats 2000000
theorem rnd_lt {x : Bool} {a : Nat} {y : Bool} {b : Nat} {p m : Int} : (rndR (okR x a y b) (sZ x a) (sZ y b) p m).1.natAbs < bp 18 := by
  unfold rndR
  have k0 := bp_pos 18
  split
  · simpa using k0
  rename_i hv
  rw [Classical.not_not] at hv
  split
  · simpa using k0
  rename_i hp
  split
  · simpa using k0
  obtain ⟨n, d, ⟨h1, h2, h3⟩, hn, hd, hd0⟩ := okR_ints hv
  rw [h2, h3]
  have hN := b_ten hn (show p.toNat ≤ 9 by omega)
  have hu := Nat.lt_of_le_of_lt (div_le_abs (n * ((10 ^ p.toNat : Nat) : Int)) d) hN
  have k1 : bp 18 = bp 17 * 4294967296 := bp_succ 17
  dsimp only
  split
  · dsimp only
    omega
  · split <;> dsimp only <;> omega
def rndI (v : Prop) [Decidable v] (n d p m : Int) : Int × Int :=
  let r := rndR v n d p m
  if r.2 ≠ 0 then (0, r.2) else if -1000000000000000 ≤ r.1 ∧ r.1 ≤ 1000000000000000 then (r.1, 0) else (0, 33)
set_option maxRecDepth 100000 in
theorem roundInt_any {x : Bool} {a : Nat} {y : Bool} {b : Nat} (ha : a < bp 32) (hb : b < bp 32) {p m : Int} {r : Int × Int} (hr : rndI (okR x a y b) (sZ x a) (sZ y b) p m = r) (w : World) : Calls Tryz.prog 17 #[.agg (ratC x a y b), .int .i64 p, .int .i64 m] w (RetB (.tuple #[.int .i64 r.1, .int .i64 r.2]) w) := by
  have F := Fr.start w
  have hl := rnd_lt (x := x) (a := a) (y := y) (b := b) (p := p) (m := m)
  unfold rndI at hr
  obtain ⟨s, hs⟩ : ∃ s, rndR (okR x a y b) (sZ x a) (sZ y b) p m = s := ⟨_, rfl⟩
  have g1 := fun w => round_any ha hb hs w
  rw [hs] at hr hl
  obtain ⟨z, e⟩ := s
  dsimp only at hr hl g1
  have g2 := fun w => toInt_any (z := z) (Nat.lt_of_lt_of_le hl (bp_le (by decide))) rfl w
  have HR := Lib.hid hr
  clear hr hl hs ha hb
  go_enter Tryz.func17, Tryz.ntmps17
  go_wp2_with (first | go_skip | ((with_reducible apply fL F); exact rfl; exact rfl; (exact tL); (exact tR2)) | ((with_reducible apply fA_int F); exact rfl) | ((with_reducible apply fX_rat F); exact rfl; exact rfl) | ((with_reducible apply fS F); exact rfl; exact rfl; exact rfl; (exact tL); (exact tR2); (exact tS2); clear F; intro W F; simp only [List.cons_append, List.nil_append] at F))
  (clear F; intro b3 W F; try simp only [Act.put, List.setIfInBounds_toArray, List.set_cons_zero, List.set_cons_succ])
  go_wp2_with (first | go_skip | ((go_at_call 25); (with_reducible refine fr_call F (g1 _) ?_); (clear F; intro W F); (try dsimp only)) | ((with_reducible apply fL F); exact rfl; exact rfl; (exact tL); (exact tR2)) | ((with_reducible apply fA_int F); exact rfl) | ((with_reducible apply fX_rat F); exact rfl; exact rfl) | ((with_reducible apply fS F); exact rfl; exact rfl; exact rfl; (exact tL); (exact tR2); (exact tS2); clear F; intro W F; simp only [List.cons_append, List.nil_append] at F))
  (clear F; intro b8 W F; try simp only [Act.put, List.setIfInBounds_toArray, List.set_cons_zero, List.set_cons_succ])
  by_cases he : e = 0
  · have hr := HR.out
    rw [if_neg (by rw [Classical.not_not]; exact he)] at hr
    subst he
    clear HR
    by_cases hz : -1000000000000000 ≤ z ∧ z ≤ 1000000000000000
    · rw [if_pos hz] at hr
      subst hr
      rw [toI, if_pos (by omega)] at g2
      have t1 : decide (z < -1000000000000000) = false := decide_eq_false (by omega)
      have t2 : decide (1000000000000000 < z) = false := decide_eq_false (by omega)
      clear hz
      go_wp2_with (first | go_skip | ((go_at_call 54); (with_reducible refine fr_call F (g2 _) ?_); (clear F; intro W F); (try dsimp only)) | ((with_reducible apply fL F); exact rfl; exact rfl; (exact tL); (exact tR2)) | ((with_reducible apply fA_int F); exact rfl) | ((with_reducible apply fX_rat F); exact rfl; exact rfl) | ((with_reducible apply fS F); exact rfl; exact rfl; exact rfl; (exact tL); (exact tR2); (exact tS2); clear F; intro W F; simp only [List.cons_append, List.nil_append] at F))
      go_ret2
      exact ⟨rfl, F.below⟩
    · rw [if_neg hz] at hr
      subst hr
      by_cases h1 : -9223372036854775808 ≤ z ∧ z < 9223372036854775808
      · rw [toI, if_pos h1] at g2
        by_cases h2 : z < -1000000000000000
        · have t1 : decide (z < -1000000000000000) = true := decide_eq_true h2
          clear hz h1 h2
          go_wp2_with (first | go_skip | ((go_at_call 54); (with_reducible refine fr_call F (g2 _) ?_); (clear F; intro W F); (try dsimp only)) | ((with_reducible apply fL F); exact rfl; exact rfl; (exact tL); (exact tR2)) | ((with_reducible apply fA_int F); exact rfl) | ((with_reducible apply fX_rat F); exact rfl; exact rfl) | ((with_reducible apply fS F); exact rfl; exact rfl; exact rfl; (exact tL); (exact tR2); (exact tS2); clear F; intro W F; simp only [List.cons_append, List.nil_append] at F))
          go_ret2
          exact ⟨rfl, F.below⟩
        · have t1 : decide (z < -1000000000000000) = false := decide_eq_false h2
          have t2 : decide (1000000000000000 < z) = true := decide_eq_true (by omega)
          clear hz h1 h2
          go_wp2_with (first | go_skip | ((go_at_call 54); (with_reducible refine fr_call F (g2 _) ?_); (clear F; intro W F); (try dsimp only)) | ((with_reducible apply fL F); exact rfl; exact rfl; (exact tL); (exact tR2)) | ((with_reducible apply fA_int F); exact rfl) | ((with_reducible apply fX_rat F); exact rfl; exact rfl) | ((with_reducible apply fS F); exact rfl; exact rfl; exact rfl; (exact tL); (exact tR2); (exact tS2); clear F; intro W F; simp only [List.cons_append, List.nil_append] at F))
          go_ret2
          exact ⟨rfl, F.below⟩
      · rw [toI, if_neg h1] at g2
        clear hz h1
        go_wp2_with (first | go_skip | ((go_at_call 54); (with_reducible refine fr_call F (g2 _) ?_); (clear F; intro W F); (try dsimp only)) | ((with_reducible apply fL F); exact rfl; exact rfl; (exact tL); (exact tR2)) | ((with_reducible apply fA_int F); exact rfl) | ((with_reducible apply fX_rat F); exact rfl; exact rfl) | ((with_reducible apply fS F); exact rfl; exact rfl; exact rfl; (exact tL); (exact tR2); (exact tS2); clear F; intro W F; simp only [List.cons_append, List.nil_append] at F))
        go_ret2
        exact ⟨rfl, F.below⟩
  · have hr := HR.out
    rw [if_pos he] at hr
    subst hr
    clear HR g2
    go_wp2_with (first | go_skip | ((with_reducible apply fL F); exact rfl; exact rfl; (exact tL); (exact tR2)) | ((with_reducible apply fA_int F); exact rfl) | ((with_reducible apply fX_rat F); exact rfl; exact rfl) | ((with_reducible apply fS F); exact rfl; exact rfl; exact rfl; (exact tL); (exact tR2); (exact tS2); clear F; intro W F; simp only [List.cons_append, List.nil_append] at F))
    go_ret2
    exact ⟨rfl, F.below⟩
def qntR (v : Prop) [Decidable v] (n d p m : Int) : Int × Int × Int :=
  let r := rndR v n d p m
  if r.2 ≠ 0 then (0, 0, r.2) else mkR r.1 ((10 ^ p.toNat : Nat) : Int)
theorem rnd_places {v : Prop} [Decidable v] {n d p m : Int} (h : (rndR v n d p m).2 = 0) : v ∧ 0 ≤ p ∧ p ≤ 9 ∧ 1 ≤ m ∧ m ≤ 6 := by
  unfold rndR at h
  split at h
  · exact absurd h (by decide)
  · rename_i hv
    split at h
    · exact absurd h (by decide)
    · split at h
      · exact absurd h (by decide)
      · exact ⟨by rwa [Classical.not_not] at hv, by omega, by omega, by omega, by omega⟩
set_option maxRecDepth 100000 in
theorem quantize_any {x : Bool} {a : Nat} {y : Bool} {b : Nat} (ha : a < bp 32) (hb : b < bp 32) {p m : Int} {r : Int × Int × Int} (hr : qntR (okR x a y b) (sZ x a) (sZ y b) p m = r) (w : World) : Calls Tryz.prog 28 #[.agg (ratC x a y b), .int .i64 p, .int .i64 m] w (RetB (.tuple #[.agg (RC r.1 r.2.1), .int .i64 r.2.2]) w) := by
  have F := Fr.start w
  have hl := rnd_lt (x := x) (a := a) (y := y) (b := b) (p := p) (m := m)
  have hp := rnd_places (v := okR x a y b) (n := sZ x a) (d := sZ y b) (p := p) (m := m)
  unfold qntR at hr
  obtain ⟨s, hs⟩ : ∃ s, rndR (okR x a y b) (sZ x a) (sZ y b) p m = s := ⟨_, rfl⟩
  have g1 := fun w => round_any ha hb hs w
  rw [hs] at hr hl hp
  obtain ⟨z, e⟩ := s
  dsimp only at hr hl g1 hp
  have HR := Lib.hid hr
  have HP := Lib.hid hp
  clear hr hs ha hb hp
  go_enter Tryz.func28, Tryz.ntmps28
  go_wp2_with (first | go_skip | ((with_reducible apply fL F); exact rfl; exact rfl; (exact tL); (exact tR2)) | ((with_reducible apply fA_int F); exact rfl) | ((with_reducible apply fA_rat F); exact rfl) | ((with_reducible apply fX_rat F); exact rfl; exact rfl) | ((with_reducible apply fS F); exact rfl; exact rfl; exact rfl; (exact tL); (exact tR2); (exact tS2); clear F; intro W F; simp only [List.cons_append, List.nil_append] at F) | ((with_reducible apply fB_rat0); exact rfl))
  (clear F; intro b3 W F; try simp only [Act.put, List.setIfInBounds_toArray, List.set_cons_zero, List.set_cons_succ])
  go_wp2_with (first | go_skip | ((with_reducible apply fL F); exact rfl; exact rfl; (exact tL); (exact tR2)) | ((with_reducible apply fA_int F); exact rfl) | ((with_reducible apply fA_rat F); exact rfl) | ((with_reducible apply fX_rat F); exact rfl; exact rfl) | ((with_reducible apply fS F); exact rfl; exact rfl; exact rfl; (exact tL); (exact tR2); (exact tS2); clear F; intro W F; simp only [List.cons_append, List.nil_append] at F) | ((with_reducible apply fB_rat0); exact rfl))
  (clear F; intro b6 W F; try simp only [Act.put, List.setIfInBounds_toArray, List.set_cons_zero, List.set_cons_succ])
  go_wp2_with (first | go_skip | ((go_at_call 25); (with_reducible refine fr_call F (g1 _) ?_); (clear F; intro W F); (try dsimp only)) | ((with_reducible apply fL F); exact rfl; exact rfl; (exact tL); (exact tR2)) | ((with_reducible apply fA_int F); exact rfl) | ((with_reducible apply fA_rat F); exact rfl) | ((with_reducible apply fX_rat F); exact rfl; exact rfl) | ((with_reducible apply fS F); exact rfl; exact rfl; exact rfl; (exact tL); (exact tR2); (exact tS2); clear F; intro W F; simp only [List.cons_append, List.nil_append] at F) | ((with_reducible apply fB_rat0); exact rfl))
  (clear F; intro b8 W F; try simp only [Act.put, List.setIfInBounds_toArray, List.set_cons_zero, List.set_cons_succ])
  by_cases he : e = 0
  · have hr := HR.out
    obtain ⟨-, p0, p9, -, -⟩ := HP.out he
    rw [if_neg (by rw [Classical.not_not]; exact he)] at hr
    subst he
    clear HR HP
    obtain ⟨q, rfl⟩ : ∃ q : Nat, p = (q : Int) := ⟨p.toNat, by omega⟩
    have hq : q ≤ 9 := by omega
    rw [Int.toNat_natCast] at hr
    have ht := ten_le hq
    have g2 := fun w => power_any hq w
    obtain ⟨t, htt⟩ : ∃ t : Nat, 10 ^ q = t := ⟨_, rfl⟩
    rw [htt] at g2 ht hr
    have g3 := fun w => fromZ (n := (t : Int)) (by omega) (by omega) w
    have hq2 : (t : Int).natAbs < bp 32 := Nat.lt_of_lt_of_le (show (t : Int).natAbs < bp 2 by unfold bp; omega) (bp_le (by decide))
    have g4 := fun w => makeZ (Nat.lt_of_lt_of_le hl (bp_le (by decide))) hq2 hr w
    obtain ⟨rn, rd, re⟩ := r
    dsimp only at g4
    clear hr hl ht htt hq2 p0 p9 hq
    go_wp2_with (first | go_skip | ((with_reducible apply fL F); exact rfl; exact rfl; (exact tL); (exact tR2)) | ((with_reducible apply fA_int F); exact rfl) | ((with_reducible apply fA_rat F); exact rfl) | ((with_reducible apply fX_rat F); exact rfl; exact rfl) | ((with_reducible apply fS F); exact rfl; exact rfl; exact rfl; (exact tL); (exact tR2); (exact tS2); clear F; intro W F; simp only [List.cons_append, List.nil_append] at F) | ((with_reducible apply fB_rat0); exact rfl))
    try simp only [Act.put, List.setIfInBounds_toArray, List.set_cons_zero, List.set_cons_succ]
    have hpl : Tryz.prog.follows .mixedOrders = true := by kernel_rfl
    refine wp_region_slots hpl [7, 21, 22, 23, 24, 25, 26, 27] (fun l mm W => ∃ (s7 s21 s22 s23 s24 s25 s26 s27 : Value) (c_b6 : Array Value), mm = [s7, s21, s22, s23, s24, s25, s26, s27] ∧ (l.getD 0 false = true → s21 = .agg (IC z)) ∧ (l.getD 1 false = true → s22 = .int .i64 (q : Int)) ∧ (l.getD 2 false = true → s23 = .int .i64 (t : Int)) ∧ (l.getD 3 false = true → s24 = .agg (IC (t : Int))) ∧ (l.getD 4 false = true → s25 = .tuple #[.agg (RC rn rd), .int .i64 re]) ∧ (l.getD 5 false = true → s26 = .agg (RC rn rd)) ∧ (l.getD 6 false = true → s27 = .int .i64 re) ∧ (l.getD 7 false = true → c_b6 = RC rn rd) ∧ (l.getD 8 false = true → s7 = .int .i64 re) ∧ c_b6.size = (RC rn rd).size ∧ Fr w W [(b8, IC z, 29), (b6, c_b6, 31), (b3, ratC x a y b, 31)]) (by kernel_rfl) rfl ?_ ?_ ?_
    · exact ⟨_, _, _, _, _, _, _, _, (RC 0 0), rfl, fun h => absurd h (by decide), fun h => absurd h (by decide), fun h => absurd h (by decide), fun h => absurd h (by decide), fun h => absurd h (by decide), fun h => absurd h (by decide), fun h => absurd h (by decide), fun h => absurd h (by decide), fun h => absurd h (by decide), by first | (focus (simp only [IC_size, intC_size, limA_size, RC_size, ratC_size]; done)) | exact rfl, F.drew⟩
    · rintro listed mm W ii hi hsz hoff ⟨s7, s21, s22, s23, s24, s25, s26, s27, c_b6, rfl, h0, h1, h2, h3, h4, h5, h6, h7, h8, hz0, HF⟩ hd
      have hc : ii = 0 ∨ ii = 1 ∨ ii = 2 ∨ ii = 3 ∨ ii = 4 ∨ ii = 5 ∨ ii = 6 ∨ ii = 7 ∨ ii = 8 := by
        have hi2 : ii < 9 := hi
        omega
      have hsz2 : listed.size = 9 := hsz
      clear hi hsz
      rcases hc with rfl | rfl | rfl | rfl | rfl | rfl | rfl | rfl | rfl
      · refine wpOp_want rfl rfl (fun K hK => ?_)
        simp only [putAll, List.set_cons_zero, List.set_cons_succ, List.getElem_toArray, List.getElem_cons_succ, List.getElem_cons_zero]
        with_reducible apply gL HF
        · exact rfl
        · (exact tL)
        · (first | (exact tR2))
        go_simp
        exact hK _ _ ⟨[s7, (.agg (IC z)), s22, s23, s24, s25, s26, s27], by simp only [putAll, List.set_cons_zero, List.set_cons_succ], s7, (.agg (IC z)), s22, s23, s24, s25, s26, s27, c_b6, rfl, fun _ => rfl, lk h1, lk h2, lk h3, lk h4, lk h5, lk h6, lk h7, lk h8, hz0, HF⟩
      · refine wpOp_want rfl rfl (fun K hK => ?_)
        simp only [putAll, List.set_cons_zero, List.set_cons_succ, List.getElem_toArray, List.getElem_cons_succ, List.getElem_cons_zero]
        refine ⟨?_⟩
        go_simp
        exact hK _ _ ⟨[s7, s21, (.int .i64 (q : Int)), s23, s24, s25, s26, s27], by simp only [putAll, List.set_cons_zero, List.set_cons_succ], s7, s21, (.int .i64 (q : Int)), s23, s24, s25, s26, s27, c_b6, rfl, lk h0, fun _ => rfl, lk h2, lk h3, lk h4, lk h5, lk h6, lk h7, lk h8, hz0, HF⟩
      · have d1 := h1 (hd 1 (by kernel_rfl))
        obtain rfl := d1
        refine wpOp_want rfl rfl (fun K hK => ?_)
        simp only [putAll, List.set_cons_zero, List.set_cons_succ, List.getElem_toArray, List.getElem_cons_succ, List.getElem_cons_zero]
        refine ⟨?_⟩
        go_simp
        with_reducible refine fr_call HF (g2 _) ?_
        clear HF
        intro W HF
        (try dsimp only)
        exact hK _ _ ⟨[s7, s21, (.int .i64 (q : Int)), (.int .i64 (t : Int)), s24, s25, s26, s27], by simp only [putAll, List.set_cons_zero, List.set_cons_succ], s7, s21, (.int .i64 (q : Int)), (.int .i64 (t : Int)), s24, s25, s26, s27, c_b6, rfl, lk h0, lk h1, fun _ => rfl, lk h3, lk h4, lk h5, lk h6, lk h7, lk h8, hz0, HF⟩
      · have d2 := h2 (hd 2 (by kernel_rfl))
        obtain rfl := d2
        refine wpOp_want rfl rfl (fun K hK => ?_)
        simp only [putAll, List.set_cons_zero, List.set_cons_succ, List.getElem_toArray, List.getElem_cons_succ, List.getElem_cons_zero]
        refine ⟨?_⟩
        go_simp
        with_reducible refine fr_call HF (g3 _) ?_
        clear HF
        intro W HF
        (try dsimp only)
        exact hK _ _ ⟨[s7, s21, s22, (.int .i64 (t : Int)), (.agg (IC (t : Int))), s25, s26, s27], by simp only [putAll, List.set_cons_zero, List.set_cons_succ], s7, s21, s22, (.int .i64 (t : Int)), (.agg (IC (t : Int))), s25, s26, s27, c_b6, rfl, lk h0, lk h1, lk h2, fun _ => rfl, lk h4, lk h5, lk h6, lk h7, lk h8, hz0, HF⟩
      · have d0 := h0 (hd 0 (by kernel_rfl))
        have d3 := h3 (hd 3 (by kernel_rfl))
        obtain rfl := d0
        obtain rfl := d3
        refine wpOp_want rfl rfl (fun K hK => ?_)
        simp only [putAll, List.set_cons_zero, List.set_cons_succ, List.getElem_toArray, List.getElem_cons_succ, List.getElem_cons_zero]
        refine ⟨?_⟩
        go_simp
        with_reducible refine fr_call HF (g4 _) ?_
        clear HF
        intro W HF
        (try dsimp only)
        exact hK _ _ ⟨[s7, (.agg (IC z)), s22, s23, (.agg (IC (t : Int))), (.tuple #[.agg (RC rn rd), .int .i64 re]), s26, s27], by simp only [putAll, List.set_cons_zero, List.set_cons_succ], s7, (.agg (IC z)), s22, s23, (.agg (IC (t : Int))), (.tuple #[.agg (RC rn rd), .int .i64 re]), s26, s27, c_b6, rfl, lk h0, lk h1, lk h2, lk h3, fun _ => rfl, lk h5, lk h6, lk h7, lk h8, hz0, HF⟩
      · have d4 := h4 (hd 4 (by kernel_rfl))
        obtain rfl := d4
        refine wpOp_want rfl rfl (fun K hK => ?_)
        simp only [putAll, List.set_cons_zero, List.set_cons_succ, List.getElem_toArray, List.getElem_cons_succ, List.getElem_cons_zero]
        refine ⟨?_⟩
        go_simp
        exact hK _ _ ⟨[s7, s21, s22, s23, s24, (.tuple #[.agg (RC rn rd), .int .i64 re]), (.agg (RC rn rd)), s27], by simp only [putAll, List.set_cons_zero, List.set_cons_succ], s7, s21, s22, s23, s24, (.tuple #[.agg (RC rn rd), .int .i64 re]), (.agg (RC rn rd)), s27, c_b6, rfl, lk h0, lk h1, lk h2, lk h3, lk h4, fun _ => rfl, lk h6, lk h7, lk h8, hz0, HF⟩
      · have d4 := h4 (hd 4 (by kernel_rfl))
        obtain rfl := d4
        refine wpOp_want rfl rfl (fun K hK => ?_)
        simp only [putAll, List.set_cons_zero, List.set_cons_succ, List.getElem_toArray, List.getElem_cons_succ, List.getElem_cons_zero]
        refine ⟨?_⟩
        go_simp
        exact hK _ _ ⟨[s7, s21, s22, s23, s24, (.tuple #[.agg (RC rn rd), .int .i64 re]), s26, (.int .i64 re)], by simp only [putAll, List.set_cons_zero, List.set_cons_succ], s7, s21, s22, s23, s24, (.tuple #[.agg (RC rn rd), .int .i64 re]), s26, (.int .i64 re), c_b6, rfl, lk h0, lk h1, lk h2, lk h3, lk h4, lk h5, fun _ => rfl, lk h7, lk h8, hz0, HF⟩
      · have d5 := h5 (hd 5 (by kernel_rfl))
        obtain rfl := d5
        refine wpOp_want rfl rfl (fun K hK => ?_)
        simp only [putAll, List.set_cons_zero, List.set_cons_succ, List.getElem_toArray, List.getElem_cons_succ, List.getElem_cons_zero]
        with_reducible apply gS HF
        · exact rfl
        · exact rfl
        · (exact tL)
        · (first | (exact tR2))
        · first | exact hz0 | first | (focus (simp only [IC_size, intC_size, limA_size, RC_size, ratC_size]; done)) | exact rfl
        clear HF
        intro W HF
        simp only [List.cons_append, List.nil_append] at HF
        go_simp
        exact hK _ _ ⟨[s7, s21, s22, s23, s24, s25, (.agg (RC rn rd)), s27], by simp only [putAll, List.set_cons_zero, List.set_cons_succ], s7, s21, s22, s23, s24, s25, (.agg (RC rn rd)), s27, (RC rn rd), rfl, lk h0, lk h1, lk h2, lk h3, lk h4, lk h5, lk h6, fun _ => rfl, lk h8, rfl, HF⟩
      · have d6 := h6 (hd 6 (by kernel_rfl))
        obtain rfl := d6
        refine wpOp_want rfl rfl (fun K hK => ?_)
        simp only [putAll, List.set_cons_zero, List.set_cons_succ, List.getElem_toArray, List.getElem_cons_succ, List.getElem_cons_zero]
        refine ⟨?_⟩
        go_simp
        exact hK _ _ ⟨[(.int .i64 re), s21, s22, s23, s24, s25, s26, (.int .i64 re)], by simp only [putAll, List.set_cons_zero, List.set_cons_succ], (.int .i64 re), s21, s22, s23, s24, s25, s26, (.int .i64 re), c_b6, rfl, lk h0, lk h1, lk h2, lk h3, lk h4, lk h5, lk h6, lk h7, fun _ => rfl, hz0, HF⟩
    rintro listed mm W ⟨s7, s21, s22, s23, s24, s25, s26, s27, c_b6, rfl, h0, h1, h2, h3, h4, h5, h6, h7, h8, hz0, HF⟩ hall
    obtain rfl := h0 (hall 0 (by decide))
    obtain rfl := h1 (hall 1 (by decide))
    obtain rfl := h2 (hall 2 (by decide))
    obtain rfl := h3 (hall 3 (by decide))
    obtain rfl := h4 (hall 4 (by decide))
    obtain rfl := h5 (hall 5 (by decide))
    obtain rfl := h6 (hall 6 (by decide))
    rw [h7 (hall 7 (by decide))] at HF
    obtain rfl := h8 (hall 8 (by decide))
    clear hall h0 h1 h2 h3 h4 h5 h6 h7 h8 hz0 F
    have F := HF
    clear HF
    simp only [putAll, List.set_cons_zero, List.set_cons_succ]
    go_wp2_with (first | go_skip | ((with_reducible apply fL F); exact rfl; exact rfl; (exact tL); (exact tR2)) | ((with_reducible apply fA_int F); exact rfl) | ((with_reducible apply fA_rat F); exact rfl) | ((with_reducible apply fX_rat F); exact rfl; exact rfl) | ((with_reducible apply fS F); exact rfl; exact rfl; exact rfl; (exact tL); (exact tR2); (exact tS2); clear F; intro W F; simp only [List.cons_append, List.nil_append] at F) | ((with_reducible apply fB_rat0); exact rfl))
    exact bodyPost_ret (res_cs rfl rfl rfl (Fr.get F tL) (rowRC _ _)) rfl ⟨rfl, F.below⟩
  · have hr := HR.out
    rw [if_pos he] at hr
    subst hr
    clear HR HP
    go_wp2_with (first | go_skip | ((with_reducible apply fL F); exact rfl; exact rfl; (exact tL); (exact tR2)) | ((with_reducible apply fA_int F); exact rfl) | ((with_reducible apply fA_rat F); exact rfl) | ((with_reducible apply fX_rat F); exact rfl; exact rfl) | ((with_reducible apply fS F); exact rfl; exact rfl; exact rfl; (exact tL); (exact tR2); (exact tS2); clear F; intro W F; simp only [List.cons_append, List.nil_append] at F) | ((with_reducible apply fB_rat0); exact rfl))
    exact bodyPost_ret (res_cs rfl rfl rfl (Fr.get F tL) (rowRC _ _)) rfl ⟨rfl, F.below⟩
def exR (v : Prop) [Decidable v] (n d p : Int) : Bool × Int := if chkE v p ≠ 0 then (false, chkE v p) else (decide (n * ((10 ^ p.toNat : Nat) : Int) % d = 0), 0)
theorem chkE_ok {v : Prop} [Decidable v] {p : Int} (h : chkE v p = 0) : v ∧ 0 ≤ p ∧ p ≤ 9 := by
  unfold chkE at h
  split at h
  · exact absurd h (by decide)
  · rename_i hv
    split at h
    · exact absurd h (by decide)
    · exact ⟨by rwa [Classical.not_not] at hv, by omega, by omega⟩
set_option maxRecDepth 100000 in
theorem exact_any {x : Bool} {a : Nat} {y : Bool} {b : Nat} (ha : a < bp 32) (hb : b < bp 32) {p : Int} {r : Bool × Int} (hr : exR (okR x a y b) (sZ x a) (sZ y b) p = r) (w : World) : Calls Tryz.prog 30 #[.agg (ratC x a y b), .int .i64 p] w (RetB (.tuple #[.bool r.1, .int .i64 r.2]) w) := by
  have F := Fr.start w
  obtain ⟨e, he⟩ : ∃ e, chkE (okR x a y b) p = e := ⟨_, rfl⟩
  have g1 := fun w => check_any ha hb he w
  unfold exR at hr
  have hp := chkE_ok (v := okR x a y b) (p := p)
  rw [he] at hr hp
  have HR := Lib.hid hr
  have HP := Lib.hid hp
  clear hr he ha hb hp
  go_enter Tryz.func30, Tryz.ntmps30
  go_wp2_with (first | go_skip | ((with_reducible apply fL F); exact rfl; exact rfl; (exact tL); (exact tR2)) | ((with_reducible apply fA_int F); exact rfl) | ((with_reducible apply fX_rat F); exact rfl; exact rfl) | ((with_reducible apply fS F); exact rfl; exact rfl; exact rfl; (exact tL); (exact tR2); (exact tS2); clear F; intro W F; simp only [List.cons_append, List.nil_append] at F))
  (clear F; intro b2 W F; try simp only [Act.put, List.setIfInBounds_toArray, List.set_cons_zero, List.set_cons_succ])
  by_cases he : e = 0
  · have hr := HR.out
    obtain ⟨hv, p0, p9⟩ := HP.out he
    rw [if_neg (by rw [Classical.not_not]; exact he)] at hr
    subst he
    clear HR HP
    obtain ⟨n, d, ⟨h1, h2, h3⟩, hn, hd, hd0⟩ := okR_ints hv
    rw [h2, h3] at hr
    obtain ⟨q, rfl⟩ : ∃ q : Nat, p = (q : Int) := ⟨p.toNat, by omega⟩
    have hq : q ≤ 9 := by omega
    rw [Int.toNat_natCast] at hr
    have g2 := fun w => scaledZ hn hd (show d ≠ 0 by omega) hq w
    have hN := b_ten hn hq
    obtain ⟨N, hNN⟩ : ∃ N, n * ((10 ^ q : Nat) : Int) = N := ⟨_, rfl⟩
    simp only [hNN] at hr g2 hN
    have hvv : (N % d).natAbs < bp 15 := by
      have k1 := Int.emod_nonneg N (show d ≠ 0 by omega)
      have k2 := Int.emod_lt_of_pos N hd0
      omega
    obtain ⟨u, huu⟩ : ∃ u, N / d = u := ⟨_, rfl⟩
    obtain ⟨v, hv2⟩ : ∃ v, N % d = v := ⟨_, rfl⟩
    rw [huu, hv2] at g2
    rw [hv2] at hr hvv
    rw [h1] at g1 F
    have g3 := fun w => signZ (b15 hvv) w
    have hv0 : decide (v = 0) = (v.sign == 0) := by
      rw [Bool.eq_iff_iff, decide_eq_true_eq, beq_iff_eq]
      exact Int.sign_eq_zero_iff_zero.symm
    rw [hv0] at hr
    obtain ⟨t, ht⟩ : ∃ t, v.sign = t := ⟨_, rfl⟩
    rw [ht] at g3 hr
    subst hr
    clear hv0 ht hvv hv2 huu hN hNN hn hd hd0 h1 h2 h3 hv p0 p9 hq
    go_wp2_with (first | go_skip | ((go_at_call 68); (with_reducible refine fr_call F (g1 _) ?_); (clear F; intro W F); (try dsimp only)) | ((go_at_call 69); (with_reducible refine fr_call F (g2 _) ?_); (clear F; intro W F); (try dsimp only)) | ((with_reducible apply fL F); exact rfl; exact rfl; (exact tL); (exact tR2)) | ((with_reducible apply fA_int F); exact rfl) | ((with_reducible apply fX_rat F); exact rfl; exact rfl) | ((with_reducible apply fS F); exact rfl; exact rfl; exact rfl; (exact tL); (exact tR2); (exact tS2); clear F; intro W F; simp only [List.cons_append, List.nil_append] at F))
    (clear F; intro b7 W F; try simp only [Act.put, List.setIfInBounds_toArray, List.set_cons_zero, List.set_cons_succ])
    go_wp2_with (first | go_skip | ((with_reducible apply fL F); exact rfl; exact rfl; (exact tL); (exact tR2)) | ((with_reducible apply fA_int F); exact rfl) | ((with_reducible apply fX_rat F); exact rfl; exact rfl) | ((with_reducible apply fS F); exact rfl; exact rfl; exact rfl; (exact tL); (exact tR2); (exact tS2); clear F; intro W F; simp only [List.cons_append, List.nil_append] at F))
    (clear F; intro b8 W F; try simp only [Act.put, List.setIfInBounds_toArray, List.set_cons_zero, List.set_cons_succ])
    go_wp2_with (first | go_skip | ((go_at_call 72); (with_reducible refine fr_call F (g3 _) ?_); (clear F; intro W F); (try dsimp only)) | ((with_reducible apply fL F); exact rfl; exact rfl; (exact tL); (exact tR2)) | ((with_reducible apply fA_int F); exact rfl) | ((with_reducible apply fX_rat F); exact rfl; exact rfl) | ((with_reducible apply fS F); exact rfl; exact rfl; exact rfl; (exact tL); (exact tR2); (exact tS2); clear F; intro W F; simp only [List.cons_append, List.nil_append] at F))
    go_ret2
    exact ⟨rfl, F.below⟩
  · have hr := HR.out
    rw [if_pos he] at hr
    subst hr
    clear HR HP
    go_wp2_with (first | go_skip | ((go_at_call 68); (with_reducible refine fr_call F (g1 _) ?_); (clear F; intro W F); (try dsimp only)) | ((with_reducible apply fL F); exact rfl; exact rfl; (exact tL); (exact tR2)) | ((with_reducible apply fA_int F); exact rfl) | ((with_reducible apply fX_rat F); exact rfl; exact rfl) | ((with_reducible apply fS F); exact rfl; exact rfl; exact rfl; (exact tL); (exact tR2); (exact tS2); clear F; intro W F; simp only [List.cons_append, List.nil_append] at F))
    go_ret2
    exact ⟨rfl, F.below⟩
end
end Go.Proofs.YtpaodheilchfnaaGreatDoor
