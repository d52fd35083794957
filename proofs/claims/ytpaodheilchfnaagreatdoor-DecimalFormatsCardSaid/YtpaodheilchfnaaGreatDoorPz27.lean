/- What the laws lean on. -/
import Derived.Test.YtpaodheilchfnaaGreatDoorPz13
import Derived.Test.YtpaodheilchfnaaGreatDoorPz17
import Derived.Test.YtpaodheilchfnaaGreatDoorPz22
import Derived.Test.YtpaodheilchfnaaGreatDoorPz23
namespace Go.Proofs.YtpaodheilchfnaaGreatDoor
set_option linter.unusedVariables false
set_option linter.unusedSimpArgs false
section
open Go.RowKit
set_option maxHeartbeats 4000000
theorem dr_c5 {i : Nat} (h : i < 5) : i = 0 ∨ i = 1 ∨ i = 2 ∨ i = 3 ∨ i = 4 := by omega
theorem dr_c13 {i : Nat} (h : i < 13) : i = 0 ∨ i = 1 ∨ i = 2 ∨ i = 3 ∨ i = 4 ∨ i = 5 ∨ i = 6 ∨ i = 7 ∨ i = 8 ∨ i = 9 ∨ i = 10 ∨ i = 11 ∨ i = 12 := by omega
end
section
open Go.RowKit
set_option maxHeartbeats 4000000
def aboveB (m : Int) (g : Bool) (h : Int) (o : Bool) : Bool :=
  if m = 1 then g else if m = 2 then !g else if m = 3 then false else if m = 4 then true else if h ≠ 0 then decide (0 < h) else if m = 5 then !g else o
theorem above_up {m z h : Int} {g : Bool} : aboveB m g h (decide (z % 2 = 1)) = upB m z h g := by
  unfold aboveB upB
  by_cases h0 : h = 0
  · simp only [h0, ne_eq, not_true_eq_false, if_false, if_true]
  · simp only [h0, ne_eq, not_false_eq_true, if_false, if_true]
    (repeat' split) <;> rfl
theorem rabove_any {m h : Int} {g o : Bool} (h1 : 1 ≤ m) (h2 : m ≤ 6) {r : Bool} (hr : aboveB m g h o = r) (w : World) : Calls Tryz.prog 79 #[.int .i64 m, .bool g, .int .i64 h, .bool o] w (RetB (.bool r) w) := by
  have F := Fr.start w
  have hm : m = 1 ∨ m = 2 ∨ m = 3 ∨ m = 4 ∨ m = 5 ∨ m = 6 := by omega
  clear h1 h2
  by_cases h0 : h = 0
  · subst h0
    rcases hm with rfl | rfl | rfl | rfl | rfl | rfl
    all_goals
      simp only [aboveB, ne_eq, not_true_eq_false, if_false, if_true, Int.reduceEq] at hr
      subst hr
      go_enter Tryz.func79, Tryz.ntmps79
      go_wp2_with fail
      go_ret
      exact ⟨rfl, F.below⟩
  · have t1 : (h == 0) = false := by rw [beq_eq_false_iff_ne]; exact h0
    rcases hm with rfl | rfl | rfl | rfl | rfl | rfl
    all_goals
      simp only [aboveB, h0, ne_eq, not_false_eq_true, if_false, if_true, Int.reduceEq] at hr
      subst hr
      go_enter Tryz.func79, Tryz.ntmps79
      go_wp2_with fail
      go_ret
      exact ⟨rfl, F.below⟩
set_option maxRecDepth 100000 in
theorem rscaledZ {n d : Int} (hn : n.natAbs < bp 15) (hd : d.natAbs < bp 15) {p : Nat} (hp : p ≤ 9) {N : Int} (hN : n * ((10 ^ p : Nat) : Int) = N) (w : World) : Calls Tryz.prog 75 #[.agg (RC n d), .int .i64 p] w (RetB (.tuple #[.agg (IC N), .agg (IC d)]) w) := by
  have F := Fr.start w
  have g1 := fun w => rpower_any hp w
  have hb := Nat.lt_of_lt_of_le (b_ten hn hp) (bp_le (show 17 ≤ 32 by decide))
  have ht : ((10 ^ p : Nat) : Int).natAbs < bp 32 := by
    have h1 := ten_le hp
    have h2 : 4294967296 ≤ bp 32 := by unfold bp; decide
    obtain ⟨T, hT⟩ : ∃ T, 10 ^ p = T := ⟨_, rfl⟩
    rw [hT] at h1 ⊢
    omega
  have g2 := fun w => rmulZ (b15 hn) ht hb w
  rw [hN] at g2
  obtain ⟨P, hP⟩ : ∃ P : Int, ((10 ^ p : Nat) : Int) = P := ⟨_, rfl⟩
  rw [hP] at g1 g2
  clear hn hd hp hN hb ht hP
  go_enter Tryz.func75, Tryz.ntmps75
  go_wp2_with (first | go_skip | ((with_reducible apply fL F); exact rfl; exact rfl; (exact tL); (exact tR3)) | ((with_reducible apply fLm F); exact rfl; exact rfl; (exact tL); (exact tM3); (exact tR3)) | ((with_reducible apply fA_int F); exact rfl) | ((with_reducible apply fX_rat F); exact rfl; exact rfl) | ((with_reducible apply fS F); exact rfl; exact rfl; exact rfl; (exact tL); (exact tR3); (exact tS2); clear F; intro W F; simp only [z7, z8] at F))
  (clear F; intro b2 W F; try simp only [Act.put, z6, z1, z2])
  go_wp2_with (first | go_skip | ((with_reducible apply fL F); exact rfl; exact rfl; (exact tL); (exact tR3)) | ((with_reducible apply fLm F); exact rfl; exact rfl; (exact tL); (exact tM3); (exact tR3)) | ((with_reducible apply fA_int F); exact rfl) | ((with_reducible apply fX_rat F); exact rfl; exact rfl) | ((with_reducible apply fS F); exact rfl; exact rfl; exact rfl; (exact tL); (exact tR3); (exact tS2); clear F; intro W F; simp only [z7, z8] at F))
  (clear F; intro b4 W F; try simp only [Act.put, z6, z1, z2])
  go_wp2_with (first | go_skip | ((with_reducible apply fL F); exact rfl; exact rfl; (exact tL); (exact tR3)) | ((with_reducible apply fLm F); exact rfl; exact rfl; (exact tL); (exact tM3); (exact tR3)) | ((with_reducible apply fA_int F); exact rfl) | ((with_reducible apply fX_rat F); exact rfl; exact rfl) | ((with_reducible apply fS F); exact rfl; exact rfl; exact rfl; (exact tL); (exact tR3); (exact tS2); clear F; intro W F; simp only [z7, z8] at F))
  (clear F; intro b5 W F; try simp only [Act.put, z6, z1, z2])
  go_wp2_with (first | go_skip | ((with_reducible apply fL F); exact rfl; exact rfl; (exact tL); (exact tR3)) | ((with_reducible apply fLm F); exact rfl; exact rfl; (exact tL); (exact tM3); (exact tR3)) | ((with_reducible apply fA_int F); exact rfl) | ((with_reducible apply fX_rat F); exact rfl; exact rfl) | ((with_reducible apply fS F); exact rfl; exact rfl; exact rfl; (exact tL); (exact tR3); (exact tS2); clear F; intro W F; simp only [z7, z8] at F))
  try simp only [Act.put, z6, z1, z2]
  refine wp_region_slots mixP [6, 7, 8, 9, 10, 11, 12, 13, 14, 15, 16] (fun l mm W => ∃ (s6 s7 s8 s9 s10 s11 s12 s13 s14 s15 s16 : Value) (c_b6 : Array Value) (b6 : Nat), mm = [s6, s7, s8, s9, s10, s11, s12, s13, s14, s15, s16] ∧ (l.getD 0 false = true → s9 = .pointer (some ⟨b2, 0, none⟩)) ∧ (l.getD 1 false = true → s10 = .agg (IC n)) ∧ (l.getD 2 false = true → s11 = .int .i64 p) ∧ (l.getD 3 false = true → s12 = .agg (RC P 1)) ∧ (l.getD 4 false = true → s13 = .agg (IC P)) ∧ (l.getD 5 false = true → s14 = .tuple #[.agg (IC N), .int .i64 0]) ∧ (l.getD 6 false = true → s8 = .tuple #[.agg (IC N), .int .i64 0]) ∧ (l.getD 7 false = true → s15 = .agg (IC N)) ∧ (l.getD 8 false = true → s16 = .int .i64 0) ∧ (l.getD 9 false = true → s6 = .pointer (some ⟨b6, 0, none⟩)) ∧ (l.getD 10 false = true → c_b6 = IC N) ∧ (l.getD 11 false = true → s7 = .int .i64 0) ∧ (l.getD 10 false = true → l.getD 9 false = true) ∧ c_b6.size = (IC N).size ∧ Fr w W ((b5, intC false 0, 29) :: (b4, intC false 0, 29) :: (b2, RC n d, 31) :: (onl (l.getD 9 false) (b6, c_b6, 29)))) (by kernel_rfl) (putAll_self _ _) ?_ ?_ ?_
  · exact ⟨_, _, _, _, _, _, _, _, _, _, _, (intC false 0), 0, rfl, nf, nf, nf, nf, nf, nf, nf, nf, nf, nf, nf, nf, nf, by exact tS2, F.drew⟩
  · rintro listed mm W ii hi hsz hoff ⟨s6, s7, s8, s9, s10, s11, s12, s13, s14, s15, s16, c_b6, b6, rfl, h0, h1, h2, h3, h4, h5, h6, h7, h8, h9, h10, h11, hN_b6, hz0, HF⟩ hd
    have hc := dr_c12 hi
    have hsz2 : listed.size = 12 := hsz
    clear hi hsz
    rcases hc with rfl | rfl | rfl | rfl | rfl | rfl | rfl | rfl | rfl | rfl | rfl | rfl
    · refine wpOp_want rfl rfl (fun K hK => ?_)
      simp only [putAll, z1, z2, z3, z4, z5]
      refine ⟨?_⟩
      go_simp
      exact hK _ _ ⟨[s6, s7, s8, (.pointer (some ⟨b2, 0, none⟩)), s10, s11, s12, s13, s14, s15, s16], by simp only [putAll, z1, z2], s6, s7, s8, (.pointer (some ⟨b2, 0, none⟩)), s10, s11, s12, s13, s14, s15, s16, c_b6, b6, rfl, fun _ => rfl, lk h1, lk h2, lk h3, lk h4, lk h5, lk h6, lk h7, lk h8, lk h9, lk h10, lk h11, fun h => by rw [getD_keep (show 0 ≠ 10 by decide)] at h; rw [getD_keep (show 0 ≠ 9 by decide)]; exact hN_b6 h, hz0, by rw [getD_keep (show 0 ≠ 9 by decide)]; exact HF⟩
    · have d0 := h0 (hd 0 (by kernel_rfl))
      obtain rfl := d0
      refine wpOp_want rfl rfl (fun K hK => ?_)
      simp only [putAll, z1, z2, z3, z4, z5]
      with_reducible apply gLm HF
      · exact rfl
      · (exact tL)
      · exact RC_num _ _
      · (first | (exact tR3))
      go_simp
      exact hK _ _ ⟨[s6, s7, s8, (.pointer (some ⟨b2, 0, none⟩)), (.agg (IC n)), s11, s12, s13, s14, s15, s16], by simp only [putAll, z1, z2], s6, s7, s8, (.pointer (some ⟨b2, 0, none⟩)), (.agg (IC n)), s11, s12, s13, s14, s15, s16, c_b6, b6, rfl, lk h0, fun _ => rfl, lk h2, lk h3, lk h4, lk h5, lk h6, lk h7, lk h8, lk h9, lk h10, lk h11, fun h => by rw [getD_keep (show 1 ≠ 10 by decide)] at h; rw [getD_keep (show 1 ≠ 9 by decide)]; exact hN_b6 h, hz0, by rw [getD_keep (show 1 ≠ 9 by decide)]; exact HF⟩
    · refine wpOp_want rfl rfl (fun K hK => ?_)
      simp only [putAll, z1, z2, z3, z4, z5]
      refine ⟨?_⟩
      go_simp
      exact hK _ _ ⟨[s6, s7, s8, s9, s10, (.int .i64 p), s12, s13, s14, s15, s16], by simp only [putAll, z1, z2], s6, s7, s8, s9, s10, (.int .i64 p), s12, s13, s14, s15, s16, c_b6, b6, rfl, lk h0, lk h1, fun _ => rfl, lk h3, lk h4, lk h5, lk h6, lk h7, lk h8, lk h9, lk h10, lk h11, fun h => by rw [getD_keep (show 2 ≠ 10 by decide)] at h; rw [getD_keep (show 2 ≠ 9 by decide)]; exact hN_b6 h, hz0, by rw [getD_keep (show 2 ≠ 9 by decide)]; exact HF⟩
    · have d2 := h2 (hd 2 (by kernel_rfl))
      obtain rfl := d2
      refine wpOp_want rfl rfl (fun K hK => ?_)
      simp only [putAll, z1, z2, z3, z4, z5]
      refine ⟨?_⟩
      go_simp
      with_reducible refine fr_call HF (g1 _) ?_
      clear HF
      intro W HF
      (try dsimp only)
      exact hK _ _ ⟨[s6, s7, s8, s9, s10, (.int .i64 p), (.agg (RC P 1)), s13, s14, s15, s16], by simp only [putAll, z1, z2], s6, s7, s8, s9, s10, (.int .i64 p), (.agg (RC P 1)), s13, s14, s15, s16, c_b6, b6, rfl, lk h0, lk h1, lk h2, fun _ => rfl, lk h4, lk h5, lk h6, lk h7, lk h8, lk h9, lk h10, lk h11, fun h => by rw [getD_keep (show 3 ≠ 10 by decide)] at h; rw [getD_keep (show 3 ≠ 9 by decide)]; exact hN_b6 h, hz0, by rw [getD_keep (show 3 ≠ 9 by decide)]; exact HF⟩
    · have d3 := h3 (hd 3 (by kernel_rfl))
      obtain rfl := d3
      refine wpOp_want rfl rfl (fun K hK => ?_)
      simp only [putAll, z1, z2, z3, z4, z5]
      with_reducible apply gF_num
      · exact rfl
      go_simp
      exact hK _ _ ⟨[s6, s7, s8, s9, s10, s11, (.agg (RC P 1)), (.agg (IC P)), s14, s15, s16], by simp only [putAll, z1, z2], s6, s7, s8, s9, s10, s11, (.agg (RC P 1)), (.agg (IC P)), s14, s15, s16, c_b6, b6, rfl, lk h0, lk h1, lk h2, lk h3, fun _ => rfl, lk h5, lk h6, lk h7, lk h8, lk h9, lk h10, lk h11, fun h => by rw [getD_keep (show 4 ≠ 10 by decide)] at h; rw [getD_keep (show 4 ≠ 9 by decide)]; exact hN_b6 h, hz0, by rw [getD_keep (show 4 ≠ 9 by decide)]; exact HF⟩
    · have d1 := h1 (hd 1 (by kernel_rfl))
      have d4 := h4 (hd 4 (by kernel_rfl))
      obtain rfl := d1
      obtain rfl := d4
      refine wpOp_want rfl rfl (fun K hK => ?_)
      simp only [putAll, z1, z2, z3, z4, z5]
      refine ⟨?_⟩
      go_simp
      with_reducible refine fr_call HF (g2 _) ?_
      clear HF
      intro W HF
      (try dsimp only)
      exact hK _ _ ⟨[s6, s7, s8, s9, (.agg (IC n)), s11, s12, (.agg (IC P)), (.tuple #[.agg (IC N), .int .i64 0]), s15, s16], by simp only [putAll, z1, z2], s6, s7, s8, s9, (.agg (IC n)), s11, s12, (.agg (IC P)), (.tuple #[.agg (IC N), .int .i64 0]), s15, s16, c_b6, b6, rfl, lk h0, lk h1, lk h2, lk h3, lk h4, fun _ => rfl, lk h6, lk h7, lk h8, lk h9, lk h10, lk h11, fun h => by rw [getD_keep (show 5 ≠ 10 by decide)] at h; rw [getD_keep (show 5 ≠ 9 by decide)]; exact hN_b6 h, hz0, by rw [getD_keep (show 5 ≠ 9 by decide)]; exact HF⟩
    · have d5 := h5 (hd 5 (by kernel_rfl))
      obtain rfl := d5
      refine wpOp_want rfl rfl (fun K hK => ?_)
      simp only [putAll, z1, z2, z3, z4, z5]
      refine ⟨?_⟩
      go_simp
      exact hK _ _ ⟨[s6, s7, (.tuple #[.agg (IC N), .int .i64 0]), s9, s10, s11, s12, s13, (.tuple #[.agg (IC N), .int .i64 0]), s15, s16], by simp only [putAll, z1, z2], s6, s7, (.tuple #[.agg (IC N), .int .i64 0]), s9, s10, s11, s12, s13, (.tuple #[.agg (IC N), .int .i64 0]), s15, s16, c_b6, b6, rfl, lk h0, lk h1, lk h2, lk h3, lk h4, lk h5, fun _ => rfl, lk h7, lk h8, lk h9, lk h10, lk h11, fun h => by rw [getD_keep (show 6 ≠ 10 by decide)] at h; rw [getD_keep (show 6 ≠ 9 by decide)]; exact hN_b6 h, hz0, by rw [getD_keep (show 6 ≠ 9 by decide)]; exact HF⟩
    · have d6 := h6 (hd 6 (by kernel_rfl))
      obtain rfl := d6
      refine wpOp_want rfl rfl (fun K hK => ?_)
      simp only [putAll, z1, z2, z3, z4, z5]
      refine ⟨?_⟩
      go_simp
      exact hK _ _ ⟨[s6, s7, (.tuple #[.agg (IC N), .int .i64 0]), s9, s10, s11, s12, s13, s14, (.agg (IC N)), s16], by simp only [putAll, z1, z2], s6, s7, (.tuple #[.agg (IC N), .int .i64 0]), s9, s10, s11, s12, s13, s14, (.agg (IC N)), s16, c_b6, b6, rfl, lk h0, lk h1, lk h2, lk h3, lk h4, lk h5, lk h6, fun _ => rfl, lk h8, lk h9, lk h10, lk h11, fun h => by rw [getD_keep (show 7 ≠ 10 by decide)] at h; rw [getD_keep (show 7 ≠ 9 by decide)]; exact hN_b6 h, hz0, by rw [getD_keep (show 7 ≠ 9 by decide)]; exact HF⟩
    · have d6 := h6 (hd 6 (by kernel_rfl))
      obtain rfl := d6
      refine wpOp_want rfl rfl (fun K hK => ?_)
      simp only [putAll, z1, z2, z3, z4, z5]
      refine ⟨?_⟩
      go_simp
      exact hK _ _ ⟨[s6, s7, (.tuple #[.agg (IC N), .int .i64 0]), s9, s10, s11, s12, s13, s14, s15, (.int .i64 0)], by simp only [putAll, z1, z2], s6, s7, (.tuple #[.agg (IC N), .int .i64 0]), s9, s10, s11, s12, s13, s14, s15, (.int .i64 0), c_b6, b6, rfl, lk h0, lk h1, lk h2, lk h3, lk h4, lk h5, lk h6, lk h7, fun _ => rfl, lk h9, lk h10, lk h11, fun h => by rw [getD_keep (show 8 ≠ 10 by decide)] at h; rw [getD_keep (show 8 ≠ 9 by decide)]; exact hN_b6 h, hz0, by rw [getD_keep (show 8 ≠ 9 by decide)]; exact HF⟩
    · refine wpOp_want rfl rfl (fun K hK => ?_)
      simp only [putAll, z1, z2, z3, z4, z5]
      rw [show listed.getD 9 false = false from hoff] at HF
      skip
      with_reducible apply gA_int HF
      intro bN W HF
      go_simp
      exact hK _ _ ⟨[(.pointer (some ⟨bN, 0, none⟩)), s7, s8, s9, s10, s11, s12, s13, s14, s15, s16], by simp only [putAll, z1, z2], (.pointer (some ⟨bN, 0, none⟩)), s7, s8, s9, s10, s11, s12, s13, s14, s15, s16, (intC false 0), bN, rfl, lk h0, lk h1, lk h2, lk h3, lk h4, lk h5, lk h6, lk h7, lk h8, fun _ => rfl, fun h => absurd (hN_b6 (by rw [getD_keep (show 9 ≠ 10 by decide)] at h; exact h)) (by rw [hoff]; decide), lk h11, fun _ => getD_on (by rw [hsz2]; decide), by exact tS2, by rw [getD_on (show 9 < listed.size by rw [hsz2]; decide)]; exact Fr.mid (A := [(b5, intC false 0, 29), (b4, intC false 0, 29), (b2, RC n d, 31)]) HF⟩
    · have d7 := h7 (hd 7 (by kernel_rfl))
      have d9 := h9 (hd 9 (by kernel_rfl))
      obtain rfl := d7
      obtain rfl := d9
      refine wpOp_want rfl rfl (fun K hK => ?_)
      simp only [putAll, z1, z2, z3, z4, z5]
      rw [hd 9 (by kernel_rfl)] at HF
      simp only [onl, if_true, z7, z8] at HF
      with_reducible apply gS HF
      · exact rfl
      · exact rfl
      · (exact tL)
      · (first | (exact tR3))
      · first | exact hz0 | exact tS2
      clear HF
      intro W HF
      simp only [z7, z8, List.append_assoc, List.append_nil] at HF
      go_simp
      exact hK _ _ ⟨[(.pointer (some ⟨b6, 0, none⟩)), s7, s8, s9, s10, s11, s12, s13, s14, (.agg (IC N)), s16], by simp only [putAll, z1, z2], (.pointer (some ⟨b6, 0, none⟩)), s7, s8, s9, s10, s11, s12, s13, s14, (.agg (IC N)), s16, (IC N), b6, rfl, lk h0, lk h1, lk h2, lk h3, lk h4, lk h5, lk h6, lk h7, lk h8, lk h9, fun _ => rfl, lk h11, fun _ => by rw [getD_keep (show 10 ≠ 9 by decide)]; exact hd 9 (by kernel_rfl), rfl, by rw [getD_keep (show 10 ≠ 9 by decide), hd 9 (by kernel_rfl)]; exact HF⟩
    · have d8 := h8 (hd 8 (by kernel_rfl))
      obtain rfl := d8
      refine wpOp_want rfl rfl (fun K hK => ?_)
      simp only [putAll, z1, z2, z3, z4, z5]
      refine ⟨?_⟩
      go_simp
      exact hK _ _ ⟨[s6, (.int .i64 0), s8, s9, s10, s11, s12, s13, s14, s15, (.int .i64 0)], by simp only [putAll, z1, z2], s6, (.int .i64 0), s8, s9, s10, s11, s12, s13, s14, s15, (.int .i64 0), c_b6, b6, rfl, lk h0, lk h1, lk h2, lk h3, lk h4, lk h5, lk h6, lk h7, lk h8, lk h9, lk h10, fun _ => rfl, fun h => by rw [getD_keep (show 11 ≠ 10 by decide)] at h; rw [getD_keep (show 11 ≠ 9 by decide)]; exact hN_b6 h, hz0, by rw [getD_keep (show 11 ≠ 9 by decide)]; exact HF⟩
  rintro listed mm W ⟨s6, s7, s8, s9, s10, s11, s12, s13, s14, s15, s16, c_b6, b6, rfl, h0, h1, h2, h3, h4, h5, h6, h7, h8, h9, h10, h11, hN_b6, hz0, HF⟩ hall
  rw [hall 9 (by decide)] at HF
  simp only [onl, if_true, z7, z8] at HF
  obtain rfl := h0 (hall 0 (by decide))
  obtain rfl := h1 (hall 1 (by decide))
  obtain rfl := h2 (hall 2 (by decide))
  obtain rfl := h3 (hall 3 (by decide))
  obtain rfl := h4 (hall 4 (by decide))
  obtain rfl := h5 (hall 5 (by decide))
  obtain rfl := h6 (hall 6 (by decide))
  obtain rfl := h7 (hall 7 (by decide))
  obtain rfl := h8 (hall 8 (by decide))
  obtain rfl := h9 (hall 9 (by decide))
  rw [h10 (hall 10 (by decide))] at HF
  obtain rfl := h11 (hall 11 (by decide))
  clear hall h0 h1 h2 h3 h4 h5 h6 h7 h8 h9 h10 h11 hN_b6 hz0 F
  have F := HF
  clear HF
  simp only [putAll, z1, z2]
  go_wp2_with (first | go_skip | ((with_reducible apply fL F); exact rfl; exact rfl; (exact tL); (exact tR3)) | ((with_reducible apply fLm F); exact rfl; exact rfl; (exact tL); (exact tM3); (exact tR3)) | ((with_reducible apply fA_int F); exact rfl) | ((with_reducible apply fX_rat F); exact rfl; exact rfl) | ((with_reducible apply fS F); exact rfl; exact rfl; exact rfl; (exact tL); (exact tR3); (exact tS2); clear F; intro W F; simp only [z7, z8] at F))
  try simp only [Act.put, z6, z1, z2]
  refine wp_region_slots mixP [17, 18, 19] (fun l mm W => ∃ (s17 s18 s19 : Value) (c_b4 c_b5 : Array Value), mm = [s17, s18, s19] ∧ (l.getD 0 false = true → s17 = .agg (IC N)) ∧ (l.getD 1 false = true → s18 = .pointer (some ⟨b2, 33, none⟩)) ∧ (l.getD 2 false = true → s19 = .agg (IC d)) ∧ (l.getD 3 false = true → c_b4 = IC N) ∧ (l.getD 4 false = true → c_b5 = IC d) ∧ c_b4.size = (IC N).size ∧ c_b5.size = (IC d).size ∧ Fr w W [(b5, c_b5, 29), (b4, c_b4, 29), (b2, RC n d, 31), (b6, IC N, 29)]) (by kernel_rfl) (putAll_self _ _) ?_ ?_ ?_
  · exact ⟨_, _, _, (intC false 0), (intC false 0), rfl, nf, nf, nf, nf, nf, by exact tS2, by exact tS2, F.drew⟩
  · rintro listed mm W ii hi hsz hoff ⟨s17, s18, s19, c_b4, c_b5, rfl, h0, h1, h2, h3, h4, hz0, hz1, HF⟩ hd
    have hc := dr_c5 hi
    have hsz2 : listed.size = 5 := hsz
    clear hi hsz
    rcases hc with rfl | rfl | rfl | rfl | rfl
    · refine wpOp_want rfl rfl (fun K hK => ?_)
      simp only [putAll, z1, z2, z3, z4, z5]
      with_reducible apply gL HF
      · exact rfl
      · (exact tL)
      · (first | (exact tR3))
      go_simp
      exact hK _ _ ⟨[(.agg (IC N)), s18, s19], by simp only [putAll, z1, z2], (.agg (IC N)), s18, s19, c_b4, c_b5, rfl, fun _ => rfl, lk h1, lk h2, lk h3, lk h4, hz0, hz1, HF⟩
    · refine wpOp_want rfl rfl (fun K hK => ?_)
      simp only [putAll, z1, z2, z3, z4, z5]
      refine ⟨?_⟩
      go_simp
      exact hK _ _ ⟨[s17, (.pointer (some ⟨b2, 33, none⟩)), s19], by simp only [putAll, z1, z2], s17, (.pointer (some ⟨b2, 33, none⟩)), s19, c_b4, c_b5, rfl, lk h0, fun _ => rfl, lk h2, lk h3, lk h4, hz0, hz1, HF⟩
    · have d1 := h1 (hd 1 (by kernel_rfl))
      obtain rfl := d1
      refine wpOp_want rfl rfl (fun K hK => ?_)
      simp only [putAll, z1, z2, z3, z4, z5]
      with_reducible apply gLm HF
      · exact rfl
      · (exact tL)
      · exact RC_den _ _
      · (first | (exact tR3))
      go_simp
      exact hK _ _ ⟨[s17, (.pointer (some ⟨b2, 33, none⟩)), (.agg (IC d))], by simp only [putAll, z1, z2], s17, (.pointer (some ⟨b2, 33, none⟩)), (.agg (IC d)), c_b4, c_b5, rfl, lk h0, lk h1, fun _ => rfl, lk h3, lk h4, hz0, hz1, HF⟩
    · have d0 := h0 (hd 0 (by kernel_rfl))
      obtain rfl := d0
      refine wpOp_want rfl rfl (fun K hK => ?_)
      simp only [putAll, z1, z2, z3, z4, z5]
      with_reducible apply gS HF
      · exact rfl
      · exact rfl
      · (exact tL)
      · (first | (exact tR3))
      · first | exact hz0 | exact tS2
      clear HF
      intro W HF
      simp only [z7, z8, List.append_assoc, List.append_nil] at HF
      go_simp
      exact hK _ _ ⟨[(.agg (IC N)), s18, s19], by simp only [putAll, z1, z2], (.agg (IC N)), s18, s19, (IC N), c_b5, rfl, lk h0, lk h1, lk h2, fun _ => rfl, lk h4, rfl, hz1, HF⟩
    · have d2 := h2 (hd 2 (by kernel_rfl))
      obtain rfl := d2
      refine wpOp_want rfl rfl (fun K hK => ?_)
      simp only [putAll, z1, z2, z3, z4, z5]
      with_reducible apply gS HF
      · exact rfl
      · exact rfl
      · (exact tL)
      · (first | (exact tR3))
      · first | exact hz1 | exact tS2
      clear HF
      intro W HF
      simp only [z7, z8, List.append_assoc, List.append_nil] at HF
      go_simp
      exact hK _ _ ⟨[s17, s18, (.agg (IC d))], by simp only [putAll, z1, z2], s17, s18, (.agg (IC d)), c_b4, (IC d), rfl, lk h0, lk h1, lk h2, lk h3, fun _ => rfl, hz0, rfl, HF⟩
  rintro listed mm W ⟨s17, s18, s19, c_b4, c_b5, rfl, h0, h1, h2, h3, h4, hz0, hz1, HF⟩ hall
  obtain rfl := h0 (hall 0 (by decide))
  obtain rfl := h1 (hall 1 (by decide))
  obtain rfl := h2 (hall 2 (by decide))
  rw [h3 (hall 3 (by decide))] at HF
  rw [h4 (hall 4 (by decide))] at HF
  clear hall h0 h1 h2 h3 h4 hz0 hz1 F
  have F := HF
  clear HF
  simp only [putAll, z1, z2]
  go_wp2_with (first | go_skip | ((with_reducible apply fL F); exact rfl; exact rfl; (exact tL); (exact tR3)) | ((with_reducible apply fLm F); exact rfl; exact rfl; (exact tL); (exact tM3); (exact tR3)) | ((with_reducible apply fA_int F); exact rfl) | ((with_reducible apply fX_rat F); exact rfl; exact rfl) | ((with_reducible apply fS F); exact rfl; exact rfl; exact rfl; (exact tL); (exact tR3); (exact tS2); clear F; intro W F; simp only [z7, z8] at F))
  exact bodyPost_ret (res_cc rfl rfl rfl (Fr.get F tL) (rowIC _) (Fr.get F tL) (rowIC _)) rfl ⟨rfl, F.below⟩
end
section
open Go.RowKit
set_option maxHeartbeats 4000000
theorem odd_lim (z : Int) : (lim z.natAbs 0 % 2 = 1) ↔ z % 2 = 1 := by
  unfold lim
  rw [bp_zero, Nat.div_one]
  omega
theorem sign_mul_pos {n t : Int} (ht : 0 < t) : ((n * t).sign < 0) ↔ n < 0 := by
  rw [Int.sign_neg_iff]
  constructor
  · intro h
    rcases Int.lt_or_le n 0 with h2 | h2
    · exact h2
    · have := Int.mul_nonneg h2 (Int.le_of_lt ht)
      omega
  · intro h
    exact Int.mul_neg_of_neg_of_pos h ht
set_option maxRecDepth 100000 in
theorem rround_any {x : Bool} {a : Nat} {y : Bool} {b : Nat} (ha : a < bp 32) (hb : b < bp 32) {p m : Int} {r : Int × Int} (hr : rndR (okR x a y b) (sZ x a) (sZ y b) p m = r) (w : World) : Calls Tryz.prog 26 #[.agg (ratC x a y b), .int .i64 p, .int .i64 m] w (RetB (.tuple #[.agg (IC r.1), .int .i64 r.2]) w) := by
  have F := Fr.start w
  obtain ⟨f, hf⟩ : ∃ f, decide (okR x a y b) = f := ⟨_, rfl⟩
  have g1 := fun w => rvalid_any ha hb hf w
  obtain ⟨f2, hf2⟩ : ∃ f, decide (0 ≤ p ∧ p ≤ 9) = f := ⟨_, rfl⟩
  have gp := fun w => rplaces_any hf2 w
  have HR := Lib.hid hr
  clear hr
  go_enter Tryz.func26, Tryz.ntmps26
  go_wp2_with (first | go_skip | ((with_reducible apply fL F); exact rfl; exact rfl; (exact tL); (exact tR3)) | ((with_reducible apply fLm F); exact rfl; exact rfl; (exact tL); (exact tM3); (exact tR3)) | ((with_reducible apply fA_int F); exact rfl) | ((with_reducible apply fX_rat F); exact rfl; exact rfl) | ((with_reducible apply fS F); exact rfl; exact rfl; exact rfl; (exact tL); (exact tR3); (exact tS2); clear F; intro W F; simp only [z7, z8] at F) | ((with_reducible apply fB_int0); exact rfl))
  (clear F; intro b3 W F; try simp only [Act.put, z6, z1, z2])
  go_wp2_with (first | go_skip | ((with_reducible apply fL F); exact rfl; exact rfl; (exact tL); (exact tR3)) | ((with_reducible apply fLm F); exact rfl; exact rfl; (exact tL); (exact tM3); (exact tR3)) | ((with_reducible apply fA_int F); exact rfl) | ((with_reducible apply fX_rat F); exact rfl; exact rfl) | ((with_reducible apply fS F); exact rfl; exact rfl; exact rfl; (exact tL); (exact tR3); (exact tS2); clear F; intro W F; simp only [z7, z8] at F) | ((with_reducible apply fB_int0); exact rfl))
  (clear F; intro b6 W F; try simp only [Act.put, z6, z1, z2])
  by_cases hv : ¬ okR x a y b
  · have he : f = false := by rw [← hf]; exact decide_eq_false hv
    have hr : (0, 20) = r := by have := HR.out; rwa [rndR, if_pos hv] at this
    subst he
    subst hr
    clear HR hv hf hf2
    go_wp2_with (first | go_skip | ((go_at_call 51); (with_reducible refine fr_call F (g1 _) ?_); (clear F; intro W F); (try dsimp only)) | ((with_reducible apply fL F); exact rfl; exact rfl; (exact tL); (exact tR3)) | ((with_reducible apply fLm F); exact rfl; exact rfl; (exact tL); (exact tM3); (exact tR3)) | ((with_reducible apply fA_int F); exact rfl) | ((with_reducible apply fX_rat F); exact rfl; exact rfl) | ((with_reducible apply fS F); exact rfl; exact rfl; exact rfl; (exact tL); (exact tR3); (exact tS2); clear F; intro W F; simp only [z7, z8] at F) | ((with_reducible apply fB_int0); exact rfl))
    exact bodyPost_ret (res_cs rfl rfl rfl (Fr.get F tL) (rowIC 0)) rfl ⟨rfl, F.below⟩
  rw [Classical.not_not] at hv
  obtain rfl : true = f := by rw [← hf]; exact (decide_eq_true hv).symm
  by_cases hp : p < 0 ∨ 9 < p
  · have he : f2 = false := by rw [← hf2]; exact decide_eq_false (by omega)
    have hr : (0, 30) = r := by have := HR.out; rwa [rndR, if_neg (by rw [Classical.not_not]; exact hv), if_pos hp] at this
    subst he
    subst hr
    clear HR hv hp hf hf2
    go_wp2_with (first | go_skip | ((go_at_call 51); (with_reducible refine fr_call F (g1 _) ?_); (clear F; intro W F); (try dsimp only)) | ((go_at_call 64); (with_reducible refine fr_call F (gp _) ?_); (clear F; intro W F); (try dsimp only)) | ((with_reducible apply fL F); exact rfl; exact rfl; (exact tL); (exact tR3)) | ((with_reducible apply fLm F); exact rfl; exact rfl; (exact tL); (exact tM3); (exact tR3)) | ((with_reducible apply fA_int F); exact rfl) | ((with_reducible apply fX_rat F); exact rfl; exact rfl) | ((with_reducible apply fS F); exact rfl; exact rfl; exact rfl; (exact tL); (exact tR3); (exact tS2); clear F; intro W F; simp only [z7, z8] at F) | ((with_reducible apply fB_int0); exact rfl))
    exact bodyPost_ret (res_cs rfl rfl rfl (Fr.get F tL) (rowIC 0)) rfl ⟨rfl, F.below⟩
  obtain rfl : true = f2 := by rw [← hf2]; exact (decide_eq_true (by omega)).symm
  have hr := HR.out
  rw [rndR, if_neg (by rw [Classical.not_not]; exact hv), if_neg hp] at hr
  by_cases hm : m < 1 ∨ 6 < m
  · rw [if_pos hm] at hr
    subst hr
    by_cases hm1 : m < 1
    · have t1 : decide (m < 1) = true := decide_eq_true hm1
      clear HR hv hp hf hf2 hm hm1
      go_wp2_with (first | go_skip | ((go_at_call 51); (with_reducible refine fr_call F (g1 _) ?_); (clear F; intro W F); (try dsimp only)) | ((go_at_call 64); (with_reducible refine fr_call F (gp _) ?_); (clear F; intro W F); (try dsimp only)) | ((with_reducible apply fL F); exact rfl; exact rfl; (exact tL); (exact tR3)) | ((with_reducible apply fLm F); exact rfl; exact rfl; (exact tL); (exact tM3); (exact tR3)) | ((with_reducible apply fA_int F); exact rfl) | ((with_reducible apply fX_rat F); exact rfl; exact rfl) | ((with_reducible apply fS F); exact rfl; exact rfl; exact rfl; (exact tL); (exact tR3); (exact tS2); clear F; intro W F; simp only [z7, z8] at F) | ((with_reducible apply fB_int0); exact rfl))
      exact bodyPost_ret (res_cs rfl rfl rfl (Fr.get F tL) (rowIC 0)) rfl ⟨rfl, F.below⟩
    · have t1 : decide (m < 1) = false := decide_eq_false hm1
      have t2 : decide (6 < m) = true := decide_eq_true (by omega)
      clear HR hv hp hf hf2 hm hm1
      go_wp2_with (first | go_skip | ((go_at_call 51); (with_reducible refine fr_call F (g1 _) ?_); (clear F; intro W F); (try dsimp only)) | ((go_at_call 64); (with_reducible refine fr_call F (gp _) ?_); (clear F; intro W F); (try dsimp only)) | ((with_reducible apply fL F); exact rfl; exact rfl; (exact tL); (exact tR3)) | ((with_reducible apply fLm F); exact rfl; exact rfl; (exact tL); (exact tM3); (exact tR3)) | ((with_reducible apply fA_int F); exact rfl) | ((with_reducible apply fX_rat F); exact rfl; exact rfl) | ((with_reducible apply fS F); exact rfl; exact rfl; exact rfl; (exact tL); (exact tR3); (exact tS2); clear F; intro W F; simp only [z7, z8] at F) | ((with_reducible apply fB_int0); exact rfl))
      exact bodyPost_ret (res_cs rfl rfl rfl (Fr.get F tL) (rowIC 0)) rfl ⟨rfl, F.below⟩
  rw [if_neg hm] at hr
  have t1 : decide (m < 1) = false := decide_eq_false (by omega)
  have t2 : decide (6 < m) = false := decide_eq_false (by omega)
  obtain ⟨n, d, ⟨h1, h2, h3⟩, hn, hd, hd0⟩ := okR_ints hv
  rw [h2, h3] at hr
  obtain ⟨q, rfl⟩ : ∃ q : Nat, p = (q : Int) := ⟨p.toNat, by omega⟩
  have hq : q ≤ 9 := by omega
  rw [Int.toNat_natCast] at hr
  have hN := b_ten hn hq
  have hsg := sign_mul_pos (n := n) (t := ((10 ^ q : Nat) : Int)) (by have := Nat.pow_pos (n := q) (show 0 < 10 by decide); omega)
  obtain ⟨N, hNN⟩ : ∃ N, n * ((10 ^ q : Nat) : Int) = N := ⟨_, rfl⟩
  have g2 := fun w => rscaledZ hn hd hq hNN w
  rw [hNN] at hsg hN
  simp only [hNN] at hr
  have hN32 : N.natAbs < bp 32 := Nat.lt_of_lt_of_le hN (bp_le (by decide))
  have gq := fun w => rdivmodZ hN32 (b15 hd) (show d ≠ 0 by omega) w
  have hu : (N / d).natAbs < bp 17 := Nat.lt_of_le_of_lt (div_le_abs N d) hN
  have hvv : (N % d).natAbs < bp 15 := by
    have k1 := Int.emod_nonneg N (show d ≠ 0 by omega)
    have k2 := Int.emod_lt_of_pos N hd0
    omega
  obtain ⟨u, huu⟩ : ∃ u, N / d = u := ⟨_, rfl⟩
  obtain ⟨v, hv2⟩ : ∃ v, N % d = v := ⟨_, rfl⟩
  rw [huu, hv2] at hr gq
  rw [huu] at hu
  rw [hv2] at hvv
  rw [h1] at g1 F
  have g3 := fun w => radd_any (b15 hvv) (b15 hvv) (b17 hvv hvv) w
  have g4 := fun w => rcmp_any (x := v + v) (y := d) (b17 hvv hvv) (b15 hd) w
  have g5 := fun w => rsignZ hN32 w
  have hs : decide (N.sign < 0) = decide (n < 0) := by rw [decide_eq_decide]; exact hsg
  rw [← hs] at hr
  obtain ⟨s, hss⟩ : ∃ s, N.sign = s := ⟨_, rfl⟩
  rw [hss] at g5 hr
  obtain ⟨g, hg⟩ : ∃ g, decide (s < 0) = g := ⟨_, rfl⟩
  rw [hg] at hr
  have HS := Lib.hid hg
  rw [show 2 * v = v + v by omega] at hr
  obtain ⟨c, hc⟩ : ∃ c, cmpZ (v + v) d = c := ⟨_, rfl⟩
  rw [hc] at g4 hr
  obtain ⟨o, ho⟩ : ∃ o, decide (u % 2 = 1) = o := ⟨_, rfl⟩
  obtain ⟨ub, hub⟩ : ∃ ub, upB m u c g = ub := ⟨_, rfl⟩
  have g6 := fun w => rabove_any (m := m) (h := c) (g := g) (o := o) (r := ub) (by omega) (by omega) (by rw [← ho, above_up]; exact hub) w
  rw [hub] at hr
  have g8 := fun w => rsignZ (b15 hvv) w
  have hv0 : v.sign = 0 ↔ v = 0 := Int.sign_eq_zero_iff_zero
  obtain ⟨t, ht⟩ : ∃ t, v.sign = t := ⟨_, rfl⟩
  rw [ht] at g8 hv0
  have hu1 : u.natAbs < bp 32 ∧ (u + 1).natAbs < bp 32 := by
    have k1 : bp 18 = bp 17 * 4294967296 := bp_succ 17
    have k2 := bp_le (show 18 ≤ 32 by decide)
    omega
  have g9 := fun w => rfromZ (n := 1) (by decide) (by decide) w
  have g10 := fun w => radd_any (x := u) (y := 1) hu1.1 (by decide) hu1.2 w
  have hl1 := lim_lt u.natAbs 0
  have hod := odd_lim u
  have cu : (IC u)[1]? = some (.int .u32 (lim u.natAbs 0)) := intC_limb (n := decide (u < 0)) (m := u.natAbs) (i := 0) (by decide)
  obtain ⟨li, hl⟩ : ∃ li, lim u.natAbs 0 = li := ⟨_, rfl⟩
  rw [hl] at hl1 hod cu
  obtain ⟨l2, hl2⟩ : ∃ l2, li % 2 = l2 := ⟨_, rfl⟩
  rw [hl2] at hod
  have ml1 : (li : Int).tmod 2 = (l2 : Int) := by rw [← hl2]; exact Int.ofNat_tmod li 2
  have ml2 : (li : Int) % 2 = (l2 : Int) := by omega
  have ml3 : ((l2 : Int) == 1) = o := by
    rw [← ho, Bool.eq_iff_iff, beq_iff_eq, decide_eq_true_eq, ← hod]
    omega
  have ml4 : (l2 == 1) = o := by
    rw [← ho, Bool.eq_iff_iff, beq_iff_eq, decide_eq_true_eq, ← hod]
  have HR2 := Lib.hid hr
  have HV0 := Lib.hid hv0
  obtain ⟨w2, hw2⟩ : ∃ z, v + v = z := ⟨_, rfl⟩
  rw [hw2] at g3 g4
  clear HR hp hq hNN hN hN32 hu huu hvv hr hv2 hn hd hd0 h1 h2 h3 hv hss hc ht hu1 hv0 hw2 hf hf2 hm hsg hs hg ho hub hl hl1 hl2 hod
  go_wp2_with (first | go_skip | ((go_at_call 51); (with_reducible refine fr_call F (g1 _) ?_); (clear F; intro W F); (try dsimp only)) | ((go_at_call 64); (with_reducible refine fr_call F (gp _) ?_); (clear F; intro W F); (try dsimp only)) | ((go_at_call 75); (with_reducible refine fr_call F (g2 _) ?_); (clear F; intro W F); (try dsimp only)) | ((with_reducible apply fL F); exact rfl; exact rfl; (exact tL); (exact tR3)) | ((with_reducible apply fLm F); exact rfl; exact rfl; (exact tL); (exact tM3); (exact tR3)) | ((with_reducible apply fA_int F); exact rfl) | ((with_reducible apply fX_rat F); exact rfl; exact rfl) | ((with_reducible apply fS F); exact rfl; exact rfl; exact rfl; (exact tL); (exact tR3); (exact tS2); clear F; intro W F; simp only [z7, z8] at F) | ((with_reducible apply fB_int0); exact rfl))
  (clear F; intro b8 W F; try simp only [Act.put, z6, z1, z2])
  go_wp2_with (first | go_skip | ((with_reducible apply fL F); exact rfl; exact rfl; (exact tL); (exact tR3)) | ((with_reducible apply fLm F); exact rfl; exact rfl; (exact tL); (exact tM3); (exact tR3)) | ((with_reducible apply fA_int F); exact rfl) | ((with_reducible apply fX_rat F); exact rfl; exact rfl) | ((with_reducible apply fS F); exact rfl; exact rfl; exact rfl; (exact tL); (exact tR3); (exact tS2); clear F; intro W F; simp only [z7, z8] at F) | ((with_reducible apply fB_int0); exact rfl))
  (clear F; intro b9 W F; try simp only [Act.put, z6, z1, z2])
  go_wp2_with (first | go_skip | ((go_at_call 76); (with_reducible refine fr_call F (gq _) ?_); (clear F; intro W F); (try dsimp only)) | ((with_reducible apply fL F); exact rfl; exact rfl; (exact tL); (exact tR3)) | ((with_reducible apply fLm F); exact rfl; exact rfl; (exact tL); (exact tM3); (exact tR3)) | ((with_reducible apply fA_int F); exact rfl) | ((with_reducible apply fX_rat F); exact rfl; exact rfl) | ((with_reducible apply fS F); exact rfl; exact rfl; exact rfl; (exact tL); (exact tR3); (exact tS2); clear F; intro W F; simp only [z7, z8] at F) | ((with_reducible apply fB_int0); exact rfl))
  (clear F; intro b10 W F; try simp only [Act.put, z6, z1, z2])
  go_wp2_with (first | go_skip | ((with_reducible apply fL F); exact rfl; exact rfl; (exact tL); (exact tR3)) | ((with_reducible apply fLm F); exact rfl; exact rfl; (exact tL); (exact tM3); (exact tR3)) | ((with_reducible apply fA_int F); exact rfl) | ((with_reducible apply fX_rat F); exact rfl; exact rfl) | ((with_reducible apply fS F); exact rfl; exact rfl; exact rfl; (exact tL); (exact tR3); (exact tS2); clear F; intro W F; simp only [z7, z8] at F) | ((with_reducible apply fB_int0); exact rfl))
  (clear F; intro b11 W F; try simp only [Act.put, z6, z1, z2])
  clear g1 gp g2 gq
  have hr := HR2.out
  by_cases hv0 : v = 0
  · rw [if_pos hv0] at hr
    have ht0 := HV0.out.2 hv0
    subst hr
    subst ht0
    clear HV0 hv0 HR2
    go_wp2_with (first | go_skip | ((go_at_call 77); (with_reducible refine fr_call F (g8 _) ?_); (clear F; intro W F); (try dsimp only)) | ((with_reducible apply fL F); exact rfl; exact rfl; (exact tL); (exact tR3)) | ((with_reducible apply fLm F); exact rfl; exact rfl; (exact tL); (exact tM3); (exact tR3)) | ((with_reducible apply fA_int F); exact rfl) | ((with_reducible apply fX_rat F); exact rfl; exact rfl) | ((with_reducible apply fS F); exact rfl; exact rfl; exact rfl; (exact tL); (exact tR3); (exact tS2); clear F; intro W F; simp only [z7, z8] at F) | ((with_reducible apply fB_int0); exact rfl))
    exact bodyPost_ret (res_cs rfl rfl rfl (Fr.get F tL) (rowIC _)) rfl ⟨rfl, F.below⟩
  rw [if_neg hv0] at hr
  have ht0 : (t == 0) = false := by rw [beq_eq_false_iff_ne]; exact fun h => hv0 (HV0.out.1 h)
  have HRR := Lib.hid hr
  clear HV0 hv0 HR2 hr
  go_wp2_with (first | go_skip | ((go_at_call 77); (with_reducible refine fr_call F (g8 _) ?_); (clear F; intro W F); (try dsimp only)) | ((go_at_call 78); (with_reducible refine fr_call F (g3 _) ?_); (clear F; intro W F); (try dsimp only)) | ((with_reducible apply fL F); exact rfl; exact rfl; (exact tL); (exact tR3)) | ((with_reducible apply fLm F); exact rfl; exact rfl; (exact tL); (exact tM3); (exact tR3)) | ((with_reducible apply fA_int F); exact rfl) | ((with_reducible apply fX_rat F); exact rfl; exact rfl) | ((with_reducible apply fS F); exact rfl; exact rfl; exact rfl; (exact tL); (exact tR3); (exact tS2); clear F; intro W F; simp only [z7, z8] at F) | ((with_reducible apply fB_int0); exact rfl))
  (clear F; intro b13 W F; try simp only [Act.put, z6, z1, z2])
  go_wp2_with (first | go_skip | ((with_reducible apply fL F); exact rfl; exact rfl; (exact tL); (exact tR3)) | ((with_reducible apply fLm F); exact rfl; exact rfl; (exact tL); (exact tM3); (exact tR3)) | ((with_reducible apply fA_int F); exact rfl) | ((with_reducible apply fX_rat F); exact rfl; exact rfl) | ((with_reducible apply fS F); exact rfl; exact rfl; exact rfl; (exact tL); (exact tR3); (exact tS2); clear F; intro W F; simp only [z7, z8] at F) | ((with_reducible apply fB_int0); exact rfl))
  clear g8 g3
  try simp only [Act.put, z6, z1, z2]
  refine wp_region_slots mixP [56, 57, 58, 59, 60, 61, 62, 63, 64, 65, 66, 67, 68] (fun l mm W => ∃ (s56 s57 s58 s59 s60 s61 s62 s63 s64 s65 s66 s67 s68 : Value), mm = [s56, s57, s58, s59, s60, s61, s62, s63, s64, s65, s66, s67, s68] ∧ (l.getD 0 false = true → s56 = .int .i64 m) ∧ (l.getD 1 false = true → s57 = .agg (IC N)) ∧ (l.getD 2 false = true → s58 = .int .i64 s) ∧ (l.getD 3 false = true → s59 = .bool g) ∧ (l.getD 4 false = true → s60 = .agg (IC w2)) ∧ (l.getD 5 false = true → s61 = .agg (IC d)) ∧ (l.getD 6 false = true → s62 = .int .i64 c) ∧ (l.getD 7 false = true → s63 = .pointer (some ⟨b10, 1, none⟩)) ∧ (l.getD 8 false = true → s64 = .pointer (some ⟨b10, 1, none⟩)) ∧ (l.getD 9 false = true → s65 = .int .u32 (li : Int)) ∧ (l.getD 10 false = true → s66 = .int .u32 (l2 : Int)) ∧ (l.getD 11 false = true → s67 = .bool o) ∧ (l.getD 12 false = true → s68 = .bool ub) ∧ Fr w W [(b13, IC w2, 29), (b11, IC v, 29), (b10, IC u, 29), (b9, IC d, 29), (b8, IC N, 29), (b6, intC false 0, 29), (b3, RC n d, 31)]) (by kernel_rfl) (putAll_self _ _) ?_ ?_ ?_
  · exact ⟨_, _, _, _, _, _, _, _, _, _, _, _, _, rfl, nf, nf, nf, nf, nf, nf, nf, nf, nf, nf, nf, nf, nf, F.drew⟩
  · rintro listed mm W ii hi hsz hoff ⟨s56, s57, s58, s59, s60, s61, s62, s63, s64, s65, s66, s67, s68, rfl, h0, h1, h2, h3, h4, h5, h6, h7, h8, h9, h10, h11, h12, HF⟩ hd
    have hc := dr_c13 hi
    have hsz2 : listed.size = 13 := hsz
    clear hi hsz
    rcases hc with rfl | rfl | rfl | rfl | rfl | rfl | rfl | rfl | rfl | rfl | rfl | rfl | rfl
    · refine wpOp_want rfl rfl (fun K hK => ?_)
      simp only [putAll, z1, z2, z3, z4, z5]
      refine ⟨?_⟩
      go_simp
      exact hK _ _ ⟨[(.int .i64 m), s57, s58, s59, s60, s61, s62, s63, s64, s65, s66, s67, s68], by simp only [putAll, z1, z2], (.int .i64 m), s57, s58, s59, s60, s61, s62, s63, s64, s65, s66, s67, s68, rfl, fun _ => rfl, lk h1, lk h2, lk h3, lk h4, lk h5, lk h6, lk h7, lk h8, lk h9, lk h10, lk h11, lk h12, HF⟩
    · refine wpOp_want rfl rfl (fun K hK => ?_)
      simp only [putAll, z1, z2, z3, z4, z5]
      with_reducible apply gL HF
      · exact rfl
      · (exact tL)
      · (first | (exact tR3))
      go_simp
      exact hK _ _ ⟨[s56, (.agg (IC N)), s58, s59, s60, s61, s62, s63, s64, s65, s66, s67, s68], by simp only [putAll, z1, z2], s56, (.agg (IC N)), s58, s59, s60, s61, s62, s63, s64, s65, s66, s67, s68, rfl, lk h0, fun _ => rfl, lk h2, lk h3, lk h4, lk h5, lk h6, lk h7, lk h8, lk h9, lk h10, lk h11, lk h12, HF⟩
    · have d1 := h1 (hd 1 (by kernel_rfl))
      obtain rfl := d1
      refine wpOp_want rfl rfl (fun K hK => ?_)
      simp only [putAll, z1, z2, z3, z4, z5]
      refine ⟨?_⟩
      go_simp
      with_reducible refine fr_call HF (g5 _) ?_
      clear HF
      intro W HF
      (try dsimp only)
      exact hK _ _ ⟨[s56, (.agg (IC N)), (.int .i64 s), s59, s60, s61, s62, s63, s64, s65, s66, s67, s68], by simp only [putAll, z1, z2], s56, (.agg (IC N)), (.int .i64 s), s59, s60, s61, s62, s63, s64, s65, s66, s67, s68, rfl, lk h0, lk h1, fun _ => rfl, lk h3, lk h4, lk h5, lk h6, lk h7, lk h8, lk h9, lk h10, lk h11, lk h12, HF⟩
    · have d2 := h2 (hd 2 (by kernel_rfl))
      obtain rfl := d2
      refine wpOp_want rfl rfl (fun K hK => ?_)
      simp only [putAll, z1, z2, z3, z4, z5]
      refine ⟨?_⟩
      go_simp
      rw [HS.out]
      exact hK _ _ ⟨[s56, s57, (.int .i64 s), (.bool g), s60, s61, s62, s63, s64, s65, s66, s67, s68], by simp only [putAll, z1, z2], s56, s57, (.int .i64 s), (.bool g), s60, s61, s62, s63, s64, s65, s66, s67, s68, rfl, lk h0, lk h1, lk h2, fun _ => rfl, lk h4, lk h5, lk h6, lk h7, lk h8, lk h9, lk h10, lk h11, lk h12, HF⟩
    · refine wpOp_want rfl rfl (fun K hK => ?_)
      simp only [putAll, z1, z2, z3, z4, z5]
      with_reducible apply gL HF
      · exact rfl
      · (exact tL)
      · (first | (exact tR3))
      go_simp
      exact hK _ _ ⟨[s56, s57, s58, s59, (.agg (IC w2)), s61, s62, s63, s64, s65, s66, s67, s68], by simp only [putAll, z1, z2], s56, s57, s58, s59, (.agg (IC w2)), s61, s62, s63, s64, s65, s66, s67, s68, rfl, lk h0, lk h1, lk h2, lk h3, fun _ => rfl, lk h5, lk h6, lk h7, lk h8, lk h9, lk h10, lk h11, lk h12, HF⟩
    · refine wpOp_want rfl rfl (fun K hK => ?_)
      simp only [putAll, z1, z2, z3, z4, z5]
      with_reducible apply gL HF
      · exact rfl
      · (exact tL)
      · (first | (exact tR3))
      go_simp
      exact hK _ _ ⟨[s56, s57, s58, s59, s60, (.agg (IC d)), s62, s63, s64, s65, s66, s67, s68], by simp only [putAll, z1, z2], s56, s57, s58, s59, s60, (.agg (IC d)), s62, s63, s64, s65, s66, s67, s68, rfl, lk h0, lk h1, lk h2, lk h3, lk h4, fun _ => rfl, lk h6, lk h7, lk h8, lk h9, lk h10, lk h11, lk h12, HF⟩
    · have d4 := h4 (hd 4 (by kernel_rfl))
      have d5 := h5 (hd 5 (by kernel_rfl))
      obtain rfl := d4
      obtain rfl := d5
      refine wpOp_want rfl rfl (fun K hK => ?_)
      simp only [putAll, z1, z2, z3, z4, z5]
      refine ⟨?_⟩
      go_simp
      with_reducible refine fr_call HF (g4 _) ?_
      clear HF
      intro W HF
      (try dsimp only)
      exact hK _ _ ⟨[s56, s57, s58, s59, (.agg (IC w2)), (.agg (IC d)), (.int .i64 c), s63, s64, s65, s66, s67, s68], by simp only [putAll, z1, z2], s56, s57, s58, s59, (.agg (IC w2)), (.agg (IC d)), (.int .i64 c), s63, s64, s65, s66, s67, s68, rfl, lk h0, lk h1, lk h2, lk h3, lk h4, lk h5, fun _ => rfl, lk h7, lk h8, lk h9, lk h10, lk h11, lk h12, HF⟩
    · refine wpOp_want rfl rfl (fun K hK => ?_)
      simp only [putAll, z1, z2, z3, z4, z5]
      refine ⟨?_⟩
      go_simp
      exact hK _ _ ⟨[s56, s57, s58, s59, s60, s61, s62, (.pointer (some ⟨b10, 1, none⟩)), s64, s65, s66, s67, s68], by simp only [putAll, z1, z2], s56, s57, s58, s59, s60, s61, s62, (.pointer (some ⟨b10, 1, none⟩)), s64, s65, s66, s67, s68, rfl, lk h0, lk h1, lk h2, lk h3, lk h4, lk h5, lk h6, fun _ => rfl, lk h8, lk h9, lk h10, lk h11, lk h12, HF⟩
    · have d7 := h7 (hd 7 (by kernel_rfl))
      obtain rfl := d7
      refine wpOp_want rfl rfl (fun K hK => ?_)
      simp only [putAll, z1, z2, z3, z4, z5]
      refine ⟨?_⟩
      go_simp
      exact hK _ _ ⟨[s56, s57, s58, s59, s60, s61, s62, (.pointer (some ⟨b10, 1, none⟩)), (.pointer (some ⟨b10, 1, none⟩)), s65, s66, s67, s68], by simp only [putAll, z1, z2], s56, s57, s58, s59, s60, s61, s62, (.pointer (some ⟨b10, 1, none⟩)), (.pointer (some ⟨b10, 1, none⟩)), s65, s66, s67, s68, rfl, lk h0, lk h1, lk h2, lk h3, lk h4, lk h5, lk h6, lk h7, fun _ => rfl, lk h9, lk h10, lk h11, lk h12, HF⟩
    · have d8 := h8 (hd 8 (by kernel_rfl))
      obtain rfl := d8
      refine wpOp_want rfl rfl (fun K hK => ?_)
      simp only [putAll, z1, z2, z3, z4, z5]
      have cF := BlkAt.cell (Fr.get HF (b := b10) (cs := IC u) (by (exact tL))) (cu)
      refine ⟨?_⟩
      go_simp
      exact hK _ _ ⟨[s56, s57, s58, s59, s60, s61, s62, s63, (.pointer (some ⟨b10, 1, none⟩)), (.int .u32 (li : Int)), s66, s67, s68], by simp only [putAll, z1, z2], s56, s57, s58, s59, s60, s61, s62, s63, (.pointer (some ⟨b10, 1, none⟩)), (.int .u32 (li : Int)), s66, s67, s68, rfl, lk h0, lk h1, lk h2, lk h3, lk h4, lk h5, lk h6, lk h7, lk h8, fun _ => rfl, lk h10, lk h11, lk h12, HF⟩
    · have d9 := h9 (hd 9 (by kernel_rfl))
      obtain rfl := d9
      refine wpOp_want rfl rfl (fun K hK => ?_)
      simp only [putAll, z1, z2, z3, z4, z5]
      refine ⟨?_⟩
      go_simp
      exact hK _ _ ⟨[s56, s57, s58, s59, s60, s61, s62, s63, s64, (.int .u32 (li : Int)), (.int .u32 (l2 : Int)), s67, s68], by simp only [putAll, z1, z2], s56, s57, s58, s59, s60, s61, s62, s63, s64, (.int .u32 (li : Int)), (.int .u32 (l2 : Int)), s67, s68, rfl, lk h0, lk h1, lk h2, lk h3, lk h4, lk h5, lk h6, lk h7, lk h8, lk h9, fun _ => rfl, lk h11, lk h12, HF⟩
    · have d10 := h10 (hd 10 (by kernel_rfl))
      obtain rfl := d10
      refine wpOp_want rfl rfl (fun K hK => ?_)
      simp only [putAll, z1, z2, z3, z4, z5]
      refine ⟨?_⟩
      go_simp
      exact hK _ _ ⟨[s56, s57, s58, s59, s60, s61, s62, s63, s64, s65, (.int .u32 (l2 : Int)), (.bool o), s68], by simp only [putAll, z1, z2], s56, s57, s58, s59, s60, s61, s62, s63, s64, s65, (.int .u32 (l2 : Int)), (.bool o), s68, rfl, lk h0, lk h1, lk h2, lk h3, lk h4, lk h5, lk h6, lk h7, lk h8, lk h9, lk h10, fun _ => rfl, lk h12, HF⟩
    · have d0 := h0 (hd 0 (by kernel_rfl))
      have d3 := h3 (hd 3 (by kernel_rfl))
      have d6 := h6 (hd 6 (by kernel_rfl))
      have d11 := h11 (hd 11 (by kernel_rfl))
      obtain rfl := d0
      obtain rfl := d3
      obtain rfl := d6
      obtain rfl := d11
      refine wpOp_want rfl rfl (fun K hK => ?_)
      simp only [putAll, z1, z2, z3, z4, z5]
      refine ⟨?_⟩
      go_simp
      with_reducible refine fr_call HF (g6 _) ?_
      clear HF
      intro W HF
      (try dsimp only)
      exact hK _ _ ⟨[(.int .i64 m), s57, s58, (.bool g), s60, s61, (.int .i64 c), s63, s64, s65, s66, (.bool o), (.bool ub)], by simp only [putAll, z1, z2], (.int .i64 m), s57, s58, (.bool g), s60, s61, (.int .i64 c), s63, s64, s65, s66, (.bool o), (.bool ub), rfl, lk h0, lk h1, lk h2, lk h3, lk h4, lk h5, lk h6, lk h7, lk h8, lk h9, lk h10, lk h11, fun _ => rfl, HF⟩
  rintro listed mm W ⟨s56, s57, s58, s59, s60, s61, s62, s63, s64, s65, s66, s67, s68, rfl, h0, h1, h2, h3, h4, h5, h6, h7, h8, h9, h10, h11, h12, HF⟩ hall
  obtain rfl := h0 (hall 0 (by decide))
  obtain rfl := h1 (hall 1 (by decide))
  obtain rfl := h2 (hall 2 (by decide))
  obtain rfl := h3 (hall 3 (by decide))
  obtain rfl := h4 (hall 4 (by decide))
  obtain rfl := h5 (hall 5 (by decide))
  obtain rfl := h6 (hall 6 (by decide))
  obtain rfl := h7 (hall 7 (by decide))
  obtain rfl := h8 (hall 8 (by decide))
  obtain rfl := h9 (hall 9 (by decide))
  obtain rfl := h10 (hall 10 (by decide))
  obtain rfl := h11 (hall 11 (by decide))
  obtain rfl := h12 (hall 12 (by decide))
  clear hall h0 h1 h2 h3 h4 h5 h6 h7 h8 h9 h10 h11 h12 F
  have F := HF
  clear HF
  simp only [putAll, z1, z2]
  clear g5 g4 g6 ml1 ml2 ml3 ml4 cu
  have hr := HRR.out
  cases ub
  · rw [if_neg (by decide)] at hr
    subst hr
    clear HRR
    go_wp2_with (first | go_skip | ((with_reducible apply fL F); exact rfl; exact rfl; (exact tL); (exact tR3)) | ((with_reducible apply fLm F); exact rfl; exact rfl; (exact tL); (exact tM3); (exact tR3)) | ((with_reducible apply fA_int F); exact rfl) | ((with_reducible apply fX_rat F); exact rfl; exact rfl) | ((with_reducible apply fS F); exact rfl; exact rfl; exact rfl; (exact tL); (exact tR3); (exact tS2); clear F; intro W F; simp only [z7, z8] at F) | ((with_reducible apply fB_int0); exact rfl))
    exact bodyPost_ret (res_cs rfl rfl rfl (Fr.get F tL) (rowIC _)) rfl ⟨rfl, F.below⟩
  · rw [if_pos rfl] at hr
    subst hr
    clear HRR
    go_wp2_with (first | go_skip | ((with_reducible apply fL F); exact rfl; exact rfl; (exact tL); (exact tR3)) | ((with_reducible apply fLm F); exact rfl; exact rfl; (exact tL); (exact tM3); (exact tR3)) | ((with_reducible apply fA_int F); exact rfl) | ((with_reducible apply fX_rat F); exact rfl; exact rfl) | ((with_reducible apply fS F); exact rfl; exact rfl; exact rfl; (exact tL); (exact tR3); (exact tS2); clear F; intro W F; simp only [z7, z8] at F) | ((with_reducible apply fB_int0); exact rfl))
    try simp only [Act.put, z6, z1, z2]
    refine wp_region_slots mixP [69, 70, 71, 72, 73, 74] (fun l mm W => ∃ (s69 s70 s71 s72 s73 s74 : Value) (c_b10 : Array Value), mm = [s69, s70, s71, s72, s73, s74] ∧ (l.getD 0 false = true → s70 = .agg (IC u)) ∧ (l.getD 1 false = true → s71 = .agg (IC 1)) ∧ (l.getD 2 false = true → s72 = .tuple #[.agg (IC (u + 1)), .int .i64 0]) ∧ (l.getD 3 false = true → s69 = .tuple #[.agg (IC (u + 1)), .int .i64 0]) ∧ (l.getD 4 false = true → s73 = .agg (IC (u + 1))) ∧ (l.getD 5 false = true → s74 = .int .i64 0) ∧ (l.getD 6 false = true → c_b10 = IC (u + 1)) ∧ (l.getD 6 false = false → c_b10 = IC u) ∧ (l.getD 6 false = true → l.getD 0 false = true) ∧ c_b10.size = (IC (u + 1)).size ∧ Fr w W [(b13, IC w2, 29), (b11, IC v, 29), (b10, c_b10, 29), (b9, IC d, 29), (b8, IC N, 29), (b6, intC false 0, 29), (b3, RC n d, 31)]) (by kernel_rfl) (putAll_self _ _) ?_ ?_ ?_
    · exact ⟨_, _, _, _, _, _, (IC u), rfl, nf, nf, nf, nf, nf, nf, nf, fun _ => rfl, nf, by exact tS2, F.drew⟩
    · rintro listed mm W ii hi hsz hoff ⟨s69, s70, s71, s72, s73, s74, c_b10, rfl, h0, h1, h2, h3, h4, h5, h6, hO_b10, hW_b10_0, hz0, HF⟩ hd
      have hc := dr_c7 hi
      have hsz2 : listed.size = 7 := hsz
      clear hi hsz
      rcases hc with rfl | rfl | rfl | rfl | rfl | rfl | rfl
      · refine wpOp_want rfl rfl (fun K hK => ?_)
        simp only [putAll, z1, z2, z3, z4, z5]
        have hold := hO_b10 (by cases hx : listed.getD 6 false with | false => rfl | true => exact absurd (hW_b10_0 hx) (by rw [hoff]; decide))
        rw [hold] at HF
        with_reducible apply gL HF
        · exact rfl
        · (exact tL)
        · (first | (exact tR3))
        rw [← hold] at HF
        go_simp
        exact hK _ _ ⟨[s69, (.agg (IC u)), s71, s72, s73, s74], by simp only [putAll, z1, z2], s69, (.agg (IC u)), s71, s72, s73, s74, c_b10, rfl, fun _ => rfl, lk h1, lk h2, lk h3, lk h4, lk h5, lk h6, listed_keepF (by decide) hO_b10, fun _ => getD_on (by rw [hsz2]; decide), hz0, HF⟩
      · refine wpOp_want rfl rfl (fun K hK => ?_)
        simp only [putAll, z1, z2, z3, z4, z5]
        refine ⟨?_⟩
        go_simp
        with_reducible refine fr_call HF (g9 _) ?_
        clear HF
        intro W HF
        (try dsimp only)
        exact hK _ _ ⟨[s69, s70, (.agg (IC 1)), s72, s73, s74], by simp only [putAll, z1, z2], s69, s70, (.agg (IC 1)), s72, s73, s74, c_b10, rfl, lk h0, fun _ => rfl, lk h2, lk h3, lk h4, lk h5, lk h6, listed_keepF (by decide) hO_b10, fun h => by rw [getD_keep (show 1 ≠ 6 by decide)] at h; rw [getD_keep (show 1 ≠ 0 by decide)]; exact hW_b10_0 h, hz0, HF⟩
      · have d0 := h0 (hd 0 (by kernel_rfl))
        have d1 := h1 (hd 1 (by kernel_rfl))
        obtain rfl := d0
        obtain rfl := d1
        refine wpOp_want rfl rfl (fun K hK => ?_)
        simp only [putAll, z1, z2, z3, z4, z5]
        refine ⟨?_⟩
        go_simp
        with_reducible refine fr_call HF (g10 _) ?_
        clear HF
        intro W HF
        (try dsimp only)
        exact hK _ _ ⟨[s69, (.agg (IC u)), (.agg (IC 1)), (.tuple #[.agg (IC (u + 1)), .int .i64 0]), s73, s74], by simp only [putAll, z1, z2], s69, (.agg (IC u)), (.agg (IC 1)), (.tuple #[.agg (IC (u + 1)), .int .i64 0]), s73, s74, c_b10, rfl, lk h0, lk h1, fun _ => rfl, lk h3, lk h4, lk h5, lk h6, listed_keepF (by decide) hO_b10, fun h => by rw [getD_keep (show 2 ≠ 6 by decide)] at h; rw [getD_keep (show 2 ≠ 0 by decide)]; exact hW_b10_0 h, hz0, HF⟩
      · have d2 := h2 (hd 2 (by kernel_rfl))
        obtain rfl := d2
        refine wpOp_want rfl rfl (fun K hK => ?_)
        simp only [putAll, z1, z2, z3, z4, z5]
        refine ⟨?_⟩
        go_simp
        exact hK _ _ ⟨[(.tuple #[.agg (IC (u + 1)), .int .i64 0]), s70, s71, (.tuple #[.agg (IC (u + 1)), .int .i64 0]), s73, s74], by simp only [putAll, z1, z2], (.tuple #[.agg (IC (u + 1)), .int .i64 0]), s70, s71, (.tuple #[.agg (IC (u + 1)), .int .i64 0]), s73, s74, c_b10, rfl, lk h0, lk h1, lk h2, fun _ => rfl, lk h4, lk h5, lk h6, listed_keepF (by decide) hO_b10, fun h => by rw [getD_keep (show 3 ≠ 6 by decide)] at h; rw [getD_keep (show 3 ≠ 0 by decide)]; exact hW_b10_0 h, hz0, HF⟩
      · have d3 := h3 (hd 3 (by kernel_rfl))
        obtain rfl := d3
        refine wpOp_want rfl rfl (fun K hK => ?_)
        simp only [putAll, z1, z2, z3, z4, z5]
        refine ⟨?_⟩
        go_simp
        exact hK _ _ ⟨[(.tuple #[.agg (IC (u + 1)), .int .i64 0]), s70, s71, s72, (.agg (IC (u + 1))), s74], by simp only [putAll, z1, z2], (.tuple #[.agg (IC (u + 1)), .int .i64 0]), s70, s71, s72, (.agg (IC (u + 1))), s74, c_b10, rfl, lk h0, lk h1, lk h2, lk h3, fun _ => rfl, lk h5, lk h6, listed_keepF (by decide) hO_b10, fun h => by rw [getD_keep (show 4 ≠ 6 by decide)] at h; rw [getD_keep (show 4 ≠ 0 by decide)]; exact hW_b10_0 h, hz0, HF⟩
      · have d3 := h3 (hd 3 (by kernel_rfl))
        obtain rfl := d3
        refine wpOp_want rfl rfl (fun K hK => ?_)
        simp only [putAll, z1, z2, z3, z4, z5]
        refine ⟨?_⟩
        go_simp
        exact hK _ _ ⟨[(.tuple #[.agg (IC (u + 1)), .int .i64 0]), s70, s71, s72, s73, (.int .i64 0)], by simp only [putAll, z1, z2], (.tuple #[.agg (IC (u + 1)), .int .i64 0]), s70, s71, s72, s73, (.int .i64 0), c_b10, rfl, lk h0, lk h1, lk h2, lk h3, lk h4, fun _ => rfl, lk h6, listed_keepF (by decide) hO_b10, fun h => by rw [getD_keep (show 5 ≠ 6 by decide)] at h; rw [getD_keep (show 5 ≠ 0 by decide)]; exact hW_b10_0 h, hz0, HF⟩
      · have d4 := h4 (hd 4 (by kernel_rfl))
        obtain rfl := d4
        refine wpOp_want rfl rfl (fun K hK => ?_)
        simp only [putAll, z1, z2, z3, z4, z5]
        with_reducible apply gS HF
        · exact rfl
        · exact rfl
        · (exact tL)
        · (first | (exact tR3))
        · first | exact hz0 | exact tS2
        clear HF
        intro W HF
        simp only [z7, z8, List.append_assoc, List.append_nil] at HF
        go_simp
        exact hK _ _ ⟨[s69, s70, s71, s72, (.agg (IC (u + 1))), s74], by simp only [putAll, z1, z2], s69, s70, s71, s72, (.agg (IC (u + 1))), s74, (IC (u + 1)), rfl, lk h0, lk h1, lk h2, lk h3, lk h4, lk h5, fun _ => rfl, fun h => absurd h (by rw [getD_on (show 6 < listed.size by rw [hsz2]; decide)]; decide), fun _ => by rw [getD_keep (show 6 ≠ 0 by decide)]; exact hd 0 (by kernel_rfl), rfl, HF⟩
    rintro listed mm W ⟨s69, s70, s71, s72, s73, s74, c_b10, rfl, h0, h1, h2, h3, h4, h5, h6, hO_b10, hW_b10_0, hz0, HF⟩ hall
    obtain rfl := h0 (hall 0 (by decide))
    obtain rfl := h1 (hall 1 (by decide))
    obtain rfl := h2 (hall 2 (by decide))
    obtain rfl := h3 (hall 3 (by decide))
    obtain rfl := h4 (hall 4 (by decide))
    obtain rfl := h5 (hall 5 (by decide))
    rw [h6 (hall 6 (by decide))] at HF
    clear hall h0 h1 h2 h3 h4 h5 h6 hO_b10 hW_b10_0 hz0 F
    have F := HF
    clear HF
    simp only [putAll, z1, z2]
    go_wp2_with (first | go_skip | ((with_reducible apply fL F); exact rfl; exact rfl; (exact tL); (exact tR3)) | ((with_reducible apply fLm F); exact rfl; exact rfl; (exact tL); (exact tM3); (exact tR3)) | ((with_reducible apply fA_int F); exact rfl) | ((with_reducible apply fX_rat F); exact rfl; exact rfl) | ((with_reducible apply fS F); exact rfl; exact rfl; exact rfl; (exact tL); (exact tR3); (exact tS2); clear F; intro W F; simp only [z7, z8] at F) | ((with_reducible apply fB_int0); exact rfl))
    exact bodyPost_ret (res_cs rfl rfl rfl (Fr.get F tL) (rowIC _)) rfl ⟨rfl, F.below⟩
end
section
open Go.RowKit
set_option maxHeartbeats 4000000
set_option maxRecDepth 100000 in
theorem rexact_any {x : Bool} {a : Nat} {y : Bool} {b : Nat} (ha : a < bp 32) (hb : b < bp 32) {p : Int} {r : Bool × Int} (hr : exR (okR x a y b) (sZ x a) (sZ y b) p = r) (w : World) : Calls Tryz.prog 31 #[.agg (ratC x a y b), .int .i64 p] w (RetB (.tuple #[.bool r.1, .int .i64 r.2]) w) := by
  have F := Fr.start w
  obtain ⟨f, hf⟩ : ∃ f, decide (okR x a y b) = f := ⟨_, rfl⟩
  have g1 := fun w => rvalid_any ha hb hf w
  obtain ⟨f2, hf2⟩ : ∃ f, decide (0 ≤ p ∧ p ≤ 9) = f := ⟨_, rfl⟩
  have gp := fun w => rplaces_any hf2 w
  unfold exR chkE at hr
  have HR := Lib.hid hr
  clear hr ha hb
  go_enter Tryz.func31, Tryz.ntmps31
  go_wp2_with (first | go_skip | ((with_reducible apply fL F); exact rfl; exact rfl; (exact tL); (exact tR3)) | ((with_reducible apply fA_int F); exact rfl) | ((with_reducible apply fX_rat F); exact rfl; exact rfl) | ((with_reducible apply fS F); exact rfl; exact rfl; exact rfl; (exact tL); (exact tR3); (exact tS2); clear F; intro W F; simp only [z7, z8] at F))
  (clear F; intro b2 W F; try simp only [Act.put, z6, z1, z2])
  by_cases hv : ¬ okR x a y b
  · have he : f = false := by rw [← hf]; exact decide_eq_false hv
    have hr : (false, 20) = r := by have := HR.out; rwa [if_pos hv, if_pos (by decide)] at this
    subst he
    subst hr
    clear HR hv hf hf2
    go_wp2_with (first | go_skip | ((go_at_call 51); (with_reducible refine fr_call F (g1 _) ?_); (clear F; intro W F); (try dsimp only)) | ((with_reducible apply fL F); exact rfl; exact rfl; (exact tL); (exact tR3)) | ((with_reducible apply fA_int F); exact rfl) | ((with_reducible apply fX_rat F); exact rfl; exact rfl) | ((with_reducible apply fS F); exact rfl; exact rfl; exact rfl; (exact tL); (exact tR3); (exact tS2); clear F; intro W F; simp only [z7, z8] at F))
    go_ret2
    exact ⟨rfl, F.below⟩
  have hr := HR.out
  rw [if_neg hv] at hr
  rw [Classical.not_not] at hv
  obtain rfl : true = f := by rw [← hf]; exact (decide_eq_true hv).symm
  by_cases hp : p < 0 ∨ 9 < p
  · have he : f2 = false := by rw [← hf2]; exact decide_eq_false (by omega)
    rw [if_pos hp, if_pos (by decide)] at hr
    subst he
    subst hr
    clear HR hv hp hf hf2
    go_wp2_with (first | go_skip | ((go_at_call 51); (with_reducible refine fr_call F (g1 _) ?_); (clear F; intro W F); (try dsimp only)) | ((go_at_call 64); (with_reducible refine fr_call F (gp _) ?_); (clear F; intro W F); (try dsimp only)) | ((with_reducible apply fL F); exact rfl; exact rfl; (exact tL); (exact tR3)) | ((with_reducible apply fA_int F); exact rfl) | ((with_reducible apply fX_rat F); exact rfl; exact rfl) | ((with_reducible apply fS F); exact rfl; exact rfl; exact rfl; (exact tL); (exact tR3); (exact tS2); clear F; intro W F; simp only [z7, z8] at F))
    go_ret2
    exact ⟨rfl, F.below⟩
  obtain rfl : true = f2 := by rw [← hf2]; exact (decide_eq_true (by omega)).symm
  rw [if_neg hp, if_neg (by decide)] at hr
  clear HR hf hf2
  obtain ⟨n, d, ⟨h1, h2, h3⟩, hn, hd, hd0⟩ := okR_ints hv
  rw [h2, h3] at hr
  obtain ⟨q, rfl⟩ : ∃ q : Nat, p = (q : Int) := ⟨p.toNat, by omega⟩
  have hq : q ≤ 9 := by omega
  rw [Int.toNat_natCast] at hr
  have hN := b_ten hn hq
  obtain ⟨N, hNN⟩ : ∃ N, n * ((10 ^ q : Nat) : Int) = N := ⟨_, rfl⟩
  have g2 := fun w => rscaledZ hn hd hq hNN w
  simp only [hNN] at hr hN
  have gq := fun w => rdivmodZ (Nat.lt_of_lt_of_le hN (bp_le (by decide))) (b15 hd) (show d ≠ 0 by omega) w
  have hvv : (N % d).natAbs < bp 15 := by
    have k1 := Int.emod_nonneg N (show d ≠ 0 by omega)
    have k2 := Int.emod_lt_of_pos N hd0
    omega
  obtain ⟨u, huu⟩ : ∃ u, N / d = u := ⟨_, rfl⟩
  obtain ⟨v, hv2⟩ : ∃ v, N % d = v := ⟨_, rfl⟩
  rw [huu, hv2] at gq
  rw [hv2] at hr hvv
  rw [h1] at g1 F
  have g3 := fun w => rsignZ (b15 hvv) w
  have hv0 : decide (v = 0) = (v.sign == 0) := by
    rw [Bool.eq_iff_iff, decide_eq_true_eq, beq_iff_eq]
    exact Int.sign_eq_zero_iff_zero.symm
  rw [hv0] at hr
  obtain ⟨t, ht⟩ : ∃ t, v.sign = t := ⟨_, rfl⟩
  rw [ht] at g3 hr
  subst hr
  clear hv0 ht hvv hv2 huu hN hNN hn hd hd0 h1 h2 h3 hv hq hp
  go_wp2_with (first | go_skip | ((go_at_call 51); (with_reducible refine fr_call F (g1 _) ?_); (clear F; intro W F); (try dsimp only)) | ((go_at_call 64); (with_reducible refine fr_call F (gp _) ?_); (clear F; intro W F); (try dsimp only)) | ((go_at_call 75); (with_reducible refine fr_call F (g2 _) ?_); (clear F; intro W F); (try dsimp only)) | ((with_reducible apply fL F); exact rfl; exact rfl; (exact tL); (exact tR3)) | ((with_reducible apply fA_int F); exact rfl) | ((with_reducible apply fX_rat F); exact rfl; exact rfl) | ((with_reducible apply fS F); exact rfl; exact rfl; exact rfl; (exact tL); (exact tR3); (exact tS2); clear F; intro W F; simp only [z7, z8] at F))
  (clear F; intro b6 W F; try simp only [Act.put, z6, z1, z2])
  go_wp2_with (first | go_skip | ((with_reducible apply fL F); exact rfl; exact rfl; (exact tL); (exact tR3)) | ((with_reducible apply fA_int F); exact rfl) | ((with_reducible apply fX_rat F); exact rfl; exact rfl) | ((with_reducible apply fS F); exact rfl; exact rfl; exact rfl; (exact tL); (exact tR3); (exact tS2); clear F; intro W F; simp only [z7, z8] at F))
  (clear F; intro b7 W F; try simp only [Act.put, z6, z1, z2])
  go_wp2_with (first | go_skip | ((go_at_call 76); (with_reducible refine fr_call F (gq _) ?_); (clear F; intro W F); (try dsimp only)) | ((with_reducible apply fL F); exact rfl; exact rfl; (exact tL); (exact tR3)) | ((with_reducible apply fA_int F); exact rfl) | ((with_reducible apply fX_rat F); exact rfl; exact rfl) | ((with_reducible apply fS F); exact rfl; exact rfl; exact rfl; (exact tL); (exact tR3); (exact tS2); clear F; intro W F; simp only [z7, z8] at F))
  (clear F; intro b8 W F; try simp only [Act.put, z6, z1, z2])
  go_wp2_with (first | go_skip | ((with_reducible apply fL F); exact rfl; exact rfl; (exact tL); (exact tR3)) | ((with_reducible apply fA_int F); exact rfl) | ((with_reducible apply fX_rat F); exact rfl; exact rfl) | ((with_reducible apply fS F); exact rfl; exact rfl; exact rfl; (exact tL); (exact tR3); (exact tS2); clear F; intro W F; simp only [z7, z8] at F))
  (clear F; intro b9 W F; try simp only [Act.put, z6, z1, z2])
  go_wp2_with (first | go_skip | ((go_at_call 77); (with_reducible refine fr_call F (g3 _) ?_); (clear F; intro W F); (try dsimp only)) | ((with_reducible apply fL F); exact rfl; exact rfl; (exact tL); (exact tR3)) | ((with_reducible apply fA_int F); exact rfl) | ((with_reducible apply fX_rat F); exact rfl; exact rfl) | ((with_reducible apply fS F); exact rfl; exact rfl; exact rfl; (exact tL); (exact tR3); (exact tS2); clear F; intro W F; simp only [z7, z8] at F))
  go_ret2
  exact ⟨rfl, F.below⟩
end
end Go.Proofs.YtpaodheilchfnaaGreatDoor
