/- What the laws lean on. -/
import Derived.Test.YtpaodheilchfnaaGreatDoorPz5
namespace Go.Proofs.YtpaodheilchfnaaGreatDoor
set_option linter.unusedVariables false
set_option linter.unusedSimpArgs false
section
open Go.RowKit
set_option maxHeartbeats 2000000
theorem b15 {x : Int} (h : x.natAbs < bp 15) : x.natAbs < bp 32 := Nat.lt_of_lt_of_le h (bp_le (by decide))
theorem b30 {x y : Int} (h : x.natAbs < bp 15) (k : y.natAbs < bp 15) : (x * y).natAbs < bp 32 := by
  rw [Int.natAbs_mul]
  have h1 := Nat.mul_lt_mul_of_lt_of_lt h k
  rw [← bp_add] at h1
  exact Nat.lt_of_lt_of_le h1 (bp_le (by decide))
theorem b30' {x y : Int} (h : x.natAbs < bp 15) (k : y.natAbs < bp 15) : (x * y).natAbs < bp 30 := by
  rw [Int.natAbs_mul]
  have h1 := Nat.mul_lt_mul_of_lt_of_lt h k
  rwa [← bp_add] at h1
theorem b31 {x y : Int} (h : x.natAbs < bp 30) (k : y.natAbs < bp 30) : (x + y).natAbs < bp 32 := by
  have h1 : bp 31 = bp 30 * 4294967296 := bp_succ 30
  have h2 := bp_le (show 31 ≤ 32 by decide)
  omega
def sZ (x : Bool) (a : Nat) : Int := if x = true then -(a : Int) else a
theorem intC_sZ {x : Bool} {a : Nat} (h : x = true → a ≠ 0) : intC x a = IC (sZ x a) := by
  unfold IC sZ
  cases x
  · rw [if_neg (by decide), Int.natAbs_natCast, decide_eq_false (by omega)]
  · have := h rfl
    rw [if_pos rfl, Int.natAbs_neg, Int.natAbs_natCast, decide_eq_true (by omega)]
theorem okR_ints {x : Bool} {a : Nat} {y : Bool} {b : Nat} (h : okR x a y b) : ∃ n d : Int, (ratC x a y b = RC n d ∧ sZ x a = n ∧ sZ y b = d) ∧ n.natAbs < bp 15 ∧ d.natAbs < bp 15 ∧ 0 < d := by
  obtain ⟨h1, h2, rfl, h4, h5, -⟩ := okR_bound h
  refine ⟨sZ x a, sZ false b, ⟨?_, rfl, rfl⟩, ?_, ?_, ?_⟩
  · unfold ratC RC
    rw [intC_sZ h5, intC_sZ (by simp)]
  · unfold sZ
    split <;> omega
  · unfold sZ
    rw [if_neg (by decide)]
    omega
  · unfold sZ
    rw [if_neg (by decide)]
    omega
set_option maxRecDepth 100000 in
theorem wholeR {n : Int} (h1 : -9223372036854775808 ≤ n) (h2 : n < 9223372036854775808) (w : World) : Calls Tryz.prog 62 #[.int .i64 n] w (RetB (.agg (RC n 1)) w) := by
  have F := Fr.start w
  have g1 := fun w => fromZ h1 h2 w
  have g2 := fun w => fromZ (n := 1) (by decide) (by decide) w
  go_enter Tryz.func62, Tryz.ntmps62
  go_wp2_with (first | go_skip | ((with_reducible apply fA_rat F); exact rfl) | ((with_reducible apply fS F); exact rfl; exact rfl; exact rfl; (exact tL); (exact tR2); (exact tS2); clear F; intro W F; simp only [z7, z8] at F) | ((with_reducible apply fB_rat); exact rfl; exact rfl; exact rfl))
  (clear F; intro b2 W F; try simp only [Act.put, z6, z1, z2])
  go_wp2_with (first | go_skip | ((go_at_call 74); (with_reducible refine fr_call F (g1 _) ?_); (clear F; intro W F); (try dsimp only)) | ((go_at_call 74); (with_reducible refine fr_call F (g2 _) ?_); (clear F; intro W F); (try dsimp only)) | ((with_reducible apply fA_rat F); exact rfl) | ((with_reducible apply fS F); exact rfl; exact rfl; exact rfl; (exact tL); (exact tR2); (exact tS2); clear F; intro W F; simp only [z7, z8] at F) | ((with_reducible apply fB_rat); exact rfl; exact rfl; exact rfl))
  exact bodyPost_ret (res_c rfl rfl (Fr.get F tL) (rowRC _ _)) rfl ⟨rfl, F.below⟩
set_option maxRecDepth 100000 in
theorem ofR {n d : Int} (h1 : -9223372036854775808 ≤ n) (h2 : n < 9223372036854775808) (h3 : -9223372036854775808 ≤ d) (h4 : d < 9223372036854775808) {r : Int × Int × Int} (hr : mkR n d = r) (w : World) : Calls Tryz.prog 55 #[.int .i64 n, .int .i64 d] w (RetB (.tuple #[.agg (RC r.1 r.2.1), .int .i64 r.2.2]) w) := by
  have F := Fr.start w
  have g1 := fun w => fromZ h1 h2 w
  have g2 := fun w => fromZ h3 h4 w
  have hb : ∀ {z : Int}, -9223372036854775808 ≤ z → z < 9223372036854775808 → z.natAbs < bp 32 := fun {z} k1 k2 => Nat.lt_of_lt_of_le (show z.natAbs < bp 2 by unfold bp; omega) (bp_le (by decide))
  have g3 := fun w => makeZ (hb h1 h2) (hb h3 h4) hr w
  clear hr hb
  go_enter Tryz.func55, Tryz.ntmps55
  go_wp2_with (first | go_skip | ((with_reducible apply fA_rat F); exact rfl) | ((with_reducible apply fS F); exact rfl; exact rfl; exact rfl; (exact tL); (exact tR2); (exact tS2); clear F; intro W F; simp only [z7, z8] at F))
  (clear F; intro b4 W F; try simp only [Act.put, z6, z1, z2])
  go_wp2_with (first | go_skip | ((go_at_call 74); (with_reducible refine fr_call F (g1 _) ?_); (clear F; intro W F); (try dsimp only)) | ((go_at_call 74); (with_reducible refine fr_call F (g2 _) ?_); (clear F; intro W F); (try dsimp only)) | ((go_at_call 82); (with_reducible refine fr_call F (g3 _) ?_); (clear F; intro W F); (try dsimp only)) | ((with_reducible apply fA_rat F); exact rfl) | ((with_reducible apply fS F); exact rfl; exact rfl; exact rfl; (exact tL); (exact tR2); (exact tS2); clear F; intro W F; simp only [z7, z8] at F))
  exact bodyPost_ret (res_cs rfl rfl rfl (Fr.get F tL) (rowRC _ _)) rfl ⟨rfl, F.below⟩
set_option maxRecDepth 100000 in
theorem negR {n d : Int} (hv : okR (decide (n < 0)) n.natAbs (decide (d < 0)) d.natAbs) (w : World) : Calls Tryz.prog 63 #[.agg (RC n d)] w (RetB (.tuple #[.agg (RC (-n) d), .int .i64 0]) w) := by
  have F := Fr.start w
  obtain ⟨h1, h2, -⟩ := okR_bound hv
  have g1 : ∀ w, Calls Tryz.prog 93 #[.agg (RC n d)] w (RetB (.bool true) w) := fun w => valid_any (b15 h1) (b15 h2) (decide_eq_true hv) w
  have g2 := fun w => negZ (b15 h1) w
  clear hv h1 h2
  go_enter Tryz.func63, Tryz.ntmps63
  go_wp2_with (first | go_skip | ((with_reducible apply fL F); exact rfl; exact rfl; (exact tL); (exact tR2)) | ((with_reducible apply fLm F); exact rfl; exact rfl; (exact tL); (exact tM2); (exact tR2)) | ((with_reducible apply fA_rat F); exact rfl) | ((with_reducible apply fX_rat F); exact rfl; exact rfl) | ((with_reducible apply fS F); exact rfl; exact rfl; exact rfl; (exact tL); (exact tR2); (exact tS2); clear F; intro W F; simp only [z7, z8] at F) | ((with_reducible apply fB_rat0); exact rfl) | ((with_reducible apply fB_rat); exact rfl; exact rfl; exact rfl))
  (clear F; intro b1 W F; try simp only [Act.put, z6, z1, z2])
  go_wp2_with (first | go_skip | ((with_reducible apply fL F); exact rfl; exact rfl; (exact tL); (exact tR2)) | ((with_reducible apply fLm F); exact rfl; exact rfl; (exact tL); (exact tM2); (exact tR2)) | ((with_reducible apply fA_rat F); exact rfl) | ((with_reducible apply fX_rat F); exact rfl; exact rfl) | ((with_reducible apply fS F); exact rfl; exact rfl; exact rfl; (exact tL); (exact tR2); (exact tS2); clear F; intro W F; simp only [z7, z8] at F) | ((with_reducible apply fB_rat0); exact rfl) | ((with_reducible apply fB_rat); exact rfl; exact rfl; exact rfl))
  (clear F; intro b2 W F; try simp only [Act.put, z6, z1, z2])
  go_wp2_with (first | go_skip | ((go_at_call 93); (with_reducible refine fr_call F (g1 _) ?_); (clear F; intro W F); (try dsimp only)) | ((with_reducible apply fL F); exact rfl; exact rfl; (exact tL); (exact tR2)) | ((with_reducible apply fLm F); exact rfl; exact rfl; (exact tL); (exact tM2); (exact tR2)) | ((with_reducible apply fA_rat F); exact rfl) | ((with_reducible apply fX_rat F); exact rfl; exact rfl) | ((with_reducible apply fS F); exact rfl; exact rfl; exact rfl; (exact tL); (exact tR2); (exact tS2); clear F; intro W F; simp only [z7, z8] at F) | ((with_reducible apply fB_rat0); exact rfl) | ((with_reducible apply fB_rat); exact rfl; exact rfl; exact rfl))
  try simp only [Act.put, z6, z1, z2]
  refine wp_region_slots mixP [3, 8, 9, 10, 11, 12, 13] (fun l mm W => ∃ (s3 s8 s9 s10 s11 s12 s13 : Value) (c_b2 : Array Value), mm = [s3, s8, s9, s10, s11, s12, s13] ∧ (l.getD 0 false = true → s8 = .pointer (some ⟨b1, 0, none⟩)) ∧ (l.getD 1 false = true → s9 = .agg (IC n)) ∧ (l.getD 2 false = true → s10 = .agg (IC (-n))) ∧ (l.getD 3 false = true → s11 = .pointer (some ⟨b1, 33, none⟩)) ∧ (l.getD 4 false = true → s12 = .agg (IC d)) ∧ (l.getD 5 false = true → s13 = .agg (RC (-n) d)) ∧ (l.getD 6 false = true → c_b2 = RC (-n) d) ∧ (l.getD 7 false = true → s3 = .int .i64 0) ∧ c_b2.size = (RC (-n) d).size ∧ Fr w W [(b2, c_b2, 31), (b1, RC n d, 31)]) (by kernel_rfl) rfl ?_ ?_ ?_
  · exact ⟨_, _, _, _, _, _, _, (RC 0 0), rfl, nf, nf, nf, nf, nf, nf, nf, nf, by exact tS2, F.drew⟩
  · rintro listed mm W ii hi hsz hoff ⟨s3, s8, s9, s10, s11, s12, s13, c_b2, rfl, h0, h1, h2, h3, h4, h5, h6, h7, hz0, HF⟩ hd
    have hc : ii = 0 ∨ ii = 1 ∨ ii = 2 ∨ ii = 3 ∨ ii = 4 ∨ ii = 5 ∨ ii = 6 ∨ ii = 7 := by
      have hi2 : ii < 8 := hi
      omega
    have hsz2 : listed.size = 8 := hsz
    clear hi hsz
    rcases hc with rfl | rfl | rfl | rfl | rfl | rfl | rfl | rfl
    · refine wpOp_want rfl rfl (fun K hK => ?_)
      simp only [putAll, z1, z2, z3, z4, z5]
      refine ⟨?_⟩
      go_simp
      exact hK _ _ ⟨[s3, (.pointer (some ⟨b1, 0, none⟩)), s9, s10, s11, s12, s13], by simp only [putAll, z1, z2], s3, (.pointer (some ⟨b1, 0, none⟩)), s9, s10, s11, s12, s13, c_b2, rfl, fun _ => rfl, lk h1, lk h2, lk h3, lk h4, lk h5, lk h6, lk h7, hz0, HF⟩
    · have d0 := h0 (hd 0 (by kernel_rfl))
      obtain rfl := d0
      refine wpOp_want rfl rfl (fun K hK => ?_)
      simp only [putAll, z1, z2, z3, z4, z5]
      with_reducible apply gLm HF
      · exact rfl
      · (exact tL)
      · exact RC_num _ _
      · (first | (exact tR2))
      go_simp
      exact hK _ _ ⟨[s3, (.pointer (some ⟨b1, 0, none⟩)), (.agg (IC n)), s10, s11, s12, s13], by simp only [putAll, z1, z2], s3, (.pointer (some ⟨b1, 0, none⟩)), (.agg (IC n)), s10, s11, s12, s13, c_b2, rfl, lk h0, fun _ => rfl, lk h2, lk h3, lk h4, lk h5, lk h6, lk h7, hz0, HF⟩
    · have d1 := h1 (hd 1 (by kernel_rfl))
      obtain rfl := d1
      refine wpOp_want rfl rfl (fun K hK => ?_)
      simp only [putAll, z1, z2, z3, z4, z5]
      refine ⟨?_⟩
      go_simp
      with_reducible refine fr_call HF (g2 _) ?_
      clear HF
      intro W HF
      (try dsimp only)
      exact hK _ _ ⟨[s3, s8, (.agg (IC n)), (.agg (IC (-n))), s11, s12, s13], by simp only [putAll, z1, z2], s3, s8, (.agg (IC n)), (.agg (IC (-n))), s11, s12, s13, c_b2, rfl, lk h0, lk h1, fun _ => rfl, lk h3, lk h4, lk h5, lk h6, lk h7, hz0, HF⟩
    · refine wpOp_want rfl rfl (fun K hK => ?_)
      simp only [putAll, z1, z2, z3, z4, z5]
      refine ⟨?_⟩
      go_simp
      exact hK _ _ ⟨[s3, s8, s9, s10, (.pointer (some ⟨b1, 33, none⟩)), s12, s13], by simp only [putAll, z1, z2], s3, s8, s9, s10, (.pointer (some ⟨b1, 33, none⟩)), s12, s13, c_b2, rfl, lk h0, lk h1, lk h2, fun _ => rfl, lk h4, lk h5, lk h6, lk h7, hz0, HF⟩
    · have d3 := h3 (hd 3 (by kernel_rfl))
      obtain rfl := d3
      refine wpOp_want rfl rfl (fun K hK => ?_)
      simp only [putAll, z1, z2, z3, z4, z5]
      with_reducible apply gLm HF
      · exact rfl
      · (exact tL)
      · exact RC_den _ _
      · (first | (exact tR2))
      go_simp
      exact hK _ _ ⟨[s3, s8, s9, s10, (.pointer (some ⟨b1, 33, none⟩)), (.agg (IC d)), s13], by simp only [putAll, z1, z2], s3, s8, s9, s10, (.pointer (some ⟨b1, 33, none⟩)), (.agg (IC d)), s13, c_b2, rfl, lk h0, lk h1, lk h2, lk h3, fun _ => rfl, lk h5, lk h6, lk h7, hz0, HF⟩
    · have d2 := h2 (hd 2 (by kernel_rfl))
      have d4 := h4 (hd 4 (by kernel_rfl))
      obtain rfl := d2
      obtain rfl := d4
      refine wpOp_want rfl rfl (fun K hK => ?_)
      simp only [putAll, z1, z2, z3, z4, z5]
      with_reducible apply gB_rat
      · exact rfl
      · exact rfl
      go_simp
      exact hK _ _ ⟨[s3, s8, s9, (.agg (IC (-n))), s11, (.agg (IC d)), (.agg (RC (-n) d))], by simp only [putAll, z1, z2], s3, s8, s9, (.agg (IC (-n))), s11, (.agg (IC d)), (.agg (RC (-n) d)), c_b2, rfl, lk h0, lk h1, lk h2, lk h3, lk h4, fun _ => rfl, lk h6, lk h7, hz0, HF⟩
    · have d5 := h5 (hd 5 (by kernel_rfl))
      obtain rfl := d5
      refine wpOp_want rfl rfl (fun K hK => ?_)
      simp only [putAll, z1, z2, z3, z4, z5]
      with_reducible apply gS HF
      · exact rfl
      · exact rfl
      · (exact tL)
      · (first | (exact tR2))
      · first | exact hz0 | exact tS2
      clear HF
      intro W HF
      simp only [z7, z8] at HF
      go_simp
      exact hK _ _ ⟨[s3, s8, s9, s10, s11, s12, (.agg (RC (-n) d))], by simp only [putAll, z1, z2], s3, s8, s9, s10, s11, s12, (.agg (RC (-n) d)), (RC (-n) d), rfl, lk h0, lk h1, lk h2, lk h3, lk h4, lk h5, fun _ => rfl, lk h7, rfl, HF⟩
    · refine wpOp_want rfl rfl (fun K hK => ?_)
      simp only [putAll, z1, z2, z3, z4, z5]
      refine ⟨?_⟩
      go_simp
      exact hK _ _ ⟨[(.int .i64 0), s8, s9, s10, s11, s12, s13], by simp only [putAll, z1, z2], (.int .i64 0), s8, s9, s10, s11, s12, s13, c_b2, rfl, lk h0, lk h1, lk h2, lk h3, lk h4, lk h5, lk h6, fun _ => rfl, hz0, HF⟩
  rintro listed mm W ⟨s3, s8, s9, s10, s11, s12, s13, c_b2, rfl, h0, h1, h2, h3, h4, h5, h6, h7, hz0, HF⟩ hall
  obtain rfl := h0 (hall 0 (by decide))
  obtain rfl := h1 (hall 1 (by decide))
  obtain rfl := h2 (hall 2 (by decide))
  obtain rfl := h3 (hall 3 (by decide))
  obtain rfl := h4 (hall 4 (by decide))
  obtain rfl := h5 (hall 5 (by decide))
  rw [h6 (hall 6 (by decide))] at HF
  obtain rfl := h7 (hall 7 (by decide))
  clear hall h0 h1 h2 h3 h4 h5 h6 h7 hz0 F
  have F := HF
  clear HF
  simp only [putAll, z1, z2]
  go_wp2_with (first | go_skip | ((with_reducible apply fL F); exact rfl; exact rfl; (exact tL); (exact tR2)) | ((with_reducible apply fLm F); exact rfl; exact rfl; (exact tL); (exact tM2); (exact tR2)) | ((with_reducible apply fA_rat F); exact rfl) | ((with_reducible apply fX_rat F); exact rfl; exact rfl) | ((with_reducible apply fS F); exact rfl; exact rfl; exact rfl; (exact tL); (exact tR2); (exact tS2); clear F; intro W F; simp only [z7, z8] at F) | ((with_reducible apply fB_rat0); exact rfl) | ((with_reducible apply fB_rat); exact rfl; exact rfl; exact rfl))
  exact bodyPost_ret (res_cs rfl rfl rfl (Fr.get F tL) (rowRC _ _)) rfl ⟨rfl, F.below⟩
set_option maxRecDepth 100000 in
theorem quoF {n d m e : Int} (hn : n.natAbs < bp 15) (hd : d.natAbs < bp 15) (hm : m.natAbs < bp 15) (he : e.natAbs < bp 15) (w : World) : Calls Tryz.prog 111 #[.agg (RC n d), .agg (RC m e)] w (RetB (.tuple #[.agg (IC (n * e)), .agg (IC (d * m))]) w) := by
  have F := Fr.start w
  have g1 := fun w => productZ (b15 hn) (b15 he) (b30 hn he) w
  have g2 := fun w => productZ (b15 hd) (b15 hm) (b30 hd hm) w
  clear hn hd hm he
  go_enter Tryz.func111, Tryz.ntmps111
  go_wp2_with (first | go_skip | ((with_reducible apply fL F); exact rfl; exact rfl; (exact tL); (exact tR2)) | ((with_reducible apply fLm F); exact rfl; exact rfl; (exact tL); (exact tM2); (exact tR2)) | ((with_reducible apply fA_int F); exact rfl) | ((with_reducible apply fX_rat F); exact rfl; exact rfl) | ((with_reducible apply fS F); exact rfl; exact rfl; exact rfl; (exact tL); (exact tR2); (exact tS2); clear F; intro W F; simp only [z7, z8] at F))
  (clear F; intro b2 W F; try simp only [Act.put, z6, z1, z2])
  go_wp2_with (first | go_skip | ((with_reducible apply fL F); exact rfl; exact rfl; (exact tL); (exact tR2)) | ((with_reducible apply fLm F); exact rfl; exact rfl; (exact tL); (exact tM2); (exact tR2)) | ((with_reducible apply fA_int F); exact rfl) | ((with_reducible apply fX_rat F); exact rfl; exact rfl) | ((with_reducible apply fS F); exact rfl; exact rfl; exact rfl; (exact tL); (exact tR2); (exact tS2); clear F; intro W F; simp only [z7, z8] at F))
  (clear F; intro b3 W F; try simp only [Act.put, z6, z1, z2])
  go_wp2_with (first | go_skip | ((with_reducible apply fL F); exact rfl; exact rfl; (exact tL); (exact tR2)) | ((with_reducible apply fLm F); exact rfl; exact rfl; (exact tL); (exact tM2); (exact tR2)) | ((with_reducible apply fA_int F); exact rfl) | ((with_reducible apply fX_rat F); exact rfl; exact rfl) | ((with_reducible apply fS F); exact rfl; exact rfl; exact rfl; (exact tL); (exact tR2); (exact tS2); clear F; intro W F; simp only [z7, z8] at F))
  (clear F; intro b4 W F; try simp only [Act.put, z6, z1, z2])
  go_wp2_with (first | go_skip | ((with_reducible apply fL F); exact rfl; exact rfl; (exact tL); (exact tR2)) | ((with_reducible apply fLm F); exact rfl; exact rfl; (exact tL); (exact tM2); (exact tR2)) | ((with_reducible apply fA_int F); exact rfl) | ((with_reducible apply fX_rat F); exact rfl; exact rfl) | ((with_reducible apply fS F); exact rfl; exact rfl; exact rfl; (exact tL); (exact tR2); (exact tS2); clear F; intro W F; simp only [z7, z8] at F))
  (clear F; intro b5 W F; try simp only [Act.put, z6, z1, z2])
  go_wp2_with (first | go_skip | ((with_reducible apply fL F); exact rfl; exact rfl; (exact tL); (exact tR2)) | ((with_reducible apply fLm F); exact rfl; exact rfl; (exact tL); (exact tM2); (exact tR2)) | ((with_reducible apply fA_int F); exact rfl) | ((with_reducible apply fX_rat F); exact rfl; exact rfl) | ((with_reducible apply fS F); exact rfl; exact rfl; exact rfl; (exact tL); (exact tR2); (exact tS2); clear F; intro W F; simp only [z7, z8] at F))
  try simp only [Act.put, z6, z1, z2]
  refine wp_region_slots mixP [6, 7, 8, 9, 10, 11, 12, 13, 14, 15] (fun l mm W => ∃ (s6 s7 s8 s9 s10 s11 s12 s13 s14 s15 : Value) (c_b4 c_b5 : Array Value), mm = [s6, s7, s8, s9, s10, s11, s12, s13, s14, s15] ∧ (l.getD 0 false = true → s6 = .pointer (some ⟨b2, 0, none⟩)) ∧ (l.getD 1 false = true → s7 = .agg (IC n)) ∧ (l.getD 2 false = true → s8 = .pointer (some ⟨b3, 33, none⟩)) ∧ (l.getD 3 false = true → s9 = .agg (IC e)) ∧ (l.getD 4 false = true → s10 = .agg (IC (n * e))) ∧ (l.getD 5 false = true → s11 = .pointer (some ⟨b2, 33, none⟩)) ∧ (l.getD 6 false = true → s12 = .agg (IC d)) ∧ (l.getD 7 false = true → s13 = .pointer (some ⟨b3, 0, none⟩)) ∧ (l.getD 8 false = true → s14 = .agg (IC m)) ∧ (l.getD 9 false = true → s15 = .agg (IC (d * m))) ∧ (l.getD 10 false = true → c_b4 = IC (n * e)) ∧ (l.getD 11 false = true → c_b5 = IC (d * m)) ∧ c_b4.size = (IC (n * e)).size ∧ c_b5.size = (IC (d * m)).size ∧ Fr w W [(b5, c_b5, 29), (b4, c_b4, 29), (b3, RC m e, 31), (b2, RC n d, 31)]) (by kernel_rfl) rfl ?_ ?_ ?_
  · exact ⟨_, _, _, _, _, _, _, _, _, _, (intC false 0), (intC false 0), rfl, nf, nf, nf, nf, nf, nf, nf, nf, nf, nf, nf, nf, by exact tS2, by exact tS2, F.drew⟩
  · rintro listed mm W ii hi hsz hoff ⟨s6, s7, s8, s9, s10, s11, s12, s13, s14, s15, c_b4, c_b5, rfl, h0, h1, h2, h3, h4, h5, h6, h7, h8, h9, h10, h11, hz0, hz1, HF⟩ hd
    have hc : ii = 0 ∨ ii = 1 ∨ ii = 2 ∨ ii = 3 ∨ ii = 4 ∨ ii = 5 ∨ ii = 6 ∨ ii = 7 ∨ ii = 8 ∨ ii = 9 ∨ ii = 10 ∨ ii = 11 := by
      have hi2 : ii < 12 := hi
      omega
    have hsz2 : listed.size = 12 := hsz
    clear hi hsz
    rcases hc with rfl | rfl | rfl | rfl | rfl | rfl | rfl | rfl | rfl | rfl | rfl | rfl
    · refine wpOp_want rfl rfl (fun K hK => ?_)
      simp only [putAll, z1, z2, z3, z4, z5]
      refine ⟨?_⟩
      go_simp
      exact hK _ _ ⟨[(.pointer (some ⟨b2, 0, none⟩)), s7, s8, s9, s10, s11, s12, s13, s14, s15], by simp only [putAll, z1, z2], (.pointer (some ⟨b2, 0, none⟩)), s7, s8, s9, s10, s11, s12, s13, s14, s15, c_b4, c_b5, rfl, fun _ => rfl, lk h1, lk h2, lk h3, lk h4, lk h5, lk h6, lk h7, lk h8, lk h9, lk h10, lk h11, hz0, hz1, HF⟩
    · have d0 := h0 (hd 0 (by kernel_rfl))
      obtain rfl := d0
      refine wpOp_want rfl rfl (fun K hK => ?_)
      simp only [putAll, z1, z2, z3, z4, z5]
      with_reducible apply gLm HF
      · exact rfl
      · (exact tL)
      · exact RC_num _ _
      · (first | (exact tR2))
      go_simp
      exact hK _ _ ⟨[(.pointer (some ⟨b2, 0, none⟩)), (.agg (IC n)), s8, s9, s10, s11, s12, s13, s14, s15], by simp only [putAll, z1, z2], (.pointer (some ⟨b2, 0, none⟩)), (.agg (IC n)), s8, s9, s10, s11, s12, s13, s14, s15, c_b4, c_b5, rfl, lk h0, fun _ => rfl, lk h2, lk h3, lk h4, lk h5, lk h6, lk h7, lk h8, lk h9, lk h10, lk h11, hz0, hz1, HF⟩
    · refine wpOp_want rfl rfl (fun K hK => ?_)
      simp only [putAll, z1, z2, z3, z4, z5]
      refine ⟨?_⟩
      go_simp
      exact hK _ _ ⟨[s6, s7, (.pointer (some ⟨b3, 33, none⟩)), s9, s10, s11, s12, s13, s14, s15], by simp only [putAll, z1, z2], s6, s7, (.pointer (some ⟨b3, 33, none⟩)), s9, s10, s11, s12, s13, s14, s15, c_b4, c_b5, rfl, lk h0, lk h1, fun _ => rfl, lk h3, lk h4, lk h5, lk h6, lk h7, lk h8, lk h9, lk h10, lk h11, hz0, hz1, HF⟩
    · have d2 := h2 (hd 2 (by kernel_rfl))
      obtain rfl := d2
      refine wpOp_want rfl rfl (fun K hK => ?_)
      simp only [putAll, z1, z2, z3, z4, z5]
      with_reducible apply gLm HF
      · exact rfl
      · (exact tL)
      · exact RC_den _ _
      · (first | (exact tR2))
      go_simp
      exact hK _ _ ⟨[s6, s7, (.pointer (some ⟨b3, 33, none⟩)), (.agg (IC e)), s10, s11, s12, s13, s14, s15], by simp only [putAll, z1, z2], s6, s7, (.pointer (some ⟨b3, 33, none⟩)), (.agg (IC e)), s10, s11, s12, s13, s14, s15, c_b4, c_b5, rfl, lk h0, lk h1, lk h2, fun _ => rfl, lk h4, lk h5, lk h6, lk h7, lk h8, lk h9, lk h10, lk h11, hz0, hz1, HF⟩
    · have d1 := h1 (hd 1 (by kernel_rfl))
      have d3 := h3 (hd 3 (by kernel_rfl))
      obtain rfl := d1
      obtain rfl := d3
      refine wpOp_want rfl rfl (fun K hK => ?_)
      simp only [putAll, z1, z2, z3, z4, z5]
      refine ⟨?_⟩
      go_simp
      with_reducible refine fr_call HF (g1 _) ?_
      clear HF
      intro W HF
      (try dsimp only)
      exact hK _ _ ⟨[s6, (.agg (IC n)), s8, (.agg (IC e)), (.agg (IC (n * e))), s11, s12, s13, s14, s15], by simp only [putAll, z1, z2], s6, (.agg (IC n)), s8, (.agg (IC e)), (.agg (IC (n * e))), s11, s12, s13, s14, s15, c_b4, c_b5, rfl, lk h0, lk h1, lk h2, lk h3, fun _ => rfl, lk h5, lk h6, lk h7, lk h8, lk h9, lk h10, lk h11, hz0, hz1, HF⟩
    · refine wpOp_want rfl rfl (fun K hK => ?_)
      simp only [putAll, z1, z2, z3, z4, z5]
      refine ⟨?_⟩
      go_simp
      exact hK _ _ ⟨[s6, s7, s8, s9, s10, (.pointer (some ⟨b2, 33, none⟩)), s12, s13, s14, s15], by simp only [putAll, z1, z2], s6, s7, s8, s9, s10, (.pointer (some ⟨b2, 33, none⟩)), s12, s13, s14, s15, c_b4, c_b5, rfl, lk h0, lk h1, lk h2, lk h3, lk h4, fun _ => rfl, lk h6, lk h7, lk h8, lk h9, lk h10, lk h11, hz0, hz1, HF⟩
    · have d5 := h5 (hd 5 (by kernel_rfl))
      obtain rfl := d5
      refine wpOp_want rfl rfl (fun K hK => ?_)
      simp only [putAll, z1, z2, z3, z4, z5]
      with_reducible apply gLm HF
      · exact rfl
      · (exact tL)
      · exact RC_den _ _
      · (first | (exact tR2))
      go_simp
      exact hK _ _ ⟨[s6, s7, s8, s9, s10, (.pointer (some ⟨b2, 33, none⟩)), (.agg (IC d)), s13, s14, s15], by simp only [putAll, z1, z2], s6, s7, s8, s9, s10, (.pointer (some ⟨b2, 33, none⟩)), (.agg (IC d)), s13, s14, s15, c_b4, c_b5, rfl, lk h0, lk h1, lk h2, lk h3, lk h4, lk h5, fun _ => rfl, lk h7, lk h8, lk h9, lk h10, lk h11, hz0, hz1, HF⟩
    · refine wpOp_want rfl rfl (fun K hK => ?_)
      simp only [putAll, z1, z2, z3, z4, z5]
      refine ⟨?_⟩
      go_simp
      exact hK _ _ ⟨[s6, s7, s8, s9, s10, s11, s12, (.pointer (some ⟨b3, 0, none⟩)), s14, s15], by simp only [putAll, z1, z2], s6, s7, s8, s9, s10, s11, s12, (.pointer (some ⟨b3, 0, none⟩)), s14, s15, c_b4, c_b5, rfl, lk h0, lk h1, lk h2, lk h3, lk h4, lk h5, lk h6, fun _ => rfl, lk h8, lk h9, lk h10, lk h11, hz0, hz1, HF⟩
    · have d7 := h7 (hd 7 (by kernel_rfl))
      obtain rfl := d7
      refine wpOp_want rfl rfl (fun K hK => ?_)
      simp only [putAll, z1, z2, z3, z4, z5]
      with_reducible apply gLm HF
      · exact rfl
      · (exact tL)
      · exact RC_num _ _
      · (first | (exact tR2))
      go_simp
      exact hK _ _ ⟨[s6, s7, s8, s9, s10, s11, s12, (.pointer (some ⟨b3, 0, none⟩)), (.agg (IC m)), s15], by simp only [putAll, z1, z2], s6, s7, s8, s9, s10, s11, s12, (.pointer (some ⟨b3, 0, none⟩)), (.agg (IC m)), s15, c_b4, c_b5, rfl, lk h0, lk h1, lk h2, lk h3, lk h4, lk h5, lk h6, lk h7, fun _ => rfl, lk h9, lk h10, lk h11, hz0, hz1, HF⟩
    · have d6 := h6 (hd 6 (by kernel_rfl))
      have d8 := h8 (hd 8 (by kernel_rfl))
      obtain rfl := d6
      obtain rfl := d8
      refine wpOp_want rfl rfl (fun K hK => ?_)
      simp only [putAll, z1, z2, z3, z4, z5]
      refine ⟨?_⟩
      go_simp
      with_reducible refine fr_call HF (g2 _) ?_
      clear HF
      intro W HF
      (try dsimp only)
      exact hK _ _ ⟨[s6, s7, s8, s9, s10, s11, (.agg (IC d)), s13, (.agg (IC m)), (.agg (IC (d * m)))], by simp only [putAll, z1, z2], s6, s7, s8, s9, s10, s11, (.agg (IC d)), s13, (.agg (IC m)), (.agg (IC (d * m))), c_b4, c_b5, rfl, lk h0, lk h1, lk h2, lk h3, lk h4, lk h5, lk h6, lk h7, lk h8, fun _ => rfl, lk h10, lk h11, hz0, hz1, HF⟩
    · have d4 := h4 (hd 4 (by kernel_rfl))
      obtain rfl := d4
      refine wpOp_want rfl rfl (fun K hK => ?_)
      simp only [putAll, z1, z2, z3, z4, z5]
      with_reducible apply gS HF
      · exact rfl
      · exact rfl
      · (exact tL)
      · (first | (exact tR2))
      · first | exact hz0 | exact tS2
      clear HF
      intro W HF
      simp only [z7, z8] at HF
      go_simp
      exact hK _ _ ⟨[s6, s7, s8, s9, (.agg (IC (n * e))), s11, s12, s13, s14, s15], by simp only [putAll, z1, z2], s6, s7, s8, s9, (.agg (IC (n * e))), s11, s12, s13, s14, s15, (IC (n * e)), c_b5, rfl, lk h0, lk h1, lk h2, lk h3, lk h4, lk h5, lk h6, lk h7, lk h8, lk h9, fun _ => rfl, lk h11, rfl, hz1, HF⟩
    · have d9 := h9 (hd 9 (by kernel_rfl))
      obtain rfl := d9
      refine wpOp_want rfl rfl (fun K hK => ?_)
      simp only [putAll, z1, z2, z3, z4, z5]
      with_reducible apply gS HF
      · exact rfl
      · exact rfl
      · (exact tL)
      · (first | (exact tR2))
      · first | exact hz1 | exact tS2
      clear HF
      intro W HF
      simp only [z7, z8] at HF
      go_simp
      exact hK _ _ ⟨[s6, s7, s8, s9, s10, s11, s12, s13, s14, (.agg (IC (d * m)))], by simp only [putAll, z1, z2], s6, s7, s8, s9, s10, s11, s12, s13, s14, (.agg (IC (d * m))), c_b4, (IC (d * m)), rfl, lk h0, lk h1, lk h2, lk h3, lk h4, lk h5, lk h6, lk h7, lk h8, lk h9, lk h10, fun _ => rfl, hz0, rfl, HF⟩
  rintro listed mm W ⟨s6, s7, s8, s9, s10, s11, s12, s13, s14, s15, c_b4, c_b5, rfl, h0, h1, h2, h3, h4, h5, h6, h7, h8, h9, h10, h11, hz0, hz1, HF⟩ hall
  obtain rfl := h0 (hall 0 (by decide))
  obtain rfl := h1 (hall 1 (by decide))
  obtain rfl := h2 (hall 2 (by decide))
  obtain rfl := h3 (hall 3 (by decide))
  obtain rfl := h4 (hall 4 (by decide))
  obtain rfl := h5 (hall 5 (by decide))
  obtain rfl := h6 (hall 6 (by decide))
  obtain rfl := h7 (hall 7 (by decide))
  obtain rfl := h8 (hall 8 (by decide))
  obtain rfl := h9 (hall 9 (by decide))
  rw [h10 (hall 10 (by decide))] at HF
  rw [h11 (hall 11 (by decide))] at HF
  clear hall h0 h1 h2 h3 h4 h5 h6 h7 h8 h9 h10 h11 hz0 hz1 F
  have F := HF
  clear HF
  simp only [putAll, z1, z2]
  go_wp2_with (first | go_skip | ((with_reducible apply fL F); exact rfl; exact rfl; (exact tL); (exact tR2)) | ((with_reducible apply fLm F); exact rfl; exact rfl; (exact tL); (exact tM2); (exact tR2)) | ((with_reducible apply fA_int F); exact rfl) | ((with_reducible apply fX_rat F); exact rfl; exact rfl) | ((with_reducible apply fS F); exact rfl; exact rfl; exact rfl; (exact tL); (exact tR2); (exact tS2); clear F; intro W F; simp only [z7, z8] at F))
  exact bodyPost_ret (res_cc rfl rfl rfl (Fr.get F tL) (rowIC _) (Fr.get F tL) (rowIC _)) rfl ⟨rfl, F.below⟩
set_option maxRecDepth 100000 in
theorem calcQuo {x : Bool} {a : Nat} {y : Bool} {b : Nat} {x' : Bool} {a' : Nat} {y' : Bool} {b' : Nat} (ha : a < bp 32) (hb : b < bp 32) (ha' : a' < bp 32) (hb' : b' < bp 32)  (w : World) {r : Int × Int × Int}
    (hr : (if okR x a y b ∧ okR x' a' y' b' then mkR (sZ x a * sZ y' b') (sZ y b * sZ x' a') else (0, 0, 20)) = r) : Calls Tryz.prog 106 #[.agg (ratC x a y b), .agg (ratC x' a' y' b'), .func (.func 111) #[] #[]] w (RetB (.tuple #[.agg (RC r.1 r.2.1), .int .i64 r.2.2]) w) := by
  have F := Fr.start w
  obtain ⟨f, hf⟩ : ∃ f, decide (okR x a y b) = f := ⟨_, rfl⟩
  obtain ⟨f', hf'⟩ : ∃ f, decide (okR x' a' y' b') = f := ⟨_, rfl⟩
  have g1 := fun w => valid_any ha hb hf w
  have g2 := fun w => valid_any ha' hb' hf' w
  have HR := Lib.hid hr
  clear hr ha hb ha' hb'
  go_enter Tryz.func106, Tryz.ntmps106
  go_wp2_with (first | go_skip | ((with_reducible apply fL F); exact rfl; exact rfl; (exact tL); (exact tR2)) | ((with_reducible apply fA_rat F); exact rfl) | ((with_reducible apply fX_rat F); exact rfl; exact rfl) | ((with_reducible apply fS F); exact rfl; exact rfl; exact rfl; (exact tL); (exact tR2); (exact tS2); clear F; intro W F; simp only [z7, z8] at F) | ((with_reducible apply fB_rat0); exact rfl))
  (clear F; intro b3 W F; try simp only [Act.put, z6, z1, z2])
  go_wp2_with (first | go_skip | ((with_reducible apply fL F); exact rfl; exact rfl; (exact tL); (exact tR2)) | ((with_reducible apply fA_rat F); exact rfl) | ((with_reducible apply fX_rat F); exact rfl; exact rfl) | ((with_reducible apply fS F); exact rfl; exact rfl; exact rfl; (exact tL); (exact tR2); (exact tS2); clear F; intro W F; simp only [z7, z8] at F) | ((with_reducible apply fB_rat0); exact rfl))
  (clear F; intro b4 W F; try simp only [Act.put, z6, z1, z2])
  go_wp2_with (first | go_skip | ((with_reducible apply fL F); exact rfl; exact rfl; (exact tL); (exact tR2)) | ((with_reducible apply fA_rat F); exact rfl) | ((with_reducible apply fX_rat F); exact rfl; exact rfl) | ((with_reducible apply fS F); exact rfl; exact rfl; exact rfl; (exact tL); (exact tR2); (exact tS2); clear F; intro W F; simp only [z7, z8] at F) | ((with_reducible apply fB_rat0); exact rfl))
  (clear F; intro b6 W F; try simp only [Act.put, z6, z1, z2])
  cases f
  · have hr := HR.out
    rw [if_neg (fun h => of_decide_eq_false hf h.1)] at hr
    subst hr
    clear HR hf hf'
    go_wp2_with (first | go_skip | ((go_at_call 93); (with_reducible refine fr_call F (g1 _) ?_); (clear F; intro W F); (try dsimp only)) | ((with_reducible apply fL F); exact rfl; exact rfl; (exact tL); (exact tR2)) | ((with_reducible apply fA_rat F); exact rfl) | ((with_reducible apply fX_rat F); exact rfl; exact rfl) | ((with_reducible apply fS F); exact rfl; exact rfl; exact rfl; (exact tL); (exact tR2); (exact tS2); clear F; intro W F; simp only [z7, z8] at F) | ((with_reducible apply fB_rat0); exact rfl))
    exact bodyPost_ret (res_cs rfl rfl rfl (Fr.get F tL) (rowRC _ _)) rfl ⟨rfl, F.below⟩
  cases f'
  · have hr := HR.out
    rw [if_neg (fun h => of_decide_eq_false hf' h.2)] at hr
    subst hr
    clear HR hf hf'
    go_wp2_with (first | go_skip | ((go_at_call 93); (with_reducible refine fr_call F (g1 _) ?_); (clear F; intro W F); (try dsimp only)) | ((go_at_call 93); (with_reducible refine fr_call F (g2 _) ?_); (clear F; intro W F); (try dsimp only)) | ((with_reducible apply fL F); exact rfl; exact rfl; (exact tL); (exact tR2)) | ((with_reducible apply fA_rat F); exact rfl) | ((with_reducible apply fX_rat F); exact rfl; exact rfl) | ((with_reducible apply fS F); exact rfl; exact rfl; exact rfl; (exact tL); (exact tR2); (exact tS2); clear F; intro W F; simp only [z7, z8] at F) | ((with_reducible apply fB_rat0); exact rfl))
    exact bodyPost_ret (res_cs rfl rfl rfl (Fr.get F tL) (rowRC _ _)) rfl ⟨rfl, F.below⟩
  have o1 := of_decide_eq_true hf
  have o2 := of_decide_eq_true hf'
  have hr := HR.out
  rw [if_pos ⟨o1, o2⟩] at hr
  obtain ⟨n, d, he1, h1, h2, hd1⟩ := okR_ints o1
  obtain ⟨m, e, he2, h3, h4, hd2⟩ := okR_ints o2
  rw [he1.2.1, he1.2.2, he2.2.1, he2.2.2] at hr
  have g3 := fun w => quoF h1 h2 h3 h4 w
  rw [← he1.1, ← he2.1] at g3
  have g4 := fun w => makeZ (n := n * e) (d := d * m) (b30 h1 h4) (b30 h2 h3) hr w
  clear HR hf hf' hr o1 o2 he1 he2 h1 h2 h3 h4 hd1 hd2
  go_wp2_with (first | go_skip | ((go_at_call 93); (with_reducible refine fr_call F (g1 _) ?_); (clear F; intro W F); (try dsimp only)) | ((go_at_call 93); (with_reducible refine fr_call F (g2 _) ?_); (clear F; intro W F); (try dsimp only)) | ((go_at_call 111); (with_reducible refine fr_call F (g3 _) ?_); (clear F; intro W F); (try dsimp only)) | ((go_at_call 82); (with_reducible refine fr_call F (g4 _) ?_); (clear F; intro W F); (try dsimp only)) | ((with_reducible apply fL F); exact rfl; exact rfl; (exact tL); (exact tR2)) | ((with_reducible apply fA_rat F); exact rfl) | ((with_reducible apply fX_rat F); exact rfl; exact rfl) | ((with_reducible apply fS F); exact rfl; exact rfl; exact rfl; (exact tL); (exact tR2); (exact tS2); clear F; intro W F; simp only [z7, z8] at F) | ((with_reducible apply fB_rat0); exact rfl))
  exact bodyPost_ret (res_cs rfl rfl rfl (Fr.get F tL) (rowRC _ _)) rfl ⟨rfl, F.below⟩
set_option maxRecDepth 100000 in
theorem quoR {x : Bool} {a : Nat} {y : Bool} {b : Nat} {x' : Bool} {a' : Nat} {y' : Bool} {b' : Nat} (ha : a < bp 32) (hb : b < bp 32) (ha' : a' < bp 32) (hb' : b' < bp 32) (w : World) {r : Int × Int × Int}
    (hr : (if okR x a y b ∧ okR x' a' y' b' then mkR (sZ x a * sZ y' b') (sZ y b * sZ x' a') else (0, 0, 20)) = r) : Calls Tryz.prog 67 #[.agg (ratC x a y b), .agg (ratC x' a' y' b')] w (RetB (.tuple #[.agg (RC r.1 r.2.1), .int .i64 r.2.2]) w) := by
  have F := Fr.start w
  have g1 := fun w => calcQuo ha hb ha' hb' w hr
  clear hr
  go_enter Tryz.func67, Tryz.ntmps67
  go_wp2_with (first | go_skip | ((with_reducible apply fL F); exact rfl; exact rfl; (exact tL); (exact tR2)) | ((with_reducible apply fA_rat F); exact rfl) | ((with_reducible apply fX_rat F); exact rfl; exact rfl) | ((with_reducible apply fS F); exact rfl; exact rfl; exact rfl; (exact tL); (exact tR2); (exact tS2); clear F; intro W F; simp only [z7, z8] at F))
  (clear F; intro b2 W F; try simp only [Act.put, z6, z1, z2])
  go_wp2_with (first | go_skip | ((with_reducible apply fL F); exact rfl; exact rfl; (exact tL); (exact tR2)) | ((with_reducible apply fA_rat F); exact rfl) | ((with_reducible apply fX_rat F); exact rfl; exact rfl) | ((with_reducible apply fS F); exact rfl; exact rfl; exact rfl; (exact tL); (exact tR2); (exact tS2); clear F; intro W F; simp only [z7, z8] at F))
  (clear F; intro b3 W F; try simp only [Act.put, z6, z1, z2])
  go_wp2_with (first | go_skip | ((with_reducible apply fL F); exact rfl; exact rfl; (exact tL); (exact tR2)) | ((with_reducible apply fA_rat F); exact rfl) | ((with_reducible apply fX_rat F); exact rfl; exact rfl) | ((with_reducible apply fS F); exact rfl; exact rfl; exact rfl; (exact tL); (exact tR2); (exact tS2); clear F; intro W F; simp only [z7, z8] at F))
  (clear F; intro b4 W F; try simp only [Act.put, z6, z1, z2])
  go_wp2_with (first | go_skip | ((go_at_call 106); (with_reducible refine fr_call F (g1 _) ?_); (clear F; intro W F); (try dsimp only)) | ((with_reducible apply fL F); exact rfl; exact rfl; (exact tL); (exact tR2)) | ((with_reducible apply fA_rat F); exact rfl) | ((with_reducible apply fX_rat F); exact rfl; exact rfl) | ((with_reducible apply fS F); exact rfl; exact rfl; exact rfl; (exact tL); (exact tR2); (exact tS2); clear F; intro W F; simp only [z7, z8] at F))
  exact bodyPost_ret (res_cs rfl rfl rfl (Fr.get F tL) (rowRC _ _)) rfl ⟨rfl, F.below⟩
end
section
open Go.RowKit
set_option maxHeartbeats 2000000
theorem Fr.push {w W W' : World} {L : List Ent} {b : Nat} {cs : Array Value} {t : TypeId} (h : Fr w W L) (hb : Below W.heap.size W W') (hB : W.heap.size ≤ b) (hk : BlkAt W' b cs t) : Fr w W' ((b, cs, t) :: L) := by
  have h2 := h.next hb
  refine ⟨h2.below, fun x hx => ?_, fun x hx => ?_, ?_⟩
  · rcases List.mem_cons.1 hx with rfl | hx
    · exact hk
    · exact h2.blk x hx
  · rcases List.mem_cons.1 hx with rfl | hx
    · exact Nat.le_trans h.below.size hB
    · exact h.own x hx
  · rw [List.map_cons, List.nodup_cons]
    refine ⟨fun hm => ?_, h.dis⟩
    obtain ⟨y, hy, he⟩ := List.mem_map.1 hm
    have := (h.blk y hy).lt
    omega
set_option maxRecDepth 100000 in
theorem combine_any (m : Bool) (w : World) : Calls Tryz.prog 107 #[.bool m] w (fun e w' => ∃ b, e = .returned (.func (.func 153) #[] #[.pointer (some ⟨b, 0, none⟩)]) ∧ Below w.heap.size w w' ∧ w.heap.size ≤ b ∧ BlkAt w' b #[.bool m] 4) := by
  go_enter Tryz.func107, Tryz.ntmps107
  go_wp2_with fail
  go_ret
  exact ⟨_, rfl, bal0 _ _, Nat.le_refl _, BlkAt.new _ _ _⟩
set_option maxRecDepth 100000 in
theorem addF {n d m e : Int} (hn : n.natAbs < bp 15) (hd : d.natAbs < bp 15) (hm : m.natAbs < bp 15) (he : e.natAbs < bp 15) {k : Nat} {w : World} (hk : BlkAt w k #[.bool false] 4) : Calls Tryz.prog 153 #[.agg (RC n d), .agg (RC m e), .pointer (some ⟨k, 0, none⟩)] w (RetB (.tuple #[.agg (IC (n * e + m * d)), .agg (IC (d * e))]) w) := by
  have F := Fr.start w
  have g1 := fun w => productZ (b15 hm) (b15 hd) (b30 hm hd) w
  have g2 := fun w => productZ (b15 hn) (b15 he) (b30 hn he) w
  have g3 := fun w => addZ (b30 hn he) (b30 hm hd) (b31 (b30' hn he) (b30' hm hd)) w
  have g4 := fun w => productZ (b15 hd) (b15 he) (b30 hd he) w
  have HB : Hid (∀ {W : World} {L : List Ent}, Fr w W L → W.cell? ⟨k, 0, none⟩ = some (.bool false)) := Lib.hid (fun F => (hk.under F.below hk.lt).cell rfl)
  clear hn hd hm he hk
  go_enter Tryz.func153, Tryz.ntmps153
  go_wp2_with (first | go_skip | ((with_reducible apply fL F); exact rfl; exact rfl; (exact tL); (exact tR2)) | ((with_reducible apply fLm F); exact rfl; exact rfl; (exact tL); (exact tM2); (exact tR2)) | ((with_reducible apply fA_int F); exact rfl) | ((with_reducible apply fX_rat F); exact rfl; exact rfl) | ((with_reducible apply fS F); exact rfl; exact rfl; exact rfl; (exact tL); (exact tR2); (exact tS2); clear F; intro W F; simp only [z7, z8] at F))
  (clear F; intro b3 W F; try simp only [Act.put, z6, z1, z2])
  go_wp2_with (first | go_skip | ((with_reducible apply fL F); exact rfl; exact rfl; (exact tL); (exact tR2)) | ((with_reducible apply fLm F); exact rfl; exact rfl; (exact tL); (exact tM2); (exact tR2)) | ((with_reducible apply fA_int F); exact rfl) | ((with_reducible apply fX_rat F); exact rfl; exact rfl) | ((with_reducible apply fS F); exact rfl; exact rfl; exact rfl; (exact tL); (exact tR2); (exact tS2); clear F; intro W F; simp only [z7, z8] at F))
  (clear F; intro b4 W F; try simp only [Act.put, z6, z1, z2])
  go_wp2_with (first | go_skip | ((with_reducible apply fL F); exact rfl; exact rfl; (exact tL); (exact tR2)) | ((with_reducible apply fLm F); exact rfl; exact rfl; (exact tL); (exact tM2); (exact tR2)) | ((with_reducible apply fA_int F); exact rfl) | ((with_reducible apply fX_rat F); exact rfl; exact rfl) | ((with_reducible apply fS F); exact rfl; exact rfl; exact rfl; (exact tL); (exact tR2); (exact tS2); clear F; intro W F; simp only [z7, z8] at F))
  (clear F; intro b5 W F; try simp only [Act.put, z6, z1, z2])
  go_wp2_with (first | go_skip | ((with_reducible apply fL F); exact rfl; exact rfl; (exact tL); (exact tR2)) | ((with_reducible apply fLm F); exact rfl; exact rfl; (exact tL); (exact tM2); (exact tR2)) | ((with_reducible apply fA_int F); exact rfl) | ((with_reducible apply fX_rat F); exact rfl; exact rfl) | ((with_reducible apply fS F); exact rfl; exact rfl; exact rfl; (exact tL); (exact tR2); (exact tS2); clear F; intro W F; simp only [z7, z8] at F))
  (clear F; intro b6 W F; try simp only [Act.put, z6, z1, z2])
  go_wp2_with (first | go_skip | ((go_at_call 112); (with_reducible refine fr_call F (g1 _) ?_); (clear F; intro W F); (try dsimp only)) | ((with_reducible apply fL F); exact rfl; exact rfl; (exact tL); (exact tR2)) | ((with_reducible apply fLm F); exact rfl; exact rfl; (exact tL); (exact tM2); (exact tR2)) | ((with_reducible apply fA_int F); exact rfl) | ((with_reducible apply fX_rat F); exact rfl; exact rfl) | ((with_reducible apply fS F); exact rfl; exact rfl; exact rfl; (exact tL); (exact tR2); (exact tS2); clear F; intro W F; simp only [z7, z8] at F))
  (clear F; intro b7 W F; try simp only [Act.put, z6, z1, z2])
  go_upto_region 2 with (first | go_skip | ((with_reducible apply fL F); exact rfl; exact rfl; (exact tL); (exact tR2)) | ((with_reducible apply fLm F); exact rfl; exact rfl; (exact tL); (exact tM2); (exact tR2)) | ((with_reducible apply fA_int F); exact rfl) | ((with_reducible apply fX_rat F); exact rfl; exact rfl) | ((with_reducible apply fS F); exact rfl; exact rfl; exact rfl; (exact tL); (exact tR2); (exact tS2); clear F; intro W F; simp only [z7, z8] at F))
  have c2 := HB.out F
  go_wp2_with (first | go_skip | ((with_reducible apply fL F); exact rfl; exact rfl; (exact tL); (exact tR2)) | ((with_reducible apply fLm F); exact rfl; exact rfl; (exact tL); (exact tM2); (exact tR2)) | ((with_reducible apply fA_int F); exact rfl) | ((with_reducible apply fX_rat F); exact rfl; exact rfl) | ((with_reducible apply fS F); exact rfl; exact rfl; exact rfl; (exact tL); (exact tR2); (exact tS2); clear F; intro W F; simp only [z7, z8] at F))
  clear c2
  try simp only [Act.put, z6, z1, z2]
  refine wp_region_slots mixP [16, 17, 18, 19, 20, 21, 22, 23, 24, 25] (fun l mm W => ∃ (s16 s17 s18 s19 s20 s21 s22 s23 s24 s25 : Value) (c_b5 : Array Value), mm = [s16, s17, s18, s19, s20, s21, s22, s23, s24, s25] ∧ (l.getD 0 false = true → s17 = .pointer (some ⟨b3, 0, none⟩)) ∧ (l.getD 1 false = true → s18 = .agg (IC n)) ∧ (l.getD 2 false = true → s19 = .pointer (some ⟨b4, 33, none⟩)) ∧ (l.getD 3 false = true → s20 = .agg (IC e)) ∧ (l.getD 4 false = true → s21 = .agg (IC (n * e))) ∧ (l.getD 5 false = true → s22 = .agg (IC (m * d))) ∧ (l.getD 6 false = true → s23 = .tuple #[.agg (IC (n * e + m * d)), .int .i64 0]) ∧ (l.getD 7 false = true → s16 = .tuple #[.agg (IC (n * e + m * d)), .int .i64 0]) ∧ (l.getD 8 false = true → s24 = .agg (IC (n * e + m * d))) ∧ (l.getD 9 false = true → s25 = .int .i64 0) ∧ (l.getD 10 false = true → c_b5 = IC (n * e + m * d)) ∧ c_b5.size = (IC (n * e + m * d)).size ∧ Fr w W [(b7, IC (m * d), 29), (b6, intC false 0, 29), (b5, c_b5, 29), (b4, RC m e, 31), (b3, RC n d, 31)]) (by kernel_rfl) rfl ?_ ?_ ?_
  · exact ⟨_, _, _, _, _, _, _, _, _, _, (intC false 0), rfl, nf, nf, nf, nf, nf, nf, nf, nf, nf, nf, nf, by exact tS2, F.drew⟩
  · rintro listed mm W ii hi hsz hoff ⟨s16, s17, s18, s19, s20, s21, s22, s23, s24, s25, c_b5, rfl, h0, h1, h2, h3, h4, h5, h6, h7, h8, h9, h10, hz0, HF⟩ hd
    have hc : ii = 0 ∨ ii = 1 ∨ ii = 2 ∨ ii = 3 ∨ ii = 4 ∨ ii = 5 ∨ ii = 6 ∨ ii = 7 ∨ ii = 8 ∨ ii = 9 ∨ ii = 10 := by
      have hi2 : ii < 11 := hi
      omega
    have hsz2 : listed.size = 11 := hsz
    clear hi hsz
    rcases hc with rfl | rfl | rfl | rfl | rfl | rfl | rfl | rfl | rfl | rfl | rfl
    · refine wpOp_want rfl rfl (fun K hK => ?_)
      simp only [putAll, z1, z2, z3, z4, z5]
      refine ⟨?_⟩
      go_simp
      exact hK _ _ ⟨[s16, (.pointer (some ⟨b3, 0, none⟩)), s18, s19, s20, s21, s22, s23, s24, s25], by simp only [putAll, z1, z2], s16, (.pointer (some ⟨b3, 0, none⟩)), s18, s19, s20, s21, s22, s23, s24, s25, c_b5, rfl, fun _ => rfl, lk h1, lk h2, lk h3, lk h4, lk h5, lk h6, lk h7, lk h8, lk h9, lk h10, hz0, HF⟩
    · have d0 := h0 (hd 0 (by kernel_rfl))
      obtain rfl := d0
      refine wpOp_want rfl rfl (fun K hK => ?_)
      simp only [putAll, z1, z2, z3, z4, z5]
      with_reducible apply gLm HF
      · exact rfl
      · (exact tL)
      · exact RC_num _ _
      · (first | (exact tR2))
      go_simp
      exact hK _ _ ⟨[s16, (.pointer (some ⟨b3, 0, none⟩)), (.agg (IC n)), s19, s20, s21, s22, s23, s24, s25], by simp only [putAll, z1, z2], s16, (.pointer (some ⟨b3, 0, none⟩)), (.agg (IC n)), s19, s20, s21, s22, s23, s24, s25, c_b5, rfl, lk h0, fun _ => rfl, lk h2, lk h3, lk h4, lk h5, lk h6, lk h7, lk h8, lk h9, lk h10, hz0, HF⟩
    · refine wpOp_want rfl rfl (fun K hK => ?_)
      simp only [putAll, z1, z2, z3, z4, z5]
      refine ⟨?_⟩
      go_simp
      exact hK _ _ ⟨[s16, s17, s18, (.pointer (some ⟨b4, 33, none⟩)), s20, s21, s22, s23, s24, s25], by simp only [putAll, z1, z2], s16, s17, s18, (.pointer (some ⟨b4, 33, none⟩)), s20, s21, s22, s23, s24, s25, c_b5, rfl, lk h0, lk h1, fun _ => rfl, lk h3, lk h4, lk h5, lk h6, lk h7, lk h8, lk h9, lk h10, hz0, HF⟩
    · have d2 := h2 (hd 2 (by kernel_rfl))
      obtain rfl := d2
      refine wpOp_want rfl rfl (fun K hK => ?_)
      simp only [putAll, z1, z2, z3, z4, z5]
      with_reducible apply gLm HF
      · exact rfl
      · (exact tL)
      · exact RC_den _ _
      · (first | (exact tR2))
      go_simp
      exact hK _ _ ⟨[s16, s17, s18, (.pointer (some ⟨b4, 33, none⟩)), (.agg (IC e)), s21, s22, s23, s24, s25], by simp only [putAll, z1, z2], s16, s17, s18, (.pointer (some ⟨b4, 33, none⟩)), (.agg (IC e)), s21, s22, s23, s24, s25, c_b5, rfl, lk h0, lk h1, lk h2, fun _ => rfl, lk h4, lk h5, lk h6, lk h7, lk h8, lk h9, lk h10, hz0, HF⟩
    · have d1 := h1 (hd 1 (by kernel_rfl))
      have d3 := h3 (hd 3 (by kernel_rfl))
      obtain rfl := d1
      obtain rfl := d3
      refine wpOp_want rfl rfl (fun K hK => ?_)
      simp only [putAll, z1, z2, z3, z4, z5]
      refine ⟨?_⟩
      go_simp
      with_reducible refine fr_call HF (g2 _) ?_
      clear HF
      intro W HF
      (try dsimp only)
      exact hK _ _ ⟨[s16, s17, (.agg (IC n)), s19, (.agg (IC e)), (.agg (IC (n * e))), s22, s23, s24, s25], by simp only [putAll, z1, z2], s16, s17, (.agg (IC n)), s19, (.agg (IC e)), (.agg (IC (n * e))), s22, s23, s24, s25, c_b5, rfl, lk h0, lk h1, lk h2, lk h3, fun _ => rfl, lk h5, lk h6, lk h7, lk h8, lk h9, lk h10, hz0, HF⟩
    · refine wpOp_want rfl rfl (fun K hK => ?_)
      simp only [putAll, z1, z2, z3, z4, z5]
      with_reducible apply gL HF
      · exact rfl
      · (exact tL)
      · (first | (exact tR2))
      go_simp
      exact hK _ _ ⟨[s16, s17, s18, s19, s20, s21, (.agg (IC (m * d))), s23, s24, s25], by simp only [putAll, z1, z2], s16, s17, s18, s19, s20, s21, (.agg (IC (m * d))), s23, s24, s25, c_b5, rfl, lk h0, lk h1, lk h2, lk h3, lk h4, fun _ => rfl, lk h6, lk h7, lk h8, lk h9, lk h10, hz0, HF⟩
    · have d4 := h4 (hd 4 (by kernel_rfl))
      have d5 := h5 (hd 5 (by kernel_rfl))
      obtain rfl := d4
      obtain rfl := d5
      refine wpOp_want rfl rfl (fun K hK => ?_)
      simp only [putAll, z1, z2, z3, z4, z5]
      refine ⟨?_⟩
      go_simp
      with_reducible refine fr_call HF (g3 _) ?_
      clear HF
      intro W HF
      (try dsimp only)
      exact hK _ _ ⟨[s16, s17, s18, s19, s20, (.agg (IC (n * e))), (.agg (IC (m * d))), (.tuple #[.agg (IC (n * e + m * d)), .int .i64 0]), s24, s25], by simp only [putAll, z1, z2], s16, s17, s18, s19, s20, (.agg (IC (n * e))), (.agg (IC (m * d))), (.tuple #[.agg (IC (n * e + m * d)), .int .i64 0]), s24, s25, c_b5, rfl, lk h0, lk h1, lk h2, lk h3, lk h4, lk h5, fun _ => rfl, lk h7, lk h8, lk h9, lk h10, hz0, HF⟩
    · have d6 := h6 (hd 6 (by kernel_rfl))
      obtain rfl := d6
      refine wpOp_want rfl rfl (fun K hK => ?_)
      simp only [putAll, z1, z2, z3, z4, z5]
      refine ⟨?_⟩
      go_simp
      exact hK _ _ ⟨[(.tuple #[.agg (IC (n * e + m * d)), .int .i64 0]), s17, s18, s19, s20, s21, s22, (.tuple #[.agg (IC (n * e + m * d)), .int .i64 0]), s24, s25], by simp only [putAll, z1, z2], (.tuple #[.agg (IC (n * e + m * d)), .int .i64 0]), s17, s18, s19, s20, s21, s22, (.tuple #[.agg (IC (n * e + m * d)), .int .i64 0]), s24, s25, c_b5, rfl, lk h0, lk h1, lk h2, lk h3, lk h4, lk h5, lk h6, fun _ => rfl, lk h8, lk h9, lk h10, hz0, HF⟩
    · have d7 := h7 (hd 7 (by kernel_rfl))
      obtain rfl := d7
      refine wpOp_want rfl rfl (fun K hK => ?_)
      simp only [putAll, z1, z2, z3, z4, z5]
      refine ⟨?_⟩
      go_simp
      exact hK _ _ ⟨[(.tuple #[.agg (IC (n * e + m * d)), .int .i64 0]), s17, s18, s19, s20, s21, s22, s23, (.agg (IC (n * e + m * d))), s25], by simp only [putAll, z1, z2], (.tuple #[.agg (IC (n * e + m * d)), .int .i64 0]), s17, s18, s19, s20, s21, s22, s23, (.agg (IC (n * e + m * d))), s25, c_b5, rfl, lk h0, lk h1, lk h2, lk h3, lk h4, lk h5, lk h6, lk h7, fun _ => rfl, lk h9, lk h10, hz0, HF⟩
    · have d7 := h7 (hd 7 (by kernel_rfl))
      obtain rfl := d7
      refine wpOp_want rfl rfl (fun K hK => ?_)
      simp only [putAll, z1, z2, z3, z4, z5]
      refine ⟨?_⟩
      go_simp
      exact hK _ _ ⟨[(.tuple #[.agg (IC (n * e + m * d)), .int .i64 0]), s17, s18, s19, s20, s21, s22, s23, s24, (.int .i64 0)], by simp only [putAll, z1, z2], (.tuple #[.agg (IC (n * e + m * d)), .int .i64 0]), s17, s18, s19, s20, s21, s22, s23, s24, (.int .i64 0), c_b5, rfl, lk h0, lk h1, lk h2, lk h3, lk h4, lk h5, lk h6, lk h7, lk h8, fun _ => rfl, lk h10, hz0, HF⟩
    · have d8 := h8 (hd 8 (by kernel_rfl))
      obtain rfl := d8
      refine wpOp_want rfl rfl (fun K hK => ?_)
      simp only [putAll, z1, z2, z3, z4, z5]
      with_reducible apply gS HF
      · exact rfl
      · exact rfl
      · (exact tL)
      · (first | (exact tR2))
      · first | exact hz0 | exact tS2
      clear HF
      intro W HF
      simp only [z7, z8] at HF
      go_simp
      exact hK _ _ ⟨[s16, s17, s18, s19, s20, s21, s22, s23, (.agg (IC (n * e + m * d))), s25], by simp only [putAll, z1, z2], s16, s17, s18, s19, s20, s21, s22, s23, (.agg (IC (n * e + m * d))), s25, (IC (n * e + m * d)), rfl, lk h0, lk h1, lk h2, lk h3, lk h4, lk h5, lk h6, lk h7, lk h8, lk h9, fun _ => rfl, rfl, HF⟩
  rintro listed mm W ⟨s16, s17, s18, s19, s20, s21, s22, s23, s24, s25, c_b5, rfl, h0, h1, h2, h3, h4, h5, h6, h7, h8, h9, h10, hz0, HF⟩ hall
  obtain rfl := h0 (hall 0 (by decide))
  obtain rfl := h1 (hall 1 (by decide))
  obtain rfl := h2 (hall 2 (by decide))
  obtain rfl := h3 (hall 3 (by decide))
  obtain rfl := h4 (hall 4 (by decide))
  obtain rfl := h5 (hall 5 (by decide))
  obtain rfl := h6 (hall 6 (by decide))
  obtain rfl := h7 (hall 7 (by decide))
  obtain rfl := h8 (hall 8 (by decide))
  obtain rfl := h9 (hall 9 (by decide))
  rw [h10 (hall 10 (by decide))] at HF
  clear hall h0 h1 h2 h3 h4 h5 h6 h7 h8 h9 h10 hz0 F
  have F := HF
  clear HF
  simp only [putAll, z1, z2]
  go_wp2_with (first | go_skip | ((with_reducible apply fL F); exact rfl; exact rfl; (exact tL); (exact tR2)) | ((with_reducible apply fLm F); exact rfl; exact rfl; (exact tL); (exact tM2); (exact tR2)) | ((with_reducible apply fA_int F); exact rfl) | ((with_reducible apply fX_rat F); exact rfl; exact rfl) | ((with_reducible apply fS F); exact rfl; exact rfl; exact rfl; (exact tL); (exact tR2); (exact tS2); clear F; intro W F; simp only [z7, z8] at F))
  try simp only [Act.put, z6, z1, z2]
  refine wp_region_slots mixP [26, 27, 28, 29, 30, 31] (fun l mm W => ∃ (s26 s27 s28 s29 s30 s31 : Value) (c_b5 c_b6 : Array Value), mm = [s26, s27, s28, s29, s30, s31] ∧ (l.getD 0 false = true → s26 = .agg (IC (n * e + m * d))) ∧ (l.getD 1 false = true → s27 = .pointer (some ⟨b3, 33, none⟩)) ∧ (l.getD 2 false = true → s28 = .agg (IC d)) ∧ (l.getD 3 false = true → s29 = .pointer (some ⟨b4, 33, none⟩)) ∧ (l.getD 4 false = true → s30 = .agg (IC e)) ∧ (l.getD 5 false = true → s31 = .agg (IC (d * e))) ∧ (l.getD 6 false = true → c_b5 = IC (n * e + m * d)) ∧ (l.getD 7 false = true → c_b6 = IC (d * e)) ∧ (l.getD 6 false = false → c_b5 = IC (n * e + m * d)) ∧ (l.getD 6 false = true → l.getD 0 false = true) ∧ c_b5.size = (IC (n * e + m * d)).size ∧ c_b6.size = (IC (d * e)).size ∧ Fr w W [(b7, IC (m * d), 29), (b6, c_b6, 29), (b5, c_b5, 29), (b4, RC m e, 31), (b3, RC n d, 31)]) (by kernel_rfl) rfl ?_ ?_ ?_
  · exact ⟨_, _, _, _, _, _, (IC (n * e + m * d)), (intC false 0), rfl, nf, nf, nf, nf, nf, nf, nf, nf, fun _ => rfl, nf, by exact tS2, by exact tS2, F.drew⟩
  · rintro listed mm W ii hi hsz hoff ⟨s26, s27, s28, s29, s30, s31, c_b5, c_b6, rfl, h0, h1, h2, h3, h4, h5, h6, h7, hO_b5, hW_b5_0, hz0, hz1, HF⟩ hd
    have hc : ii = 0 ∨ ii = 1 ∨ ii = 2 ∨ ii = 3 ∨ ii = 4 ∨ ii = 5 ∨ ii = 6 ∨ ii = 7 := by
      have hi2 : ii < 8 := hi
      omega
    have hsz2 : listed.size = 8 := hsz
    clear hi hsz
    rcases hc with rfl | rfl | rfl | rfl | rfl | rfl | rfl | rfl
    · refine wpOp_want rfl rfl (fun K hK => ?_)
      simp only [putAll, z1, z2, z3, z4, z5]
      have hold := hO_b5 (by cases hx : listed.getD 6 false with | false => rfl | true => exact absurd (hW_b5_0 hx) (by rw [hoff]; decide))
      rw [hold] at HF
      with_reducible apply gL HF
      · exact rfl
      · (exact tL)
      · (first | (exact tR2))
      rw [← hold] at HF
      go_simp
      exact hK _ _ ⟨[(.agg (IC (n * e + m * d))), s27, s28, s29, s30, s31], by simp only [putAll, z1, z2], (.agg (IC (n * e + m * d))), s27, s28, s29, s30, s31, c_b5, c_b6, rfl, fun _ => rfl, lk h1, lk h2, lk h3, lk h4, lk h5, lk h6, lk h7, listed_keepF (by decide) hO_b5, fun _ => getD_on (by omega), hz0, hz1, HF⟩
    · refine wpOp_want rfl rfl (fun K hK => ?_)
      simp only [putAll, z1, z2, z3, z4, z5]
      refine ⟨?_⟩
      go_simp
      exact hK _ _ ⟨[s26, (.pointer (some ⟨b3, 33, none⟩)), s28, s29, s30, s31], by simp only [putAll, z1, z2], s26, (.pointer (some ⟨b3, 33, none⟩)), s28, s29, s30, s31, c_b5, c_b6, rfl, lk h0, fun _ => rfl, lk h2, lk h3, lk h4, lk h5, lk h6, lk h7, listed_keepF (by decide) hO_b5, fun h => by rw [getD_keep (show 1 ≠ 6 by decide)] at h; rw [getD_keep (show 1 ≠ 0 by decide)]; exact hW_b5_0 h, hz0, hz1, HF⟩
    · have d1 := h1 (hd 1 (by kernel_rfl))
      obtain rfl := d1
      refine wpOp_want rfl rfl (fun K hK => ?_)
      simp only [putAll, z1, z2, z3, z4, z5]
      with_reducible apply gLm HF
      · exact rfl
      · (exact tL)
      · exact RC_den _ _
      · (first | (exact tR2))
      go_simp
      exact hK _ _ ⟨[s26, (.pointer (some ⟨b3, 33, none⟩)), (.agg (IC d)), s29, s30, s31], by simp only [putAll, z1, z2], s26, (.pointer (some ⟨b3, 33, none⟩)), (.agg (IC d)), s29, s30, s31, c_b5, c_b6, rfl, lk h0, lk h1, fun _ => rfl, lk h3, lk h4, lk h5, lk h6, lk h7, listed_keepF (by decide) hO_b5, fun h => by rw [getD_keep (show 2 ≠ 6 by decide)] at h; rw [getD_keep (show 2 ≠ 0 by decide)]; exact hW_b5_0 h, hz0, hz1, HF⟩
    · refine wpOp_want rfl rfl (fun K hK => ?_)
      simp only [putAll, z1, z2, z3, z4, z5]
      refine ⟨?_⟩
      go_simp
      exact hK _ _ ⟨[s26, s27, s28, (.pointer (some ⟨b4, 33, none⟩)), s30, s31], by simp only [putAll, z1, z2], s26, s27, s28, (.pointer (some ⟨b4, 33, none⟩)), s30, s31, c_b5, c_b6, rfl, lk h0, lk h1, lk h2, fun _ => rfl, lk h4, lk h5, lk h6, lk h7, listed_keepF (by decide) hO_b5, fun h => by rw [getD_keep (show 3 ≠ 6 by decide)] at h; rw [getD_keep (show 3 ≠ 0 by decide)]; exact hW_b5_0 h, hz0, hz1, HF⟩
    · have d3 := h3 (hd 3 (by kernel_rfl))
      obtain rfl := d3
      refine wpOp_want rfl rfl (fun K hK => ?_)
      simp only [putAll, z1, z2, z3, z4, z5]
      with_reducible apply gLm HF
      · exact rfl
      · (exact tL)
      · exact RC_den _ _
      · (first | (exact tR2))
      go_simp
      exact hK _ _ ⟨[s26, s27, s28, (.pointer (some ⟨b4, 33, none⟩)), (.agg (IC e)), s31], by simp only [putAll, z1, z2], s26, s27, s28, (.pointer (some ⟨b4, 33, none⟩)), (.agg (IC e)), s31, c_b5, c_b6, rfl, lk h0, lk h1, lk h2, lk h3, fun _ => rfl, lk h5, lk h6, lk h7, listed_keepF (by decide) hO_b5, fun h => by rw [getD_keep (show 4 ≠ 6 by decide)] at h; rw [getD_keep (show 4 ≠ 0 by decide)]; exact hW_b5_0 h, hz0, hz1, HF⟩
    · have d2 := h2 (hd 2 (by kernel_rfl))
      have d4 := h4 (hd 4 (by kernel_rfl))
      obtain rfl := d2
      obtain rfl := d4
      refine wpOp_want rfl rfl (fun K hK => ?_)
      simp only [putAll, z1, z2, z3, z4, z5]
      refine ⟨?_⟩
      go_simp
      with_reducible refine fr_call HF (g4 _) ?_
      clear HF
      intro W HF
      (try dsimp only)
      exact hK _ _ ⟨[s26, s27, (.agg (IC d)), s29, (.agg (IC e)), (.agg (IC (d * e)))], by simp only [putAll, z1, z2], s26, s27, (.agg (IC d)), s29, (.agg (IC e)), (.agg (IC (d * e))), c_b5, c_b6, rfl, lk h0, lk h1, lk h2, lk h3, lk h4, fun _ => rfl, lk h6, lk h7, listed_keepF (by decide) hO_b5, fun h => by rw [getD_keep (show 5 ≠ 6 by decide)] at h; rw [getD_keep (show 5 ≠ 0 by decide)]; exact hW_b5_0 h, hz0, hz1, HF⟩
    · have d0 := h0 (hd 0 (by kernel_rfl))
      obtain rfl := d0
      refine wpOp_want rfl rfl (fun K hK => ?_)
      simp only [putAll, z1, z2, z3, z4, z5]
      with_reducible apply gS HF
      · exact rfl
      · exact rfl
      · (exact tL)
      · (first | (exact tR2))
      · first | exact hz0 | exact tS2
      clear HF
      intro W HF
      simp only [z7, z8] at HF
      go_simp
      exact hK _ _ ⟨[(.agg (IC (n * e + m * d))), s27, s28, s29, s30, s31], by simp only [putAll, z1, z2], (.agg (IC (n * e + m * d))), s27, s28, s29, s30, s31, (IC (n * e + m * d)), c_b6, rfl, lk h0, lk h1, lk h2, lk h3, lk h4, lk h5, fun _ => rfl, lk h7, fun h => absurd h (by rw [getD_on (show 6 < listed.size by omega)]; decide), fun _ => by rw [getD_keep (show 6 ≠ 0 by decide)]; exact hd 0 (by kernel_rfl), rfl, hz1, HF⟩
    · have d5 := h5 (hd 5 (by kernel_rfl))
      obtain rfl := d5
      refine wpOp_want rfl rfl (fun K hK => ?_)
      simp only [putAll, z1, z2, z3, z4, z5]
      with_reducible apply gS HF
      · exact rfl
      · exact rfl
      · (exact tL)
      · (first | (exact tR2))
      · first | exact hz1 | exact tS2
      clear HF
      intro W HF
      simp only [z7, z8] at HF
      go_simp
      exact hK _ _ ⟨[s26, s27, s28, s29, s30, (.agg (IC (d * e)))], by simp only [putAll, z1, z2], s26, s27, s28, s29, s30, (.agg (IC (d * e))), c_b5, (IC (d * e)), rfl, lk h0, lk h1, lk h2, lk h3, lk h4, lk h5, lk h6, fun _ => rfl, listed_keepF (by decide) hO_b5, fun h => by rw [getD_keep (show 7 ≠ 6 by decide)] at h; rw [getD_keep (show 7 ≠ 0 by decide)]; exact hW_b5_0 h, hz0, rfl, HF⟩
  rintro listed mm W ⟨s26, s27, s28, s29, s30, s31, c_b5, c_b6, rfl, h0, h1, h2, h3, h4, h5, h6, h7, hO_b5, hW_b5_0, hz0, hz1, HF⟩ hall
  obtain rfl := h0 (hall 0 (by decide))
  obtain rfl := h1 (hall 1 (by decide))
  obtain rfl := h2 (hall 2 (by decide))
  obtain rfl := h3 (hall 3 (by decide))
  obtain rfl := h4 (hall 4 (by decide))
  obtain rfl := h5 (hall 5 (by decide))
  rw [h6 (hall 6 (by decide))] at HF
  rw [h7 (hall 7 (by decide))] at HF
  clear hall h0 h1 h2 h3 h4 h5 h6 h7 hO_b5 hW_b5_0 hz0 hz1 F
  have F := HF
  clear HF
  simp only [putAll, z1, z2]
  go_wp2_with (first | go_skip | ((with_reducible apply fL F); exact rfl; exact rfl; (exact tL); (exact tR2)) | ((with_reducible apply fLm F); exact rfl; exact rfl; (exact tL); (exact tM2); (exact tR2)) | ((with_reducible apply fA_int F); exact rfl) | ((with_reducible apply fX_rat F); exact rfl; exact rfl) | ((with_reducible apply fS F); exact rfl; exact rfl; exact rfl; (exact tL); (exact tR2); (exact tS2); clear F; intro W F; simp only [z7, z8] at F))
  exact bodyPost_ret (res_cc rfl rfl rfl (Fr.get F tL) (rowIC _) (Fr.get F tL) (rowIC _)) rfl ⟨rfl, F.below⟩
set_option maxRecDepth 100000 in
theorem calcAdd {x : Bool} {a : Nat} {y : Bool} {b : Nat} {x' : Bool} {a' : Nat} {y' : Bool} {b' : Nat} (ha : a < bp 32) (hb : b < bp 32) (ha' : a' < bp 32) (hb' : b' < bp 32) {k : Nat} {w : World} (hk : BlkAt w k #[.bool false] 4) {r : Int × Int × Int}
    (hr : (if okR x a y b ∧ okR x' a' y' b' then mkR (sZ x a * sZ y' b' + sZ x' a' * sZ y b) (sZ y b * sZ y' b') else (0, 0, 20)) = r) : Calls Tryz.prog 106 #[.agg (ratC x a y b), .agg (ratC x' a' y' b'), .func (.func 153) #[] #[.pointer (some ⟨k, 0, none⟩)]] w (RetB (.tuple #[.agg (RC r.1 r.2.1), .int .i64 r.2.2]) w) := by
  have F := Fr.start w
  obtain ⟨f, hf⟩ : ∃ f, decide (okR x a y b) = f := ⟨_, rfl⟩
  obtain ⟨f', hf'⟩ : ∃ f, decide (okR x' a' y' b') = f := ⟨_, rfl⟩
  have g1 := fun w => valid_any ha hb hf w
  have g2 := fun w => valid_any ha' hb' hf' w
  have HR := Lib.hid hr
  clear hr ha hb ha' hb'
  go_enter Tryz.func106, Tryz.ntmps106
  go_wp2_with (first | go_skip | ((with_reducible apply fL F); exact rfl; exact rfl; (exact tL); (exact tR2)) | ((with_reducible apply fA_rat F); exact rfl) | ((with_reducible apply fX_rat F); exact rfl; exact rfl) | ((with_reducible apply fS F); exact rfl; exact rfl; exact rfl; (exact tL); (exact tR2); (exact tS2); clear F; intro W F; simp only [z7, z8] at F) | ((with_reducible apply fB_rat0); exact rfl))
  (clear F; intro b3 W F; try simp only [Act.put, z6, z1, z2])
  go_wp2_with (first | go_skip | ((with_reducible apply fL F); exact rfl; exact rfl; (exact tL); (exact tR2)) | ((with_reducible apply fA_rat F); exact rfl) | ((with_reducible apply fX_rat F); exact rfl; exact rfl) | ((with_reducible apply fS F); exact rfl; exact rfl; exact rfl; (exact tL); (exact tR2); (exact tS2); clear F; intro W F; simp only [z7, z8] at F) | ((with_reducible apply fB_rat0); exact rfl))
  (clear F; intro b4 W F; try simp only [Act.put, z6, z1, z2])
  go_wp2_with (first | go_skip | ((with_reducible apply fL F); exact rfl; exact rfl; (exact tL); (exact tR2)) | ((with_reducible apply fA_rat F); exact rfl) | ((with_reducible apply fX_rat F); exact rfl; exact rfl) | ((with_reducible apply fS F); exact rfl; exact rfl; exact rfl; (exact tL); (exact tR2); (exact tS2); clear F; intro W F; simp only [z7, z8] at F) | ((with_reducible apply fB_rat0); exact rfl))
  (clear F; intro b6 W F; try simp only [Act.put, z6, z1, z2])
  cases f
  · have hr := HR.out
    rw [if_neg (fun h => of_decide_eq_false hf h.1)] at hr
    subst hr
    clear HR hf hf'
    go_wp2_with (first | go_skip | ((go_at_call 93); (with_reducible refine fr_call F (g1 _) ?_); (clear F; intro W F); (try dsimp only)) | ((with_reducible apply fL F); exact rfl; exact rfl; (exact tL); (exact tR2)) | ((with_reducible apply fA_rat F); exact rfl) | ((with_reducible apply fX_rat F); exact rfl; exact rfl) | ((with_reducible apply fS F); exact rfl; exact rfl; exact rfl; (exact tL); (exact tR2); (exact tS2); clear F; intro W F; simp only [z7, z8] at F) | ((with_reducible apply fB_rat0); exact rfl))
    exact bodyPost_ret (res_cs rfl rfl rfl (Fr.get F tL) (rowRC _ _)) rfl ⟨rfl, F.below⟩
  cases f'
  · have hr := HR.out
    rw [if_neg (fun h => of_decide_eq_false hf' h.2)] at hr
    subst hr
    clear HR hf hf'
    go_wp2_with (first | go_skip | ((go_at_call 93); (with_reducible refine fr_call F (g1 _) ?_); (clear F; intro W F); (try dsimp only)) | ((go_at_call 93); (with_reducible refine fr_call F (g2 _) ?_); (clear F; intro W F); (try dsimp only)) | ((with_reducible apply fL F); exact rfl; exact rfl; (exact tL); (exact tR2)) | ((with_reducible apply fA_rat F); exact rfl) | ((with_reducible apply fX_rat F); exact rfl; exact rfl) | ((with_reducible apply fS F); exact rfl; exact rfl; exact rfl; (exact tL); (exact tR2); (exact tS2); clear F; intro W F; simp only [z7, z8] at F) | ((with_reducible apply fB_rat0); exact rfl))
    exact bodyPost_ret (res_cs rfl rfl rfl (Fr.get F tL) (rowRC _ _)) rfl ⟨rfl, F.below⟩
  have o1 := of_decide_eq_true hf
  have o2 := of_decide_eq_true hf'
  have hr := HR.out
  rw [if_pos ⟨o1, o2⟩] at hr
  obtain ⟨n, d, he1, h1, h2, hd1⟩ := okR_ints o1
  obtain ⟨m, e, he2, h3, h4, hd2⟩ := okR_ints o2
  rw [he1.2.1, he1.2.2, he2.2.1, he2.2.2] at hr
  have g3 := fun {W : World} {L : List Ent} (F : Fr w W L) => addF h1 h2 h3 h4 (hk.under F.below hk.lt)
  rw [← he1.1, ← he2.1] at g3
  have g4 := fun w => makeZ (n := n * e + m * d) (d := d * e) (b31 (b30' h1 h4) (b30' h3 h2)) (b30 h2 h4) hr w
  clear HR hf hf' hr o1 o2 he1 he2 h1 h2 h3 h4 hd1 hd2
  go_wp2_with (first | go_skip | ((go_at_call 93); (with_reducible refine fr_call F (g1 _) ?_); (clear F; intro W F); (try dsimp only)) | ((go_at_call 93); (with_reducible refine fr_call F (g2 _) ?_); (clear F; intro W F); (try dsimp only)) | ((go_at_call 153); (with_reducible refine fr_call F (g3 F) ?_); (clear F; intro W F); (try dsimp only)) | ((go_at_call 82); (with_reducible refine fr_call F (g4 _) ?_); (clear F; intro W F); (try dsimp only)) | ((with_reducible apply fL F); exact rfl; exact rfl; (exact tL); (exact tR2)) | ((with_reducible apply fA_rat F); exact rfl) | ((with_reducible apply fX_rat F); exact rfl; exact rfl) | ((with_reducible apply fS F); exact rfl; exact rfl; exact rfl; (exact tL); (exact tR2); (exact tS2); clear F; intro W F; simp only [z7, z8] at F) | ((with_reducible apply fB_rat0); exact rfl))
  exact bodyPost_ret (res_cs rfl rfl rfl (Fr.get F tL) (rowRC _ _)) rfl ⟨rfl, F.below⟩
set_option maxRecDepth 100000 in
theorem addR {x : Bool} {a : Nat} {y : Bool} {b : Nat} {x' : Bool} {a' : Nat} {y' : Bool} {b' : Nat} (ha : a < bp 32) (hb : b < bp 32) (ha' : a' < bp 32) (hb' : b' < bp 32) (w : World) {r : Int × Int × Int}
    (hr : (if okR x a y b ∧ okR x' a' y' b' then mkR (sZ x a * sZ y' b' + sZ x' a' * sZ y b) (sZ y b * sZ y' b') else (0, 0, 20)) = r) : Calls Tryz.prog 61 #[.agg (ratC x a y b), .agg (ratC x' a' y' b')] w (RetB (.tuple #[.agg (RC r.1 r.2.1), .int .i64 r.2.2]) w) := by
  have F := Fr.start w
  have g1 := fun {W : World} {k : Nat} (hk : BlkAt W k #[.bool false] 4) => calcAdd ha hb ha' hb' hk hr
  clear hr
  go_enter Tryz.func61, Tryz.ntmps61
  go_wp2_with (first | go_skip | ((with_reducible apply fL F); exact rfl; exact rfl; (exact tL); (exact tR2)) | ((with_reducible apply fA_rat F); exact rfl) | ((with_reducible apply fX_rat F); exact rfl; exact rfl) | ((with_reducible apply fS F); exact rfl; exact rfl; exact rfl; (exact tL); (exact tR2); (exact tS2); clear F; intro W F; simp only [z7, z8] at F))
  (clear F; intro b2 W F; try simp only [Act.put, z6, z1, z2])
  go_wp2_with (first | go_skip | ((with_reducible apply fL F); exact rfl; exact rfl; (exact tL); (exact tR2)) | ((with_reducible apply fA_rat F); exact rfl) | ((with_reducible apply fX_rat F); exact rfl; exact rfl) | ((with_reducible apply fS F); exact rfl; exact rfl; exact rfl; (exact tL); (exact tR2); (exact tS2); clear F; intro W F; simp only [z7, z8] at F))
  (clear F; intro b3 W F; try simp only [Act.put, z6, z1, z2])
  go_wp2_with (first | go_skip | ((with_reducible apply fL F); exact rfl; exact rfl; (exact tL); (exact tR2)) | ((with_reducible apply fA_rat F); exact rfl) | ((with_reducible apply fX_rat F); exact rfl; exact rfl) | ((with_reducible apply fS F); exact rfl; exact rfl; exact rfl; (exact tL); (exact tR2); (exact tS2); clear F; intro W F; simp only [z7, z8] at F))
  (clear F; intro b4 W F; try simp only [Act.put, z6, z1, z2])
  go_wp2_with (first | go_skip | ((with_reducible apply fL F); exact rfl; exact rfl; (exact tL); (exact tR2)) | ((with_reducible apply fA_rat F); exact rfl) | ((with_reducible apply fX_rat F); exact rfl; exact rfl) | ((with_reducible apply fS F); exact rfl; exact rfl; exact rfl; (exact tL); (exact tR2); (exact tS2); clear F; intro W F; simp only [z7, z8] at F))
  try simp only [Act.put, z6, z1, z2]
  refine wp_region_slots mixP [5, 6, 7, 8, 9, 10, 11] (fun l mm W => ∃ (s5 s6 s7 s8 s9 s10 s11 : Value) (c_b4 : Array Value) (bk : Nat), mm = [s5, s6, s7, s8, s9, s10, s11] ∧ (l.getD 0 false = true → s6 = .agg (ratC x a y b)) ∧ (l.getD 1 false = true → s7 = .agg (ratC x' a' y' b')) ∧ (l.getD 2 false = true → s8 = .func (.func 153) #[] #[.pointer (some ⟨bk, 0, none⟩)]) ∧ (l.getD 3 false = true → s9 = .tuple #[.agg (RC r.1 r.2.1), .int .i64 r.2.2]) ∧ (l.getD 4 false = true → s10 = .agg (RC r.1 r.2.1)) ∧ (l.getD 5 false = true → s11 = .int .i64 r.2.2) ∧ (l.getD 6 false = true → c_b4 = RC r.1 r.2.1) ∧ (l.getD 7 false = true → s5 = .int .i64 r.2.2) ∧ c_b4.size = (RC r.1 r.2.1).size ∧ Fr w W ((b4, c_b4, 31) :: (b3, ratC x' a' y' b', 31) :: (b2, ratC x a y b, 31) :: (onl (l.getD 2 false) (bk, #[.bool false], 4)))) (by kernel_rfl) rfl ?_ ?_ ?_
  · exact ⟨_, _, _, _, _, _, _, (RC 0 0), 0, rfl, nf, nf, nf, nf, nf, nf, nf, nf, by exact tS2, F.drew⟩
  · rintro listed mm W ii hi hsz hoff ⟨s5, s6, s7, s8, s9, s10, s11, c_b4, bk, rfl, h0, h1, h2, h3, h4, h5, h6, h7, hz0, HF⟩ hd
    have hc : ii = 0 ∨ ii = 1 ∨ ii = 2 ∨ ii = 3 ∨ ii = 4 ∨ ii = 5 ∨ ii = 6 ∨ ii = 7 := by
      have hi2 : ii < 8 := hi
      omega
    have hsz2 : listed.size = 8 := hsz
    clear hi hsz
    rcases hc with rfl | rfl | rfl | rfl | rfl | rfl | rfl | rfl
    · refine wpOp_want rfl rfl (fun K hK => ?_)
      simp only [putAll, z1, z2, z3, z4, z5]
      with_reducible apply gL HF
      · exact rfl
      · (exact tL)
      · (first | (exact tR2))
      go_simp
      exact hK _ _ ⟨[s5, (.agg (ratC x a y b)), s7, s8, s9, s10, s11], by simp only [putAll, z1, z2], s5, (.agg (ratC x a y b)), s7, s8, s9, s10, s11, c_b4, bk, rfl, fun _ => rfl, lk h1, lk h2, lk h3, lk h4, lk h5, lk h6, lk h7, hz0, by rw [getD_keep (show 0 ≠ 2 by decide)]; exact HF⟩
    · refine wpOp_want rfl rfl (fun K hK => ?_)
      simp only [putAll, z1, z2, z3, z4, z5]
      with_reducible apply gL HF
      · exact rfl
      · (exact tL)
      · (first | (exact tR2))
      go_simp
      exact hK _ _ ⟨[s5, s6, (.agg (ratC x' a' y' b')), s8, s9, s10, s11], by simp only [putAll, z1, z2], s5, s6, (.agg (ratC x' a' y' b')), s8, s9, s10, s11, c_b4, bk, rfl, lk h0, fun _ => rfl, lk h2, lk h3, lk h4, lk h5, lk h6, lk h7, hz0, by rw [getD_keep (show 1 ≠ 2 by decide)]; exact HF⟩
    · refine wpOp_want rfl rfl (fun K hK => ?_)
      simp only [putAll, z1, z2, z3, z4, z5]
      rw [show listed.getD 2 false = false from hoff] at HF
      refine ⟨?_⟩
      go_simp
      refine (combine_any false _).mono ?_
      rintro e W2 ⟨bN, rfl, hb1, hb2, hb3⟩
      replace HF := Fr.push HF hb1 hb2 hb3
      (try dsimp only)
      exact hK _ _ ⟨[s5, s6, s7, (.func (.func 153) #[] #[.pointer (some ⟨bN, 0, none⟩)]), s9, s10, s11], by simp only [putAll, z1, z2], s5, s6, s7, (.func (.func 153) #[] #[.pointer (some ⟨bN, 0, none⟩)]), s9, s10, s11, c_b4, bN, rfl, lk h0, lk h1, fun _ => rfl, lk h3, lk h4, lk h5, lk h6, lk h7, hz0, by rw [getD_on (show 2 < listed.size by omega)]; exact Fr.mid (A := [(b4, c_b4, 31), (b3, ratC x' a' y' b', 31), (b2, ratC x a y b, 31)]) HF⟩
    · have d0 := h0 (hd 0 (by kernel_rfl))
      have d1 := h1 (hd 1 (by kernel_rfl))
      have d2 := h2 (hd 2 (by kernel_rfl))
      obtain rfl := d0
      obtain rfl := d1
      obtain rfl := d2
      refine wpOp_want rfl rfl (fun K hK => ?_)
      simp only [putAll, z1, z2, z3, z4, z5]
      have hbk : BlkAt W bk #[.bool false] 4 := Fr.get (by have h := HF; rw [hd 2 (by kernel_rfl)] at h; exact h) (by repeat (first | exact Lies.here | apply Lies.tl))
      refine ⟨?_⟩
      go_simp
      with_reducible refine fr_call HF (g1 hbk) ?_
      clear HF
      intro W HF
      (try dsimp only)
      exact hK _ _ ⟨[s5, (.agg (ratC x a y b)), (.agg (ratC x' a' y' b')), (.func (.func 153) #[] #[.pointer (some ⟨bk, 0, none⟩)]), (.tuple #[.agg (RC r.1 r.2.1), .int .i64 r.2.2]), s10, s11], by simp only [putAll, z1, z2], s5, (.agg (ratC x a y b)), (.agg (ratC x' a' y' b')), (.func (.func 153) #[] #[.pointer (some ⟨bk, 0, none⟩)]), (.tuple #[.agg (RC r.1 r.2.1), .int .i64 r.2.2]), s10, s11, c_b4, bk, rfl, lk h0, lk h1, lk h2, fun _ => rfl, lk h4, lk h5, lk h6, lk h7, hz0, by rw [getD_keep (show 3 ≠ 2 by decide)]; exact HF⟩
    · have d3 := h3 (hd 3 (by kernel_rfl))
      obtain rfl := d3
      refine wpOp_want rfl rfl (fun K hK => ?_)
      simp only [putAll, z1, z2, z3, z4, z5]
      refine ⟨?_⟩
      go_simp
      exact hK _ _ ⟨[s5, s6, s7, s8, (.tuple #[.agg (RC r.1 r.2.1), .int .i64 r.2.2]), (.agg (RC r.1 r.2.1)), s11], by simp only [putAll, z1, z2], s5, s6, s7, s8, (.tuple #[.agg (RC r.1 r.2.1), .int .i64 r.2.2]), (.agg (RC r.1 r.2.1)), s11, c_b4, bk, rfl, lk h0, lk h1, lk h2, lk h3, fun _ => rfl, lk h5, lk h6, lk h7, hz0, by rw [getD_keep (show 4 ≠ 2 by decide)]; exact HF⟩
    · have d3 := h3 (hd 3 (by kernel_rfl))
      obtain rfl := d3
      refine wpOp_want rfl rfl (fun K hK => ?_)
      simp only [putAll, z1, z2, z3, z4, z5]
      refine ⟨?_⟩
      go_simp
      exact hK _ _ ⟨[s5, s6, s7, s8, (.tuple #[.agg (RC r.1 r.2.1), .int .i64 r.2.2]), s10, (.int .i64 r.2.2)], by simp only [putAll, z1, z2], s5, s6, s7, s8, (.tuple #[.agg (RC r.1 r.2.1), .int .i64 r.2.2]), s10, (.int .i64 r.2.2), c_b4, bk, rfl, lk h0, lk h1, lk h2, lk h3, lk h4, fun _ => rfl, lk h6, lk h7, hz0, by rw [getD_keep (show 5 ≠ 2 by decide)]; exact HF⟩
    · have d4 := h4 (hd 4 (by kernel_rfl))
      obtain rfl := d4
      refine wpOp_want rfl rfl (fun K hK => ?_)
      simp only [putAll, z1, z2, z3, z4, z5]
      with_reducible apply gS HF
      · exact rfl
      · exact rfl
      · (exact tL)
      · (first | (exact tR2))
      · first | exact hz0 | exact tS2
      clear HF
      intro W HF
      simp only [z7, z8] at HF
      go_simp
      exact hK _ _ ⟨[s5, s6, s7, s8, s9, (.agg (RC r.1 r.2.1)), s11], by simp only [putAll, z1, z2], s5, s6, s7, s8, s9, (.agg (RC r.1 r.2.1)), s11, (RC r.1 r.2.1), bk, rfl, lk h0, lk h1, lk h2, lk h3, lk h4, lk h5, fun _ => rfl, lk h7, rfl, by rw [getD_keep (show 6 ≠ 2 by decide)]; exact HF⟩
    · have d5 := h5 (hd 5 (by kernel_rfl))
      obtain rfl := d5
      refine wpOp_want rfl rfl (fun K hK => ?_)
      simp only [putAll, z1, z2, z3, z4, z5]
      refine ⟨?_⟩
      go_simp
      exact hK _ _ ⟨[(.int .i64 r.2.2), s6, s7, s8, s9, s10, (.int .i64 r.2.2)], by simp only [putAll, z1, z2], (.int .i64 r.2.2), s6, s7, s8, s9, s10, (.int .i64 r.2.2), c_b4, bk, rfl, lk h0, lk h1, lk h2, lk h3, lk h4, lk h5, lk h6, fun _ => rfl, hz0, by rw [getD_keep (show 7 ≠ 2 by decide)]; exact HF⟩
  rintro listed mm W ⟨s5, s6, s7, s8, s9, s10, s11, c_b4, bk, rfl, h0, h1, h2, h3, h4, h5, h6, h7, hz0, HF⟩ hall
  rw [hall 2 (by decide)] at HF
  simp only [onl, if_true, z7, z8] at HF
  obtain rfl := h0 (hall 0 (by decide))
  obtain rfl := h1 (hall 1 (by decide))
  obtain rfl := h2 (hall 2 (by decide))
  obtain rfl := h3 (hall 3 (by decide))
  obtain rfl := h4 (hall 4 (by decide))
  obtain rfl := h5 (hall 5 (by decide))
  rw [h6 (hall 6 (by decide))] at HF
  obtain rfl := h7 (hall 7 (by decide))
  clear hall h0 h1 h2 h3 h4 h5 h6 h7 hz0 F
  have F := HF
  clear HF
  simp only [putAll, z1, z2]
  go_wp2_with (first | go_skip | ((with_reducible apply fL F); exact rfl; exact rfl; (exact tL); (exact tR2)) | ((with_reducible apply fA_rat F); exact rfl) | ((with_reducible apply fX_rat F); exact rfl; exact rfl) | ((with_reducible apply fS F); exact rfl; exact rfl; exact rfl; (exact tL); (exact tR2); (exact tS2); clear F; intro W F; simp only [z7, z8] at F))
  exact bodyPost_ret (res_cs rfl rfl rfl (Fr.get F tL) (rowRC _ _)) rfl ⟨rfl, F.below⟩
end
section
open Go.RowKit
set_option maxHeartbeats 2000000
theorem ten_le {n : Nat} (h : n ≤ 9) : 10 ^ n ≤ 1000000000 := by
  have : 10 ^ n ≤ 10 ^ 9 := Nat.pow_le_pow_right (by decide) h
  omega
set_option maxRecDepth 100000 in
theorem power_any {n : Nat} (hn : n ≤ 9) (w : World) : Calls Tryz.prog 60 #[.int .i64 n] w (RetB (.int .i64 (10 ^ n : Nat)) w) := by
  go_enter Tryz.func60, Tryz.ntmps60
  go_wp2_with fail
  go_loopw [3, 5] (fun pv iv wr => ∃ i p : Nat, i ≤ n ∧ p = 10 ^ i ∧ pv = .int .i64 p ∧ iv = .int .i64 i ∧ Below w.heap.size w wr) (fun _ iv _ => n - (intOf iv).toNat)
  case atStart => exact ⟨0, 1, by omega, rfl, rfl, rfl, Below.refl _ _⟩
  case round =>
    obtain ⟨i, p, hi, hp, rfl, rfl, hb⟩ := hrel
    have HB := Lib.hid hb
    clear hb
    by_cases hin : i < n
    · have hp1 : p ≤ 1000000000 := by rw [hp]; exact ten_le (by omega)
      obtain ⟨q, hq⟩ : ∃ q, p * 10 = q := ⟨_, rfl⟩
      have HP := Lib.hid (show q = 10 ^ (i + 1) from by rw [← hq, hp, Nat.pow_succ])
      have m1 : IntKind.i64.wrap ((p : Int) * 10) = (q : Int) := by
        rw [show (p : Int) * 10 = (q : Int) by omega]
        exact IntWalk.i64_in _ (by omega)
      clear hp hq
      go_wp2_with fail
      go_roundw
      case rel => exact ⟨i + 1, q, by omega, HP.out, rfl, by go_num, HB.out⟩
      case measure => simp [intOf]; omega
    · obtain rfl : n = i := by omega
      have HP := Lib.hid hp
      clear hp
      go_wp2_with fail
      go_ret
      exact ⟨by rw [HP.out]; rfl, HB.out⟩
def chkE (v : Prop) [Decidable v] (p : Int) : Int := if ¬ v then 20 else if p < 0 ∨ 9 < p then 30 else 0
set_option maxRecDepth 100000 in
theorem check_any {x : Bool} {a : Nat} {y : Bool} {b : Nat} (ha : a < bp 32) (hb : b < bp 32) {p e : Int} (he : chkE (okR x a y b) p = e) (w : World) : Calls Tryz.prog 68 #[.agg (ratC x a y b), .int .i64 p] w (RetB (.int .i64 e) w) := by
  have F := Fr.start w
  obtain ⟨f, hf⟩ : ∃ f, decide (okR x a y b) = f := ⟨_, rfl⟩
  have g1 := fun w => valid_any ha hb hf w
  unfold chkE at he
  have HE := Lib.hid he
  clear he ha hb
  go_enter Tryz.func68, Tryz.ntmps68
  go_wp2_with (first | go_skip | ((with_reducible apply fL F); exact rfl; exact rfl; (exact tL); (exact tR2)) | ((with_reducible apply fX_rat F); exact rfl; exact rfl))
  (clear F; intro b2 W F; try simp only [Act.put, z6, z1, z2])
  cases f
  · have he := HE.out
    rw [if_pos (of_decide_eq_false hf)] at he
    subst he
    clear HE hf
    go_wp2_with (first | go_skip | ((go_at_call 93); (with_reducible refine fr_call F (g1 _) ?_); (clear F; intro W F); (try dsimp only)) | ((with_reducible apply fL F); exact rfl; exact rfl; (exact tL); (exact tR2)) | ((with_reducible apply fX_rat F); exact rfl; exact rfl))
    go_ret
    exact ⟨rfl, F.below⟩
  have he := HE.out
  rw [if_neg (by rw [Classical.not_not]; exact of_decide_eq_true hf)] at he
  clear HE hf
  by_cases h1 : p < 0
  · rw [if_pos (.inl h1)] at he
    subst he
    go_wp2_with (first | go_skip | ((go_at_call 93); (with_reducible refine fr_call F (g1 _) ?_); (clear F; intro W F); (try dsimp only)) | ((with_reducible apply fL F); exact rfl; exact rfl; (exact tL); (exact tR2)) | ((with_reducible apply fX_rat F); exact rfl; exact rfl))
    go_ret
    exact ⟨rfl, F.below⟩
  have d1 : decide (p < 0) = false := decide_eq_false h1
  by_cases h2 : 9 < p
  · rw [if_pos (.inr h2)] at he
    subst he
    clear h1
    go_wp2_with (first | go_skip | ((go_at_call 93); (with_reducible refine fr_call F (g1 _) ?_); (clear F; intro W F); (try dsimp only)) | ((with_reducible apply fL F); exact rfl; exact rfl; (exact tL); (exact tR2)) | ((with_reducible apply fX_rat F); exact rfl; exact rfl))
    go_ret
    exact ⟨rfl, F.below⟩
  · rw [if_neg (by omega)] at he
    subst he
    have d2 : decide (9 < p) = false := decide_eq_false h2
    clear h1 h2
    go_wp2_with (first | go_skip | ((go_at_call 93); (with_reducible refine fr_call F (g1 _) ?_); (clear F; intro W F); (try dsimp only)) | ((with_reducible apply fL F); exact rfl; exact rfl; (exact tL); (exact tR2)) | ((with_reducible apply fX_rat F); exact rfl; exact rfl))
    go_ret
    exact ⟨rfl, F.below⟩
theorem b_ten {n : Int} {p : Nat} (hn : n.natAbs < bp 15) (hp : p ≤ 9) : (n * ((10 ^ p : Nat) : Int)).natAbs < bp 17 := by
  rw [Int.natAbs_mul, Int.natAbs_natCast]
  have h1 := ten_le hp
  have h2 : bp 17 = bp 15 * 4294967296 * 4294967296 := by rw [← bp_succ, ← bp_succ]
  have h3 := Nat.mul_le_mul_left n.natAbs h1
  have h4 := Nat.mul_lt_mul_of_pos_right hn (show 0 < 1000000000 by decide)
  omega
set_option maxRecDepth 100000 in
theorem scaledZ {n d : Int} (hn : n.natAbs < bp 15) (hd : d.natAbs < bp 15) (h0 : d ≠ 0) {p : Nat} (hp : p ≤ 9) (w : World) : Calls Tryz.prog 69 #[.agg (RC n d), .int .i64 p] w (RetB (.tuple #[.agg (IC (n * ((10 ^ p : Nat) : Int) / d)), .agg (IC (n * ((10 ^ p : Nat) : Int) % d))]) w) := by
  have F := Fr.start w
  have hb := b_ten hn hp
  have hb2 : (n * ((10 ^ p : Nat) : Int)).natAbs < bp 32 := Nat.lt_of_lt_of_le hb (bp_le (by decide))
  have ht := ten_le hp
  have g1 := fun w => power_any hp w
  obtain ⟨q, hq⟩ : ∃ q : Nat, 10 ^ p = q := ⟨_, rfl⟩
  rw [hq] at g1 ht hb2
  rw [hq]
  have g2 := fun w => fromZ (n := (q : Int)) (by omega) (by omega) w
  have hq2 : (q : Int).natAbs < bp 32 := Nat.lt_of_lt_of_le (show (q : Int).natAbs < bp 2 by unfold bp; omega) (bp_le (by decide))
  have g3 := fun w => mulZ (b15 hn) hq2 hb2 w
  have g4 := fun w => divmodZ hb2 (b15 hd) h0 w
  obtain ⟨m, hm⟩ : ∃ m, n * (q : Int) = m := ⟨_, rfl⟩
  rw [hm] at g3 g4
  rw [hm]
  obtain ⟨u, hu⟩ : ∃ u, m / d = u := ⟨_, rfl⟩
  obtain ⟨v, hv⟩ : ∃ v, m % d = v := ⟨_, rfl⟩
  rw [hu, hv] at g4
  rw [hu, hv]
  clear hb hb2 ht hq hq2 hm hu hv hn hd h0 hp
  go_enter Tryz.func69, Tryz.ntmps69
  go_wp2_with (first | go_skip | ((with_reducible apply fL F); exact rfl; exact rfl; (exact tL); (exact tR2)) | ((with_reducible apply fLm F); exact rfl; exact rfl; (exact tL); (exact tM2); (exact tR2)) | ((with_reducible apply fA_int F); exact rfl) | ((with_reducible apply fX_rat F); exact rfl; exact rfl) | ((with_reducible apply fS F); exact rfl; exact rfl; exact rfl; (exact tL); (exact tR2); (exact tS2); clear F; intro W F; simp only [z7, z8] at F))
  (clear F; intro b2 W F; try simp only [Act.put, z6, z1, z2])
  go_wp2_with (first | go_skip | ((with_reducible apply fL F); exact rfl; exact rfl; (exact tL); (exact tR2)) | ((with_reducible apply fLm F); exact rfl; exact rfl; (exact tL); (exact tM2); (exact tR2)) | ((with_reducible apply fA_int F); exact rfl) | ((with_reducible apply fX_rat F); exact rfl; exact rfl) | ((with_reducible apply fS F); exact rfl; exact rfl; exact rfl; (exact tL); (exact tR2); (exact tS2); clear F; intro W F; simp only [z7, z8] at F))
  (clear F; intro b4 W F; try simp only [Act.put, z6, z1, z2])
  go_wp2_with (first | go_skip | ((with_reducible apply fL F); exact rfl; exact rfl; (exact tL); (exact tR2)) | ((with_reducible apply fLm F); exact rfl; exact rfl; (exact tL); (exact tM2); (exact tR2)) | ((with_reducible apply fA_int F); exact rfl) | ((with_reducible apply fX_rat F); exact rfl; exact rfl) | ((with_reducible apply fS F); exact rfl; exact rfl; exact rfl; (exact tL); (exact tR2); (exact tS2); clear F; intro W F; simp only [z7, z8] at F))
  (clear F; intro b5 W F; try simp only [Act.put, z6, z1, z2])
  go_wp2_with (first | go_skip | ((with_reducible apply fL F); exact rfl; exact rfl; (exact tL); (exact tR2)) | ((with_reducible apply fLm F); exact rfl; exact rfl; (exact tL); (exact tM2); (exact tR2)) | ((with_reducible apply fA_int F); exact rfl) | ((with_reducible apply fX_rat F); exact rfl; exact rfl) | ((with_reducible apply fS F); exact rfl; exact rfl; exact rfl; (exact tL); (exact tR2); (exact tS2); clear F; intro W F; simp only [z7, z8] at F))
  try simp only [Act.put, z6, z1, z2]
  refine wp_region_slots mixP [6, 7, 8, 9, 10, 11, 12, 13, 14, 15, 16] (fun l mm W => ∃ (s6 s7 s8 s9 s10 s11 s12 s13 s14 s15 s16 : Value) (c_b6 : Array Value) (b6 : Nat), mm = [s6, s7, s8, s9, s10, s11, s12, s13, s14, s15, s16] ∧ (l.getD 0 false = true → s9 = .pointer (some ⟨b2, 0, none⟩)) ∧ (l.getD 1 false = true → s10 = .agg (IC n)) ∧ (l.getD 2 false = true → s11 = .int .i64 (p : Int)) ∧ (l.getD 3 false = true → s12 = .int .i64 (q : Int)) ∧ (l.getD 4 false = true → s13 = .agg (IC (q : Int))) ∧ (l.getD 5 false = true → s14 = .tuple #[.agg (IC m), .int .i64 0]) ∧ (l.getD 6 false = true → s8 = .tuple #[.agg (IC m), .int .i64 0]) ∧ (l.getD 7 false = true → s15 = .agg (IC m)) ∧ (l.getD 8 false = true → s16 = .int .i64 0) ∧ (l.getD 9 false = true → s6 = .pointer (some ⟨b6, 0, none⟩)) ∧ (l.getD 10 false = true → c_b6 = IC m) ∧ (l.getD 11 false = true → s7 = .int .i64 0) ∧ (l.getD 10 false = true → l.getD 9 false = true) ∧ c_b6.size = (IC m).size ∧ Fr w W ((b5, intC false 0, 29) :: (b4, intC false 0, 29) :: (b2, RC n d, 31) :: (onl (l.getD 9 false) (b6, c_b6, 29)))) (by kernel_rfl) rfl ?_ ?_ ?_
  · exact ⟨_, _, _, _, _, _, _, _, _, _, _, (intC false 0), 0, rfl, nf, nf, nf, nf, nf, nf, nf, nf, nf, nf, nf, nf, nf, by exact tS2, F.drew⟩
  · rintro listed mm W ii hi hsz hoff ⟨s6, s7, s8, s9, s10, s11, s12, s13, s14, s15, s16, c_b6, b6, rfl, h0, h1, h2, h3, h4, h5, h6, h7, h8, h9, h10, h11, hN_b6, hz0, HF⟩ hd
    have hc : ii = 0 ∨ ii = 1 ∨ ii = 2 ∨ ii = 3 ∨ ii = 4 ∨ ii = 5 ∨ ii = 6 ∨ ii = 7 ∨ ii = 8 ∨ ii = 9 ∨ ii = 10 ∨ ii = 11 := by
      have hi2 : ii < 12 := hi
      omega
    have hsz2 : listed.size = 12 := hsz
    clear hi hsz
    rcases hc with rfl | rfl | rfl | rfl | rfl | rfl | rfl | rfl | rfl | rfl | rfl | rfl
    · refine wpOp_want rfl rfl (fun K hK => ?_)
      simp only [putAll, z1, z2, z3, z4, z5]
      refine ⟨?_⟩
      go_simp
      exact hK _ _ ⟨[s6, s7, s8, (.pointer (some ⟨b2, 0, none⟩)), s10, s11, s12, s13, s14, s15, s16], by simp only [putAll, z1, z2], s6, s7, s8, (.pointer (some ⟨b2, 0, none⟩)), s10, s11, s12, s13, s14, s15, s16, c_b6, b6, rfl, fun _ => rfl, lk h1, lk h2, lk h3, lk h4, lk h5, lk h6, lk h7, lk h8, lk h9, lk h10, lk h11, fun h => by rw [getD_keep (show 0 ≠ 10 by decide)] at h; rw [getD_keep (show 0 ≠ 9 by decide)]; exact hN_b6 h, hz0, by rw [getD_keep (show 0 ≠ 9 by decide)]; exact HF⟩
    · have d0 := h0 (hd 0 (by kernel_rfl))
      obtain rfl := d0
      refine wpOp_want rfl rfl (fun K hK => ?_)
      simp only [putAll, z1, z2, z3, z4, z5]
      with_reducible apply gLm HF
      · exact rfl
      · (exact tL)
      · exact RC_num _ _
      · (first | (exact tR2))
      go_simp
      exact hK _ _ ⟨[s6, s7, s8, (.pointer (some ⟨b2, 0, none⟩)), (.agg (IC n)), s11, s12, s13, s14, s15, s16], by simp only [putAll, z1, z2], s6, s7, s8, (.pointer (some ⟨b2, 0, none⟩)), (.agg (IC n)), s11, s12, s13, s14, s15, s16, c_b6, b6, rfl, lk h0, fun _ => rfl, lk h2, lk h3, lk h4, lk h5, lk h6, lk h7, lk h8, lk h9, lk h10, lk h11, fun h => by rw [getD_keep (show 1 ≠ 10 by decide)] at h; rw [getD_keep (show 1 ≠ 9 by decide)]; exact hN_b6 h, hz0, by rw [getD_keep (show 1 ≠ 9 by decide)]; exact HF⟩
    · refine wpOp_want rfl rfl (fun K hK => ?_)
      simp only [putAll, z1, z2, z3, z4, z5]
      refine ⟨?_⟩
      go_simp
      exact hK _ _ ⟨[s6, s7, s8, s9, s10, (.int .i64 (p : Int)), s12, s13, s14, s15, s16], by simp only [putAll, z1, z2], s6, s7, s8, s9, s10, (.int .i64 (p : Int)), s12, s13, s14, s15, s16, c_b6, b6, rfl, lk h0, lk h1, fun _ => rfl, lk h3, lk h4, lk h5, lk h6, lk h7, lk h8, lk h9, lk h10, lk h11, fun h => by rw [getD_keep (show 2 ≠ 10 by decide)] at h; rw [getD_keep (show 2 ≠ 9 by decide)]; exact hN_b6 h, hz0, by rw [getD_keep (show 2 ≠ 9 by decide)]; exact HF⟩
    · have d2 := h2 (hd 2 (by kernel_rfl))
      obtain rfl := d2
      refine wpOp_want rfl rfl (fun K hK => ?_)
      simp only [putAll, z1, z2, z3, z4, z5]
      refine ⟨?_⟩
      go_simp
      with_reducible refine fr_call HF (g1 _) ?_
      clear HF
      intro W HF
      (try dsimp only)
      exact hK _ _ ⟨[s6, s7, s8, s9, s10, (.int .i64 (p : Int)), (.int .i64 (q : Int)), s13, s14, s15, s16], by simp only [putAll, z1, z2], s6, s7, s8, s9, s10, (.int .i64 (p : Int)), (.int .i64 (q : Int)), s13, s14, s15, s16, c_b6, b6, rfl, lk h0, lk h1, lk h2, fun _ => rfl, lk h4, lk h5, lk h6, lk h7, lk h8, lk h9, lk h10, lk h11, fun h => by rw [getD_keep (show 3 ≠ 10 by decide)] at h; rw [getD_keep (show 3 ≠ 9 by decide)]; exact hN_b6 h, hz0, by rw [getD_keep (show 3 ≠ 9 by decide)]; exact HF⟩
    · have d3 := h3 (hd 3 (by kernel_rfl))
      obtain rfl := d3
      refine wpOp_want rfl rfl (fun K hK => ?_)
      simp only [putAll, z1, z2, z3, z4, z5]
      refine ⟨?_⟩
      go_simp
      with_reducible refine fr_call HF (g2 _) ?_
      clear HF
      intro W HF
      (try dsimp only)
      exact hK _ _ ⟨[s6, s7, s8, s9, s10, s11, (.int .i64 (q : Int)), (.agg (IC (q : Int))), s14, s15, s16], by simp only [putAll, z1, z2], s6, s7, s8, s9, s10, s11, (.int .i64 (q : Int)), (.agg (IC (q : Int))), s14, s15, s16, c_b6, b6, rfl, lk h0, lk h1, lk h2, lk h3, fun _ => rfl, lk h5, lk h6, lk h7, lk h8, lk h9, lk h10, lk h11, fun h => by rw [getD_keep (show 4 ≠ 10 by decide)] at h; rw [getD_keep (show 4 ≠ 9 by decide)]; exact hN_b6 h, hz0, by rw [getD_keep (show 4 ≠ 9 by decide)]; exact HF⟩
    · have d1 := h1 (hd 1 (by kernel_rfl))
      have d4 := h4 (hd 4 (by kernel_rfl))
      obtain rfl := d1
      obtain rfl := d4
      refine wpOp_want rfl rfl (fun K hK => ?_)
      simp only [putAll, z1, z2, z3, z4, z5]
      refine ⟨?_⟩
      go_simp
      with_reducible refine fr_call HF (g3 _) ?_
      clear HF
      intro W HF
      (try dsimp only)
      exact hK _ _ ⟨[s6, s7, s8, s9, (.agg (IC n)), s11, s12, (.agg (IC (q : Int))), (.tuple #[.agg (IC m), .int .i64 0]), s15, s16], by simp only [putAll, z1, z2], s6, s7, s8, s9, (.agg (IC n)), s11, s12, (.agg (IC (q : Int))), (.tuple #[.agg (IC m), .int .i64 0]), s15, s16, c_b6, b6, rfl, lk h0, lk h1, lk h2, lk h3, lk h4, fun _ => rfl, lk h6, lk h7, lk h8, lk h9, lk h10, lk h11, fun h => by rw [getD_keep (show 5 ≠ 10 by decide)] at h; rw [getD_keep (show 5 ≠ 9 by decide)]; exact hN_b6 h, hz0, by rw [getD_keep (show 5 ≠ 9 by decide)]; exact HF⟩
    · have d5 := h5 (hd 5 (by kernel_rfl))
      obtain rfl := d5
      refine wpOp_want rfl rfl (fun K hK => ?_)
      simp only [putAll, z1, z2, z3, z4, z5]
      refine ⟨?_⟩
      go_simp
      exact hK _ _ ⟨[s6, s7, (.tuple #[.agg (IC m), .int .i64 0]), s9, s10, s11, s12, s13, (.tuple #[.agg (IC m), .int .i64 0]), s15, s16], by simp only [putAll, z1, z2], s6, s7, (.tuple #[.agg (IC m), .int .i64 0]), s9, s10, s11, s12, s13, (.tuple #[.agg (IC m), .int .i64 0]), s15, s16, c_b6, b6, rfl, lk h0, lk h1, lk h2, lk h3, lk h4, lk h5, fun _ => rfl, lk h7, lk h8, lk h9, lk h10, lk h11, fun h => by rw [getD_keep (show 6 ≠ 10 by decide)] at h; rw [getD_keep (show 6 ≠ 9 by decide)]; exact hN_b6 h, hz0, by rw [getD_keep (show 6 ≠ 9 by decide)]; exact HF⟩
    · have d6 := h6 (hd 6 (by kernel_rfl))
      obtain rfl := d6
      refine wpOp_want rfl rfl (fun K hK => ?_)
      simp only [putAll, z1, z2, z3, z4, z5]
      refine ⟨?_⟩
      go_simp
      exact hK _ _ ⟨[s6, s7, (.tuple #[.agg (IC m), .int .i64 0]), s9, s10, s11, s12, s13, s14, (.agg (IC m)), s16], by simp only [putAll, z1, z2], s6, s7, (.tuple #[.agg (IC m), .int .i64 0]), s9, s10, s11, s12, s13, s14, (.agg (IC m)), s16, c_b6, b6, rfl, lk h0, lk h1, lk h2, lk h3, lk h4, lk h5, lk h6, fun _ => rfl, lk h8, lk h9, lk h10, lk h11, fun h => by rw [getD_keep (show 7 ≠ 10 by decide)] at h; rw [getD_keep (show 7 ≠ 9 by decide)]; exact hN_b6 h, hz0, by rw [getD_keep (show 7 ≠ 9 by decide)]; exact HF⟩
    · have d6 := h6 (hd 6 (by kernel_rfl))
      obtain rfl := d6
      refine wpOp_want rfl rfl (fun K hK => ?_)
      simp only [putAll, z1, z2, z3, z4, z5]
      refine ⟨?_⟩
      go_simp
      exact hK _ _ ⟨[s6, s7, (.tuple #[.agg (IC m), .int .i64 0]), s9, s10, s11, s12, s13, s14, s15, (.int .i64 0)], by simp only [putAll, z1, z2], s6, s7, (.tuple #[.agg (IC m), .int .i64 0]), s9, s10, s11, s12, s13, s14, s15, (.int .i64 0), c_b6, b6, rfl, lk h0, lk h1, lk h2, lk h3, lk h4, lk h5, lk h6, lk h7, fun _ => rfl, lk h9, lk h10, lk h11, fun h => by rw [getD_keep (show 8 ≠ 10 by decide)] at h; rw [getD_keep (show 8 ≠ 9 by decide)]; exact hN_b6 h, hz0, by rw [getD_keep (show 8 ≠ 9 by decide)]; exact HF⟩
    · refine wpOp_want rfl rfl (fun K hK => ?_)
      simp only [putAll, z1, z2, z3, z4, z5]
      rw [show listed.getD 9 false = false from hoff] at HF
      skip
      with_reducible apply gA_int HF
      intro bN W HF
      go_simp
      exact hK _ _ ⟨[(.pointer (some ⟨bN, 0, none⟩)), s7, s8, s9, s10, s11, s12, s13, s14, s15, s16], by simp only [putAll, z1, z2], (.pointer (some ⟨bN, 0, none⟩)), s7, s8, s9, s10, s11, s12, s13, s14, s15, s16, (intC false 0), bN, rfl, lk h0, lk h1, lk h2, lk h3, lk h4, lk h5, lk h6, lk h7, lk h8, fun _ => rfl, fun h => absurd (hN_b6 (by rw [getD_keep (show 9 ≠ 10 by decide)] at h; exact h)) (by rw [hoff]; decide), lk h11, fun _ => getD_on (by omega), by exact tS2, by rw [getD_on (show 9 < listed.size by omega)]; exact Fr.mid (A := [(b5, intC false 0, 29), (b4, intC false 0, 29), (b2, RC n d, 31)]) HF⟩
    · have d7 := h7 (hd 7 (by kernel_rfl))
      have d9 := h9 (hd 9 (by kernel_rfl))
      obtain rfl := d7
      obtain rfl := d9
      refine wpOp_want rfl rfl (fun K hK => ?_)
      simp only [putAll, z1, z2, z3, z4, z5]
      rw [hd 9 (by kernel_rfl)] at HF
      simp only [onl, if_true, z7, z8] at HF
      with_reducible apply gS HF
      · exact rfl
      · exact rfl
      · (exact tL)
      · (first | (exact tR2))
      · first | exact hz0 | exact tS2
      clear HF
      intro W HF
      simp only [z7, z8] at HF
      go_simp
      exact hK _ _ ⟨[(.pointer (some ⟨b6, 0, none⟩)), s7, s8, s9, s10, s11, s12, s13, s14, (.agg (IC m)), s16], by simp only [putAll, z1, z2], (.pointer (some ⟨b6, 0, none⟩)), s7, s8, s9, s10, s11, s12, s13, s14, (.agg (IC m)), s16, (IC m), b6, rfl, lk h0, lk h1, lk h2, lk h3, lk h4, lk h5, lk h6, lk h7, lk h8, lk h9, fun _ => rfl, lk h11, fun _ => by rw [getD_keep (show 10 ≠ 9 by decide)]; exact hd 9 (by kernel_rfl), rfl, by rw [getD_keep (show 10 ≠ 9 by decide), hd 9 (by kernel_rfl)]; exact HF⟩
    · have d8 := h8 (hd 8 (by kernel_rfl))
      obtain rfl := d8
      refine wpOp_want rfl rfl (fun K hK => ?_)
      simp only [putAll, z1, z2, z3, z4, z5]
      refine ⟨?_⟩
      go_simp
      exact hK _ _ ⟨[s6, (.int .i64 0), s8, s9, s10, s11, s12, s13, s14, s15, (.int .i64 0)], by simp only [putAll, z1, z2], s6, (.int .i64 0), s8, s9, s10, s11, s12, s13, s14, s15, (.int .i64 0), c_b6, b6, rfl, lk h0, lk h1, lk h2, lk h3, lk h4, lk h5, lk h6, lk h7, lk h8, lk h9, lk h10, fun _ => rfl, fun h => by rw [getD_keep (show 11 ≠ 10 by decide)] at h; rw [getD_keep (show 11 ≠ 9 by decide)]; exact hN_b6 h, hz0, by rw [getD_keep (show 11 ≠ 9 by decide)]; exact HF⟩
  rintro listed mm W ⟨s6, s7, s8, s9, s10, s11, s12, s13, s14, s15, s16, c_b6, b6, rfl, h0, h1, h2, h3, h4, h5, h6, h7, h8, h9, h10, h11, hN_b6, hz0, HF⟩ hall
  rw [hall 9 (by decide)] at HF
  simp only [onl, if_true, z7, z8] at HF
  obtain rfl := h0 (hall 0 (by decide))
  obtain rfl := h1 (hall 1 (by decide))
  obtain rfl := h2 (hall 2 (by decide))
  obtain rfl := h3 (hall 3 (by decide))
  obtain rfl := h4 (hall 4 (by decide))
  obtain rfl := h5 (hall 5 (by decide))
  obtain rfl := h6 (hall 6 (by decide))
  obtain rfl := h7 (hall 7 (by decide))
  obtain rfl := h8 (hall 8 (by decide))
  obtain rfl := h9 (hall 9 (by decide))
  rw [h10 (hall 10 (by decide))] at HF
  obtain rfl := h11 (hall 11 (by decide))
  clear hall h0 h1 h2 h3 h4 h5 h6 h7 h8 h9 h10 h11 hN_b6 hz0 F
  have F := HF
  clear HF
  simp only [putAll, z1, z2]
  go_wp2_with (first | go_skip | ((go_at_call 114); (with_reducible refine fr_call F (g4 _) ?_); (clear F; intro W F); (try dsimp only)) | ((with_reducible apply fL F); exact rfl; exact rfl; (exact tL); (exact tR2)) | ((with_reducible apply fLm F); exact rfl; exact rfl; (exact tL); (exact tM2); (exact tR2)) | ((with_reducible apply fA_int F); exact rfl) | ((with_reducible apply fX_rat F); exact rfl; exact rfl) | ((with_reducible apply fS F); exact rfl; exact rfl; exact rfl; (exact tL); (exact tR2); (exact tS2); clear F; intro W F; simp only [z7, z8] at F))
  try simp only [Act.put, z6, z1, z2]
  refine wp_region_slots mixP [25, 26] (fun l mm W => ∃ (s25 s26 : Value) (c_b4 c_b5 : Array Value), mm = [s25, s26] ∧ (l.getD 0 false = true → s25 = .agg (IC u)) ∧ (l.getD 1 false = true → s26 = .agg (IC v)) ∧ (l.getD 2 false = true → c_b4 = IC u) ∧ (l.getD 3 false = true → c_b5 = IC v) ∧ (l.getD 2 false = false → c_b4 = IC u) ∧ (l.getD 2 false = true → l.getD 0 false = true) ∧ (l.getD 3 false = false → c_b5 = IC v) ∧ (l.getD 3 false = true → l.getD 1 false = true) ∧ c_b4.size = (IC u).size ∧ c_b5.size = (IC v).size ∧ Fr w W [(b5, c_b5, 29), (b4, c_b4, 29), (b2, RC n d, 31), (b6, IC m, 29)]) (by kernel_rfl) rfl ?_ ?_ ?_
  · exact ⟨_, _, (IC u), (IC v), rfl, nf, nf, nf, nf, fun _ => rfl, nf, fun _ => rfl, nf, by exact tS2, by exact tS2, F.drew⟩
  · rintro listed mm W ii hi hsz hoff ⟨s25, s26, c_b4, c_b5, rfl, h0, h1, h2, h3, hO_b4, hW_b4_0, hO_b5, hW_b5_1, hz0, hz1, HF⟩ hd
    have hc : ii = 0 ∨ ii = 1 ∨ ii = 2 ∨ ii = 3 := by
      have hi2 : ii < 4 := hi
      omega
    have hsz2 : listed.size = 4 := hsz
    clear hi hsz
    rcases hc with rfl | rfl | rfl | rfl
    · refine wpOp_want rfl rfl (fun K hK => ?_)
      simp only [putAll, z1, z2, z3, z4, z5]
      have hold := hO_b4 (by cases hx : listed.getD 2 false with | false => rfl | true => exact absurd (hW_b4_0 hx) (by rw [hoff]; decide))
      rw [hold] at HF
      with_reducible apply gL HF
      · exact rfl
      · (exact tL)
      · (first | (exact tR2))
      rw [← hold] at HF
      go_simp
      exact hK _ _ ⟨[(.agg (IC u)), s26], by simp only [putAll, z1, z2], (.agg (IC u)), s26, c_b4, c_b5, rfl, fun _ => rfl, lk h1, lk h2, lk h3, listed_keepF (by decide) hO_b4, fun _ => getD_on (by omega), listed_keepF (by decide) hO_b5, fun h => by rw [getD_keep (show 0 ≠ 3 by decide)] at h; rw [getD_keep (show 0 ≠ 1 by decide)]; exact hW_b5_1 h, hz0, hz1, HF⟩
    · refine wpOp_want rfl rfl (fun K hK => ?_)
      simp only [putAll, z1, z2, z3, z4, z5]
      have hold := hO_b5 (by cases hx : listed.getD 3 false with | false => rfl | true => exact absurd (hW_b5_1 hx) (by rw [hoff]; decide))
      rw [hold] at HF
      with_reducible apply gL HF
      · exact rfl
      · (exact tL)
      · (first | (exact tR2))
      rw [← hold] at HF
      go_simp
      exact hK _ _ ⟨[s25, (.agg (IC v))], by simp only [putAll, z1, z2], s25, (.agg (IC v)), c_b4, c_b5, rfl, lk h0, fun _ => rfl, lk h2, lk h3, listed_keepF (by decide) hO_b4, fun h => by rw [getD_keep (show 1 ≠ 2 by decide)] at h; rw [getD_keep (show 1 ≠ 0 by decide)]; exact hW_b4_0 h, listed_keepF (by decide) hO_b5, fun _ => getD_on (by omega), hz0, hz1, HF⟩
    · have d0 := h0 (hd 0 (by kernel_rfl))
      obtain rfl := d0
      refine wpOp_want rfl rfl (fun K hK => ?_)
      simp only [putAll, z1, z2, z3, z4, z5]
      with_reducible apply gS HF
      · exact rfl
      · exact rfl
      · (exact tL)
      · (first | (exact tR2))
      · first | exact hz0 | exact tS2
      clear HF
      intro W HF
      simp only [z7, z8] at HF
      go_simp
      exact hK _ _ ⟨[(.agg (IC u)), s26], by simp only [putAll, z1, z2], (.agg (IC u)), s26, (IC u), c_b5, rfl, lk h0, lk h1, fun _ => rfl, lk h3, fun h => absurd h (by rw [getD_on (show 2 < listed.size by omega)]; decide), fun _ => by rw [getD_keep (show 2 ≠ 0 by decide)]; exact hd 0 (by kernel_rfl), listed_keepF (by decide) hO_b5, fun h => by rw [getD_keep (show 2 ≠ 3 by decide)] at h; rw [getD_keep (show 2 ≠ 1 by decide)]; exact hW_b5_1 h, rfl, hz1, HF⟩
    · have d1 := h1 (hd 1 (by kernel_rfl))
      obtain rfl := d1
      refine wpOp_want rfl rfl (fun K hK => ?_)
      simp only [putAll, z1, z2, z3, z4, z5]
      with_reducible apply gS HF
      · exact rfl
      · exact rfl
      · (exact tL)
      · (first | (exact tR2))
      · first | exact hz1 | exact tS2
      clear HF
      intro W HF
      simp only [z7, z8] at HF
      go_simp
      exact hK _ _ ⟨[s25, (.agg (IC v))], by simp only [putAll, z1, z2], s25, (.agg (IC v)), c_b4, (IC v), rfl, lk h0, lk h1, lk h2, fun _ => rfl, listed_keepF (by decide) hO_b4, fun h => by rw [getD_keep (show 3 ≠ 2 by decide)] at h; rw [getD_keep (show 3 ≠ 0 by decide)]; exact hW_b4_0 h, fun h => absurd h (by rw [getD_on (show 3 < listed.size by omega)]; decide), fun _ => by rw [getD_keep (show 3 ≠ 1 by decide)]; exact hd 1 (by kernel_rfl), hz0, rfl, HF⟩
  rintro listed mm W ⟨s25, s26, c_b4, c_b5, rfl, h0, h1, h2, h3, hO_b4, hW_b4_0, hO_b5, hW_b5_1, hz0, hz1, HF⟩ hall
  obtain rfl := h0 (hall 0 (by decide))
  obtain rfl := h1 (hall 1 (by decide))
  rw [h2 (hall 2 (by decide))] at HF
  rw [h3 (hall 3 (by decide))] at HF
  clear hall h0 h1 h2 h3 hO_b4 hW_b4_0 hO_b5 hW_b5_1 hz0 hz1 F
  have F := HF
  clear HF
  simp only [putAll, z1, z2]
  go_wp2_with (first | go_skip | ((with_reducible apply fL F); exact rfl; exact rfl; (exact tL); (exact tR2)) | ((with_reducible apply fLm F); exact rfl; exact rfl; (exact tL); (exact tM2); (exact tR2)) | ((with_reducible apply fA_int F); exact rfl) | ((with_reducible apply fX_rat F); exact rfl; exact rfl) | ((with_reducible apply fS F); exact rfl; exact rfl; exact rfl; (exact tL); (exact tR2); (exact tS2); clear F; intro W F; simp only [z7, z8] at F))
  exact bodyPost_ret (res_cc rfl rfl rfl (Fr.get F tL) (rowIC _) (Fr.get F tL) (rowIC _)) rfl ⟨rfl, F.below⟩
end
section
open Go.RowKit
set_option maxHeartbeats 2000000
def btC (z h : Int) (g : Bool) : Array Value := IC z ++ #[.int .i64 h, .bool g]
theorem btC_size (z h : Int) (g : Bool) : (btC z h g).size = 35 := by simp [btC, IC_size]
theorem rowBtT : RowT Tryz.prog 92 35 := ⟨⟨_, Tryz.underlying92, rfl⟩, by kernel_rfl⟩
theorem rowBt (z h : Int) (g : Bool) : RowV Tryz.prog 92 (btC z h g) := ⟨by rw [btC_size]; exact rowBtT, by
  have h1 := (rowIC z).one
  unfold btC
  rw [Array.all_append, h1]
  simp [Value.oneCell']⟩
theorem bt_half (z h : Int) (g : Bool) : (btC z h g)[33]? = some (.int .i64 h) := by
  unfold btC
  rw [Array.getElem?_append_right (by rw [IC_size]; decide), IC_size]
  rfl
theorem bt_neg (z h : Int) (g : Bool) : (btC z h g)[34]? = some (.bool g) := by
  unfold btC
  rw [Array.getElem?_append_right (by rw [IC_size]; decide), IC_size]
  rfl
theorem bt_first (z h : Int) (g : Bool) : (btC z h g)[1]? = some (.int .u32 (lim z.natAbs 0 : Nat)) := by
  unfold btC
  rw [Array.getElem?_append_left (by rw [IC_size]; decide)]
  unfold IC intC
  rw [Array.getElem?_append_right (by simp)]
  simp [limA]
section
variable {o : Oper} {a : Act} {W w : World} {F : List Ent} {K : Act → World → Prop} {Q : Exit → Act → World → Prop} {ops : Array Oper} {rest : List Oper} {cs : Array Value} {x y z' : Operand} {dst : Option Tmp} {ty : TypeId} {pos : String} {af : Array Edge} {gd : Option (Nat × Bool)}
theorem box_bt (ho : o.op = .box 92 x) (hx : a.eval x = .agg cs) : (execOp a.eval o).run Tryz.prog W = .ok (.value (.pointer (some ⟨W.heap.size, 0, none⟩))) (W.alloc (.cells cs 92)) := by
  obtain ⟨dst, op, pos, af, g, z⟩ := o
  subst ho
  unfold execOp
  simp only [hx]
  go_simp
theorem fX_bt (h : Fr w W F) (hw : Region.wanted ⟨dst, .box 92 x, ty, pos, af, gd⟩ (yielded ops a.tmps) = true) (hx : a.eval x = .agg cs) (hk : Hold (∀ b W', Fr w W' ((b, cs, 92) :: F) → wpList Tryz.prog ops Q rest (a.put dst (.pointer (some ⟨b, 0, none⟩))) W')) : wpList Tryz.prog ops Q (⟨dst, .box 92 x, ty, pos, af, gd⟩ :: rest) a W := wplF_alloc h hw (box_bt rfl hx) hk
theorem built_btR (x : Bool) (a : Nat) (h : Int) (g : Bool) : Tryz.prog.built 92 [(0, .agg (intC x a)), (1, .int .i64 h), (2, .bool g)] = some (intC x a ++ #[.int .i64 h, .bool g]) := by kernel_rfl
theorem gB_bt {z h : Int} {g : Bool} (hx : a.eval x = .agg (IC z)) (hy : a.eval y = .int .i64 h) (hz : a.eval z' = .bool g) (hk : K (a.put dst (.agg (btC z h g))) W) : OpW Tryz.prog ⟨dst, .build 92 #[(0, x), (1, y), (2, z')], ty, pos, af, gd⟩ a W K Q :=
  op_build _ _ rfl (by simp only [List.map_toArray, List.map_cons, List.map_nil, hx, hy, hz]; exact built_btR _ _ h g) hk
end
set_option maxRecDepth 100000 in
theorem down_any {z h : Int} {g : Bool} (w : World) : Calls Tryz.prog 119 #[.agg (btC z h g)] w (RetB (.bool (g)) w) := by
  have F := Fr.start w
  go_enter Tryz.func119, Tryz.ntmps119
  go_wp2_with (first | go_skip | ((with_reducible apply fX_bt F); exact rfl; exact rfl) | ((with_reducible apply fL F); exact rfl; exact rfl; (exact tL); (with_reducible exact rowBt _ _ _)))
  (clear F; intro b1 W F; try simp only [Act.put, z6, z1, z2])
  have c2 := (F.get Lies.here).cell (bt_neg z h g)
  go_wp2_with (first | go_skip | ((with_reducible apply fX_bt F); exact rfl; exact rfl) | ((with_reducible apply fL F); exact rfl; exact rfl; (exact tL); (with_reducible exact rowBt _ _ _)))
  go_ret
  exact ⟨rfl, F.below⟩
set_option maxRecDepth 100000 in
theorem up_any {z h : Int} {g : Bool} (w : World) : Calls Tryz.prog 120 #[.agg (btC z h g)] w (RetB (.bool (!g)) w) := by
  have F := Fr.start w
  go_enter Tryz.func120, Tryz.ntmps120
  go_wp2_with (first | go_skip | ((with_reducible apply fX_bt F); exact rfl; exact rfl) | ((with_reducible apply fL F); exact rfl; exact rfl; (exact tL); (with_reducible exact rowBt _ _ _)))
  (clear F; intro b1 W F; try simp only [Act.put, z6, z1, z2])
  have c2 := (F.get Lies.here).cell (bt_neg z h g)
  go_wp2_with (first | go_skip | ((with_reducible apply fX_bt F); exact rfl; exact rfl) | ((with_reducible apply fL F); exact rfl; exact rfl; (exact tL); (with_reducible exact rowBt _ _ _)))
  go_ret
  exact ⟨rfl, F.below⟩
set_option maxRecDepth 100000 in
theorem floor_any {z h : Int} {g : Bool} (w : World) : Calls Tryz.prog 121 #[.agg (btC z h g)] w (RetB (.bool false) w) := by
  have F := Fr.start w
  go_enter Tryz.func121, Tryz.ntmps121
  go_wp2_with (first | go_skip | ((with_reducible apply fX_bt F); exact rfl; exact rfl) | ((with_reducible apply fL F); exact rfl; exact rfl; (exact tL); (with_reducible exact rowBt _ _ _)))
  (clear F; intro b1 W F; try simp only [Act.put, z6, z1, z2])
  go_wp2_with (first | go_skip | ((with_reducible apply fX_bt F); exact rfl; exact rfl) | ((with_reducible apply fL F); exact rfl; exact rfl; (exact tL); (with_reducible exact rowBt _ _ _)))
  go_ret
  exact ⟨rfl, F.below⟩
set_option maxRecDepth 100000 in
theorem ceil_any {z h : Int} {g : Bool} (w : World) : Calls Tryz.prog 122 #[.agg (btC z h g)] w (RetB (.bool true) w) := by
  have F := Fr.start w
  go_enter Tryz.func122, Tryz.ntmps122
  go_wp2_with (first | go_skip | ((with_reducible apply fX_bt F); exact rfl; exact rfl) | ((with_reducible apply fL F); exact rfl; exact rfl; (exact tL); (with_reducible exact rowBt _ _ _)))
  (clear F; intro b1 W F; try simp only [Act.put, z6, z1, z2])
  go_wp2_with (first | go_skip | ((with_reducible apply fX_bt F); exact rfl; exact rfl) | ((with_reducible apply fL F); exact rfl; exact rfl; (exact tL); (with_reducible exact rowBt _ _ _)))
  go_ret
  exact ⟨rfl, F.below⟩
set_option maxRecDepth 100000 in
theorem halfUp_any {z h : Int} {g : Bool} {r : Bool} (hr : (if h = 0 then !g else decide (0 < h)) = r) (w : World) : Calls Tryz.prog 123 #[.agg (btC z h g)] w (RetB (.bool r) w) := by
  have HR := Lib.hid hr
  clear hr
  have F := Fr.start w
  have g1 := fun w => up_any (z := z) (h := h) (g := g) w
  go_enter Tryz.func123, Tryz.ntmps123
  go_wp2_with (first | go_skip | ((with_reducible apply fX_bt F); exact rfl; exact rfl) | ((with_reducible apply fL F); exact rfl; exact rfl; (exact tL); (with_reducible exact rowBt _ _ _)))
  (clear F; intro b1 W F; try simp only [Act.put, z6, z1, z2])
  have c2 := (F.get Lies.here).cell (bt_half z h g)
  by_cases h0 : h = 0
  · have hr := HR.out
    rw [if_pos h0] at hr
    subst h0
    clear HR
    subst hr
    go_wp2_with (first | go_skip | ((go_at_call 120); (with_reducible refine fr_call F (g1 _) ?_); (clear F; intro W F); (try dsimp only)) | ((with_reducible apply fX_bt F); exact rfl; exact rfl) | ((with_reducible apply fL F); exact rfl; exact rfl; (exact tL); (with_reducible exact rowBt _ _ _)))
    go_ret
    exact ⟨rfl, F.below⟩
  · have hr := HR.out
    rw [if_neg h0] at hr
    clear HR
    subst hr
    go_wp2_with (first | go_skip | ((with_reducible apply fX_bt F); exact rfl; exact rfl) | ((with_reducible apply fL F); exact rfl; exact rfl; (exact tL); (with_reducible exact rowBt _ _ _)))
    go_ret
    exact ⟨rfl, F.below⟩
set_option maxRecDepth 100000 in
theorem halfEven_any {z h : Int} {g : Bool} {r : Bool} (hr : (if h = 0 then decide (z % 2 = 1) else decide (0 < h)) = r) (w : World) : Calls Tryz.prog 124 #[.agg (btC z h g)] w (RetB (.bool r) w) := by
  have HR := Lib.hid hr
  clear hr
  have F := Fr.start w
  go_enter Tryz.func124, Tryz.ntmps124
  go_wp2_with (first | go_skip | ((with_reducible apply fX_bt F); exact rfl; exact rfl) | ((with_reducible apply fL F); exact rfl; exact rfl; (exact tL); (with_reducible exact rowBt _ _ _)))
  (clear F; intro b1 W F; try simp only [Act.put, z6, z1, z2])
  have c2 := (F.get Lies.here).cell (bt_half z h g)
  have c1 := (F.get Lies.here).cell (bt_first z h g)
  obtain ⟨l, hl⟩ : ∃ l, lim z.natAbs 0 = l := ⟨_, rfl⟩
  rw [hl] at c1
  have hz : l % 2 = 1 ↔ z % 2 = 1 := by
    rw [← hl]
    unfold lim
    rw [bp_zero, Nat.div_one]
    omega
  have HZ := Lib.hid hz
  clear hz hl
  by_cases h0 : h = 0
  · have hr := HR.out
    rw [if_pos h0] at hr
    subst h0
    clear HR
    subst hr
    go_wp2_with (first | go_skip | ((with_reducible apply fX_bt F); exact rfl; exact rfl) | ((with_reducible apply fL F); exact rfl; exact rfl; (exact tL); (with_reducible exact rowBt _ _ _)))
    go_ret
    have e : ((l : Int) % 2 == 1) = decide (z % 2 = 1) := by
      have h := HZ.out
      rw [Bool.eq_iff_iff, beq_iff_eq, decide_eq_true_eq]
      omega
    exact ⟨ret_bool e, F.below⟩
  · have hr := HR.out
    rw [if_neg h0] at hr
    clear HR
    subst hr
    go_wp2_with (first | go_skip | ((with_reducible apply fX_bt F); exact rfl; exact rfl) | ((with_reducible apply fL F); exact rfl; exact rfl; (exact tL); (with_reducible exact rowBt _ _ _)))
    go_ret
    exact ⟨rfl, F.below⟩
def modeV (m : Int) (cs : Array Value) : Value := if m = 1 then .func (.func 119) #[.agg cs] #[] else if m = 2 then .func (.func 120) #[.agg cs] #[] else if m = 3 then .func (.func 121) #[.agg cs] #[] else if m = 4 then .func (.func 122) #[.agg cs] #[] else if m = 5 then .func (.func 123) #[.agg cs] #[] else if m = 6 then .func (.func 124) #[.agg cs] #[] else .nilFunc
set_option maxRecDepth 100000 in
theorem mode_any {z h : Int} {g : Bool} {m : Int} {v : Value} (hv : modeV m (btC z h g) = v) (w : World) : Calls Tryz.prog 73 #[.agg (btC z h g), .int .i64 m] w (RetB v w) := by
  have F := Fr.start w
  have HV := Lib.hid hv
  clear hv
  go_enter Tryz.func73, Tryz.ntmps73
  go_wp2_with (first | go_skip | ((with_reducible apply fX_bt F); exact rfl; exact rfl) | ((with_reducible apply fL F); exact rfl; exact rfl; (exact tL); (with_reducible exact rowBt _ _ _)))
  (clear F; intro b2 W F; try simp only [Act.put, z6, z1, z2])
  by_cases m1 : m = 1
  · subst m1
    have hv : Value.func (.func 119) #[.agg (btC z h g)] #[] = v := HV.out
    clear HV
    subst hv
    go_wp2_with (first | go_skip | ((with_reducible apply fX_bt F); exact rfl; exact rfl) | ((with_reducible apply fL F); exact rfl; exact rfl; (exact tL); (with_reducible exact rowBt _ _ _)))
    go_ret
    exact ⟨rfl, F.below⟩
  by_cases m2 : m = 2
  · subst m2
    have hv : Value.func (.func 120) #[.agg (btC z h g)] #[] = v := HV.out
    clear HV
    subst hv
    go_wp2_with (first | go_skip | ((with_reducible apply fX_bt F); exact rfl; exact rfl) | ((with_reducible apply fL F); exact rfl; exact rfl; (exact tL); (with_reducible exact rowBt _ _ _)))
    go_ret
    exact ⟨rfl, F.below⟩
  by_cases m3 : m = 3
  · subst m3
    have hv : Value.func (.func 121) #[.agg (btC z h g)] #[] = v := HV.out
    clear HV
    subst hv
    go_wp2_with (first | go_skip | ((with_reducible apply fX_bt F); exact rfl; exact rfl) | ((with_reducible apply fL F); exact rfl; exact rfl; (exact tL); (with_reducible exact rowBt _ _ _)))
    go_ret
    exact ⟨rfl, F.below⟩
  by_cases m4 : m = 4
  · subst m4
    have hv : Value.func (.func 122) #[.agg (btC z h g)] #[] = v := HV.out
    clear HV
    subst hv
    go_wp2_with (first | go_skip | ((with_reducible apply fX_bt F); exact rfl; exact rfl) | ((with_reducible apply fL F); exact rfl; exact rfl; (exact tL); (with_reducible exact rowBt _ _ _)))
    go_ret
    exact ⟨rfl, F.below⟩
  by_cases m5 : m = 5
  · subst m5
    have hv : Value.func (.func 123) #[.agg (btC z h g)] #[] = v := HV.out
    clear HV
    subst hv
    go_wp2_with (first | go_skip | ((with_reducible apply fX_bt F); exact rfl; exact rfl) | ((with_reducible apply fL F); exact rfl; exact rfl; (exact tL); (with_reducible exact rowBt _ _ _)))
    go_ret
    exact ⟨rfl, F.below⟩
  by_cases m6 : m = 6
  · subst m6
    have hv : Value.func (.func 124) #[.agg (btC z h g)] #[] = v := HV.out
    clear HV
    subst hv
    go_wp2_with (first | go_skip | ((with_reducible apply fX_bt F); exact rfl; exact rfl) | ((with_reducible apply fL F); exact rfl; exact rfl; (exact tL); (with_reducible exact rowBt _ _ _)))
    go_ret
    exact ⟨rfl, F.below⟩
  have hv := HV.out
  unfold modeV at hv
  rw [if_neg m1, if_neg m2, if_neg m3, if_neg m4, if_neg m5, if_neg m6] at hv
  clear HV
  subst hv
  go_wp2_with (first | go_skip | ((with_reducible apply fX_bt F); exact rfl; exact rfl) | ((with_reducible apply fL F); exact rfl; exact rfl; (exact tL); (with_reducible exact rowBt _ _ _)))
  go_ret
  exact ⟨rfl, F.below⟩
end
section
open Go.RowKit
set_option maxHeartbeats 2000000
def upB (m z h : Int) (g : Bool) : Bool :=
  if m = 1 then g else if m = 2 then !g else if m = 3 then false else if m = 4 then true else if m = 5 then (if h = 0 then !g else decide (0 < h)) else (if h = 0 then decide (z % 2 = 1) else decide (0 < h))
theorem mode_up {m z h : Int} {g : Bool} (h1 : 1 ≤ m) (h2 : m ≤ 6) : ∃ f, modeV m (btC z h g) = .func (.func f) #[.agg (btC z h g)] #[] ∧ (∀ w, Calls Tryz.prog f #[.agg (btC z h g)] w (RetB (.bool (upB m z h g)) w)) ∧ ∀ args w, (callFunc f args).run Tryz.prog w = .ok (.enter f args) w := by
  have hm : m = 1 ∨ m = 2 ∨ m = 3 ∨ m = 4 ∨ m = 5 ∨ m = 6 := by omega
  rcases hm with rfl | rfl | rfl | rfl | rfl | rfl
  · exact ⟨_, rfl, fun w => down_any w, enters_of Tryz.func119 (by kernel_rfl) rfl⟩
  · exact ⟨_, rfl, fun w => up_any w, enters_of Tryz.func120 (by kernel_rfl) rfl⟩
  · exact ⟨_, rfl, fun w => floor_any w, enters_of Tryz.func121 (by kernel_rfl) rfl⟩
  · exact ⟨_, rfl, fun w => ceil_any w, enters_of Tryz.func122 (by kernel_rfl) rfl⟩
  · exact ⟨_, rfl, fun w => halfUp_any rfl w, enters_of Tryz.func123 (by kernel_rfl) rfl⟩
  · exact ⟨_, rfl, fun w => halfEven_any rfl w, enters_of Tryz.func124 (by kernel_rfl) rfl⟩
def rndR (v : Prop) [Decidable v] (n d p m : Int) : Int × Int :=
  if ¬ v then (0, 20) else if p < 0 ∨ 9 < p then (0, 30) else if m < 1 ∨ 6 < m then (0, 31)
  else
    let N := n * ((10 ^ p.toNat : Nat) : Int)
    if N % d = 0 then (N / d, 0) else if upB m (N / d) (cmpZ (2 * (N % d)) d) (decide (n < 0)) = true then (N / d + 1, 0) else (N / d, 0)
theorem func_und : ∃ a b c, Tryz.prog.underlying 42 = some (.func a b c) := ⟨_, _, _, Tryz.underlying42⟩
theorem eq_nilF' (d : Nat) (w : World) : (Op.equalIn (d + 1) 42 .nilFunc .nilFunc).run Tryz.prog w = .ok true w := by
  obtain ⟨a, b, c, h⟩ := func_und
  simp [Op.equalIn, run_underlying h]
theorem eq_someF' (d : Nat) (f : Fn) (l m : Array Value) (w : World) : (Op.equalIn (d + 1) 42 (.func f l m) .nilFunc).run Tryz.prog w = .ok false w := by
  obtain ⟨a, b, c, h⟩ := func_und
  simp [Op.equalIn, run_underlying h]
theorem eq_nilF (w : World) : (binOp .eql 42 .nilFunc .nilFunc).run Tryz.prog w = .ok (.bool true) w := by
  simp only [binOp, Op.equal, Sem.run_bind, show Op.maxDepth = 9999 + 1 from rfl, eq_nilF', Result.andThen_ok, Sem.run_pure]
theorem eq_someF (f : Fn) (l m : Array Value) (w : World) : (binOp .eql 42 (.func f l m) .nilFunc).run Tryz.prog w = .ok (.bool false) w := by
  simp only [binOp, Op.equal, Sem.run_bind, show Op.maxDepth = 9999 + 1 from rfl, eq_someF', Result.andThen_ok, Sem.run_pure]
theorem b17 {x y : Int} (h : x.natAbs < bp 15) (k : y.natAbs < bp 15) : (x + y).natAbs < bp 32 := by
  have k1 : bp 16 = bp 15 * 4294967296 := bp_succ 15
  have k2 := bp_le (show 16 ≤ 32 by decide)
  omega
set_option maxRecDepth 100000 in
theorem round_any {x : Bool} {a : Nat} {y : Bool} {b : Nat} (ha : a < bp 32) (hb : b < bp 32) {p m : Int} {r : Int × Int} (hr : rndR (okR x a y b) (sZ x a) (sZ y b) p m = r) (w : World) : Calls Tryz.prog 25 #[.agg (ratC x a y b), .int .i64 p, .int .i64 m] w (RetB (.tuple #[.agg (IC r.1), .int .i64 r.2]) w) := by
  have F := Fr.start w
  obtain ⟨e, he⟩ : ∃ e, chkE (okR x a y b) p = e := ⟨_, rfl⟩
  have g1 := fun w => check_any ha hb he w
  have HR := Lib.hid hr
  have HE := Lib.hid he
  clear hr he
  go_enter Tryz.func25, Tryz.ntmps25
  go_wp2_with (first | go_skip | ((with_reducible apply fL F); exact rfl; exact rfl; (exact tL); (exact tR2)) | ((with_reducible apply fLm F); exact rfl; exact rfl; (exact tL); (exact tM2); (exact tR2)) | ((with_reducible apply fA_int F); exact rfl) | ((with_reducible apply fX_rat F); exact rfl; exact rfl) | ((with_reducible apply fS F); exact rfl; exact rfl; exact rfl; (exact tL); (exact tR2); (exact tS2); clear F; intro W F; simp only [z7, z8] at F) | ((with_reducible apply fB_int0); exact rfl))
  (clear F; intro b3 W F; try simp only [Act.put, z6, z1, z2])
  go_wp2_with (first | go_skip | ((with_reducible apply fL F); exact rfl; exact rfl; (exact tL); (exact tR2)) | ((with_reducible apply fLm F); exact rfl; exact rfl; (exact tL); (exact tM2); (exact tR2)) | ((with_reducible apply fA_int F); exact rfl) | ((with_reducible apply fX_rat F); exact rfl; exact rfl) | ((with_reducible apply fS F); exact rfl; exact rfl; exact rfl; (exact tL); (exact tR2); (exact tS2); clear F; intro W F; simp only [z7, z8] at F) | ((with_reducible apply fB_int0); exact rfl))
  (clear F; intro b6 W F; try simp only [Act.put, z6, z1, z2])
  by_cases hv : ¬ okR x a y b
  · have he : (20 : Int) = e := by have := HE.out; rwa [chkE, if_pos hv] at this
    have hr : (0, 20) = r := by have := HR.out; rwa [rndR, if_pos hv] at this
    subst he
    subst hr
    clear HE HR hv
    go_wp2_with (first | go_skip | ((go_at_call 68); (with_reducible refine fr_call F (g1 _) ?_); (clear F; intro W F); (try dsimp only)) | ((with_reducible apply fL F); exact rfl; exact rfl; (exact tL); (exact tR2)) | ((with_reducible apply fLm F); exact rfl; exact rfl; (exact tL); (exact tM2); (exact tR2)) | ((with_reducible apply fA_int F); exact rfl) | ((with_reducible apply fX_rat F); exact rfl; exact rfl) | ((with_reducible apply fS F); exact rfl; exact rfl; exact rfl; (exact tL); (exact tR2); (exact tS2); clear F; intro W F; simp only [z7, z8] at F) | ((with_reducible apply fB_int0); exact rfl))
    exact bodyPost_ret (res_cs rfl rfl rfl (Fr.get F tL) (rowIC 0)) rfl ⟨rfl, F.below⟩
  rw [Classical.not_not] at hv
  by_cases hp : p < 0 ∨ 9 < p
  · have he : (30 : Int) = e := by have := HE.out; rwa [chkE, if_neg (by rw [Classical.not_not]; exact hv), if_pos hp] at this
    have hr : (0, 30) = r := by have := HR.out; rwa [rndR, if_neg (by rw [Classical.not_not]; exact hv), if_pos hp] at this
    subst he
    subst hr
    clear HE HR hv hp
    go_wp2_with (first | go_skip | ((go_at_call 68); (with_reducible refine fr_call F (g1 _) ?_); (clear F; intro W F); (try dsimp only)) | ((with_reducible apply fL F); exact rfl; exact rfl; (exact tL); (exact tR2)) | ((with_reducible apply fLm F); exact rfl; exact rfl; (exact tL); (exact tM2); (exact tR2)) | ((with_reducible apply fA_int F); exact rfl) | ((with_reducible apply fX_rat F); exact rfl; exact rfl) | ((with_reducible apply fS F); exact rfl; exact rfl; exact rfl; (exact tL); (exact tR2); (exact tS2); clear F; intro W F; simp only [z7, z8] at F) | ((with_reducible apply fB_int0); exact rfl))
    exact bodyPost_ret (res_cs rfl rfl rfl (Fr.get F tL) (rowIC 0)) rfl ⟨rfl, F.below⟩
  have he : (0 : Int) = e := by have := HE.out; rwa [chkE, if_neg (by rw [Classical.not_not]; exact hv), if_neg hp] at this
  have hr := HR.out
  rw [rndR, if_neg (by rw [Classical.not_not]; exact hv), if_neg hp] at hr
  subst he
  obtain ⟨n, d, ⟨h1, h2, h3⟩, hn, hd, hd0⟩ := okR_ints hv
  rw [h2, h3] at hr
  obtain ⟨q, rfl⟩ : ∃ q : Nat, p = (q : Int) := ⟨p.toNat, by omega⟩
  have hq : q ≤ 9 := by omega
  rw [Int.toNat_natCast] at hr
  have g2 := fun w => scaledZ hn hd (show d ≠ 0 by omega) hq w
  have hN := b_ten hn hq
  have hNd : (n * ((10 ^ q : Nat) : Int)).natAbs < bp 32 := Nat.lt_of_lt_of_le hN (bp_le (by decide))
  obtain ⟨N, hNN⟩ : ∃ N, n * ((10 ^ q : Nat) : Int) = N := ⟨_, rfl⟩
  simp only [hNN] at hr g2 hN
  have hu : (N / d).natAbs < bp 17 := Nat.lt_of_le_of_lt (div_le_abs N d) hN
  have hvv : (N % d).natAbs < bp 15 := by
    have k1 := Int.emod_nonneg N (show d ≠ 0 by omega)
    have k2 := Int.emod_lt_of_pos N hd0
    omega
  obtain ⟨u, huu⟩ : ∃ u, N / d = u := ⟨_, rfl⟩
  obtain ⟨v, hv2⟩ : ∃ v, N % d = v := ⟨_, rfl⟩
  rw [huu, hv2] at hr g2
  rw [huu] at hu
  rw [hv2] at hvv
  rw [h1] at g1 F
  have g3 := fun w => addZ (b15 hvv) (b15 hvv) (b17 hvv hvv) w
  have g4 := fun w => cmpZ_ok (x := v + v) (y := d) (b17 hvv hvv) (b15 hd) w
  have g5 := fun w => signZ (b15 hn) w
  have hs : decide (n.sign < 0) = decide (n < 0) := by rw [decide_eq_decide]; exact Int.sign_neg_iff
  rw [← hs] at hr
  clear hs
  obtain ⟨s, hss⟩ : ∃ s, n.sign = s := ⟨_, rfl⟩
  rw [hss] at g5 hr
  obtain ⟨g, hg⟩ : ∃ g, decide (s < 0) = g := ⟨_, rfl⟩
  rw [hg] at hr
  have HS := Lib.hid hg
  clear hg
  rw [show 2 * v = v + v by omega] at hr
  obtain ⟨c, hc⟩ : ∃ c, cmpZ (v + v) d = c := ⟨_, rfl⟩
  rw [hc] at g4 hr
  have g6 := fun w => mode_any (z := u) (h := c) (g := g) (m := m) rfl w
  have g8 := fun w => signZ (b15 hvv) w
  have hv0 : v.sign = 0 ↔ v = 0 := Int.sign_eq_zero_iff_zero
  obtain ⟨t, ht⟩ : ∃ t, v.sign = t := ⟨_, rfl⟩
  rw [ht] at g8 hv0
  have hu1 : u.natAbs < bp 32 ∧ (u + 1).natAbs < bp 32 := by
    have k1 : bp 18 = bp 17 * 4294967296 := bp_succ 17
    have k2 := bp_le (show 18 ≤ 32 by decide)
    omega
  have g9 := fun w => fromZ (n := 1) (by decide) (by decide) w
  have g10 := fun w => addZ (x := u) (y := 1) hu1.1 (by decide) hu1.2 w
  have HR2 := Lib.hid hr
  have HV0 := Lib.hid hv0
  obtain ⟨w2, hw2⟩ : ∃ z, v + v = z := ⟨_, rfl⟩
  rw [hw2] at g3 g4
  clear HR HE hp hq hNd hNN hN hu huu hvv hr hv2 hn hd hd0 h1 h2 h3 hv hss hc ht hu1 hv0 hw2
  go_wp2_with (first | go_skip | ((go_at_call 68); (with_reducible refine fr_call F (g1 _) ?_); (clear F; intro W F); (try dsimp only)) | ((go_at_call 69); (with_reducible refine fr_call F (g2 _) ?_); (clear F; intro W F); (try dsimp only)) | ((with_reducible apply fL F); exact rfl; exact rfl; (exact tL); (exact tR2)) | ((with_reducible apply fLm F); exact rfl; exact rfl; (exact tL); (exact tM2); (exact tR2)) | ((with_reducible apply fA_int F); exact rfl) | ((with_reducible apply fX_rat F); exact rfl; exact rfl) | ((with_reducible apply fS F); exact rfl; exact rfl; exact rfl; (exact tL); (exact tR2); (exact tS2); clear F; intro W F; simp only [z7, z8] at F) | ((with_reducible apply fB_int0); exact rfl))
  (clear F; intro b9 W F; try simp only [Act.put, z6, z1, z2])
  go_wp2_with (first | go_skip | ((with_reducible apply fL F); exact rfl; exact rfl; (exact tL); (exact tR2)) | ((with_reducible apply fLm F); exact rfl; exact rfl; (exact tL); (exact tM2); (exact tR2)) | ((with_reducible apply fA_int F); exact rfl) | ((with_reducible apply fX_rat F); exact rfl; exact rfl) | ((with_reducible apply fS F); exact rfl; exact rfl; exact rfl; (exact tL); (exact tR2); (exact tS2); clear F; intro W F; simp only [z7, z8] at F) | ((with_reducible apply fB_int0); exact rfl))
  (clear F; intro b10 W F; try simp only [Act.put, z6, z1, z2])
  go_wp2_with (first | go_skip | ((go_at_call 70); (with_reducible refine fr_call F (g3 _) ?_); (clear F; intro W F); (try dsimp only)) | ((with_reducible apply fL F); exact rfl; exact rfl; (exact tL); (exact tR2)) | ((with_reducible apply fLm F); exact rfl; exact rfl; (exact tL); (exact tM2); (exact tR2)) | ((with_reducible apply fA_int F); exact rfl) | ((with_reducible apply fX_rat F); exact rfl; exact rfl) | ((with_reducible apply fS F); exact rfl; exact rfl; exact rfl; (exact tL); (exact tR2); (exact tS2); clear F; intro W F; simp only [z7, z8] at F) | ((with_reducible apply fB_int0); exact rfl))
  (clear F; intro b11 W F; try simp only [Act.put, z6, z1, z2])
  go_wp2_with (first | go_skip | ((with_reducible apply fL F); exact rfl; exact rfl; (exact tL); (exact tR2)) | ((with_reducible apply fLm F); exact rfl; exact rfl; (exact tL); (exact tM2); (exact tR2)) | ((with_reducible apply fA_int F); exact rfl) | ((with_reducible apply fX_rat F); exact rfl; exact rfl) | ((with_reducible apply fS F); exact rfl; exact rfl; exact rfl; (exact tL); (exact tR2); (exact tS2); clear F; intro W F; simp only [z7, z8] at F) | ((with_reducible apply fB_int0); exact rfl))
  try simp only [Act.put, z6, z1, z2]
  refine wp_region_slots mixP [13, 35, 36, 37, 38, 39, 40, 41, 42, 43, 44, 45, 46] (fun l mm W => ∃ (s13 s35 s36 s37 s38 s39 s40 s41 s42 s43 s44 s45 s46 : Value), mm = [s13, s35, s36, s37, s38, s39, s40, s41, s42, s43, s44, s45, s46] ∧ (l.getD 0 false = true → s35 = .agg (IC u)) ∧ (l.getD 1 false = true → s36 = .agg (IC w2)) ∧ (l.getD 2 false = true → s37 = .pointer (some ⟨b3, 33, none⟩)) ∧ (l.getD 3 false = true → s38 = .agg (IC d)) ∧ (l.getD 4 false = true → s39 = .int .i64 c) ∧ (l.getD 5 false = true → s40 = .pointer (some ⟨b3, 0, none⟩)) ∧ (l.getD 6 false = true → s41 = .agg (IC n)) ∧ (l.getD 7 false = true → s42 = .int .i64 s) ∧ (l.getD 8 false = true → s43 = .bool g) ∧ (l.getD 9 false = true → s44 = .agg (btC u c g)) ∧ (l.getD 10 false = true → s45 = .int .i64 m) ∧ (l.getD 11 false = true → s46 = modeV m (btC u c g)) ∧ (l.getD 12 false = true → s13 = modeV m (btC u c g)) ∧ Fr w W [(b11, IC w2, 29), (b10, IC v, 29), (b9, IC u, 29), (b6, intC false 0, 29), (b3, RC n d, 31)]) (by kernel_rfl) rfl ?_ ?_ ?_
  · exact ⟨_, _, _, _, _, _, _, _, _, _, _, _, _, rfl, nf, nf, nf, nf, nf, nf, nf, nf, nf, nf, nf, nf, nf, F.drew⟩
  · rintro listed mm W ii hi hsz hoff ⟨s13, s35, s36, s37, s38, s39, s40, s41, s42, s43, s44, s45, s46, rfl, h0, h1, h2, h3, h4, h5, h6, h7, h8, h9, h10, h11, h12, HF⟩ hd
    have hc : ii = 0 ∨ ii = 1 ∨ ii = 2 ∨ ii = 3 ∨ ii = 4 ∨ ii = 5 ∨ ii = 6 ∨ ii = 7 ∨ ii = 8 ∨ ii = 9 ∨ ii = 10 ∨ ii = 11 ∨ ii = 12 := by
      have hi2 : ii < 13 := hi
      omega
    have hsz2 : listed.size = 13 := hsz
    clear hi hsz
    rcases hc with rfl | rfl | rfl | rfl | rfl | rfl | rfl | rfl | rfl | rfl | rfl | rfl | rfl
    · refine wpOp_want rfl rfl (fun K hK => ?_)
      simp only [putAll, z1, z2, z3, z4, z5]
      with_reducible apply gL HF
      · exact rfl
      · (exact tL)
      · (first | (exact tR2))
      go_simp
      exact hK _ _ ⟨[s13, (.agg (IC u)), s36, s37, s38, s39, s40, s41, s42, s43, s44, s45, s46], by simp only [putAll, z1, z2], s13, (.agg (IC u)), s36, s37, s38, s39, s40, s41, s42, s43, s44, s45, s46, rfl, fun _ => rfl, lk h1, lk h2, lk h3, lk h4, lk h5, lk h6, lk h7, lk h8, lk h9, lk h10, lk h11, lk h12, HF⟩
    · refine wpOp_want rfl rfl (fun K hK => ?_)
      simp only [putAll, z1, z2, z3, z4, z5]
      with_reducible apply gL HF
      · exact rfl
      · (exact tL)
      · (first | (exact tR2))
      go_simp
      exact hK _ _ ⟨[s13, s35, (.agg (IC w2)), s37, s38, s39, s40, s41, s42, s43, s44, s45, s46], by simp only [putAll, z1, z2], s13, s35, (.agg (IC w2)), s37, s38, s39, s40, s41, s42, s43, s44, s45, s46, rfl, lk h0, fun _ => rfl, lk h2, lk h3, lk h4, lk h5, lk h6, lk h7, lk h8, lk h9, lk h10, lk h11, lk h12, HF⟩
    · refine wpOp_want rfl rfl (fun K hK => ?_)
      simp only [putAll, z1, z2, z3, z4, z5]
      refine ⟨?_⟩
      go_simp
      exact hK _ _ ⟨[s13, s35, s36, (.pointer (some ⟨b3, 33, none⟩)), s38, s39, s40, s41, s42, s43, s44, s45, s46], by simp only [putAll, z1, z2], s13, s35, s36, (.pointer (some ⟨b3, 33, none⟩)), s38, s39, s40, s41, s42, s43, s44, s45, s46, rfl, lk h0, lk h1, fun _ => rfl, lk h3, lk h4, lk h5, lk h6, lk h7, lk h8, lk h9, lk h10, lk h11, lk h12, HF⟩
    · have d2 := h2 (hd 2 (by kernel_rfl))
      obtain rfl := d2
      refine wpOp_want rfl rfl (fun K hK => ?_)
      simp only [putAll, z1, z2, z3, z4, z5]
      with_reducible apply gLm HF
      · exact rfl
      · (exact tL)
      · exact RC_den _ _
      · (first | (exact tR2))
      go_simp
      exact hK _ _ ⟨[s13, s35, s36, (.pointer (some ⟨b3, 33, none⟩)), (.agg (IC d)), s39, s40, s41, s42, s43, s44, s45, s46], by simp only [putAll, z1, z2], s13, s35, s36, (.pointer (some ⟨b3, 33, none⟩)), (.agg (IC d)), s39, s40, s41, s42, s43, s44, s45, s46, rfl, lk h0, lk h1, lk h2, fun _ => rfl, lk h4, lk h5, lk h6, lk h7, lk h8, lk h9, lk h10, lk h11, lk h12, HF⟩
    · have d1 := h1 (hd 1 (by kernel_rfl))
      have d3 := h3 (hd 3 (by kernel_rfl))
      obtain rfl := d1
      obtain rfl := d3
      refine wpOp_want rfl rfl (fun K hK => ?_)
      simp only [putAll, z1, z2, z3, z4, z5]
      refine ⟨?_⟩
      go_simp
      with_reducible refine fr_call HF (g4 _) ?_
      clear HF
      intro W HF
      (try dsimp only)
      exact hK _ _ ⟨[s13, s35, (.agg (IC w2)), s37, (.agg (IC d)), (.int .i64 c), s40, s41, s42, s43, s44, s45, s46], by simp only [putAll, z1, z2], s13, s35, (.agg (IC w2)), s37, (.agg (IC d)), (.int .i64 c), s40, s41, s42, s43, s44, s45, s46, rfl, lk h0, lk h1, lk h2, lk h3, fun _ => rfl, lk h5, lk h6, lk h7, lk h8, lk h9, lk h10, lk h11, lk h12, HF⟩
    · refine wpOp_want rfl rfl (fun K hK => ?_)
      simp only [putAll, z1, z2, z3, z4, z5]
      refine ⟨?_⟩
      go_simp
      exact hK _ _ ⟨[s13, s35, s36, s37, s38, s39, (.pointer (some ⟨b3, 0, none⟩)), s41, s42, s43, s44, s45, s46], by simp only [putAll, z1, z2], s13, s35, s36, s37, s38, s39, (.pointer (some ⟨b3, 0, none⟩)), s41, s42, s43, s44, s45, s46, rfl, lk h0, lk h1, lk h2, lk h3, lk h4, fun _ => rfl, lk h6, lk h7, lk h8, lk h9, lk h10, lk h11, lk h12, HF⟩
    · have d5 := h5 (hd 5 (by kernel_rfl))
      obtain rfl := d5
      refine wpOp_want rfl rfl (fun K hK => ?_)
      simp only [putAll, z1, z2, z3, z4, z5]
      with_reducible apply gLm HF
      · exact rfl
      · (exact tL)
      · exact RC_num _ _
      · (first | (exact tR2))
      go_simp
      exact hK _ _ ⟨[s13, s35, s36, s37, s38, s39, (.pointer (some ⟨b3, 0, none⟩)), (.agg (IC n)), s42, s43, s44, s45, s46], by simp only [putAll, z1, z2], s13, s35, s36, s37, s38, s39, (.pointer (some ⟨b3, 0, none⟩)), (.agg (IC n)), s42, s43, s44, s45, s46, rfl, lk h0, lk h1, lk h2, lk h3, lk h4, lk h5, fun _ => rfl, lk h7, lk h8, lk h9, lk h10, lk h11, lk h12, HF⟩
    · have d6 := h6 (hd 6 (by kernel_rfl))
      obtain rfl := d6
      refine wpOp_want rfl rfl (fun K hK => ?_)
      simp only [putAll, z1, z2, z3, z4, z5]
      refine ⟨?_⟩
      go_simp
      with_reducible refine fr_call HF (g5 _) ?_
      clear HF
      intro W HF
      (try dsimp only)
      exact hK _ _ ⟨[s13, s35, s36, s37, s38, s39, s40, (.agg (IC n)), (.int .i64 s), s43, s44, s45, s46], by simp only [putAll, z1, z2], s13, s35, s36, s37, s38, s39, s40, (.agg (IC n)), (.int .i64 s), s43, s44, s45, s46, rfl, lk h0, lk h1, lk h2, lk h3, lk h4, lk h5, lk h6, fun _ => rfl, lk h8, lk h9, lk h10, lk h11, lk h12, HF⟩
    · have d7 := h7 (hd 7 (by kernel_rfl))
      obtain rfl := d7
      refine wpOp_want rfl rfl (fun K hK => ?_)
      simp only [putAll, z1, z2, z3, z4, z5]
      refine ⟨?_⟩
      go_simp
      rw [HS.out]
      exact hK _ _ ⟨[s13, s35, s36, s37, s38, s39, s40, s41, (.int .i64 s), (.bool g), s44, s45, s46], by simp only [putAll, z1, z2], s13, s35, s36, s37, s38, s39, s40, s41, (.int .i64 s), (.bool g), s44, s45, s46, rfl, lk h0, lk h1, lk h2, lk h3, lk h4, lk h5, lk h6, lk h7, fun _ => rfl, lk h9, lk h10, lk h11, lk h12, HF⟩
    · have d0 := h0 (hd 0 (by kernel_rfl))
      have d4 := h4 (hd 4 (by kernel_rfl))
      have d8 := h8 (hd 8 (by kernel_rfl))
      obtain rfl := d0
      obtain rfl := d4
      obtain rfl := d8
      refine wpOp_want rfl rfl (fun K hK => ?_)
      simp only [putAll, z1, z2, z3, z4, z5]
      with_reducible apply gB_bt
      · exact rfl
      · exact rfl
      · exact rfl
      go_simp
      exact hK _ _ ⟨[s13, (.agg (IC u)), s36, s37, s38, (.int .i64 c), s40, s41, s42, (.bool g), (.agg (btC u c g)), s45, s46], by simp only [putAll, z1, z2], s13, (.agg (IC u)), s36, s37, s38, (.int .i64 c), s40, s41, s42, (.bool g), (.agg (btC u c g)), s45, s46, rfl, lk h0, lk h1, lk h2, lk h3, lk h4, lk h5, lk h6, lk h7, lk h8, fun _ => rfl, lk h10, lk h11, lk h12, HF⟩
    · refine wpOp_want rfl rfl (fun K hK => ?_)
      simp only [putAll, z1, z2, z3, z4, z5]
      refine ⟨?_⟩
      go_simp
      exact hK _ _ ⟨[s13, s35, s36, s37, s38, s39, s40, s41, s42, s43, s44, (.int .i64 m), s46], by simp only [putAll, z1, z2], s13, s35, s36, s37, s38, s39, s40, s41, s42, s43, s44, (.int .i64 m), s46, rfl, lk h0, lk h1, lk h2, lk h3, lk h4, lk h5, lk h6, lk h7, lk h8, lk h9, fun _ => rfl, lk h11, lk h12, HF⟩
    · have d9 := h9 (hd 9 (by kernel_rfl))
      have d10 := h10 (hd 10 (by kernel_rfl))
      obtain rfl := d9
      obtain rfl := d10
      refine wpOp_want rfl rfl (fun K hK => ?_)
      simp only [putAll, z1, z2, z3, z4, z5]
      refine ⟨?_⟩
      go_simp
      with_reducible refine fr_call HF (g6 _) ?_
      clear HF
      intro W HF
      (try dsimp only)
      exact hK _ _ ⟨[s13, s35, s36, s37, s38, s39, s40, s41, s42, s43, (.agg (btC u c g)), (.int .i64 m), (modeV m (btC u c g))], by simp only [putAll, z1, z2], s13, s35, s36, s37, s38, s39, s40, s41, s42, s43, (.agg (btC u c g)), (.int .i64 m), (modeV m (btC u c g)), rfl, lk h0, lk h1, lk h2, lk h3, lk h4, lk h5, lk h6, lk h7, lk h8, lk h9, lk h10, fun _ => rfl, lk h12, HF⟩
    · have d11 := h11 (hd 11 (by kernel_rfl))
      obtain rfl := d11
      refine wpOp_want rfl rfl (fun K hK => ?_)
      simp only [putAll, z1, z2, z3, z4, z5]
      refine ⟨?_⟩
      go_simp
      exact hK _ _ ⟨[(modeV m (btC u c g)), s35, s36, s37, s38, s39, s40, s41, s42, s43, s44, s45, (modeV m (btC u c g))], by simp only [putAll, z1, z2], (modeV m (btC u c g)), s35, s36, s37, s38, s39, s40, s41, s42, s43, s44, s45, (modeV m (btC u c g)), rfl, lk h0, lk h1, lk h2, lk h3, lk h4, lk h5, lk h6, lk h7, lk h8, lk h9, lk h10, lk h11, fun _ => rfl, HF⟩
  rintro listed mm W ⟨s13, s35, s36, s37, s38, s39, s40, s41, s42, s43, s44, s45, s46, rfl, h0, h1, h2, h3, h4, h5, h6, h7, h8, h9, h10, h11, h12, HF⟩ hall
  obtain rfl := h0 (hall 0 (by decide))
  obtain rfl := h1 (hall 1 (by decide))
  obtain rfl := h2 (hall 2 (by decide))
  obtain rfl := h3 (hall 3 (by decide))
  obtain rfl := h4 (hall 4 (by decide))
  obtain rfl := h5 (hall 5 (by decide))
  obtain rfl := h6 (hall 6 (by decide))
  obtain rfl := h7 (hall 7 (by decide))
  obtain rfl := h8 (hall 8 (by decide))
  obtain rfl := h9 (hall 9 (by decide))
  obtain rfl := h10 (hall 10 (by decide))
  obtain rfl := h11 (hall 11 (by decide))
  obtain rfl := h12 (hall 12 (by decide))
  clear hall h0 h1 h2 h3 h4 h5 h6 h7 h8 h9 h10 h11 h12 F
  have F := HF
  clear HF
  simp only [putAll, z1, z2]
  by_cases hm : m < 1 ∨ 6 < m
  · have hr := HR2.out
    rw [if_pos hm] at hr
    have hmv : modeV m (btC u c g) = Value.nilFunc := by
      unfold modeV
      rw [if_neg (by omega), if_neg (by omega), if_neg (by omega), if_neg (by omega), if_neg (by omega), if_neg (by omega)]
    rw [hmv]
    subst hr
    have hq := eq_nilF
    clear HR2 HV0 hm hmv g6
    go_wp2_with (first | go_skip | ((with_reducible apply fL F); exact rfl; exact rfl; (exact tL); (exact tR2)) | ((with_reducible apply fLm F); exact rfl; exact rfl; (exact tL); (exact tM2); (exact tR2)) | ((with_reducible apply fA_int F); exact rfl) | ((with_reducible apply fX_rat F); exact rfl; exact rfl) | ((with_reducible apply fS F); exact rfl; exact rfl; exact rfl; (exact tL); (exact tR2); (exact tS2); clear F; intro W F; simp only [z7, z8] at F) | ((with_reducible apply fB_int0); exact rfl))
    exact bodyPost_ret (res_cs rfl rfl rfl (Fr.get F tL) (rowIC 0)) rfl ⟨rfl, F.below⟩
  obtain ⟨f, hf, g7, g7e⟩ := mode_up (m := m) (z := u) (h := c) (g := g) (by omega) (by omega)
  rw [hf]
  have hr := HR2.out
  rw [if_neg hm] at hr
  obtain ⟨ub, hub⟩ : ∃ ub, upB m u c g = ub := ⟨_, rfl⟩
  rw [hub] at hr g7
  clear HR2 hm hub g6 hf
  have hq := eq_someF (.func f) #[.agg (btC u c g)] #[]
  by_cases hv0 : v = 0
  · rw [if_pos hv0] at hr
    have ht0 := HV0.out.2 hv0
    subst hr
    subst ht0
    clear HV0 hv0
    go_wp2_with (first | go_skip | ((go_at_call 72); (with_reducible refine fr_call F (g8 _) ?_); (clear F; intro W F); (try dsimp only)) | ((with_reducible apply fL F); exact rfl; exact rfl; (exact tL); (exact tR2)) | ((with_reducible apply fLm F); exact rfl; exact rfl; (exact tL); (exact tM2); (exact tR2)) | ((with_reducible apply fA_int F); exact rfl) | ((with_reducible apply fX_rat F); exact rfl; exact rfl) | ((with_reducible apply fS F); exact rfl; exact rfl; exact rfl; (exact tL); (exact tR2); (exact tS2); clear F; intro W F; simp only [z7, z8] at F) | ((with_reducible apply fB_int0); exact rfl))
    exact bodyPost_ret (res_cs rfl rfl rfl (Fr.get F tL) (rowIC _)) rfl ⟨rfl, F.below⟩
  rw [if_neg hv0] at hr
  have ht0 : ¬ t = 0 := fun h => hv0 (HV0.out.1 h)
  clear HV0 hv0
  cases ub
  · rw [if_neg (by decide)] at hr
    subst hr
    go_wp2_with (first | go_skip | ((go_at_call 72); (with_reducible refine fr_call F (g8 _) ?_); (clear F; intro W F); (try dsimp only)) | ((with_reducible refine fr_call F (g7 _) ?_); (clear F; intro W F); (try dsimp only)) | ((with_reducible apply fL F); exact rfl; exact rfl; (exact tL); (exact tR2)) | ((with_reducible apply fLm F); exact rfl; exact rfl; (exact tL); (exact tM2); (exact tR2)) | ((with_reducible apply fA_int F); exact rfl) | ((with_reducible apply fX_rat F); exact rfl; exact rfl) | ((with_reducible apply fS F); exact rfl; exact rfl; exact rfl; (exact tL); (exact tR2); (exact tS2); clear F; intro W F; simp only [z7, z8] at F) | ((with_reducible apply fB_int0); exact rfl))
    exact bodyPost_ret (res_cs rfl rfl rfl (Fr.get F tL) (rowIC _)) rfl ⟨rfl, F.below⟩
  · rw [if_pos rfl] at hr
    subst hr
    go_wp2_with (first | go_skip | ((go_at_call 72); (with_reducible refine fr_call F (g8 _) ?_); (clear F; intro W F); (try dsimp only)) | ((with_reducible refine fr_call F (g7 _) ?_); (clear F; intro W F); (try dsimp only)) | ((with_reducible apply fL F); exact rfl; exact rfl; (exact tL); (exact tR2)) | ((with_reducible apply fLm F); exact rfl; exact rfl; (exact tL); (exact tM2); (exact tR2)) | ((with_reducible apply fA_int F); exact rfl) | ((with_reducible apply fX_rat F); exact rfl; exact rfl) | ((with_reducible apply fS F); exact rfl; exact rfl; exact rfl; (exact tL); (exact tR2); (exact tS2); clear F; intro W F; simp only [z7, z8] at F) | ((with_reducible apply fB_int0); exact rfl))
    try simp only [Act.put, z6, z1, z2]
    refine wp_region_slots mixP [14, 15, 61, 62, 63, 64, 65, 66] (fun l mm W => ∃ (s14 s15 s61 s62 s63 s64 s65 s66 : Value) (c_b14 : Array Value) (b14 : Nat), mm = [s14, s15, s61, s62, s63, s64, s65, s66] ∧ (l.getD 0 false = true → s62 = .agg (IC u)) ∧ (l.getD 1 false = true → s63 = .agg (IC 1)) ∧ (l.getD 2 false = true → s64 = .tuple #[.agg (IC (u + 1)), .int .i64 0]) ∧ (l.getD 3 false = true → s61 = .tuple #[.agg (IC (u + 1)), .int .i64 0]) ∧ (l.getD 4 false = true → s65 = .agg (IC (u + 1))) ∧ (l.getD 5 false = true → s66 = .int .i64 0) ∧ (l.getD 6 false = true → s14 = .pointer (some ⟨b14, 0, none⟩)) ∧ (l.getD 7 false = true → c_b14 = IC (u + 1)) ∧ (l.getD 8 false = true → s15 = .int .i64 0) ∧ (l.getD 7 false = true → l.getD 6 false = true) ∧ c_b14.size = (IC (u + 1)).size ∧ Fr w W ((b11, IC w2, 29) :: (b10, IC v, 29) :: (b9, IC u, 29) :: (b6, intC false 0, 29) :: (b3, RC n d, 31) :: (onl (l.getD 6 false) (b14, c_b14, 29)))) (by kernel_rfl) rfl ?_ ?_ ?_
    · exact ⟨_, _, _, _, _, _, _, _, (intC false 0), 0, rfl, nf, nf, nf, nf, nf, nf, nf, nf, nf, nf, by exact tS2, F.drew⟩
    · rintro listed mm W ii hi hsz hoff ⟨s14, s15, s61, s62, s63, s64, s65, s66, c_b14, b14, rfl, h0, h1, h2, h3, h4, h5, h6, h7, h8, hN_b14, hz0, HF⟩ hd
      have hc : ii = 0 ∨ ii = 1 ∨ ii = 2 ∨ ii = 3 ∨ ii = 4 ∨ ii = 5 ∨ ii = 6 ∨ ii = 7 ∨ ii = 8 := by
        have hi2 : ii < 9 := hi
        omega
      have hsz2 : listed.size = 9 := hsz
      clear hi hsz
      rcases hc with rfl | rfl | rfl | rfl | rfl | rfl | rfl | rfl | rfl
      · refine wpOp_want rfl rfl (fun K hK => ?_)
        simp only [putAll, z1, z2, z3, z4, z5]
        with_reducible apply gL HF
        · exact rfl
        · (exact tL)
        · (first | (exact tR2))
        go_simp
        exact hK _ _ ⟨[s14, s15, s61, (.agg (IC u)), s63, s64, s65, s66], by simp only [putAll, z1, z2], s14, s15, s61, (.agg (IC u)), s63, s64, s65, s66, c_b14, b14, rfl, fun _ => rfl, lk h1, lk h2, lk h3, lk h4, lk h5, lk h6, lk h7, lk h8, fun h => by rw [getD_keep (show 0 ≠ 7 by decide)] at h; rw [getD_keep (show 0 ≠ 6 by decide)]; exact hN_b14 h, hz0, by rw [getD_keep (show 0 ≠ 6 by decide)]; exact HF⟩
      · refine wpOp_want rfl rfl (fun K hK => ?_)
        simp only [putAll, z1, z2, z3, z4, z5]
        refine ⟨?_⟩
        go_simp
        with_reducible refine fr_call HF (g9 _) ?_
        clear HF
        intro W HF
        (try dsimp only)
        exact hK _ _ ⟨[s14, s15, s61, s62, (.agg (IC 1)), s64, s65, s66], by simp only [putAll, z1, z2], s14, s15, s61, s62, (.agg (IC 1)), s64, s65, s66, c_b14, b14, rfl, lk h0, fun _ => rfl, lk h2, lk h3, lk h4, lk h5, lk h6, lk h7, lk h8, fun h => by rw [getD_keep (show 1 ≠ 7 by decide)] at h; rw [getD_keep (show 1 ≠ 6 by decide)]; exact hN_b14 h, hz0, by rw [getD_keep (show 1 ≠ 6 by decide)]; exact HF⟩
      · have d0 := h0 (hd 0 (by kernel_rfl))
        have d1 := h1 (hd 1 (by kernel_rfl))
        obtain rfl := d0
        obtain rfl := d1
        refine wpOp_want rfl rfl (fun K hK => ?_)
        simp only [putAll, z1, z2, z3, z4, z5]
        refine ⟨?_⟩
        go_simp
        with_reducible refine fr_call HF (g10 _) ?_
        clear HF
        intro W HF
        (try dsimp only)
        exact hK _ _ ⟨[s14, s15, s61, (.agg (IC u)), (.agg (IC 1)), (.tuple #[.agg (IC (u + 1)), .int .i64 0]), s65, s66], by simp only [putAll, z1, z2], s14, s15, s61, (.agg (IC u)), (.agg (IC 1)), (.tuple #[.agg (IC (u + 1)), .int .i64 0]), s65, s66, c_b14, b14, rfl, lk h0, lk h1, fun _ => rfl, lk h3, lk h4, lk h5, lk h6, lk h7, lk h8, fun h => by rw [getD_keep (show 2 ≠ 7 by decide)] at h; rw [getD_keep (show 2 ≠ 6 by decide)]; exact hN_b14 h, hz0, by rw [getD_keep (show 2 ≠ 6 by decide)]; exact HF⟩
      · have d2 := h2 (hd 2 (by kernel_rfl))
        obtain rfl := d2
        refine wpOp_want rfl rfl (fun K hK => ?_)
        simp only [putAll, z1, z2, z3, z4, z5]
        refine ⟨?_⟩
        go_simp
        exact hK _ _ ⟨[s14, s15, (.tuple #[.agg (IC (u + 1)), .int .i64 0]), s62, s63, (.tuple #[.agg (IC (u + 1)), .int .i64 0]), s65, s66], by simp only [putAll, z1, z2], s14, s15, (.tuple #[.agg (IC (u + 1)), .int .i64 0]), s62, s63, (.tuple #[.agg (IC (u + 1)), .int .i64 0]), s65, s66, c_b14, b14, rfl, lk h0, lk h1, lk h2, fun _ => rfl, lk h4, lk h5, lk h6, lk h7, lk h8, fun h => by rw [getD_keep (show 3 ≠ 7 by decide)] at h; rw [getD_keep (show 3 ≠ 6 by decide)]; exact hN_b14 h, hz0, by rw [getD_keep (show 3 ≠ 6 by decide)]; exact HF⟩
      · have d3 := h3 (hd 3 (by kernel_rfl))
        obtain rfl := d3
        refine wpOp_want rfl rfl (fun K hK => ?_)
        simp only [putAll, z1, z2, z3, z4, z5]
        refine ⟨?_⟩
        go_simp
        exact hK _ _ ⟨[s14, s15, (.tuple #[.agg (IC (u + 1)), .int .i64 0]), s62, s63, s64, (.agg (IC (u + 1))), s66], by simp only [putAll, z1, z2], s14, s15, (.tuple #[.agg (IC (u + 1)), .int .i64 0]), s62, s63, s64, (.agg (IC (u + 1))), s66, c_b14, b14, rfl, lk h0, lk h1, lk h2, lk h3, fun _ => rfl, lk h5, lk h6, lk h7, lk h8, fun h => by rw [getD_keep (show 4 ≠ 7 by decide)] at h; rw [getD_keep (show 4 ≠ 6 by decide)]; exact hN_b14 h, hz0, by rw [getD_keep (show 4 ≠ 6 by decide)]; exact HF⟩
      · have d3 := h3 (hd 3 (by kernel_rfl))
        obtain rfl := d3
        refine wpOp_want rfl rfl (fun K hK => ?_)
        simp only [putAll, z1, z2, z3, z4, z5]
        refine ⟨?_⟩
        go_simp
        exact hK _ _ ⟨[s14, s15, (.tuple #[.agg (IC (u + 1)), .int .i64 0]), s62, s63, s64, s65, (.int .i64 0)], by simp only [putAll, z1, z2], s14, s15, (.tuple #[.agg (IC (u + 1)), .int .i64 0]), s62, s63, s64, s65, (.int .i64 0), c_b14, b14, rfl, lk h0, lk h1, lk h2, lk h3, lk h4, fun _ => rfl, lk h6, lk h7, lk h8, fun h => by rw [getD_keep (show 5 ≠ 7 by decide)] at h; rw [getD_keep (show 5 ≠ 6 by decide)]; exact hN_b14 h, hz0, by rw [getD_keep (show 5 ≠ 6 by decide)]; exact HF⟩
      · refine wpOp_want rfl rfl (fun K hK => ?_)
        simp only [putAll, z1, z2, z3, z4, z5]
        rw [show listed.getD 6 false = false from hoff] at HF
        skip
        with_reducible apply gA_int HF
        intro bN W HF
        go_simp
        exact hK _ _ ⟨[(.pointer (some ⟨bN, 0, none⟩)), s15, s61, s62, s63, s64, s65, s66], by simp only [putAll, z1, z2], (.pointer (some ⟨bN, 0, none⟩)), s15, s61, s62, s63, s64, s65, s66, (intC false 0), bN, rfl, lk h0, lk h1, lk h2, lk h3, lk h4, lk h5, fun _ => rfl, fun h => absurd (hN_b14 (by rw [getD_keep (show 6 ≠ 7 by decide)] at h; exact h)) (by rw [hoff]; decide), lk h8, fun _ => getD_on (by omega), by exact tS2, by rw [getD_on (show 6 < listed.size by omega)]; exact Fr.mid (A := [(b11, IC w2, 29), (b10, IC v, 29), (b9, IC u, 29), (b6, intC false 0, 29), (b3, RC n d, 31)]) HF⟩
      · have d4 := h4 (hd 4 (by kernel_rfl))
        have d6 := h6 (hd 6 (by kernel_rfl))
        obtain rfl := d4
        obtain rfl := d6
        refine wpOp_want rfl rfl (fun K hK => ?_)
        simp only [putAll, z1, z2, z3, z4, z5]
        rw [hd 6 (by kernel_rfl)] at HF
        simp only [onl, if_true, z7, z8] at HF
        with_reducible apply gS HF
        · exact rfl
        · exact rfl
        · (exact tL)
        · (first | (exact tR2))
        · first | exact hz0 | exact tS2
        clear HF
        intro W HF
        simp only [z7, z8] at HF
        go_simp
        exact hK _ _ ⟨[(.pointer (some ⟨b14, 0, none⟩)), s15, s61, s62, s63, s64, (.agg (IC (u + 1))), s66], by simp only [putAll, z1, z2], (.pointer (some ⟨b14, 0, none⟩)), s15, s61, s62, s63, s64, (.agg (IC (u + 1))), s66, (IC (u + 1)), b14, rfl, lk h0, lk h1, lk h2, lk h3, lk h4, lk h5, lk h6, fun _ => rfl, lk h8, fun _ => by rw [getD_keep (show 7 ≠ 6 by decide)]; exact hd 6 (by kernel_rfl), rfl, by rw [getD_keep (show 7 ≠ 6 by decide), hd 6 (by kernel_rfl)]; exact HF⟩
      · have d5 := h5 (hd 5 (by kernel_rfl))
        obtain rfl := d5
        refine wpOp_want rfl rfl (fun K hK => ?_)
        simp only [putAll, z1, z2, z3, z4, z5]
        refine ⟨?_⟩
        go_simp
        exact hK _ _ ⟨[s14, (.int .i64 0), s61, s62, s63, s64, s65, (.int .i64 0)], by simp only [putAll, z1, z2], s14, (.int .i64 0), s61, s62, s63, s64, s65, (.int .i64 0), c_b14, b14, rfl, lk h0, lk h1, lk h2, lk h3, lk h4, lk h5, lk h6, lk h7, fun _ => rfl, fun h => by rw [getD_keep (show 8 ≠ 7 by decide)] at h; rw [getD_keep (show 8 ≠ 6 by decide)]; exact hN_b14 h, hz0, by rw [getD_keep (show 8 ≠ 6 by decide)]; exact HF⟩
    rintro listed mm W ⟨s14, s15, s61, s62, s63, s64, s65, s66, c_b14, b14, rfl, h0, h1, h2, h3, h4, h5, h6, h7, h8, hN_b14, hz0, HF⟩ hall
    rw [hall 6 (by decide)] at HF
    simp only [onl, if_true, z7, z8] at HF
    obtain rfl := h0 (hall 0 (by decide))
    obtain rfl := h1 (hall 1 (by decide))
    obtain rfl := h2 (hall 2 (by decide))
    obtain rfl := h3 (hall 3 (by decide))
    obtain rfl := h4 (hall 4 (by decide))
    obtain rfl := h5 (hall 5 (by decide))
    obtain rfl := h6 (hall 6 (by decide))
    rw [h7 (hall 7 (by decide))] at HF
    obtain rfl := h8 (hall 8 (by decide))
    clear hall h0 h1 h2 h3 h4 h5 h6 h7 h8 hN_b14 hz0 F
    have F := HF
    clear HF
    simp only [putAll, z1, z2]
    go_wp2_with (first | go_skip | ((with_reducible apply fL F); exact rfl; exact rfl; (exact tL); (exact tR2)) | ((with_reducible apply fLm F); exact rfl; exact rfl; (exact tL); (exact tM2); (exact tR2)) | ((with_reducible apply fA_int F); exact rfl) | ((with_reducible apply fX_rat F); exact rfl; exact rfl) | ((with_reducible apply fS F); exact rfl; exact rfl; exact rfl; (exact tL); (exact tR2); (exact tS2); clear F; intro W F; simp only [z7, z8] at F) | ((with_reducible apply fB_int0); exact rfl))
    exact bodyPost_ret (res_cs rfl rfl rfl (Fr.get F tL) (rowIC _)) rfl ⟨rfl, F.below⟩
end
section
open Go.RowKit
set_option maxHeartbeats 2000000
def toI (z : Int) : Int × Bool := if -9223372036854775808 ≤ z ∧ z < 9223372036854775808 then (z, true) else (0, false)
theorem two_lims {m : Nat} (h : m < 18446744073709551616) : m = lim m 1 * 4294967296 + lim m 0 := by
  unfold lim
  rw [bp_zero, bp_one]
  omega
set_option maxRecDepth 100000 in
theorem toInt_any {z : Int} (hz : z.natAbs < bp 32) {r : Int × Bool} (hr : toI z = r) (w : World) : Calls Tryz.prog 54 #[.agg (IC z)] w (RetB (.tuple #[.int .i64 r.1, .bool r.2]) w) := by
  have F := Fr.start w
  have g1 := fun w => splitZ hz w
  obtain ⟨m, hm⟩ : ∃ m, z.natAbs = m := ⟨_, rfl⟩
  rw [hm] at g1 hz
  obtain ⟨g, hg⟩ : ∃ g, decide (z < 0) = g := ⟨_, rfl⟩
  rw [hg] at g1
  have HR := Lib.hid (And.intro hr (And.intro hm hg))
  clear hr hm hg
  go_enter Tryz.func54, Tryz.ntmps54
  go_wp2_with (first | go_skip | ((with_reducible apply fL F); exact rfl; exact rfl; (exact tL); (exact tR2)) | ((with_reducible apply fX_int F); exact rfl; exact rfl) | ((with_reducible apply fA_mag F); exact rfl) | ((with_reducible apply fS F); exact rfl; exact rfl; exact rfl; (exact tL); (exact tR2); (exact tS2); clear F; intro W F; simp only [z7, z8] at F))
  (clear F; intro b1 W F; try simp only [Act.put, z6, z1, z2])
  go_wp2_with (first | go_skip | ((go_at_call 100); (with_reducible refine fr_call F (g1 _) ?_); (clear F; intro W F); (try dsimp only)) | ((with_reducible apply fL F); exact rfl; exact rfl; (exact tL); (exact tR2)) | ((with_reducible apply fX_int F); exact rfl; exact rfl) | ((with_reducible apply fA_mag F); exact rfl) | ((with_reducible apply fS F); exact rfl; exact rfl; exact rfl; (exact tL); (exact tR2); (exact tS2); clear F; intro W F; simp only [z7, z8] at F))
  (clear F; intro b5 W F; try simp only [Act.put, z6, z1, z2])
  have g2 := fun W (h : Fr w W ((b5, limA 32 m, 108) :: [(b1, IC z, 29)])) => mbits_any (m := m) (g := b5) (w := W) (Fr.get h tL) hz
  by_cases h64 : 64 < bl m
  · have hr : (0, false) = r := by
      obtain ⟨h1, h2, h3⟩ := HR.out
      rw [← h1, toI, if_neg]
      intro ⟨h4, h5⟩
      have := bl_le_of (m := m) (n := 64) (by omega)
      omega
    subst hr
    go_wp2_with (first | go_skip | ((go_at_call 101); (with_reducible refine fr_call F (g2 _ F) ?_); (clear F; intro W F); (try dsimp only)) | ((with_reducible apply fL F); exact rfl; exact rfl; (exact tL); (exact tR2)) | ((with_reducible apply fX_int F); exact rfl; exact rfl) | ((with_reducible apply fA_mag F); exact rfl) | ((with_reducible apply fS F); exact rfl; exact rfl; exact rfl; (exact tL); (exact tR2); (exact tS2); clear F; intro W F; simp only [z7, z8] at F))
    go_ret2
    exact ⟨rfl, F.below⟩
  have hl : m < 18446744073709551616 := lt_of_bl (n := 64) (by omega)
  have e := two_lims hl
  have k1 := lim_lt m 1
  have k0 := lim_lt m 0
  have c1 : ∀ W, Fr w W ((b5, limA 32 m, 108) :: [(b1, IC z, 29)]) → W.cell? ⟨b5, 1, none⟩ = some (.int .u32 (lim m 1)) := fun W h => (h.get Lies.here).cell (limA_at (by omega))
  have c0 : ∀ W, Fr w W ((b5, limA 32 m, 108) :: [(b1, IC z, 29)]) → W.cell? ⟨b5, 0, none⟩ = some (.int .u32 (lim m 0)) := fun W h => (h.get Lies.here).cell (limA_at (by omega))
  obtain ⟨x, hx⟩ : ∃ x, lim m 1 = x := ⟨_, rfl⟩
  obtain ⟨y, hy⟩ : ∃ y, lim m 0 = y := ⟨_, rfl⟩
  rw [hx, hy] at e
  rw [hx] at c1 k1
  rw [hy] at c0 k0
  have ho := or64 k1 k0
  rw [← e] at ho
  clear hx hy e
  go_upto_region 4 with (first | go_skip | ((go_at_call 101); (with_reducible refine fr_call F (g2 _ F) ?_); (clear F; intro W F); (try dsimp only)) | ((with_reducible apply fL F); exact rfl; exact rfl; (exact tL); (exact tR2)) | ((with_reducible apply fX_int F); exact rfl; exact rfl) | ((with_reducible apply fA_mag F); exact rfl) | ((with_reducible apply fS F); exact rfl; exact rfl; exact rfl; (exact tL); (exact tR2); (exact tS2); clear F; intro W F; simp only [z7, z8] at F))
  have d1 := c1 _ F
  have d0 := c0 _ F
  clear c1 c0 g1 g2 hz
  cases g
  · have hz := of_decide_eq_false HR.out.2.2
    by_cases h63 : m < 9223372036854775808
    · have hr : ((m : Int), true) = r := by
        obtain ⟨h1, h2, h3⟩ := HR.out
        rw [← h1, toI, if_pos (by omega)]
        have : z = (m : Int) := by omega
        rw [this]
      subst hr
      have e := IntWalk.i64_in (m : Int) (by omega)
      have t1 : decide ((m : Int) < 9223372036854775808) = true := decide_eq_true (by omega)
      clear h63 hz hl
      go_wp2_with fail
      go_ret2
      exact ⟨rfl, F.below⟩
    · have hr : (0, false) = r := by
        obtain ⟨h1, h2, h3⟩ := HR.out
        rw [← h1, toI, if_neg (by omega)]
      subst hr
      have t1 : decide ((m : Int) < 9223372036854775808) = false := decide_eq_false (by omega)
      clear h63 hz hl
      go_wp2_with fail
      go_ret2
      exact ⟨rfl, F.below⟩
  · have hz := of_decide_eq_true HR.out.2.2
    by_cases h63 : m ≤ 9223372036854775808
    · have hr : (-(m : Int), true) = r := by
        obtain ⟨h1, h2, h3⟩ := HR.out
        rw [← h1, toI, if_pos (by omega)]
        have : z = -(m : Int) := by omega
        rw [this]
      subst hr
      go_wp2_with fail
      go_ret2
      have e : RowKit.wrap64 (IntKind.u64.wrap (-(m : Int))) = -(m : Int) := by
        rw [IntKind.wrap_u64, RowKit.wrap64]
        omega
      exact ⟨by
        rw [e]; rfl, F.below⟩
    · have hr : (0, false) = r := by
        obtain ⟨h1, h2, h3⟩ := HR.out
        rw [← h1, toI, if_neg (by omega)]
      subst hr
      go_wp2_with fail
      go_ret2
      exact ⟨rfl, F.below⟩
end
section
open Go.RowKit
set_option maxHeartbeats 4000000
theorem intC_set0 (n s : Bool) (m : Nat) : (intC n m).setIfInBounds 0 (.bool s) = intC s m := by
  unfold intC
  apply Array.ext'
  simp
theorem intC_setL {n : Bool} {m i d : Nat} (hd : d < 4294967296) : (intC n m).setIfInBounds (1 + i) (.int .u32 d) = intC n (setM m i d) := by
  unfold intC
  rw [← limA_set hd]
  apply Array.ext'
  simp [Nat.add_comm 1 i]
theorem intC_limb {n : Bool} {m i : Nat} (hi : i < 32) : (intC n m)[1 + i]? = some (.int .u32 (lim m i)) := by
  unfold intC
  rw [Array.getElem?_append_right (by simp)]
  simpa using limA_at (m := m) hi
theorem setM_two {l0 l1 : Nat} (h0 : l0 < 4294967296) (h1 : l1 < 4294967296) : setM (setM 0 0 l0) 1 l1 = l0 + l1 * 4294967296 := by
  have e : setM 0 0 l0 = l0 := by simp [setM, bp]
  rw [e, setM_new (by rw [bp_one]; exact h0), bp_one]
set_option maxRecDepth 100000 in
theorem rfromZ {n : Int} (h1 : -9223372036854775808 ≤ n) (h2 : n < 9223372036854775808) (w : World) : Calls Tryz.prog 80 #[.int .i64 n] w (RetB (.agg (IC n)) w) := by
  have F := Fr.start w
  obtain ⟨a, ha⟩ : ∃ a, n.natAbs = a := ⟨_, rfl⟩
  have ha1 : a < 18446744073709551616 := by omega
  obtain ⟨l0, hl0⟩ : ∃ l, lim a 0 = l := ⟨_, rfl⟩
  obtain ⟨l1, hl1⟩ : ∃ l, lim a 1 = l := ⟨_, rfl⟩
  have hs := lim_two ha1
  have b0 := lim_lt a 0
  have b1 := lim_lt a 1
  rw [hl0] at b0 hs
  rw [hl1] at b1 hs
  have e2 : (a : Int) % 4294967296 = (l0 : Int) := by omega
  have e3 : (a : Int) / 4294967296 = (l1 : Int) := by omega
  have e4 : (l1 : Int) % 4294967296 = (l1 : Int) := by omega
  obtain ⟨s, hsg⟩ : ∃ s, decide (n < 0) = s := ⟨_, rfl⟩
  have HE := Lib.hid (show intC s (l0 + l1 * 4294967296) = IC n by unfold IC; rw [hsg, ha, ← hs])
  have HB := Lib.hid (And.intro b0 b1)
  have HK : Hid (∀ (w W : World) (b : Nat) (L : List Ent), Fr w W ((b, intC false 0, 29) :: L) → Fr w (((W.setCell ⟨b, 0, none⟩ (.bool s)).setCell ⟨b, 1, none⟩ (.int .u32 l0)).setCell ⟨b, 2, none⟩ (.int .u32 l1)) ((b, IC n, 29) :: L)) := Lib.hid (fun w W b L F => by
    have F1 := (F.cellA (A := []) 0 (.bool s)).is (intC_set0 false s 0)
    have F2 := (F1.cellA (A := []) 1 (.int .u32 l0)).is (intC_setL (i := 0) b0)
    have F3 := (F2.cellA (A := []) 2 (.int .u32 l1)).is (intC_setL (i := 1) b1)
    rw [setM_two b0 b1, HE.out] at F3
    exact F3)
  go_enter Tryz.func80, Tryz.ntmps80
  go_wp2_with (first | go_skip | ((with_reducible apply fL F); exact rfl; exact rfl; (exact tL); (exact tR3)) | ((with_reducible apply fLm F); exact rfl; exact rfl; (exact tL); (exact tM3); (exact tR3)) | ((with_reducible apply fA_int F); exact rfl) | ((with_reducible apply fS F); exact rfl; exact rfl; exact rfl; (exact tL); (exact tR3); (exact tS2); clear F; intro W F; simp only [z7, z8] at F))
  (clear F; intro b2 W F; try simp only [Act.put, z6, z1, z2])
  by_cases hn : n < 0
  · have e1 : IntKind.u64.wrap (-IntKind.u64.wrap n) = (a : Int) := by
      rw [IntKind.wrap_u64, IntKind.wrap_u64]
      omega
    have hs : s = true := by rw [← hsg]; exact decide_eq_true hn
    subst hs
    clear ha hl0 hl1 hs hsg
    go_wp2_with (first | go_skip | ((with_reducible apply fL F); exact rfl; exact rfl; (exact tL); (exact tR3)) | ((with_reducible apply fLm F); exact rfl; exact rfl; (exact tL); (exact tM3); (exact tR3)) | ((with_reducible apply fA_int F); exact rfl) | ((with_reducible apply fS F); exact rfl; exact rfl; exact rfl; (exact tL); (exact tR3); (exact tS2); clear F; intro W F; simp only [z7, z8] at F))
    (clear F; intro b4 W F; try simp only [Act.put, z6, z1, z2])
    have c0 := (F.get Lies.here).cell (intC_neg false 0)
    have c1 := (F.get Lies.here).cell (intC_limb (n := false) (m := 0) (i := 0) (by decide))
    have c2 := (F.get Lies.here).cell (intC_limb (n := false) (m := 0) (i := 1) (by decide))
    have f0 := BlkAt.fz (F.get Lies.here) 0
    have f1 := BlkAt.fz (F.get Lies.here) 1
    have f2 := BlkAt.fz (F.get Lies.here) 2
    have FN := Lib.hid (HK.out _ _ _ _ F)
    go_upto_region 7 with fail
    clear F c0 c1 c2 f0 f1 f2
    have F := FN.out
    clear FN
    generalize World.setCell _ _ _ = W7 at *
    go_wp2_with (first | go_skip | ((with_reducible apply fL F); exact rfl; exact rfl; (exact tL); (exact tR3)) | ((with_reducible apply fLm F); exact rfl; exact rfl; (exact tL); (exact tM3); (exact tR3)) | ((with_reducible apply fA_int F); exact rfl) | ((with_reducible apply fS F); exact rfl; exact rfl; exact rfl; (exact tL); (exact tR3); (exact tS2); clear F; intro W F; simp only [z7, z8] at F))
    exact bodyPost_ret (res_c rfl rfl (Fr.get F tL) (rowIC _)) rfl ⟨rfl, F.below⟩
  · have hdc : decide (n < 0) = false := decide_eq_false hn
    have hs : s = false := by rw [← hsg]; exact hdc
    have e5 : n % 4294967296 = (l0 : Int) := by omega
    have e6 : n / 4294967296 = (l1 : Int) := by omega
    subst hs
    clear ha hl0 hl1 hs hsg e2 e3
    go_wp2_with (first | go_skip | ((with_reducible apply fL F); exact rfl; exact rfl; (exact tL); (exact tR3)) | ((with_reducible apply fLm F); exact rfl; exact rfl; (exact tL); (exact tM3); (exact tR3)) | ((with_reducible apply fA_int F); exact rfl) | ((with_reducible apply fS F); exact rfl; exact rfl; exact rfl; (exact tL); (exact tR3); (exact tS2); clear F; intro W F; simp only [z7, z8] at F))
    (clear F; intro b4 W F; try simp only [Act.put, z6, z1, z2])
    have c0 := (F.get Lies.here).cell (intC_neg false 0)
    have c1 := (F.get Lies.here).cell (intC_limb (n := false) (m := 0) (i := 0) (by decide))
    have c2 := (F.get Lies.here).cell (intC_limb (n := false) (m := 0) (i := 1) (by decide))
    have f0 := BlkAt.fz (F.get Lies.here) 0
    have f1 := BlkAt.fz (F.get Lies.here) 1
    have f2 := BlkAt.fz (F.get Lies.here) 2
    have FN := Lib.hid (HK.out _ _ _ _ F)
    go_upto_region 7 with fail
    clear F c0 c1 c2 f0 f1 f2
    have F := FN.out
    clear FN
    generalize World.setCell _ _ _ = W7 at *
    go_wp2_with (first | go_skip | ((with_reducible apply fL F); exact rfl; exact rfl; (exact tL); (exact tR3)) | ((with_reducible apply fLm F); exact rfl; exact rfl; (exact tL); (exact tM3); (exact tR3)) | ((with_reducible apply fA_int F); exact rfl) | ((with_reducible apply fS F); exact rfl; exact rfl; exact rfl; (exact tL); (exact tR3); (exact tS2); clear F; intro W F; simp only [z7, z8] at F))
    exact bodyPost_ret (res_c rfl rfl (Fr.get F tL) (rowIC _)) rfl ⟨rfl, F.below⟩
end
section
open Go.RowKit
set_option maxHeartbeats 4000000
theorem used_two {m n : Nat} (h : Used m n) : n ≤ 2 ↔ m < 18446744073709551616 := by
  have e : bp 2 = 18446744073709551616 := by unfold bp; rfl
  rw [← e]
  constructor
  · intro h2
    exact Nat.lt_of_lt_of_le h.1 (bp_le h2)
  · intro h2
    rcases Nat.lt_or_ge 2 n with h3 | h3
    · rcases h.2 with h0 | h0
      · omega
      · have := bp_le (show 2 ≤ n - 1 by omega)
        omega
    · exact h3
set_option maxRecDepth 100000 in
theorem rlow_any {m : Nat} (hl : m < 18446744073709551616) (w : World) : Calls Tryz.prog 160 #[.agg (limA 32 m)] w (RetB (.int .u64 m) w) := by
  have F := Fr.start w
  have e := two_lims hl
  have k1 := lim_lt m 1
  have k0 := lim_lt m 0
  obtain ⟨x, hx⟩ : ∃ x, lim m 1 = x := ⟨_, rfl⟩
  obtain ⟨y, hy⟩ : ∃ y, lim m 0 = y := ⟨_, rfl⟩
  rw [hx, hy] at e
  rw [hx] at k1
  rw [hy] at k0
  have ho := or64 k1 k0
  rw [← e] at ho
  have hc1 : (limA 32 m)[1]? = some (.int .u32 x) := by rw [← hx]; exact limA_at (by decide)
  have hc0 : (limA 32 m)[0]? = some (.int .u32 y) := by rw [← hy]; exact limA_at (by decide)
  clear hx hy e hl
  go_enter Tryz.func160, Tryz.ntmps160
  go_wp2_with (first | go_skip | ((with_reducible apply fX_arr F); exact rfl; exact rfl))
  (clear F; intro b1 W F; try simp only [Act.put, z6, z1, z2])
  have c1 := (F.get Lies.here).cell hc1
  have c0 := (F.get Lies.here).cell hc0
  go_wp2_with fail
  go_ret
  exact ⟨rfl, F.below⟩
set_option maxRecDepth 100000 in
theorem rsmall_any {a : Nat} (ha1 : a < 18446744073709551616) (w : World) : Calls Tryz.prog 159 #[.int .u64 a] w (RetB (.agg (limA 32 a)) w) := by
  have F := Fr.start w
  obtain ⟨l0, hl0⟩ : ∃ l, lim a 0 = l := ⟨_, rfl⟩
  obtain ⟨l1, hl1⟩ : ∃ l, lim a 1 = l := ⟨_, rfl⟩
  have hs := lim_two ha1
  have b0 := lim_lt a 0
  have b1 := lim_lt a 1
  rw [hl0] at b0 hs
  rw [hl1] at b1 hs
  have e2 : (a : Int) % 4294967296 = (l0 : Int) := by omega
  have e3 : (a : Int) / 4294967296 = (l1 : Int) := by omega
  have e4 : (l1 : Int) % 4294967296 = (l1 : Int) := by omega
  have HK : Hid (∀ (w W : World) (b : Nat) (L : List Ent), Fr w W ((b, limA 32 0, 27) :: L) → Fr w ((W.setCell ⟨b, 0, none⟩ (.int .u32 l0)).setCell ⟨b, 1, none⟩ (.int .u32 l1)) ((b, limA 32 a, 27) :: L)) := Lib.hid (fun w W b L F => by
    have F2 := (F.cellA (A := []) 0 (.int .u32 l0)).is (limA_set b0)
    have F3 := (F2.cellA (A := []) 1 (.int .u32 l1)).is (limA_set b1)
    rw [setM_two b0 b1, ← hs] at F3
    exact F3)
  clear hl0 hl1 hs
  go_enter Tryz.func159, Tryz.ntmps159
  go_wp2_with (first | go_skip | ((with_reducible apply fL F); exact rfl; exact rfl; (exact tL); (exact tR3)) | ((with_reducible apply fA_arr F); exact rfl) | ((with_reducible apply fS F); exact rfl; exact rfl; exact rfl; (exact tL); (exact tR3); (exact tS2); clear F; intro W F; simp only [z7, z8] at F))
  (clear F; intro b2 W F; try simp only [Act.put, z6, z1, z2])
  go_wp2_with (first | go_skip | ((with_reducible apply fL F); exact rfl; exact rfl; (exact tL); (exact tR3)) | ((with_reducible apply fA_arr F); exact rfl) | ((with_reducible apply fS F); exact rfl; exact rfl; exact rfl; (exact tL); (exact tR3); (exact tS2); clear F; intro W F; simp only [z7, z8] at F))
  (clear F; intro b3 W F; try simp only [Act.put, z6, z1, z2])
  have c1 := (F.get Lies.here).cell (limA_at (n := 32) (m := 0) (j := 0) (by decide))
  have c2 := (F.get Lies.here).cell (limA_at (n := 32) (m := 0) (j := 1) (by decide))
  have f1 := BlkAt.fz (F.get Lies.here) 0
  have f2 := BlkAt.fz (F.get Lies.here) 1
  have FN := Lib.hid (HK.out _ _ _ _ F)
  go_upto_region 3 with fail
  clear F c1 c2 f1 f2
  have F := FN.out
  clear FN
  generalize World.setCell _ _ _ = W7 at *
  go_wp2_with (first | go_skip | ((with_reducible apply fL F); exact rfl; exact rfl; (exact tL); (exact tR3)) | ((with_reducible apply fA_arr F); exact rfl) | ((with_reducible apply fS F); exact rfl; exact rfl; exact rfl; (exact tL); (exact tR3); (exact tS2); clear F; intro W F; simp only [z7, z8] at F))
  exact bodyPost_ret (res_c rfl rfl (Fr.get F tL) (rowArr _)) rfl ⟨rfl, F.below⟩
end
section
open Go.RowKit
set_option maxHeartbeats 4000000
theorem dbl_step {m bit i q S : Nat} (hq : q ≤ 1) (h1 : S / bp i = m / bp i) (h2 : S % bp i + q * bp i = 2 * (m % bp i) + bit) :
    lim S i = lim m i ∧ setM S i ((2 * lim m i + q) % 4294967296) / bp (i + 1) = m / bp (i + 1) ∧ setM S i ((2 * lim m i + q) % 4294967296) % bp (i + 1) + (2 * lim m i + q) / 4294967296 * bp (i + 1) = 2 * (m % bp (i + 1)) + bit := by
  have hl : lim S i = lim m i := by unfold lim; rw [h1]
  have hd : (2 * lim m i + q) % 4294967296 < 4294967296 := Nat.mod_lt _ (by decide)
  have h3 : S / bp (i + 1) = m / bp (i + 1) := by
    have a := div_succ S i
    have b := div_succ m i
    rw [hl] at a
    omega
  refine ⟨hl, by rw [setM_high hd, h3], ?_⟩
  rw [mod_succ, setM_mod, lim_set hd, if_pos rfl, mod_succ m i, bp_succ]
  generalize lim m i = x at *
  have e : (2 * x + q) % 4294967296 * bp i + (2 * x + q) / 4294967296 * (bp i * 4294967296) = (2 * x + q) * bp i := by
    rw [Nat.mul_comm (bp i) 4294967296, ← Nat.mul_assoc, ← Nat.add_mul]
    congr 1
    have := Nat.mod_add_div (2 * x + q) 4294967296
    omega
  have e2 : (2 * x + q) * bp i = 2 * (x * bp i) + q * bp i := by rw [Nat.add_mul, Nat.mul_assoc]
  omega
theorem Fr.is2 {w W : World} {x : Ent} {b : Nat} {cs cs' : Array Value} {t : TypeId} {L : List Ent} (h : Fr w W (x :: (b, cs, t) :: L)) (e : cs = cs') : Fr w W (x :: (b, cs', t) :: L) := e ▸ h
theorem or_bit {x q : Nat} (hx : x < 4294967296) (hq : q ≤ 1) : (x * 2 % 4294967296) ||| q = (2 * x + q) % 4294967296 ∧ x / 2147483648 = (2 * x + q) / 4294967296 := by
  refine ⟨?_, by omega⟩
  have h := Nat.two_pow_add_eq_or_of_lt (i := 1) (b := q) (by omega) (x % 2147483648)
  rw [show x * 2 % 4294967296 = 2 ^ 1 * (x % 2147483648) by omega, ← h]
  omega
set_option maxRecDepth 100000 in
theorem rdouble_any {m bit : Nat} (lm : m < bp 32) (hbit : bit ≤ 1) {r : Nat} {f : Bool} (hr : (2 * m + bit) % bp 32 = r) (hf : decide (bp 32 ≤ 2 * m + bit) = f) (w : World) : Calls Tryz.prog 162 #[.agg (limA 32 m), .int .u32 bit] w (RetB (.tuple #[.agg (limA 32 r), .bool f]) w) := by
  have F := Fr.start w
  have HR := Lib.hid (And.intro hr (And.intro hf (And.intro lm hbit)))
  clear hr hf lm hbit
  go_enter Tryz.func162, Tryz.ntmps162
  go_wp2_with (first | go_skip | ((with_reducible apply fL F); exact rfl; exact rfl; (exact tL); (exact tR3)) | ((with_reducible apply fA_arr F); exact rfl) | ((with_reducible apply fX_arr F); exact rfl; exact rfl) | ((with_reducible apply fS F); exact rfl; exact rfl; exact rfl; (exact tL); (exact tR3); (exact tS2); clear F; intro W F; simp only [z7, z8] at F))
  (clear F; intro b2 W F; try simp only [Act.put, z6, z1, z2])
  go_wp2_with (first | go_skip | ((with_reducible apply fL F); exact rfl; exact rfl; (exact tL); (exact tR3)) | ((with_reducible apply fA_arr F); exact rfl) | ((with_reducible apply fX_arr F); exact rfl; exact rfl) | ((with_reducible apply fS F); exact rfl; exact rfl; exact rfl; (exact tL); (exact tR3); (exact tS2); clear F; intro W F; simp only [z7, z8] at F))
  (clear F; intro b4 W F; try simp only [Act.put, z6, z1, z2])
  go_wp2_with (first | go_skip | ((with_reducible apply fL F); exact rfl; exact rfl; (exact tL); (exact tR3)) | ((with_reducible apply fA_arr F); exact rfl) | ((with_reducible apply fX_arr F); exact rfl; exact rfl) | ((with_reducible apply fS F); exact rfl; exact rfl; exact rfl; (exact tL); (exact tR3); (exact tS2); clear F; intro W F; simp only [z7, z8] at F))
  go_loopw [1, 6] (fun bv iv wr => ∃ i q S : Nat, i ≤ 32 ∧ q ≤ 1 ∧ S < bp 32 ∧ bv = .int .u32 q ∧ iv = .int .i64 i ∧ S / bp i = m / bp i ∧ S % bp i + q * bp i = 2 * (m % bp i) + bit ∧ Fr w wr [(b4, limA 32 0, 27), (b2, limA 32 S, 27)]) (fun _ iv _ => 32 - (intOf iv).toNat)
  case atStart => exact ⟨0, bit, m, by omega, HR.out.2.2.2, HR.out.2.2.1, rfl, rfl, rfl, by rw [bp_zero]; omega, F⟩
  case round =>
    clear F
    obtain ⟨i, q, S, hi, hq, hS, rfl, rfl, h1, h2, F⟩ := hrel
    by_cases hlt : i < 32
    · obtain ⟨hl, s1, s2⟩ := dbl_step hq h1 h2
      have hx1 := lim_lt m i
      obtain ⟨x, hx⟩ : ∃ x, lim m i = x := ⟨_, rfl⟩
      rw [hx] at hl s1 s2 hx1
      obtain ⟨o1, o2⟩ := or_bit hx1 hq
      obtain ⟨d, hd⟩ : ∃ d, (2 * x + q) % 4294967296 = d := ⟨_, rfl⟩
      obtain ⟨q', hq'⟩ : ∃ q', (2 * x + q) / 4294967296 = q' := ⟨_, rfl⟩
      rw [hd] at s1 s2 o1
      rw [hq'] at s2 o2
      have hd1 : d < 4294967296 := by rw [← hd]; exact Nat.mod_lt _ (by decide)
      have c1 := (F.get (Lies.tl Lies.here)).cell (limA_at (m := S) hlt)
      have f1 := BlkAt.fz (F.get (Lies.tl Lies.here)) i
      rw [hl] at c1
      have m1 : IntKind.u32.wrap ((x : Int) * 2) = ((x * 2 % 4294967296 : Nat) : Int) := by rw [IntKind.wrap_u32]; omega
      obtain ⟨p, hp⟩ : ∃ p, x * 2 % 4294967296 = p := ⟨_, rfl⟩
      rw [hp] at m1 o1
      have mo : bits .or .u32 (p : Int) (q : Int) = (d : Int) := by rw [u32_or_nat p q (by omega) (by omega), o1]
      have m2 : (x : Int) / 2147483648 = (q' : Int) := by omega
      have i0 : (0 : Int) ≤ (i : Int) := by omega
      have i1 : (i : Int) < 32 := by omega
      have HN := Lib.hid (And.intro s1 (And.intro s2 (And.intro (setM_lt hS hlt hd1) (And.intro (show q' ≤ 1 by omega) ((F.cellA (A := [(b4, limA 32 0, 27)]) i (.int .u32 d)).is2 (limA_set hd1))))))
      clear s1 s2 hl h1 h2 hx o1 o2 hd hq' hp F hd1 hS
      go_wp2_with fail
      go_region_law (first | fail)
      all_goals
        go_simp
        go_wp2_with fail
        go_roundw
        case rel => exact ⟨i + 1, q', setM S i d, by omega, HN.out.2.2.2.1, HN.out.2.2.1, rfl, by go_num, HN.out.1, HN.out.2.1, HN.out.2.2.2.2.drew⟩
        case measure => simp [intOf]; omega
    · obtain rfl : i = 32 := by omega
      obtain ⟨hr, hf, lm, hb⟩ := HR.out
      rw [Nat.mod_eq_of_lt hS, Nat.mod_eq_of_lt lm] at h2
      have hsv : S = r := by rw [← hr, ← h2, Nat.add_mul_mod_self_right, Nat.mod_eq_of_lt hS]
      have g1 : ((q : Int) == 1) = f := by
        rw [← hf, ← h2]
        have hq2 : q = 0 ∨ q = 1 := by omega
        rcases hq2 with rfl | rfl
        · rw [decide_eq_false (by omega)]
          rfl
        · rw [decide_eq_true (by omega)]
          rfl
      subst hsv
      clear HR hr hf lm hb h1 h2 hS hq hlt
      go_wp2_with (first | go_skip | ((with_reducible apply fL F); exact rfl; exact rfl; (exact tL); (exact tR3)) | ((with_reducible apply fA_arr F); exact rfl) | ((with_reducible apply fX_arr F); exact rfl; exact rfl) | ((with_reducible apply fS F); exact rfl; exact rfl; exact rfl; (exact tL); (exact tR3); (exact tS2); clear F; intro W F; simp only [z7, z8] at F))
      exact bodyPost_ret (res_cs rfl rfl rfl (Fr.get F tL) (rowArr _)) rfl ⟨rfl, F.below⟩
end
section
open Go.RowKit
theorem bit_eq {a i j s : Nat} (h : i = 32 * j + s) (hs : s < 32) : lim a j / 2 ^ s % 2 = a / 2 ^ i % 2 := by
  have h1 := lim_testBit a j s
  rw [decide_eq_true hs, Bool.true_and, ← h, Nat.testBit_eq_decide_div_mod_eq, Nat.testBit_eq_decide_div_mod_eq, decide_eq_decide] at h1
  generalize lim a j / 2 ^ s = p at *
  generalize a / 2 ^ i = q at *
  omega
theorem div_step {a b i r q R : Nat} (hb : 0 < b) (hr : a / 2 ^ (i + 1) % b = r) (hq : a / 2 ^ (i + 1) / b * 2 ^ (i + 1) = q) (hR : 2 * r + a / 2 ^ i % 2 = R) :
    r < b ∧ (R < b → a / 2 ^ i % b = R ∧ a / 2 ^ i / b * 2 ^ i = q) ∧ (b ≤ R → a / 2 ^ i % b = R - b ∧ a / 2 ^ i / b * 2 ^ i = q + 2 ^ i) := by
  have hlt : r < b := by rw [← hr]; exact Nat.mod_lt _ hb
  rw [Nat.pow_succ] at hr hq
  rw [← Nat.div_div_eq_div_mul] at hr hq
  generalize a / 2 ^ i = B at *
  generalize 2 ^ i = P at *
  have hdm := Nat.div_add_mod (B / 2) b
  rw [hr] at hdm
  generalize B / 2 / b = Q at *
  refine ⟨hlt, fun h => ?_, fun h => ?_⟩
  · have h1 : R + b * (2 * Q) = B := by rw [Nat.mul_left_comm]; omega
    obtain ⟨h2, h3⟩ := (Nat.div_mod_unique hb).2 ⟨h1, h⟩
    exact ⟨h3, by rw [h2, ← hq, Nat.mul_comm 2 Q, Nat.mul_assoc, Nat.mul_comm 2 P]⟩
  · have h1 : R - b + b * (2 * Q + 1) = B := by rw [Nat.mul_add, Nat.mul_left_comm]; omega
    obtain ⟨h2, h3⟩ := (Nat.div_mod_unique hb).2 ⟨h1, by omega⟩
    exact ⟨h3, by rw [h2, ← hq, Nat.add_mul, Nat.mul_comm 2 Q, Nat.mul_assoc, Nat.mul_comm 2 P, Nat.one_mul]⟩
theorem quo_bit {q i j s : Nat} (h : i = 32 * j + s) (hs : s < 32) (hq : q % 2 ^ (i + 1) = 0) : (lim q j ||| 2 ^ s) = lim q j + 2 ^ s ∧ lim q j + 2 ^ s < 4294967296 ∧ setM q j (lim q j + 2 ^ s) = q + 2 ^ i := by
  have hpi : 2 ^ i = bp j * 2 ^ s := by rw [h, Nat.pow_add, bp_two]
  obtain ⟨c, hc⟩ : ∃ c, q = 2 ^ (i + 1) * c := ⟨_, (Nat.mul_div_cancel' (Nat.dvd_of_mod_eq_zero hq)).symm⟩
  have hx : ∃ d, lim q j = 2 ^ (s + 1) * d ∧ d < 2 ^ (31 - s) := by
    refine ⟨c % 2 ^ (31 - s), ?_, Nat.mod_lt _ (Nat.pow_pos (by decide))⟩
    have e : (4294967296 : Nat) = 2 ^ (s + 1) * 2 ^ (31 - s) := by rw [← Nat.pow_add, show s + 1 + (31 - s) = 32 by omega]
    unfold lim
    rw [hc, Nat.pow_succ, hpi, Nat.mul_assoc (bp j), Nat.mul_assoc (bp j), Nat.mul_div_cancel_left _ (bp_pos j), ← Nat.pow_succ, e, Nat.mul_mod_mul_left]
  obtain ⟨d, hd, hd2⟩ := hx
  have hlt : 2 ^ s < 2 ^ (s + 1) := Nat.pow_lt_pow_right (by decide) (by omega)
  refine ⟨?_, ?_, ?_⟩
  · rw [hd, Nat.two_pow_add_eq_or_of_lt hlt]
  · have e : 2 ^ (s + 1) * 2 ^ (31 - s) = 4294967296 := by rw [← Nat.pow_add, show s + 1 + (31 - s) = 32 by omega]
    have h1 : 2 ^ (s + 1) * (d + 1) ≤ 2 ^ (s + 1) * 2 ^ (31 - s) := Nat.mul_le_mul_left _ hd2
    rw [e, Nat.mul_add, Nat.mul_one] at h1
    omega
  · have h1 := setM_add q j (lim q j + 2 ^ s)
    rw [Nat.add_mul, Nat.mul_comm (2 ^ s), ← hpi] at h1
    omega
theorem shr_small {a m n : Nat} (ha : a < 2 ^ m) : a / 2 ^ (m - n) < 2 ^ n := by
  rw [Nat.div_lt_iff_lt_mul (Nat.pow_pos (by decide)), ← Nat.pow_add]
  exact Nat.lt_of_lt_of_le ha (Nat.pow_le_pow_right (by decide) (by omega))
end
section
open Go.RowKit
set_option maxHeartbeats 4000000
theorem putAll_self (ts : List Value) (sl : List Nat) : putAll ts sl (sl.map fun i => ts.getD i undef) = ts := by
  induction sl with
  | nil => rfl
  | cons i sl ih =>
    have e : ts.set i (ts.getD i undef) = ts := by
      by_cases h : i < ts.length
      · simp [List.getD, h]
      · exact List.set_eq_of_length_le (by omega)
    show putAll (ts.set i (ts.getD i undef)) sl (sl.map fun i => ts.getD i undef) = ts
    rw [e]
    exact ih
theorem dr_c4 {i : Nat} (h : i < 4) : i = 0 ∨ i = 1 ∨ i = 2 ∨ i = 3 := by omega
theorem dr_c6 {i : Nat} (h : i < 6) : i = 0 ∨ i = 1 ∨ i = 2 ∨ i = 3 ∨ i = 4 ∨ i = 5 := by omega
theorem dr_c8 {i : Nat} (h : i < 8) : i = 0 ∨ i = 1 ∨ i = 2 ∨ i = 3 ∨ i = 4 ∨ i = 5 ∨ i = 6 ∨ i = 7 := by omega
theorem dr_c9 {i : Nat} (h : i < 9) : i = 0 ∨ i = 1 ∨ i = 2 ∨ i = 3 ∨ i = 4 ∨ i = 5 ∨ i = 6 ∨ i = 7 ∨ i = 8 := by omega
theorem dr_c12 {i : Nat} (h : i < 12) : i = 0 ∨ i = 1 ∨ i = 2 ∨ i = 3 ∨ i = 4 ∨ i = 5 ∨ i = 6 ∨ i = 7 ∨ i = 8 ∨ i = 9 ∨ i = 10 ∨ i = 11 := by omega
theorem dr_c14 {i : Nat} (h : i < 14) : i = 0 ∨ i = 1 ∨ i = 2 ∨ i = 3 ∨ i = 4 ∨ i = 5 ∨ i = 6 ∨ i = 7 ∨ i = 8 ∨ i = 9 ∨ i = 10 ∨ i = 11 ∨ i = 12 ∨ i = 13 := by omega
theorem dr_c16 {i : Nat} (h : i < 16) : i = 0 ∨ i = 1 ∨ i = 2 ∨ i = 3 ∨ i = 4 ∨ i = 5 ∨ i = 6 ∨ i = 7 ∨ i = 8 ∨ i = 9 ∨ i = 10 ∨ i = 11 ∨ i = 12 ∨ i = 13 ∨ i = 14 ∨ i = 15 := by omega
theorem lim_up (m k i : Nat) : lim (m / bp k) i = lim m (i + k) := by
  unfold lim
  rw [Nat.div_div_eq_div_mul, Nat.add_comm, bp_add]
theorem shr_split {m k s n : Nat} (h : n = 32 * k + s) : m / 2 ^ n = m / bp k / 2 ^ s := by
  rw [h, Nat.pow_add, ← bp_two, Nat.div_div_eq_div_mul]
theorem wraps {j : Nat} (h : j ≤ 100000) : RowKit.wrap64 (j : Int) = (j : Int) ∧ IntKind.i64.wrap (j : Int) = (j : Int) ∧ IntKind.u64.wrap (j : Int) = (j : Int) := ⟨by rw [RowKit.wrap64]; omega, IntWalk.i64_in _ (by omega), wrap64 (by omega)⟩
theorem tdiv_nat {n d k : Nat} (h : n / d = k) : Int.tdiv (n : Int) (d : Int) = (k : Int) := by rw [← h]; exact Int.ofNat_tdiv n d
theorem tmod_nat {n d k : Nat} (h : n % d = k) : Int.tmod (n : Int) (d : Int) = (k : Int) := by rw [← h]; exact Int.ofNat_tmod n d
theorem meas_up {i : Nat} (h : i < 32) : 32 - (intOf (Value.int .i64 ((i + 1 : Nat) : Int))).toNat < 32 - (intOf (Value.int .i64 (i : Int))).toNat := by
  simp only [intOf]
  omega
set_option maxRecDepth 100000 in
theorem rshifted_any {m n : Nat} (lm : m < bp 32) (hn : n ≤ 1024) (w : World) : Calls Tryz.prog 161 #[.agg (limA 32 m), .int .i64 n] w (RetB (.agg (limA 32 (m / 2 ^ n))) w) := by
  have F := Fr.start w
  obtain ⟨k, hk⟩ : ∃ k, n / 32 = k := ⟨_, rfl⟩
  obtain ⟨s, hs⟩ : ∃ s, n % 32 = s := ⟨_, rfl⟩
  have hs32 : s < 32 := by omega
  have hk32 : k ≤ 32 := by omega
  have hsp := shr_split (m := m) (k := k) (s := s) (n := n) (by omega)
  obtain ⟨r, hr⟩ : ∃ r, m / 2 ^ n = r := ⟨_, rfl⟩
  rw [hr] at hsp
  have hrb : r < bp (32 - k) := by
    rw [hsp]
    refine Nat.lt_of_le_of_lt (Nat.div_le_self _ _) ?_
    rw [Nat.div_lt_iff_lt_mul (bp_pos k), ← bp_add, Nat.sub_add_cancel hk32]
    exact lm
  have HS := Lib.hid (And.intro hsp (And.intro hrb (And.intro hr lm)))
  have d1 := tdiv_nat hk
  have d2 := tmod_nat hs
  have d3 : (n : Int) / 32 = (k : Int) := by omega
  have d4 : (n : Int) % 32 = (s : Int) := by omega
  have HK := Lib.hid (And.intro hk32 hs32)
  obtain ⟨ws1, ws2, ws3⟩ := wraps (j := s) (by omega)
  obtain ⟨wk1, wk2, wk3⟩ := wraps (j := k) (by omega)
  clear hk hs hsp hr hrb lm hn hk32 hs32
  go_enter Tryz.func161, Tryz.ntmps161
  go_wp2_with (first | go_skip | ((with_reducible apply fL F); exact rfl; exact rfl; (exact tL); (exact tR3)) | ((with_reducible apply fA_arr F); exact rfl) | ((with_reducible apply fX_arr F); exact rfl; exact rfl) | ((with_reducible apply fS F); exact rfl; exact rfl; exact rfl; (exact tL); (exact tR3); (exact tS2); clear F; intro W F; simp only [z7, z8] at F))
  (clear F; intro b2 W F; try simp only [Act.put, z6, z1, z2])
  go_wp2_with (first | go_skip | ((with_reducible apply fL F); exact rfl; exact rfl; (exact tL); (exact tR3)) | ((with_reducible apply fA_arr F); exact rfl) | ((with_reducible apply fX_arr F); exact rfl; exact rfl) | ((with_reducible apply fS F); exact rfl; exact rfl; exact rfl; (exact tL); (exact tR3); (exact tS2); clear F; intro W F; simp only [z7, z8] at F))
  (clear F; intro b4 W F; try simp only [Act.put, z6, z1, z2])
  go_wp2_with (first | go_skip | ((with_reducible apply fL F); exact rfl; exact rfl; (exact tL); (exact tR3)) | ((with_reducible apply fA_arr F); exact rfl) | ((with_reducible apply fX_arr F); exact rfl; exact rfl) | ((with_reducible apply fS F); exact rfl; exact rfl; exact rfl; (exact tL); (exact tR3); (exact tS2); clear F; intro W F; simp only [z7, z8] at F))
  (clear F; intro b5 W F; try simp only [Act.put, z6, z1, z2])
  go_wp2_with (first | go_skip | ((with_reducible apply fL F); exact rfl; exact rfl; (exact tL); (exact tR3)) | ((with_reducible apply fA_arr F); exact rfl) | ((with_reducible apply fX_arr F); exact rfl; exact rfl) | ((with_reducible apply fS F); exact rfl; exact rfl; exact rfl; (exact tL); (exact tR3); (exact tS2); clear F; intro W F; simp only [z7, z8] at F))
  clear d1 d2 d3 d4 ws1 ws2 ws3 wk1 wk2 wk3
  go_loopw [8] (fun iv wr => ∃ i : Nat, i + k ≤ 32 ∧ iv = .int .i64 i ∧ Fr w wr [(b5, limA 32 (r % bp i), 27), (b4, limA 32 0, 27), (b2, limA 32 m, 27)]) (fun iv _ => 32 - (intOf iv).toNat)
  case atStart => exact ⟨0, by have := HK.out.1; omega, rfl, by rw [bp_zero, Nat.mod_one]; exact F⟩
  case round =>
    clear F
    obtain ⟨i, hi, rfl, F⟩ := hrel
    obtain ⟨j, hj⟩ : ∃ j, i + k = j := ⟨_, rfl⟩
    have mj : (i : Int) + (k : Int) = (j : Int) := by omega
    by_cases hlt : j < 32
    · have hi32 : i < 32 := by omega
      obtain ⟨x, hx⟩ : ∃ x, lim m j = x := ⟨_, rfl⟩
      have hx1 : x < 4294967296 := by rw [← hx]; exact lim_lt _ _
      obtain ⟨p, hp⟩ : ∃ p, x / 2 ^ s = p := ⟨_, rfl⟩
      have hp1 : p < 4294967296 := by rw [← hp]; exact Nat.lt_of_le_of_lt (Nat.div_le_self _ _) hx1
      have m1 : (x : Int) / 2 ^ s = (p : Int) := by rw [← hp]; exact shr_cast x s
      have c1 := (F.get (b := b2) tL).cell (limA_at (m := m) hlt)
      rw [hx] at c1
      have c2 := (F.get (b := b5) Lies.here).cell (limA_at (m := r % bp i) hi32)
      have f2 := BlkAt.fz (F.get (b := b5) Lies.here) i
      have i0 : (0 : Int) ≤ (i : Int) := by omega
      have i1 : (i : Int) < 32 := by omega
      have j0 : (0 : Int) ≤ (j : Int) := by omega
      have j1 : (j : Int) < 32 := by omega
      have hstep : setM (r % bp i) i (lim r i) = r % bp (i + 1) := by
        rw [setM_new (Nat.mod_lt _ (bp_pos i)), mod_succ]
      have HWp := Lib.hid ((F.cellA (A := []) i (.int .u32 p)).is (limA_set hp1))
      have HIJ := Lib.hid (And.intro (show i + 1 + k ≤ 32 by omega) (And.intro hj hi32))
      by_cases hone : ¬ (0 < s ∧ j + 1 < 32)
      · have hpp : p = lim r i := by
          rw [← hp, ← hx, HS.out.1]
          by_cases h0s : 0 < s
          · have hj2 : lim m (j + 1) = 0 := by
              have e : j + 1 = 32 := by omega
              rw [e]
              exact lim_ge (n := 32) HS.out.2.2.2 (Nat.le_refl _)
            rw [lim_shr h0s HK.out.2, lim_up, lim_up, hj, show i + 1 + k = j + 1 by omega, hj2, Nat.zero_mul, Nat.zero_mod, Nat.or_zero]
          · have e : s = 0 := by omega
            rw [e, Nat.pow_zero, Nat.div_one, Nat.div_one, lim_up, hj]
        have HN := Lib.hid (show Fr w (wr.setCell ⟨b5, i, none⟩ (.int .u32 p)) [(b5, limA 32 (r % bp (i + 1)), 27), (b4, limA 32 0, 27), (b2, limA 32 m, 27)] by
          have h := HWp.out
          rw [hpp, hstep, ← hpp] at h
          exact h)
        have hcase : (s = 0 ∧ p = x) ∨ (0 < s ∧ ¬ j + 1 < 32) := by
          by_cases h : s = 0
          · exact .inl ⟨h, by rw [← hp, h, Nat.pow_zero, Nat.div_one]⟩
          · exact .inr (by omega)
        have hmin : min s 32 = s := Nat.min_eq_left (by have := HK.out.2; omega)
        clear hpp hstep HWp hx hp F
        rcases hcase with ⟨h0, h1⟩ | ⟨h0, hj2⟩
        · subst h0
          subst h1
          obtain ⟨wj1, wj2, wj3⟩ := wraps (j := j) (by omega)
          clear hone hi hj hx1 hp1
          go_wp2_with fail
          go_roundw
          case rel => exact ⟨i + 1, HIJ.out.1, by first | rfl | go_num, HN.out⟩
          case measure => exact meas_up HIJ.out.2.2
        · have s0 : (0 : Int) < (s : Int) := by omega
          obtain rfl : j = 31 := by omega
          have mj : (i : Int) + (k : Int) = 31 := mj
          have HI1 := Lib.hid (show IntKind.i64.wrap ((i : Int) + 1) = ((i + 1 : Nat) : Int) by rw [show (i : Int) + 1 = ((i + 1 : Nat) : Int) by omega]; exact (wraps (j := i + 1) (by omega)).2.1)
          clear hone hi hj hx1 hp1 h0 hj2 j0 j1
          go_wp2_with fail
          go_roundw
          case rel => exact ⟨i + 1, HIJ.out.1, by first | rfl | go_num, HN.out⟩
          case measure => exact meas_up HIJ.out.2.2
      rw [Classical.not_not] at hone
      obtain ⟨h0s, hj2⟩ := hone
      have s0 : (0 : Int) < (s : Int) := by omega
      obtain ⟨e, he⟩ : ∃ e, 32 - s = e := ⟨_, rfl⟩
      obtain ⟨y, hy⟩ : ∃ y, lim m (j + 1) = y := ⟨_, rfl⟩
      obtain ⟨q, hq⟩ : ∃ q, y * 2 ^ e % 4294967296 = q := ⟨_, rfl⟩
      obtain ⟨o, ho⟩ : ∃ o, p ||| q = o := ⟨_, rfl⟩
      obtain ⟨k1, hk1⟩ : ∃ k1, j + 1 = k1 := ⟨_, rfl⟩
      have hs32 := HK.out.2
      have m2 : (32 : Int) - (s : Int) = (e : Int) := by omega
      have m0 : (j : Int) + 1 = (k1 : Int) := by omega
      have k0 : (0 : Int) ≤ (k1 : Int) := by omega
      have k33 : (k1 : Int) < 32 := by omega
      have hq1 : q < 4294967296 := by rw [← hq]; exact Nat.mod_lt _ (by decide)
      have hoo : o = lim r i := by
        rw [← ho, ← hp, ← hq, ← hy, ← he, ← hx, HS.out.1, lim_shr h0s hs32, lim_up, lim_up, hj, show i + 1 + k = j + 1 by omega]
      have ho1 : o < 4294967296 := by rw [hoo]; exact lim_lt _ _
      have hk32 : k1 < 32 := by omega
      have hmin : min s 32 = s := Nat.min_eq_left (by omega)
      have hmin2 : min e 32 = e := Nat.min_eq_left (by omega)
      have F2 := HWp.out
      have c3 := (F2.get (b := b2) tL).cell (limA_at (m := m) (j := k1) hk32)
      rw [← hk1, hy, hk1] at c3
      have c4 := (F2.get (b := b5) Lies.here).cell (limA_at (m := setM (r % bp i) i p) hi32)
      have f4 := BlkAt.fz (F2.get (b := b5) Lies.here) i
      rw [lim_set hp1, if_pos rfl] at c4
      have HWo := (F2.cellA (A := []) i (.int .u32 o)).is (limA_set ho1)
      rw [setM_setM hp1, hoo, hstep, ← hoo] at HWo
      have HWw := Lib.hid HWo
      clear HWo
      have bj : j ≤ 100000 := by omega
      have bk : k1 ≤ 100000 := by omega
      have be : e ≤ 100000 := by omega
      have m3 : (y : Int) * 2 ^ e % 4294967296 = (q : Int) := by rw [← hq]; exact shl_cast y e
      have m5 : IntKind.u32.wrap ((y : Int) * 2 ^ e) = (q : Int) := by rw [IntKind.wrap_u32]; exact m3
      have mo : bits .or .u32 (p : Int) (q : Int) = (o : Int) := by rw [u32_or_nat p q hp1 hq1, ho]
      obtain ⟨wj1, wj2, wj3⟩ := wraps bj
      have HW8 := Lib.hid (And.intro (wraps bk) (And.intro (wraps be) (And.intro m3 (And.intro m5 (And.intro mo (And.intro m2 (And.intro k0 (And.intro k33 hmin2))))))))
      have HC := Lib.hid (And.intro c3 (And.intro c4 f4))
      obtain ⟨wk1, wk2, wk3⟩ := wraps bk
      have t3 : decide ((k1 : Int) < 32) = true := decide_eq_true k33
      clear hoo hy he hq ho hx hp hq1 hk1 hstep c3 c4 f4 F2 HWp F hx1 hp1 ho1 hs32 hi hj hj2 hlt hk32 bj bk be m3 m5 mo m2 k0 k33 hmin2
      go_upto_region 8 with (fail)
      clear c1 c2 f2 t3
      obtain ⟨c3, c4, f4⟩ := HC.out
      clear HC
      obtain ⟨-, ⟨we1, we2, we3⟩, m3, m5, mo, m2, k0, k33, hmin2⟩ := HW8.out
      clear HW8 s0 m1 hmin
      go_region_law (first | fail)
      all_goals
        go_simp
        try simp only [m3, m5, mo]
        go_wp2_with fail
        go_roundw
        case rel => exact ⟨i + 1, HIJ.out.1, by first | rfl | go_num, HWw.out.drew⟩
        case measure => exact meas_up HIJ.out.2.2
    · have hik : i = 32 - k := by have := HK.out.1; omega
      have hrr : r % bp i = r := Nat.mod_eq_of_lt (by rw [hik]; exact HS.out.2.1)
      rw [hrr] at F
      have t3 : decide ((j : Int) < 32) = false := decide_eq_false (by omega)
      obtain ⟨wj1, wj2, wj3⟩ := wraps (j := j) (by omega)
      have HRR := Lib.hid HS.out.2.2.1
      clear hik hrr hlt hi hj HS HK
      go_wp2_with (first | go_skip | ((with_reducible apply fL F); exact rfl; exact rfl; (exact tL); (exact tR3)) | ((with_reducible apply fA_arr F); exact rfl) | ((with_reducible apply fX_arr F); exact rfl; exact rfl) | ((with_reducible apply fS F); exact rfl; exact rfl; exact rfl; (exact tL); (exact tR3); (exact tS2); clear F; intro W F; simp only [z7, z8] at F))
      exact bodyPost_ret (res_c rfl rfl (Fr.get F tL) (rowArr _)) rfl ⟨by rw [HRR.out], F.below⟩
end
end Go.Proofs.YtpaodheilchfnaaGreatDoor
