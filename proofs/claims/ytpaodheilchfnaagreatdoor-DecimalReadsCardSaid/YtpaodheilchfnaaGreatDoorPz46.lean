/- What the laws lean on. -/
import Derived.Test.YtpaodheilchfnaaGreatDoorPz21
import Derived.Test.YtpaodheilchfnaaGreatDoorPz29
import Derived.Test.YtpaodheilchfnaaGreatDoorPz34
import Derived.Test.YtpaodheilchfnaaGreatDoorPz38
import Derived.Test.YtpaodheilchfnaaGreatDoorPz40
namespace Go.Proofs.YtpaodheilchfnaaGreatDoor
set_option linter.unusedVariables false
set_option linter.unusedSimpArgs false
section
open Go.RowKit
set_option maxHeartbeats 2000000
theorem bs_of (s : ByteArray) : bs s.data.toList = s := by simp [bs]
end
section
open Go.RowKit
set_option maxHeartbeats 4000000
set_option maxRecDepth 100000 in
theorem rparse_any (s : List UInt8) (p : Int) (hs : s.length ≤ 9223372036854775807) {r : Int × Int × Int} (hr : prsR s p = r) (w : World) : Calls Tryz.prog 20 #[.string (bs s), .int .i64 p] w (RetB (.tuple #[.agg (RC r.1 r.2.1), .int .i64 r.2.2]) w) := by
  have F := Fr.start w
  obtain ⟨f, hf⟩ : ∃ f, decide (0 ≤ p ∧ p ≤ 9) = f := ⟨_, rfl⟩
  have gp := fun w => rplaces_any hf w
  by_cases hp : p < 0 ∨ 9 < p
  · unfold prsR at hr
    rw [if_pos hp] at hr
    subst hr
    obtain rfl : false = f := by rw [← hf]; exact (decide_eq_false (by omega)).symm
    clear hf hp hs
    go_enter Tryz.func20, Tryz.ntmps20
    go_wp2_with (first | go_skip | ((with_reducible apply fL F); exact rfl; exact rfl; (exact tL); (exact tR3)) | ((with_reducible apply fA_rat F); exact rfl) | ((with_reducible apply fS F); exact rfl; exact rfl; exact rfl; (exact tL); (exact tR3); (exact tS2); clear F; intro W F; simp only [z7, z8] at F) | ((with_reducible apply fB_rat0); exact rfl))
    (clear F; intro b4 W F; try simp only [Act.put, z6, z1, z2])
    go_wp2_with (first | go_skip | ((go_at_call 64); (with_reducible refine fr_call F (gp _) ?_); (clear F; intro W F); (try dsimp only)) | ((with_reducible apply fL F); exact rfl; exact rfl; (exact tL); (exact tR3)) | ((with_reducible apply fA_rat F); exact rfl) | ((with_reducible apply fS F); exact rfl; exact rfl; exact rfl; (exact tL); (exact tR3); (exact tS2); clear F; intro W F; simp only [z7, z8] at F) | ((with_reducible apply fB_rat0); exact rfl))
    exact bodyPost_ret (res_cs rfl rfl rfl (Fr.get F tL) (rowRC _ _)) rfl ⟨rfl, F.below⟩
  obtain rfl : true = f := by rw [← hf]; exact (decide_eq_true (by omega)).symm
  rw [prs_rd (by omega) (by omega)] at hr
  obtain ⟨q, hq⟩ : ∃ q, rdR s p true = q := ⟨_, rfl⟩
  have g1 := fun w => rread_any s p true (by omega) hs hq w
  rw [hq] at hr
  obtain ⟨n, d, k⟩ := q
  unfold prsO at hr
  dsimp only at hr g1
  clear hf hq hp hs
  go_enter Tryz.func20, Tryz.ntmps20
  go_wp2_with (first | go_skip | ((with_reducible apply fL F); exact rfl; exact rfl; (exact tL); (exact tR3)) | ((with_reducible apply fA_rat F); exact rfl) | ((with_reducible apply fS F); exact rfl; exact rfl; exact rfl; (exact tL); (exact tR3); (exact tS2); clear F; intro W F; simp only [z7, z8] at F) | ((with_reducible apply fB_rat0); exact rfl))
  (clear F; intro b4 W F; try simp only [Act.put, z6, z1, z2])
  go_wp2_with (first | go_skip | ((go_at_call 64); (with_reducible refine fr_call F (gp _) ?_); (clear F; intro W F); (try dsimp only)) | ((go_at_call 65); (with_reducible refine fr_call F (g1 _) ?_); (clear F; intro W F); (try dsimp only)) | ((with_reducible apply fL F); exact rfl; exact rfl; (exact tL); (exact tR3)) | ((with_reducible apply fA_rat F); exact rfl) | ((with_reducible apply fS F); exact rfl; exact rfl; exact rfl; (exact tL); (exact tR3); (exact tS2); clear F; intro W F; simp only [z7, z8] at F) | ((with_reducible apply fB_rat0); exact rfl))
  (clear F; intro b6 W F; try simp only [Act.put, z6, z1, z2])
  cases k
  · rw [if_neg (by decide)] at hr
    subst hr
    go_wp2_with (first | go_skip | ((with_reducible apply fL F); exact rfl; exact rfl; (exact tL); (exact tR3)) | ((with_reducible apply fA_rat F); exact rfl) | ((with_reducible apply fS F); exact rfl; exact rfl; exact rfl; (exact tL); (exact tR3); (exact tS2); clear F; intro W F; simp only [z7, z8] at F) | ((with_reducible apply fB_rat0); exact rfl))
    exact bodyPost_ret (res_cs rfl rfl rfl (Fr.get F tL) (rowRC _ _)) rfl ⟨rfl, F.below⟩
  · rw [if_pos rfl] at hr
    subst hr
    go_wp2_with (first | go_skip | ((with_reducible apply fL F); exact rfl; exact rfl; (exact tL); (exact tR3)) | ((with_reducible apply fA_rat F); exact rfl) | ((with_reducible apply fS F); exact rfl; exact rfl; exact rfl; (exact tL); (exact tR3); (exact tS2); clear F; intro W F; simp only [z7, z8] at F) | ((with_reducible apply fB_rat0); exact rfl))
    exact bodyPost_ret (res_cs rfl rfl rfl (Fr.get F tL) (rowRC _ _)) rfl ⟨rfl, F.below⟩
theorem suffix_last {t : List UInt8} {c : UInt8} : Lib.hasSuffix (t ++ [c]) [37] = true ↔ c = 37 := by
  unfold Lib.hasSuffix
  rw [List.isSuffixOf_iff_suffix]
  constructor
  · rintro ⟨u, hu⟩
    have := List.append_inj_right' hu rfl
    simpa using this.symm
  · rintro rfl
    exact ⟨t, rfl⟩
theorem rdG_minus {t : List UInt8} {p : Int} {g : Bool} (h : t.head? = some 45) : rdG t p g = (0, 0, false) := by
  unfold rdG
  rw [if_pos]
  rw [rdB_iff]
  left
  cases t with
  | nil => rfl
  | cons b t =>
    rw [List.head?_cons, Option.some.injEq] at h
    subst h
    rfl
theorem pct_rd {t : List UInt8} : pctR (t ++ [37]) = (if (rdR t 6 false).2.2 = true then mkR (rdR t 6 false).1 ((rdR t 6 false).2.1 * 100) else (0, 0, 32)) ∧ ((rdR t 6 false).2.2 = true → okZ (rdR t 6 false).1 (rdR t 6 false).2.1) := by
  have hs : Lib.hasSuffix (t ++ [37]) [37] = true := suffix_last.2 rfl
  have ht : Lib.trimSuffix (t ++ [37]) [37] = t := by
    unfold Lib.trimSuffix
    rw [hs, if_pos rfl]
    simp
  have e : rdR t 6 false = rdG t 6 false := by
    unfold rdR
    rw [if_neg (fun h => absurd h.1 (by decide))]
  unfold pctR
  rw [ht, hs, e]
  dsimp only
  by_cases h : t.head? = some 45
  · rw [rdG_minus h, if_pos (.inr (.inr h)), if_neg (by decide)]
    exact ⟨rfl, fun h => absurd h (by decide)⟩
  · have e2 : prsR t 6 = prsO (rdG t 6 false) := by
      rw [prs_rd (by decide) (by decide)]
      unfold rdR
      rw [if_neg (fun h2 => h h2.2)]
    have hv := prs_valid (s := t) (p := 6)
    rw [e2] at hv ⊢
    obtain ⟨q, hq⟩ : ∃ q, rdG t 6 false = q := ⟨_, rfl⟩
    rw [hq] at hv ⊢
    obtain ⟨n, d, k⟩ := q
    cases k
    · refine ⟨?_, fun h => absurd h (by simp)⟩
      simp [prsO]
    · have hv1 := (hv (by simp [prsO])).1
      refine ⟨?_, fun _ => by simpa [prsO] using hv1⟩
      simp [prsO, h]
set_option maxRecDepth 100000 in
theorem rpercent_any (s : List UInt8) (hs : s.length ≤ 9223372036854775807) {r : Int × Int × Int} (hr : pctR s = r) (w : World) : Calls Tryz.prog 22 #[.string (bs s)] w (RetB (.tuple #[.agg (RC r.1 r.2.1), .int .i64 r.2.2]) w) := by
  have F := Fr.start w
  rcases List.eq_nil_or_concat s with rfl | ⟨t, c, rfl⟩
  · have hr2 : (0, 0, 32) = r := by rw [← hr]; decide +kernel
    subst hr2
    have hz := bs_size []
    clear hr hs
    go_enter Tryz.func22, Tryz.ntmps22
    go_wp2_with (first | go_skip | ((with_reducible apply fL F); exact rfl; exact rfl; (exact tL); (exact tR3)) | ((with_reducible apply fA_rat F); exact rfl) | ((with_reducible apply fS F); exact rfl; exact rfl; exact rfl; (exact tL); (exact tR3); (exact tS2); clear F; intro W F; simp only [z7, z8] at F) | ((with_reducible apply fB_rat0); exact rfl))
    (clear F; intro b2 W F; try simp only [Act.put, z6, z1, z2])
    go_wp2_with (first | go_skip | ((with_reducible apply fL F); exact rfl; exact rfl; (exact tL); (exact tR3)) | ((with_reducible apply fA_rat F); exact rfl) | ((with_reducible apply fS F); exact rfl; exact rfl; exact rfl; (exact tL); (exact tR3); (exact tS2); clear F; intro W F; simp only [z7, z8] at F) | ((with_reducible apply fB_rat0); exact rfl))
    exact bodyPost_ret (res_cs rfl rfl rfl (Fr.get F tL) (rowRC _ _)) rfl ⟨rfl, F.below⟩
  rw [List.concat_eq_append] at hs hr ⊢
  obtain ⟨L, hL⟩ : ∃ L, t.length = L := ⟨_, rfl⟩
  have hz := bs_size (t ++ [c])
  rw [List.length_append, hL, List.length_singleton] at hz hs
  obtain ⟨M, hM⟩ : ∃ M, L + 1 = M := ⟨_, rfl⟩
  rw [hM] at hz hs
  have hlt : L < (bs (t ++ [c])).size := by rw [hz]; omega
  have e1 : (bs (t ++ [c]))[L] = c := (bs_at (l := t ++ [c]) (i := L) hlt (by rw [List.length_append, hL, List.length_singleton]; omega)).trans (by subst hL; simp)
  have m1 : RowKit.wrap64 ((M : Int) - 1) = (L : Int) := by rw [RowKit.wrap64]; omega
  have m2 : (M : Int) - 1 = (L : Int) := by omega
  have t0 : ((M : Int) == 0) = false := by rw [beq_eq_false_iff_ne]; omega
  have l0 : (0 : Int) ≤ (L : Int) := by omega
  have l1 : (L : Int) < (M : Int) := by omega
  have l2 : (L : Int) ≤ (M : Int) := by omega
  have hs64 := hs
  have htl : t.length ≤ 9223372036854775807 := by omega
  by_cases hc : c = 37
  · subst hc
    obtain ⟨h1, h2⟩ := pct_rd (t := t)
    rw [hr] at h1
    obtain ⟨q, hq⟩ : ∃ q, rdR t 6 false = q := ⟨_, rfl⟩
    have g1 := fun w => rread_any t 6 false (by decide) htl hq w
    rw [hq] at h1 h2
    obtain ⟨n, d, k⟩ := q
    dsimp only at h1 h2 g1
    have e2 : (bs (t ++ [37])).extract 0 L = bs t := by
      rw [bs_extract, List.drop_zero, Nat.sub_zero, ← hL, List.take_left' rfl]
    clear hr hq hL hM htl
    go_enter Tryz.func22, Tryz.ntmps22
    go_wp2_with (first | go_skip | ((with_reducible apply fL F); exact rfl; exact rfl; (exact tL); (exact tR3)) | ((with_reducible apply fA_rat F); exact rfl) | ((with_reducible apply fS F); exact rfl; exact rfl; exact rfl; (exact tL); (exact tR3); (exact tS2); clear F; intro W F; simp only [z7, z8] at F) | ((with_reducible apply fB_rat0); exact rfl))
    (clear F; intro b2 W F; try simp only [Act.put, z6, z1, z2])
    go_wp2_with (first | go_skip | ((go_at_call 65); (with_reducible refine fr_call F (g1 _) ?_); (clear F; intro W F); (try dsimp only)) | ((with_reducible apply fL F); exact rfl; exact rfl; (exact tL); (exact tR3)) | ((with_reducible apply fA_rat F); exact rfl) | ((with_reducible apply fS F); exact rfl; exact rfl; exact rfl; (exact tL); (exact tR3); (exact tS2); clear F; intro W F; simp only [z7, z8] at F) | ((with_reducible apply fB_rat0); exact rfl))
    (clear F; intro b4 W F; try simp only [Act.put, z6, z1, z2])
    cases k
    · rw [if_neg (by decide)] at h1
      subst h1
      go_wp2_with (first | go_skip | ((with_reducible apply fL F); exact rfl; exact rfl; (exact tL); (exact tR3)) | ((with_reducible apply fA_rat F); exact rfl) | ((with_reducible apply fS F); exact rfl; exact rfl; exact rfl; (exact tL); (exact tR3); (exact tS2); clear F; intro W F; simp only [z7, z8] at F) | ((with_reducible apply fB_rat0); exact rfl))
      exact bodyPost_ret (res_cs rfl rfl rfl (Fr.get F tL) (rowRC _ _)) rfl ⟨rfl, F.below⟩
    · rw [if_pos rfl] at h1
      have hk := h2 rfl
      have g2 := fun w => rwholeR (n := 100) (by decide) (by decide) w
      have g3 := fun w => rquoR hk (okZ_one (n := 100) (by decide)) (r := r) (by rw [Int.mul_one]; exact h1.symm) w
      obtain ⟨rn, rd, re⟩ := r
      try dsimp only at g3
      clear h1 h2 hk m1 t0 e1 e2
      go_wp2_with (first | go_skip | ((with_reducible apply fL F); exact rfl; exact rfl; (exact tL); (exact tR3)) | ((with_reducible apply fA_rat F); exact rfl) | ((with_reducible apply fS F); exact rfl; exact rfl; exact rfl; (exact tL); (exact tR3); (exact tS2); clear F; intro W F; simp only [z7, z8] at F) | ((with_reducible apply fB_rat0); exact rfl))
      try simp only [Act.put, z6, z1, z2]
      refine wp_region_slots mixP [3, 30, 31, 32, 33, 34] (fun l mm W => ∃ (s3 s30 s31 s32 s33 s34 : Value) (c_b2 : Array Value), mm = [s3, s30, s31, s32, s33, s34] ∧ (l.getD 0 false = true → s30 = .agg (RC n d)) ∧ (l.getD 1 false = true → s31 = .agg (RC 100 1)) ∧ (l.getD 2 false = true → s32 = .tuple #[.agg (RC rn rd), .int .i64 re]) ∧ (l.getD 3 false = true → s33 = .agg (RC rn rd)) ∧ (l.getD 4 false = true → s34 = .int .i64 re) ∧ (l.getD 5 false = true → c_b2 = RC rn rd) ∧ (l.getD 6 false = true → s3 = .int .i64 re) ∧ c_b2.size = (RC rn rd).size ∧ Fr w W [(b4, RC n d, 31), (b2, c_b2, 31)]) (by kernel_rfl) (putAll_self _ _) ?_ ?_ ?_
      · exact ⟨_, _, _, _, _, _, (RC 0 0), rfl, nf, nf, nf, nf, nf, nf, nf, by exact tS2, F.drew⟩
      · rintro listed mm W ii hi hsz hoff ⟨s3, s30, s31, s32, s33, s34, c_b2, rfl, h0, h1, h2, h3, h4, h5, h6, hz0, HF⟩ hd
        have hc := dr_c7 hi
        have hsz2 : listed.size = 7 := hsz
        clear hi hsz
        rcases hc with rfl | rfl | rfl | rfl | rfl | rfl | rfl
        · refine wpOp_want rfl rfl (fun K hK => ?_)
          simp only [putAll, z1, z2, z3, z4, z5]
          with_reducible apply gL HF
          · exact rfl
          · (exact tL)
          · (first | (exact tR3))
          go_simp
          exact hK _ _ ⟨[s3, (.agg (RC n d)), s31, s32, s33, s34], by simp only [putAll, z1, z2], s3, (.agg (RC n d)), s31, s32, s33, s34, c_b2, rfl, fun _ => rfl, lk h1, lk h2, lk h3, lk h4, lk h5, lk h6, hz0, HF⟩
        · refine wpOp_want rfl rfl (fun K hK => ?_)
          simp only [putAll, z1, z2, z3, z4, z5]
          refine ⟨?_⟩
          go_simp
          with_reducible refine fr_call HF (g2 _) ?_
          clear HF
          intro W HF
          (try dsimp only)
          exact hK _ _ ⟨[s3, s30, (.agg (RC 100 1)), s32, s33, s34], by simp only [putAll, z1, z2], s3, s30, (.agg (RC 100 1)), s32, s33, s34, c_b2, rfl, lk h0, fun _ => rfl, lk h2, lk h3, lk h4, lk h5, lk h6, hz0, HF⟩
        · have d0 := h0 (hd 0 (by kernel_rfl))
          have d1 := h1 (hd 1 (by kernel_rfl))
          obtain rfl := d0
          obtain rfl := d1
          refine wpOp_want rfl rfl (fun K hK => ?_)
          simp only [putAll, z1, z2, z3, z4, z5]
          refine ⟨?_⟩
          go_simp
          with_reducible refine fr_call HF (g3 _) ?_
          clear HF
          intro W HF
          (try dsimp only)
          exact hK _ _ ⟨[s3, (.agg (RC n d)), (.agg (RC 100 1)), (.tuple #[.agg (RC rn rd), .int .i64 re]), s33, s34], by simp only [putAll, z1, z2], s3, (.agg (RC n d)), (.agg (RC 100 1)), (.tuple #[.agg (RC rn rd), .int .i64 re]), s33, s34, c_b2, rfl, lk h0, lk h1, fun _ => rfl, lk h3, lk h4, lk h5, lk h6, hz0, HF⟩
        · have d2 := h2 (hd 2 (by kernel_rfl))
          obtain rfl := d2
          refine wpOp_want rfl rfl (fun K hK => ?_)
          simp only [putAll, z1, z2, z3, z4, z5]
          refine ⟨?_⟩
          go_simp
          exact hK _ _ ⟨[s3, s30, s31, (.tuple #[.agg (RC rn rd), .int .i64 re]), (.agg (RC rn rd)), s34], by simp only [putAll, z1, z2], s3, s30, s31, (.tuple #[.agg (RC rn rd), .int .i64 re]), (.agg (RC rn rd)), s34, c_b2, rfl, lk h0, lk h1, lk h2, fun _ => rfl, lk h4, lk h5, lk h6, hz0, HF⟩
        · have d2 := h2 (hd 2 (by kernel_rfl))
          obtain rfl := d2
          refine wpOp_want rfl rfl (fun K hK => ?_)
          simp only [putAll, z1, z2, z3, z4, z5]
          refine ⟨?_⟩
          go_simp
          exact hK _ _ ⟨[s3, s30, s31, (.tuple #[.agg (RC rn rd), .int .i64 re]), s33, (.int .i64 re)], by simp only [putAll, z1, z2], s3, s30, s31, (.tuple #[.agg (RC rn rd), .int .i64 re]), s33, (.int .i64 re), c_b2, rfl, lk h0, lk h1, lk h2, lk h3, fun _ => rfl, lk h5, lk h6, hz0, HF⟩
        · have d3 := h3 (hd 3 (by kernel_rfl))
          obtain rfl := d3
          refine wpOp_want rfl rfl (fun K hK => ?_)
          simp only [putAll, z1, z2, z3, z4, z5]
          with_reducible apply gS HF
          · exact rfl
          · exact rfl
          · (exact tL)
          · (first | (exact tR3))
          · first | exact hz0 | exact tS2
          clear HF
          intro W HF
          simp only [z7, z8, List.append_assoc, List.append_nil] at HF
          go_simp
          exact hK _ _ ⟨[s3, s30, s31, s32, (.agg (RC rn rd)), s34], by simp only [putAll, z1, z2], s3, s30, s31, s32, (.agg (RC rn rd)), s34, (RC rn rd), rfl, lk h0, lk h1, lk h2, lk h3, lk h4, fun _ => rfl, lk h6, rfl, HF⟩
        · have d4 := h4 (hd 4 (by kernel_rfl))
          obtain rfl := d4
          refine wpOp_want rfl rfl (fun K hK => ?_)
          simp only [putAll, z1, z2, z3, z4, z5]
          refine ⟨?_⟩
          go_simp
          exact hK _ _ ⟨[(.int .i64 re), s30, s31, s32, s33, (.int .i64 re)], by simp only [putAll, z1, z2], (.int .i64 re), s30, s31, s32, s33, (.int .i64 re), c_b2, rfl, lk h0, lk h1, lk h2, lk h3, lk h4, lk h5, fun _ => rfl, hz0, HF⟩
      rintro listed mm W ⟨s3, s30, s31, s32, s33, s34, c_b2, rfl, h0, h1, h2, h3, h4, h5, h6, hz0, HF⟩ hall
      obtain rfl := h0 (hall 0 (by decide))
      obtain rfl := h1 (hall 1 (by decide))
      obtain rfl := h2 (hall 2 (by decide))
      obtain rfl := h3 (hall 3 (by decide))
      obtain rfl := h4 (hall 4 (by decide))
      rw [h5 (hall 5 (by decide))] at HF
      obtain rfl := h6 (hall 6 (by decide))
      clear hall h0 h1 h2 h3 h4 h5 h6 hz0 F
      have F := HF
      clear HF
      simp only [putAll, z1, z2]
      go_wp2_with (first | go_skip | ((with_reducible apply fL F); exact rfl; exact rfl; (exact tL); (exact tR3)) | ((with_reducible apply fA_rat F); exact rfl) | ((with_reducible apply fS F); exact rfl; exact rfl; exact rfl; (exact tL); (exact tR3); (exact tS2); clear F; intro W F; simp only [z7, z8] at F) | ((with_reducible apply fB_rat0); exact rfl))
      exact bodyPost_ret (res_cs rfl rfl rfl (Fr.get F tL) (rowRC _ _)) rfl ⟨rfl, F.below⟩
  · have hr2 : (0, 0, 32) = r := by
      rw [← hr]
      unfold pctR
      have hsf : Lib.hasSuffix (t ++ [c]) [37] = false := by
        rw [← Bool.not_eq_true, suffix_last]
        exact hc
      dsimp only
      rw [if_pos (.inl hsf)]
    subst hr2
    have t3 : ((c.toNat : Int) == 37) = false := by
      rw [beq_eq_false_iff_ne]
      intro h
      exact hc (UInt8.toNat_inj.1 (show c.toNat = (37 : UInt8).toNat by rw [show UInt8.toNat 37 = 37 from rfl]; omega))
    clear hr hL hc hM htl
    go_enter Tryz.func22, Tryz.ntmps22
    go_wp2_with (first | go_skip | ((with_reducible apply fL F); exact rfl; exact rfl; (exact tL); (exact tR3)) | ((with_reducible apply fA_rat F); exact rfl) | ((with_reducible apply fS F); exact rfl; exact rfl; exact rfl; (exact tL); (exact tR3); (exact tS2); clear F; intro W F; simp only [z7, z8] at F) | ((with_reducible apply fB_rat0); exact rfl))
    (clear F; intro b2 W F; try simp only [Act.put, z6, z1, z2])
    go_wp2_with (first | go_skip | ((with_reducible apply fL F); exact rfl; exact rfl; (exact tL); (exact tR3)) | ((with_reducible apply fA_rat F); exact rfl) | ((with_reducible apply fS F); exact rfl; exact rfl; exact rfl; (exact tL); (exact tR3); (exact tS2); clear F; intro W F; simp only [z7, z8] at F) | ((with_reducible apply fB_rat0); exact rfl))
    exact bodyPost_ret (res_cs rfl rfl rfl (Fr.get F tL) (rowRC _ _)) rfl ⟨rfl, F.below⟩
end
section
section
open Go.RowKit
def OneP (xs : List ByteArray) (B b N : Nat) (w : World) (e : Ending) (w' : World) : Prop :=
  ∃ v : ByteArray, v ∈ xs ∧ e = .returned (.string v) ∧ TapeAt w' B b N ∧ Only b w w'
theorem one_any (xs : List ByteArray) (g : Nat) (B b N : Nat) (w : World) (h : TapeAt w B b (N + 1)) (hx : 0 < xs.length) (hx2 : xs.length ≤ 1000) (hg : g < w.heap.size) (hgb : g ≠ b) (c : Nat)
    (hc : ∀ k x, xs[k]? = some x → w.cell? ⟨g, k, none⟩ = some (.string x)) :
    Calls Tryz.prog 23 #[.pointer (some ⟨b, 0, none⟩), .slice (some ⟨g, 0, none⟩) xs.length c] w (OneP xs B b N w) := by
  have hne : ((xs.length : Int) == 0) = false := beq_eq_false_iff_ne.2 (by omega)
  have HC := Lib.hid hc
  clear hc
  go_enter Tryz.func23, Tryz.ntmps23
  go_wp2_with fail
  refine (next_in h (by omega) (by omega)).mono ?_
  rintro e w1 ⟨k, hk, rfl, ht, ho⟩
  have hkl : k < xs.length := by omega
  have hcell := only_cell ho hg hgb (HC.out k xs[k] (List.getElem?_eq_getElem hkl))
  have hmem : xs[k] ∈ xs := List.getElem_mem hkl
  have HM := Lib.hid hmem
  clear hmem
  generalize xs[k] = x at *
  go_wp2
  go_ret
  exact ⟨x, HM.out, rfl, ht, ho⟩
end
end
section
open Go.RowKit
section
variable {w0 u W W' : World} {L : List Ent} {B b N : Nat}
theorem tone (xs : List ByteArray) {g c n : Nat} {t : TypeId} (hn : xs.length = n) (hx : 0 < xs.length) (hx2 : xs.length ≤ 1000) (hg : BlkAt W g (xs.map Value.string).toArray t) (hgb : g ≠ b) (h : TapeAt W B b (N + 1)) :
    Calls Tryz.prog 23 #[.pointer (some ⟨b, 0, none⟩), .slice (some ⟨g, 0, none⟩) n c] W (TapP (fun v => ∃ k : ByteArray, v = .string k ∧ k ∈ xs) B b N W) := by
  subst hn
  exact (one_any xs g B b N W h hx hx2 hg.lt hgb c (fun k x hk => hg.cell (by simp [hk]))).mono fun _ _ ⟨k, hk, he, ht, ho⟩ => ⟨_, ⟨k, rfl, hk⟩, he, ht, ho⟩
end
end
section
open Go.RowKit
theorem flatC_strs (l : List ByteArray) : flatC (l.map Value.string) = (l.map Value.string).toArray := by
  unfold flatC
  congr 1
  induction l with
  | nil => rfl
  | cons x l ih => rw [List.map_cons, List.flatMap_cons, ih]; rfl
theorem slStr : SlT Tryz.prog 84 9 1 := ⟨Tryz.underlying84, by kernel_rfl⟩
end
section
open Go.RowKit
set_option maxHeartbeats 4000000
section
variable {w0 u W : World} {L : List Ent} {B b N : Nat}
theorem toneF (xs : List ByteArray) {vs : List Value} {n c g : Nat} {t : TypeId} {A L' : List Ent} (F : Fr u W L) (T : Tp w0 u B b (N + 1)) (hl : Lies L A g (flatC vs) t L') (hv : vs = xs.map Value.string) (hn : xs.length = n) (hx : 0 < xs.length) (hx2 : xs.length ≤ 1000) :
    Calls Tryz.prog 23 #[.pointer (some ⟨b, 0, none⟩), .slice (some ⟨g, 0, none⟩) n c] W (TapP (fun v => ∃ k : ByteArray, v = .string k ∧ k ∈ xs) B b N W) :=
  tone xs hn hx hx2 (by have := F.get hl; rw [hv, flatC_strs] at this; exact this) (F.off T hl) (T.at F)
end
end
section
open Go.RowKit
set_option maxHeartbeats 4000000
theorem prs_b (s : List UInt8) (p : Int) : (prsR s p).1.natAbs < bp 32 ∧ (prsR s p).2.1.natAbs < bp 32 := by
  by_cases h : (prsR s p).2.2 = 0
  · exact okZ_b (prs_valid h).1
  · unfold prsR at h ⊢
    split
    · exact ⟨zz32, zz32⟩
    · rename_i hd
      rw [if_neg hd] at h
      dsimp only at h ⊢
      split
      · exact ⟨zz32, zz32⟩
      · rename_i hd2
        rw [if_neg hd2] at h
        unfold prsB at h ⊢
        dsimp only at h ⊢
        split
        · exact ⟨zz32, zz32⟩
        · rename_i hd3
          rw [if_neg hd3] at h
          exact absurd rfl h
theorem pct_b (s : List UInt8) : (pctR s).1.natAbs < bp 32 ∧ (pctR s).2.1.natAbs < bp 32 := by
  have k0 := bp_pos 32
  unfold pctR
  dsimp only
  split
  · exact ⟨by simpa using k0, by simpa using k0⟩
  · exact mkR_b _ _
theorem bs_exl (s : ByteArray) (h : s.size ≤ maxLen) : ∃ l : List UInt8, s = bs l ∧ l.length ≤ 9223372036854775807 := ⟨s.data.toList, (bs_of s).symm, by unfold maxLen at h; simpa using (by exact h : s.data.size ≤ 9223372036854775807)⟩
set_option maxRecDepth 100000 in
theorem decimalTexts_any (s : ByteArray) (p : Int) (hs : s.size ≤ maxLen) {w : World} (ht : Tab w) : Calls Tryz.prog 4 #[.string s, .int .i64 p] w (RetB (.bool true) w) := by
  have F := Fr.start w
  have HT := Lib.hid ht
  clear ht
  obtain ⟨l, rfl, hl⟩ := bs_exl s hs
  clear hs
  obtain ⟨n, d, e, hn, hd, g1, g2⟩ : ∃ n d e : Int, n.natAbs < bp 32 ∧ d.natAbs < bp 32 ∧ (∀ w, Calls Tryz.prog 19 #[.string (bs l), .int .i64 p] w (RetB (.tuple #[.agg (RC n d), .int .i64 e]) w)) ∧ (∀ w, Calls Tryz.prog 20 #[.string (bs l), .int .i64 p] w (RetB (.tuple #[.agg (RC n d), .int .i64 e]) w)) :=
    ⟨_, _, _, (prs_b l p).1, (prs_b l p).2, fun w => parse_any l p hl rfl w, fun w => rparse_any l p hl rfl w⟩
  obtain ⟨n', d', e', hn', hd', g3, g4⟩ : ∃ n d e : Int, n.natAbs < bp 32 ∧ d.natAbs < bp 32 ∧ (∀ w, Calls Tryz.prog 21 #[.string (bs l)] w (RetB (.tuple #[.agg (RC n d), .int .i64 e]) w)) ∧ (∀ w, Calls Tryz.prog 22 #[.string (bs l)] w (RetB (.tuple #[.agg (RC n d), .int .i64 e]) w)) :=
    ⟨_, _, _, (pct_b l).1, (pct_b l).2, fun w => percent_any l hl rfl w, fun w => rpercent_any l hl rfl w⟩
  have q1 := fun w => eq_RC hn hd hn hd w
  have q2 := fun w => eq_RC hn' hd' hn' hd' w
  clear hn hd hn' hd' hl
  generalize bs l = s at *
  have gk := fun W L (F : Fr w W L) => known_any (HT.out.next F.below)
  go_enter Tryz.func4, Tryz.ntmps4
  go_wp2_with (first | go_skip | ((go_at_call 19); (with_reducible refine fr_call F (g1 _) ?_); (clear F; intro W F); (try dsimp only)) | ((with_reducible apply fL F); exact rfl; exact rfl; (exact tL); (exact tR3)) | ((with_reducible apply fA_rat F); exact rfl) | ((with_reducible apply fS F); exact rfl; exact rfl; exact rfl; (exact tL); (exact tR3); (exact tS2); clear F; intro W F; simp only [z7, z8] at F))
  (clear F; intro b5 W F; try simp only [Act.put, z6, z1, z2])
  go_wp2_with (first | go_skip | ((go_at_call 20); (with_reducible refine fr_call F (g2 _) ?_); (clear F; intro W F); (try dsimp only)) | ((with_reducible apply fL F); exact rfl; exact rfl; (exact tL); (exact tR3)) | ((with_reducible apply fA_rat F); exact rfl) | ((with_reducible apply fS F); exact rfl; exact rfl; exact rfl; (exact tL); (exact tR3); (exact tS2); clear F; intro W F; simp only [z7, z8] at F))
  (clear F; intro b7 W F; try simp only [Act.put, z6, z1, z2])
  go_wp2_with (first | go_skip | ((go_at_call 21); (with_reducible refine fr_call F (g3 _) ?_); (clear F; intro W F); (try dsimp only)) | ((with_reducible apply fL F); exact rfl; exact rfl; (exact tL); (exact tR3)) | ((with_reducible apply fA_rat F); exact rfl) | ((with_reducible apply fS F); exact rfl; exact rfl; exact rfl; (exact tL); (exact tR3); (exact tS2); clear F; intro W F; simp only [z7, z8] at F))
  (clear F; intro b9 W F; try simp only [Act.put, z6, z1, z2])
  go_wp2_with (first | go_skip | ((go_at_call 22); (with_reducible refine fr_call F (g4 _) ?_); (clear F; intro W F); (try dsimp only)) | ((with_reducible apply fL F); exact rfl; exact rfl; (exact tL); (exact tR3)) | ((with_reducible apply fA_rat F); exact rfl) | ((with_reducible apply fS F); exact rfl; exact rfl; exact rfl; (exact tL); (exact tR3); (exact tS2); clear F; intro W F; simp only [z7, z8] at F))
  (clear F; intro b11 W F; try simp only [Act.put, z6, z1, z2])
  go_wp2_with (first | go_skip | ((go_at_call 18); (with_reducible refine fr_call F (gk _ _ F) ?_); (clear F; intro W F); (try dsimp only)) | ((with_reducible apply fL F); exact rfl; exact rfl; (exact tL); (exact tR3)) | ((with_reducible apply fA_rat F); exact rfl) | ((with_reducible apply fS F); exact rfl; exact rfl; exact rfl; (exact tL); (exact tR3); (exact tS2); clear F; intro W F; simp only [z7, z8] at F))
  go_ret
  exact ⟨rfl, F.below⟩
end
section
open Go.RowKit
set_option maxHeartbeats 4000000
theorem slByte : SlT Tryz.prog 85 5 1 := ⟨Tryz.underlying85, by kernel_rfl⟩
structure SlG (e : TypeId) (sz : Nat) (v : Value) (n : Nat) (xs : List Value) (X : List Ent) : Prop where
  len : xs.length = n * sz
  is : (v = .slice none 0 0 ∧ n = 0 ∧ X = []) ∨ ∃ g cap cur, v = .slice (some ⟨g, 0, none⟩) n cap ∧ X = [(g, cur, e)] ∧ n ≤ cap ∧ cap ≤ maxLen ∧ cur.size = cap * sz ∧ cur.toList.take (n * sz) = xs
theorem SlG.nil (e : TypeId) (sz : Nat) : SlG e sz (.slice none 0 0) 0 [] [] := ⟨by simp, .inl ⟨rfl, rfl, rfl⟩⟩
section
variable {P : Program} {a : Act} {w u W : World} {K : Act → World → Prop} {Q : Exit → Act → World → Prop} {e : TypeId} {sz n k bytes : Nat} {v : Value} {xs : List Value} {X : List Ent} {cs : Array Value} {t T : TypeId} {x s : Operand} {ops : Array Oper} {rest : List Oper} {dst : Option Tmp} {ty : TypeId} {pos : String} {af : Array Edge} {gd : Option (Nat × Bool)} {news : Array Value}
theorem gPush (hel : ElT P T e sz bytes) (hn : n ≤ 100000) (hb : bytes ≤ 10000) (S : SlG e sz v n xs X) (h : Fr u W ((k, news, e) :: X)) (hs : a.eval s = v) (hx : a.eval x = .slice (some ⟨k, 0, none⟩) 1 1) (hl : news.size = sz) (h1 : news.toList.all (·.oneCell') = true)
    (hk : ∀ v' X' W', SlG e sz v' (n + 1) (xs ++ news.toList) X' → Fr u W' X' → K (a.put dst v') W') : OpW P ⟨dst, .call { callee := .builtin .append, args := #[s, x], argTypes := #[T, T] }, ty, pos, af, gd⟩ a W K Q := by
  obtain ⟨i, z, hi, hz, hsz, hby, hzs⟩ := hel.info
  have hkW := h.here
  have hown : W.ownsRow u.heap.size e sz v n xs := by
    refine ⟨S.len, ?_⟩
    rcases S.is with ⟨h1, h2, -⟩ | ⟨g, cap, cur, h1, h2, h3, h4, h5, h6⟩
    · exact .inl ⟨h1, h2⟩
    · subst h2
      have hg := h.blk (g, cur, e) (by simp)
      have hg2 := h.own (g, cur, e) (by simp)
      exact .inr ⟨g, cap, cur, h1, hg2, hg.blk, h3, h4, h5, h6⟩
  refine ⟨wp_append_own _ s x T rfl u.heap.size e i z sz bytes hel.sl hi hz hsz hby hzs hel.pos v n xs hs hown ⟨k, 0, none⟩ 1 1 news.toList hx (by simp [hl]) (fun j y hj => ?_) (fun y hy => ?_) (by unfold maxLen; omega) ?_ h.below.size ?_⟩
  · rw [Go.WideShapes.add_plain, Nat.zero_add]
    exact hkW.cell (by simpa using hj)
  · exact List.all_eq_true.1 h1 y hy
  · have : (n + 1) * bytes ≤ 100001 * 10000 := Nat.mul_le_mul (by omega) hb
    omega
  · intro v' w' hown' hg hnil
    have hbl : Below u.heap.size u w' := by
      refine ⟨hg.os.trans h.below.os, hg.tape.trans h.below.tape, hg.output.trans h.below.output, Nat.le_trans h.below.size hg.size, fun q hq => ?_⟩
      refine (hg.block q (Nat.lt_of_lt_of_le hq h.below.size) (fun e2 => ?_)).trans (h.below.block q hq)
      rcases S.is with ⟨h1, -, -⟩ | ⟨g, cap, cur, h1, h2, -⟩
      · subst h1; cases e2
      · subst h1
        injection e2 with e2
        subst h2
        have := h.own (g, cur, e) (by simp)
        have : u.heap.size ≤ g := this
        have e3 : q = g := e2
        omega
    rcases hown'.2 with ⟨h1, h2⟩ | ⟨g, cap, cur, h1, h2, h3, h4, h5, h6, h7⟩
    · omega
    · refine hk v' [(g, cur, e)] w' ⟨hown'.1, .inr ⟨g, cap, cur, h1, rfl, h4, h5, h6, h7⟩⟩ ⟨hbl, fun y hy => ?_, fun y hy => ?_, by simp⟩
      · simp at hy
        subst hy
        exact ⟨h3⟩
      · simp at hy
        subst hy
        exact h2
theorem fPush (hel : ElT P T e sz bytes) (hn : n ≤ 100000) (hb : bytes ≤ 10000) (S : SlG e sz v n xs X) (h : Fr u W ((k, news, e) :: X)) (hw : Region.wanted ⟨dst, .call { callee := .builtin .append, args := #[s, x], argTypes := #[T, T] }, ty, pos, af, gd⟩ (yielded ops a.tmps) = true) (hs : a.eval s = v) (hx : a.eval x = .slice (some ⟨k, 0, none⟩) 1 1) (hl : news.size = sz) (h1 : news.toList.all (·.oneCell') = true)
    (hk : ∀ v' X' W', SlG e sz v' (n + 1) (xs ++ news.toList) X' → Fr u W' X' → wpList P ops Q rest (a.put dst v') W') : wpList P ops Q (⟨dst, .call { callee := .builtin .append, args := #[s, x], argTypes := #[T, T] }, ty, pos, af, gd⟩ :: rest) a W :=
  wpList_want hw fun K hK => (gPush hel hn hb S h hs hx hl h1 (fun v' X' W' S' F' => hK _ _ (hk v' X' W' S' F'))).out
end
def byV (l : List UInt8) : List Value := l.map fun b => Value.int .u8 b.toNat
set_option maxRecDepth 100000 in
theorem SlG.text {u W : World} {v : Value} {n : Nat} {l : List UInt8} {X : List Ent} (S : SlG 5 1 v n (byV l) X) (h : Fr u W X) : (convert 85 9 v).run Tryz.prog W = .ok (.string (bs l)) W := by
  have hlen : l.length = n := by have := S.len; simpa [byV] using this
  rcases S.is with ⟨h1, h2, -⟩ | ⟨g, cap, cur, h1, h2, h3, h4, h5, h6⟩
  · subst h1
    subst h2
    obtain rfl : l = [] := List.length_eq_zero_iff.1 hlen
    go_simp
    rfl
  · subst h2
    have hg := h.here
    have := Lib.run_convert_whole (P := Tryz.prog) W 85 5 9 Tryz.underlying85 Tryz.underlying5 Tryz.underlying9 g 0 (bs l) (fun i hi => by
      have hi2 : i < l.length := by rw [bs_size] at hi; exact hi
      rw [Nat.zero_add]
      have e0 : ((bs l)[i]'hi).toNat = l[i].toNat := congrArg UInt8.toNat (bs_at (l := l) (i := i) hi hi2)
      refine Eq.trans (hg.cell (v := .int .u8 (l[i].toNat : Int)) ?_) (congrArg (fun q : Nat => some (Value.int .u8 (q : Int))) e0.symm)
      have e1 : (byV l)[i]? = some (.int .u8 (l[i].toNat : Int)) := by simp [byV, hi2]
      rw [← h6, List.getElem?_take_of_lt (by omega)] at e1
      simpa using e1) cap
    rw [bs_size, hlen] at this
    rw [h1]
    exact this
theorem SlG.byte {v : Value} {n : Nat} {l : List UInt8} {X : List Ent} {c : UInt8} {x : Nat} (hx : c.toNat = x) (S : SlG 5 1 v (n + 1) (byV l ++ (flatC [.int .u8 (x : Int)]).toList) X) : SlG 5 1 v (n + 1) (byV (l ++ [c])) X := by
  have e : byV l ++ (flatC [.int .u8 (x : Int)]).toList = byV (l ++ [c]) := by
    unfold byV
    rw [List.map_append, ← hx]
    rfl
  rw [e] at S
  exact S
set_option maxRecDepth 100000 in
theorem ttext {B b N : Nat} {w : World} {n : Nat} (hn : n ≤ 1000) (al : List UInt8) (ha0 : 0 < al.length) (ha : al.length ≤ 1000) (h : TapeAt w B b (N + n)) : Calls Tryz.prog 24 #[.pointer (some ⟨b, 0, none⟩), .int .i64 n, .string (bs al)] w (TapP (fun v => ∃ s : List UInt8, v = .string (bs s) ∧ s.length = n) B b N w) := by
  have F := Fr.start w
  have T := Tp.start h
  have hs := bs_size al
  clear h
  go_enter Tryz.func24, Tryz.ntmps24
  go_wp2_with (first | go_skip | ((with_reducible apply fSli F slByte); exact rfl; exact rfl; exact rfl; decide; decide; (go_simp; exact rfl); exact rfl))
  go_loopw [7, 8] (fun pv iv wr => ∃ (i : Nat) (X : List Ent) (l : List UInt8) (u : World), iv = .int .i64 i ∧ i ≤ n ∧ SlG 5 1 pv i (byV l) X ∧ Tp w u B b (N + (n - i)) ∧ Fr u wr X) (fun pv iv _ => n + 1 - (intOf iv).toNat)
  case atStart => exact ⟨0, [], [], w, rfl, by omega, SlG.nil _ _, T.less (by omega), F⟩
  case round =>
    clear F T
    obtain ⟨i, X, l, u, rfl, hi, S, T, F⟩ := hrel
    by_cases hlt : i < n
    · have t1 : decide ((i : Int) < (n : Int)) = true := decide_eq_true (by omega)
      have e1 : N + (n - i) = (N + (n - (i + 1))) + 1 := by omega
      rw [e1] at T
      obtain ⟨M, hM⟩ : ∃ M, N + (n - (i + 1)) = M := ⟨_, rfl⟩
      rw [hM] at T
      have HM := Lib.hid hM
      clear e1 hM
      go_wp2_with (first | go_skip | ((go_at_call 16); (with_reducible refine fr_tap F T (tnext _ (by omega) (by omega) (T.at F)) ?_); (try clear F T); (rintro _ u W ⟨k, rfl, hk⟩ T F); (have hk2 : k < (bs al).size := by omega); (obtain ⟨x, hx⟩ : ∃ x : Nat, ((bs al)[k]'hk2).toNat = x := ⟨_, rfl⟩); (try dsimp only)) | ((with_reducible apply fSli F slByte); exact rfl; exact rfl; exact rfl; decide; decide; (go_simp; exact rfl); exact rfl))
      (clear F; intro b21 W F; try simp only [Act.put, z6, z1, z2])
      go_wp2_with (first | go_skip | ((with_reducible apply fPush elByte (n := i) (by omega) (by decide) S F); exact rfl; exact rfl; exact rfl; exact rfl; exact rfl; (clear F S); (intro v X W S F)) | ((with_reducible apply fSli F slByte); exact rfl; exact rfl; exact rfl; decide; decide; (go_simp; exact rfl); exact rfl))
      have S2 := S.byte hx
      go_roundw
      case rel => exact ⟨i + 1, _, _, u, by first | rfl | go_num, by omega, S2, by rw [HM.out]; exact T, F⟩
      case measure => simp [intOf]; omega
    · obtain rfl : i = n := by omega
      have t1 : decide ((i : Int) < (i : Int)) = false := decide_eq_false (by omega)
      have cv := S.text F
      have hl : l.length = i := by have := S.len; simpa [byV] using this
      go_wp2_with (first | go_skip | ((with_reducible apply fSli F slByte); exact rfl; exact rfl; exact rfl; decide; decide; (go_simp; exact rfl); exact rfl))
      go_ret
      exact tap_end (T.less (by omega)) F ⟨l, rfl, hl⟩
end
section
open Go.RowKit
set_option maxHeartbeats 4000000
theorem rd_one {k : ByteArray} (h : k ∈ [⟨#[]⟩, ⟨#[]⟩, ⟨#[45]⟩, ⟨#[43]⟩, ⟨#[48]⟩]) : k.size ≤ 1 := by
  simp only [List.mem_cons, List.not_mem_nil, or_false] at h
  rcases h with rfl | rfl | rfl | rfl | rfl <;> decide
theorem rd_two {k : ByteArray} (h : k ∈ [⟨#[]⟩, ⟨#[46]⟩, ⟨#[46]⟩, ⟨#[44]⟩]) : k.size ≤ 1 := by
  simp only [List.mem_cons, List.not_mem_nil, or_false] at h
  rcases h with rfl | rfl | rfl | rfl <;> decide
theorem rd_three {k : ByteArray} (h : k ∈ [⟨#[]⟩, ⟨#[]⟩, ⟨#[37]⟩, ⟨#[32]⟩]) : k.size ≤ 1 := by
  simp only [List.mem_cons, List.not_mem_nil, or_false] at h
  rcases h with rfl | rfl | rfl | rfl <;> decide
theorem rd_cnt {c : Int} (h : c ∈ [1, 1, 2, 3, 15, 16, 0]) : ∃ m : Nat, c = m ∧ m ≤ 16 := by
  simp only [List.mem_cons, List.not_mem_nil, or_false] at h
  exact ⟨c.toNat, by omega, by omega⟩
theorem rd_cnt2 {c : Int} (h : c ∈ [0, 1, 2, 6, 7, 9]) : ∃ m : Nat, c = m ∧ m ≤ 16 := by
  simp only [List.mem_cons, List.not_mem_nil, or_false] at h
  exact ⟨c.toNat, by omega, by omega⟩
set_option maxRecDepth 100000 in
theorem decimalReads_any (A0 : Option Addr) (L0 : List Int) (cap : Nat) {w : World} (hL : IntsAt w A0 L0) (ht : Tab w) : Calls Tryz.prog 5 #[.slice A0 L0.length cap] w (RetB (.bool true) w) := by
  have T0 := tape_start (cap := cap) hL
  have gk := fun u W N L (T : Tp (w.alloc (.cells #[.slice A0 L0.length cap, .int .i64 0] 25)) u w.heap.size w.heap.size N) (F : Fr u W L) => known_any (ht.next (tape_out T F))
  have ge := fun (s : ByteArray) (hs : s.size ≤ maxLen) p u W N L (T : Tp (w.alloc (.cells #[.slice A0 L0.length cap, .int .i64 0] 25)) u w.heap.size w.heap.size N) (F : Fr u W L) => decimalTexts_any s p hs (ht.next (tape_out T F))
  have HO := Lib.hid (fun u W N L (T : Tp (w.alloc (.cells #[.slice A0 L0.length cap, .int .i64 0] 25)) u w.heap.size w.heap.size N) (F : Fr u W L) => (show RetB (.bool true) w (.returned (.bool true)) W from ⟨rfl, tape_out T F⟩))
  clear hL ht
  go_enter Tryz.func5, Tryz.ntmps5
  go_upto_region 2 with fail
  have F := Fr.start (w.alloc (.cells #[.slice A0 L0.length cap, .int .i64 0] 25))
  have T := Tp.start T0
  clear T0
  generalize w.alloc (.cells #[.slice A0 L0.length cap, .int .i64 0] 25) = w1 at *
  generalize w.heap.size = b at *
  have gA : ∀ {W : World} {N n : Nat}, n ≤ 16 → TapeAt W b b (N + n) → Calls Tryz.prog 24 #[.pointer (some ⟨b, 0, none⟩), .int .i64 n, .string ⟨#[48, 49, 50, 51, 52, 53, 54, 55, 56, 57]⟩] W (TapP (fun v => ∃ s : List UInt8, v = .string (bs s) ∧ s.length = n) b b N W) := fun hn h => ttext (by omega) [48, 49, 50, 51, 52, 53, 54, 55, 56, 57] (by decide) (by decide) h
  have gB : ∀ {W : World} {N n : Nat}, n ≤ 16 → TapeAt W b b (N + n) → Calls Tryz.prog 24 #[.pointer (some ⟨b, 0, none⟩), .int .i64 n, .string ⟨#[48, 48, 49, 50, 51, 52, 53, 54, 55, 56, 57]⟩] W (TapP (fun v => ∃ s : List UInt8, v = .string (bs s) ∧ s.length = n) b b N W) := fun hn h => ttext (by omega) [48, 48, 49, 50, 51, 52, 53, 54, 55, 56, 57] (by decide) (by decide) h
  go_wp2_with (first | go_skip | ((with_reducible apply fSli F slInt); exact rfl; exact rfl; exact rfl; decide; decide; (go_simp; exact rfl); exact rfl) | ((with_reducible apply fSli F slStr); exact rfl; exact rfl; exact rfl; decide; decide; (go_simp; exact rfl); exact rfl))
  go_loopw [4, 5] (fun iv sv wr => ∃ (i : Nat) (u : World), iv = .int .i64 i ∧ i ≤ 5 ∧ Tp w1 u b b (1000 * (5 - i) + 1000) ∧ Fr u wr []) (fun iv sv _ => 6 - (intOf iv).toNat)
  case atStart => exact ⟨0, _, rfl, by omega, T.less (by decide), F⟩
  case round =>
    clear F T
    obtain ⟨i, u, rfl, hi, T, F⟩ := hrel
    by_cases hlt : i < 5
    · have t1 : decide ((i : Int) < 5) = true := decide_eq_true (by omega)
      obtain ⟨M, hM⟩ : ∃ M, 1000 * (5 - (i + 1)) + 1000 = M := ⟨_, rfl⟩
      have T2 := T.less (M := M + 1000) (by omega)
      clear T
      have T := T2
      clear T2
      have HM := Lib.hid hM
      clear hM
      go_wp2_with (first | go_skip | ((with_reducible apply fSli F slInt); exact rfl; exact rfl; exact rfl; decide; decide; (go_simp; exact rfl); exact rfl) | ((with_reducible apply fSli F slStr); exact rfl; exact rfl; exact rfl; decide; decide; (go_simp; exact rfl); exact rfl))
      (clear F; intro b14 W F; try simp only [Act.put, z6, z1, z2])
      go_wp2_with (first | go_skip | ((go_at_call 23); (with_reducible refine fr_tap F T (toneF (N := M + 900) [⟨#[]⟩, ⟨#[]⟩, ⟨#[45]⟩, ⟨#[43]⟩, ⟨#[48]⟩] F (T.less (by omega)) tL (by with_unfolding_all rfl) (by with_unfolding_all rfl) (by simp) (by simp)) ?_); (try clear F T); (rintro _ u W ⟨s1, rfl, hs1⟩ T F); (replace hs1 := rd_one hs1); (try dsimp only)) | ((with_reducible apply fSli F slInt); exact rfl; exact rfl; exact rfl; decide; decide; (go_simp; exact rfl); exact rfl) | ((with_reducible apply fSli F slStr); exact rfl; exact rfl; exact rfl; decide; decide; (go_simp; exact rfl); exact rfl))
      (clear F; intro b18 W F; try simp only [Act.put, z6, z1, z2])
      go_wp2_with (first | go_skip | ((go_at_call 13); (with_reducible refine fr_tap F T (tpickF (N := M + 800) [1, 1, 2, 3, 15, 16, 0] F (T.less (by omega)) tL (by with_unfolding_all rfl) (by with_unfolding_all rfl) (by simp) (by simp)) ?_); (try clear F T); (rintro _ u W ⟨c, rfl, hc⟩ T F); (obtain ⟨c, rfl, hc2⟩ := rd_cnt hc); (clear hc); (try dsimp only)) | ((go_at_call 24); (with_reducible refine fr_tap F T (gA (N := M + 700) hc2 ((T.less (by omega)).at F)) ?_); (try clear F T); (rintro _ u W ⟨s2, rfl, hs2⟩ T F); (have hb2 := bs_size s2); (try dsimp only)) | ((with_reducible apply fSli F slInt); exact rfl; exact rfl; exact rfl; decide; decide; (go_simp; exact rfl); exact rfl) | ((with_reducible apply fSli F slStr); exact rfl; exact rfl; exact rfl; decide; decide; (go_simp; exact rfl); exact rfl))
      (clear F; intro b23 W F; try simp only [Act.put, z6, z1, z2])
      go_wp2_with (first | go_skip | ((go_at_call 23); (with_reducible refine fr_tap F T (toneF (N := M + 600) [⟨#[]⟩, ⟨#[46]⟩, ⟨#[46]⟩, ⟨#[44]⟩] F (T.less (by omega)) tL (by with_unfolding_all rfl) (by with_unfolding_all rfl) (by simp) (by simp)) ?_); (try clear F T); (rintro _ u W ⟨s3, rfl, hs3⟩ T F); (replace hs3 := rd_two hs3); (try dsimp only)) | ((with_reducible apply fSli F slInt); exact rfl; exact rfl; exact rfl; decide; decide; (go_simp; exact rfl); exact rfl) | ((with_reducible apply fSli F slStr); exact rfl; exact rfl; exact rfl; decide; decide; (go_simp; exact rfl); exact rfl))
      (clear F; intro b28 W F; try simp only [Act.put, z6, z1, z2])
      go_wp2_with (first | go_skip | ((go_at_call 13); (with_reducible refine fr_tap F T (tpickF (N := M + 500) [0, 1, 2, 6, 7, 9] F (T.less (by omega)) tL (by with_unfolding_all rfl) (by with_unfolding_all rfl) (by simp) (by simp)) ?_); (try clear F T); (rintro _ u W ⟨c2, rfl, hc⟩ T F); (obtain ⟨c2, rfl, hc3⟩ := rd_cnt2 hc); (clear hc); (try dsimp only)) | ((go_at_call 24); (with_reducible refine fr_tap F T (gB (N := M + 400) hc3 ((T.less (by omega)).at F)) ?_); (try clear F T); (rintro _ u W ⟨s4, rfl, hs4⟩ T F); (have hb4 := bs_size s4); (try dsimp only)) | ((with_reducible apply fSli F slInt); exact rfl; exact rfl; exact rfl; decide; decide; (go_simp; exact rfl); exact rfl) | ((with_reducible apply fSli F slStr); exact rfl; exact rfl; exact rfl; decide; decide; (go_simp; exact rfl); exact rfl))
      (clear F; intro b33 W F; try simp only [Act.put, z6, z1, z2])
      go_wp2_with (first | go_skip | ((go_at_call 23); (with_reducible refine fr_tap F T (toneF (N := M + 300) [⟨#[]⟩, ⟨#[]⟩, ⟨#[37]⟩, ⟨#[32]⟩] F (T.less (by omega)) tL (by with_unfolding_all rfl) (by with_unfolding_all rfl) (by simp) (by simp)) ?_); (try clear F T); (rintro _ u W ⟨s5, rfl, hs5⟩ T F); (replace hs5 := rd_three hs5); (try dsimp only)) | ((with_reducible apply fSli F slInt); exact rfl; exact rfl; exact rfl; decide; decide; (go_simp; exact rfl); exact rfl) | ((with_reducible apply fSli F slStr); exact rfl; exact rfl; exact rfl; decide; decide; (go_simp; exact rfl); exact rfl))
      (clear F; intro b38 W F; try simp only [Act.put, z6, z1, z2])
      have hsz : (s1 ++ bs s2 ++ s3 ++ bs s4 ++ s5).size ≤ maxLen := by
        simp only [ByteArray.size_append]
        unfold maxLen
        omega
      generalize s1 ++ bs s2 ++ s3 ++ bs s4 ++ s5 = s at *
      clear hs1 hs2 hs3 hs4 hs5 hb2 hb4 hc2 hc3
      go_wp2_with (first | go_skip | ((go_at_call 13); (with_reducible refine fr_tap F T (tpickF (N := M + 200) [0, 2, 6, 9, 3] F (T.less (by omega)) tL (by with_unfolding_all rfl) (by with_unfolding_all rfl) (by simp) (by simp)) ?_); (try clear F T); (rintro _ u W ⟨pl, rfl, hpl⟩ T F); (clear hpl); (try dsimp only)) | ((go_at_call 4); (with_reducible refine fr_call F (ge _ hsz _ _ _ _ _ T F) ?_); (clear F; intro W F); (try dsimp only)) | ((with_reducible apply fSli F slInt); exact rfl; exact rfl; exact rfl; decide; decide; (go_simp; exact rfl); exact rfl) | ((with_reducible apply fSli F slStr); exact rfl; exact rfl; exact rfl; decide; decide; (go_simp; exact rfl); exact rfl))
      go_roundw
      case rel => exact ⟨i + 1, u, by first | rfl | go_num, by omega, by rw [HM.out]; exact T.less (by omega), F.sub (by repeat (first | exact List.Sublist.slnil | apply List.Sublist.cons_cons | apply List.Sublist.cons))⟩
      case measure => simp [intOf]; omega
    · have t1 : decide ((i : Int) < 5) = false := decide_eq_false (by omega)
      go_wp2_with (first | go_skip | ((go_at_call 18); (with_reducible refine fr_call F (gk _ _ _ _ T F) ?_); (clear F; intro W F); (try dsimp only)) | ((with_reducible apply fSli F slInt); exact rfl; exact rfl; exact rfl; decide; decide; (go_simp; exact rfl); exact rfl) | ((with_reducible apply fSli F slStr); exact rfl; exact rfl; exact rfl; decide; decide; (go_simp; exact rfl); exact rfl))
      go_ret
      exact HO.out _ _ _ _ T F
end
end Go.Proofs.YtpaodheilchfnaaGreatDoor
