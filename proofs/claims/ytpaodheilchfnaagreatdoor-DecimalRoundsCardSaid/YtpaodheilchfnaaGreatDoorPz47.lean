/- What the laws lean on. -/
import Derived.Test.YtpaodheilchfnaaGreatDoorPz36
import Derived.Test.YtpaodheilchfnaaGreatDoorPz41
namespace Go.Proofs.YtpaodheilchfnaaGreatDoor
set_option linter.unusedVariables false
set_option linter.unusedSimpArgs false
section
open Go.RowKit
set_option maxHeartbeats 4000000
def RatG (v : Value) : Prop := ∃ n d : Int, v = .agg (RC n d) ∧ okZ n d
theorem rmake_okG {n d : Int} (hn : n.natAbs < bp 15) (hd : 0 < d) (hd2 : d.natAbs < bp 15) (w : World) : Calls Tryz.prog 83 #[.agg (IC n), .agg (IC d)] w (RetP (fun v => ∃ a b : Int, v = .tuple #[.agg (RC a b), .int .i64 0] ∧ RatG (.agg (RC a b))) w) := by
  obtain ⟨h1, h2⟩ := mkR_ok (n := n) hd hn hd2
  exact Calls.retP (rmakeZ (b15 hn) (b15 hd2) h1 w) ⟨lowN n d, lowD n d, rfl, lowN n d, lowD n d, rfl, h2⟩
theorem tintK {B b N : Nat} {w : World} (k : Nat) {bits : Nat} {z : Int} (hz : z = (bits : Int)) (hk : bits = 32 * k) (hb : bits ≤ 1024) (h : TapeAt w B b (N + 67)) : Calls Tryz.prog 86 #[.pointer (some ⟨b, 0, none⟩), .int .i64 z] w (TapP (fun v => ∃ z : Int, v = .agg (IC z) ∧ z.natAbs < bp k) B b N w) := by
  have h1 := tint bits hz hb h
  rw [hk, ← bp_two] at h1
  exact h1
theorem tint480 {B b N : Nat} {w : World} (h : TapeAt w B b (N + 67)) : Calls Tryz.prog 86 #[.pointer (some ⟨b, 0, none⟩), .int .i64 480] w (TapP (fun v => ∃ z : Int, v = .agg (IC z) ∧ z.natAbs < bp 15) B b N w) :=
  tintK 15 (bits := 480) rfl rfl (by decide) h
set_option maxRecDepth 100000 in
theorem tlong {B b N : Nat} {w : World} (h : TapeAt w B b (N + 671)) : Calls Tryz.prog 34 #[.pointer (some ⟨b, 0, none⟩)] w (TapP RatG B b N w) := by
  have F := Fr.start w
  have T := Tp.start h
  clear h
  go_enter Tryz.func34, Tryz.ntmps34
  go_wp2_with (first | go_skip | ((with_reducible apply fL F); exact rfl; exact rfl; (exact tL); (exact tR3)) | ((with_reducible apply fA_int F); exact rfl) | ((with_reducible apply fA_rat F); exact rfl) | ((with_reducible apply fS F); exact rfl; exact rfl; exact rfl; (exact tL); (exact tR3); (exact tS2); clear F; intro W F; simp only [z7, z8] at F))
  (clear F; intro b2 W F; try simp only [Act.put, z6, z1, z2])
  go_wp2_with (first | go_skip | ((with_reducible apply fL F); exact rfl; exact rfl; (exact tL); (exact tR3)) | ((with_reducible apply fA_int F); exact rfl) | ((with_reducible apply fA_rat F); exact rfl) | ((with_reducible apply fS F); exact rfl; exact rfl; exact rfl; (exact tL); (exact tR3); (exact tS2); clear F; intro W F; simp only [z7, z8] at F))
  go_loopw [3] (fun iv wr => ∃ (i : Nat) (u : World), iv = .int .i64 i ∧ i ≤ 4 ∧ Tp w u B b (N + 135 + 134 * (4 - i)) ∧ Fr u wr [(b2, RC 0 0, 31)]) (fun iv _ => 5 - (intOf iv).toNat)
  case atStart => exact ⟨0, _, rfl, by omega, T.less (by omega), F⟩
  case round =>
    clear F T
    obtain ⟨i, u, rfl, hi, T, F⟩ := hrel
    by_cases hlt : i < 4
    · have T2 := T.less (M := (N + 135 + 134 * (4 - (i + 1))) + 67 + 67) (by omega)
      clear T
      obtain ⟨M, hM⟩ : ∃ M, N + 135 + 134 * (4 - (i + 1)) = M := ⟨_, rfl⟩
      rw [hM] at T2
      have HMM := Lib.hid hM
      have HML := Lib.hid (show N ≤ M by omega)
      clear hM
      have T := T2
      clear T2
      go_wp2_with (first | go_skip | ((go_at_call 86); (with_reducible refine fr_tap F T (tint480 (T.at F)) ?_); (try clear F T); (rintro _ u W ⟨z, rfl, hz⟩ T F); (try dsimp only)) | ((go_at_call 85); (with_reducible refine fr_call F (rabs_any (b15 hz) _) ?_); (clear F; intro W F); (try dsimp only)) | ((with_reducible apply fL F); exact rfl; exact rfl; (exact tL); (exact tR3)) | ((with_reducible apply fA_int F); exact rfl) | ((with_reducible apply fA_rat F); exact rfl) | ((with_reducible apply fS F); exact rfl; exact rfl; exact rfl; (exact tL); (exact tR3); (exact tS2); clear F; intro W F; simp only [z7, z8] at F))
      (clear F; intro b4 W F; try simp only [Act.put, z6, z1, z2])
      obtain ⟨sg, hsg⟩ : ∃ s : Int, Int.sign ((z.natAbs : Nat) : Int) = s := ⟨_, rfl⟩
      have g1 : ∀ w, Calls Tryz.prog 77 #[.agg (IC ((z.natAbs : Nat) : Int))] w (RetB (.int .i64 sg) w) := fun w => by rw [← hsg]; exact rsignZ (by simpa using b15 hz) w
      by_cases h0 : z = 0
      · subst h0
        obtain rfl : 0 = sg := hsg
        have g3 : ∀ w, Calls Tryz.prog 77 #[.agg (IC 0)] w (RetB (.int .i64 0) w) := fun w => rsignZ (x := 0) (bp_pos 32) w
        go_wp2_with (first | go_skip | ((go_at_call 77); (with_reducible refine fr_call F (g3 _) ?_); (clear F; intro W F); (try dsimp only)) | ((with_reducible apply fL F); exact rfl; exact rfl; (exact tL); (exact tR3)) | ((with_reducible apply fA_int F); exact rfl) | ((with_reducible apply fA_rat F); exact rfl) | ((with_reducible apply fS F); exact rfl; exact rfl; exact rfl; (exact tL); (exact tR3); (exact tS2); clear F; intro W F; simp only [z7, z8] at F))
        replace F := F.sub (L' := [(b2, RC 0 0, 31)]) (by repeat (first | exact List.Sublist.slnil | apply List.Sublist.cons_cons | apply List.Sublist.cons))
        go_roundw
        case rel => exact ⟨i + 1, u, rfl, by omega, by rw [HMM.out]; exact T.less (by omega), F⟩
        case measure => simp [intOf]; omega
      · have h1 : sg = 1 := by rw [← hsg]; exact Int.sign_eq_one_of_pos (by omega)
        subst h1
        have hx : 0 < ((z.natAbs : Nat) : Int) ∧ (((z.natAbs : Nat) : Int)).natAbs < bp 15 := ⟨by omega, by simpa using hz⟩
        generalize ((z.natAbs : Nat) : Int) = x at *
        go_upto_region 6 with (first | go_skip | ((go_at_call 77); (with_reducible refine fr_call F (g1 _) ?_); (clear F; intro W F); (try dsimp only)) | ((with_reducible apply fL F); exact rfl; exact rfl; (exact tL); (exact tR3)) | ((with_reducible apply fA_int F); exact rfl) | ((with_reducible apply fA_rat F); exact rfl) | ((with_reducible apply fS F); exact rfl; exact rfl; exact rfl; (exact tL); (exact tR3); (exact tS2); clear F; intro W F; simp only [z7, z8] at F))
        try simp only [Act.put, z6, z1, z2]
        refine wp_region_bm 10 (by kernel_rfl) rfl ?_
        replace F := F.drew
        revert F
        generalize World.drew _ = W
        intro F
        (refine dg_take 0 18 1 (v := ?_) rfl (by kernel_rfl) (by kernel_rfl) (by kernel_rfl) (by kernel_rfl) (by kernel_rfl) (fun _ _ _ h => h) (Or.inl ⟨by kernel_rfl, ?_⟩) ?_; rotate_left; (focus (intro w; go_simp; try (with_reducible rfl))); (simp only [z1, z2]))
        apply dg_m5 (f' := 1) (m' := 511) (H := fun (y : Int) (n : Int) (d : Int) (b5 : Nat) (u : World) (W : World) => RatG (.agg (RC n d)) ∧ Tp w u B b M ∧ Fr u W [(b5, RC n d, 31), (b4, IC x, 29), (b2, RC 0 0, 31)])
        · intro M
          refine dg_ready [1, 2, 7] (by kernel_rfl) rfl ?_
          refine dg_want 1 3 rfl (by kernel_rfl) rfl (fun K hK => ?_) ?_
          · skip
            (simp only [z3, z4, z5])
            ((refine ⟨?_⟩); go_simp; (first | ((with_reducible refine fr_tap F T (tint480 (T.at F)) ?_); (try clear F T); (rintro _ u W ⟨y, rfl, hy⟩ T F); (try dsimp only)) | ((with_reducible refine fr_callP F (rmake_okG hy hx.1 hx.2 _) ?_); (try clear F); (rintro _ W ⟨n, d, rfl, ho⟩ F); (try dsimp only)) | skip))
            (refine hK _ _ ?_; clear hK K)
            refine dg_ready [2, 7] (by kernel_rfl) rfl ?_
            refine dg_want 2 7 rfl (by kernel_rfl) rfl (fun K hK => ?_) ?_
            · skip
              (simp only [z3, z4, z5])
              (first | ((with_reducible apply gL F); exact rfl; (exact tL); (exact tR3); go_simp) | ((with_reducible apply gLm F); exact rfl; (exact tL); (exact tM3); (exact tR3); go_simp) | ((refine ⟨?_⟩); go_simp))
              (refine hK _ _ ?_; clear hK K)
              refine dg_ready [3, 7] (by kernel_rfl) rfl ?_
              refine dg_want 3 15 rfl (by kernel_rfl) rfl (fun K hK => ?_) ?_
              · skip
                (simp only [z3, z4, z5])
                ((refine ⟨?_⟩); go_simp; (first | ((with_reducible refine fr_tap F T (tint480 (T.at F)) ?_); (try clear F T); (rintro _ u W ⟨y, rfl, hy⟩ T F); (try dsimp only)) | ((with_reducible refine fr_callP F (rmake_okG hy hx.1 hx.2 _) ?_); (try clear F); (rintro _ W ⟨n, d, rfl, ho⟩ F); (try dsimp only)) | skip))
                (refine hK _ _ ?_; clear hK K)
                (refine dg_take 4 17 31 (v := ?_) rfl (by kernel_rfl) (by kernel_rfl) (by kernel_rfl) (by kernel_rfl) (by kernel_rfl) (fun _ _ _ h => h) (Or.inl ⟨by kernel_rfl, ?_⟩) ?_; rotate_left; (focus (intro w; go_simp; try (with_reducible rfl))); (simp only [z1, z2]))
                (refine dg_take 5 22 63 (v := ?_) rfl (by kernel_rfl) (by kernel_rfl) (by kernel_rfl) (by kernel_rfl) (by kernel_rfl) (fun _ _ _ h => h) (Or.inl ⟨by kernel_rfl, ?_⟩) ?_; rotate_left; (focus (intro w; go_simp; try (with_reducible rfl))); (simp only [z1, z2]))
                (refine dg_take 6 23 127 (v := ?_) rfl (by kernel_rfl) (by kernel_rfl) (by kernel_rfl) (by kernel_rfl) (by kernel_rfl) (fun _ _ _ h => h) (Or.inl ⟨by kernel_rfl, ?_⟩) ?_; rotate_left; (focus (intro w; go_simp; try (with_reducible rfl))); (simp only [z1, z2]))
                refine dg_one 7 255 (by kernel_rfl) rfl (by kernel_rfl) rfl (fun K hK => ?_)
                (simp only [z3, z4, z5])
                (first | ((with_reducible apply gA_rat F)) | ((refine ⟨?_⟩); go_simp))
                ((try clear F); intro b5 W F; (try go_simp))
                (refine hK _ _ ?_; clear hK K)
                refine dg_one 8 511 (by kernel_rfl) rfl (by kernel_rfl) rfl (fun K hK => ?_)
                (simp only [z3, z4, z5])
                (first | ((with_reducible apply gS F); exact rfl; exact rfl; (exact tL); (exact tR3); (exact tS2); (try clear F); intro W F; simp only [z7, z8] at F; go_simp) | ((refine ⟨?_⟩); go_simp))
                (refine hK _ _ ?_; clear hK K)
                exact M y n d b5 u W ⟨ho, T, F⟩
              refine dg_want 7 135 rfl (by kernel_rfl) rfl (fun K hK => ?_) ?_
              · skip
                (simp only [z3, z4, z5])
                (first | ((with_reducible apply gA_rat F)) | ((refine ⟨?_⟩); go_simp))
                ((try clear F); intro b5 W F; (try go_simp))
                (refine hK _ _ ?_; clear hK K)
                refine dg_one 3 143 (by kernel_rfl) rfl (by kernel_rfl) rfl (fun K hK => ?_)
                (simp only [z3, z4, z5])
                ((refine ⟨?_⟩); go_simp; (first | ((with_reducible refine fr_tap F T (tint480 (T.at F)) ?_); (try clear F T); (rintro _ u W ⟨y, rfl, hy⟩ T F); (try dsimp only)) | ((with_reducible refine fr_callP F (rmake_okG hy hx.1 hx.2 _) ?_); (try clear F); (rintro _ W ⟨n, d, rfl, ho⟩ F); (try dsimp only)) | skip))
                (refine hK _ _ ?_; clear hK K)
                refine dg_one 4 159 (by kernel_rfl) rfl (by kernel_rfl) rfl (fun K hK => ?_)
                (simp only [z3, z4, z5])
                ((refine ⟨?_⟩); go_simp)
                (refine hK _ _ ?_; clear hK K)
                (refine dg_take 5 22 191 (v := ?_) rfl (by kernel_rfl) (by kernel_rfl) (by kernel_rfl) (by kernel_rfl) (by kernel_rfl) (fun _ _ _ h => h) (Or.inl ⟨by kernel_rfl, ?_⟩) ?_; rotate_left; (focus (intro w; go_simp; try (with_reducible rfl))); (simp only [z1, z2]))
                (refine dg_take 6 23 255 (v := ?_) rfl (by kernel_rfl) (by kernel_rfl) (by kernel_rfl) (by kernel_rfl) (by kernel_rfl) (fun _ _ _ h => h) (Or.inl ⟨by kernel_rfl, ?_⟩) ?_; rotate_left; (focus (intro w; go_simp; try (with_reducible rfl))); (simp only [z1, z2]))
                refine dg_one 8 511 (by kernel_rfl) rfl (by kernel_rfl) rfl (fun K hK => ?_)
                (simp only [z3, z4, z5])
                (first | ((with_reducible apply gS F); exact rfl; exact rfl; (exact tL); (exact tR3); (exact tS2); (try clear F); intro W F; simp only [z7, z8] at F; go_simp) | ((refine ⟨?_⟩); go_simp))
                (refine hK _ _ ?_; clear hK K)
                exact M y n d b5 u W ⟨ho, T, F⟩
              exact dg_nil
            refine dg_want 7 131 rfl (by kernel_rfl) rfl (fun K hK => ?_) ?_
            · skip
              (simp only [z3, z4, z5])
              (first | ((with_reducible apply gA_rat F)) | ((refine ⟨?_⟩); go_simp))
              ((try clear F); intro b5 W F; (try go_simp))
              (refine hK _ _ ?_; clear hK K)
              refine dg_one 2 135 (by kernel_rfl) rfl (by kernel_rfl) rfl (fun K hK => ?_)
              (simp only [z3, z4, z5])
              (first | ((with_reducible apply gL F); exact rfl; (exact tL); (exact tR3); go_simp) | ((with_reducible apply gLm F); exact rfl; (exact tL); (exact tM3); (exact tR3); go_simp) | ((refine ⟨?_⟩); go_simp))
              (refine hK _ _ ?_; clear hK K)
              refine dg_one 3 143 (by kernel_rfl) rfl (by kernel_rfl) rfl (fun K hK => ?_)
              (simp only [z3, z4, z5])
              ((refine ⟨?_⟩); go_simp; (first | ((with_reducible refine fr_tap F T (tint480 (T.at F)) ?_); (try clear F T); (rintro _ u W ⟨y, rfl, hy⟩ T F); (try dsimp only)) | ((with_reducible refine fr_callP F (rmake_okG hy hx.1 hx.2 _) ?_); (try clear F); (rintro _ W ⟨n, d, rfl, ho⟩ F); (try dsimp only)) | skip))
              (refine hK _ _ ?_; clear hK K)
              refine dg_one 4 159 (by kernel_rfl) rfl (by kernel_rfl) rfl (fun K hK => ?_)
              (simp only [z3, z4, z5])
              ((refine ⟨?_⟩); go_simp)
              (refine hK _ _ ?_; clear hK K)
              (refine dg_take 5 22 191 (v := ?_) rfl (by kernel_rfl) (by kernel_rfl) (by kernel_rfl) (by kernel_rfl) (by kernel_rfl) (fun _ _ _ h => h) (Or.inl ⟨by kernel_rfl, ?_⟩) ?_; rotate_left; (focus (intro w; go_simp; try (with_reducible rfl))); (simp only [z1, z2]))
              (refine dg_take 6 23 255 (v := ?_) rfl (by kernel_rfl) (by kernel_rfl) (by kernel_rfl) (by kernel_rfl) (by kernel_rfl) (fun _ _ _ h => h) (Or.inl ⟨by kernel_rfl, ?_⟩) ?_; rotate_left; (focus (intro w; go_simp; try (with_reducible rfl))); (simp only [z1, z2]))
              refine dg_one 8 511 (by kernel_rfl) rfl (by kernel_rfl) rfl (fun K hK => ?_)
              (simp only [z3, z4, z5])
              (first | ((with_reducible apply gS F); exact rfl; exact rfl; (exact tL); (exact tR3); (exact tS2); (try clear F); intro W F; simp only [z7, z8] at F; go_simp) | ((refine ⟨?_⟩); go_simp))
              (refine hK _ _ ?_; clear hK K)
              exact M y n d b5 u W ⟨ho, T, F⟩
            exact dg_nil
          refine dg_want 2 5 rfl (by kernel_rfl) rfl (fun K hK => ?_) ?_
          · skip
            (simp only [z3, z4, z5])
            (first | ((with_reducible apply gL F); exact rfl; (exact tL); (exact tR3); go_simp) | ((with_reducible apply gLm F); exact rfl; (exact tL); (exact tM3); (exact tR3); go_simp) | ((refine ⟨?_⟩); go_simp))
            (refine hK _ _ ?_; clear hK K)
            refine dg_ready [1, 7] (by kernel_rfl) rfl ?_
            refine dg_want 1 7 rfl (by kernel_rfl) rfl (fun K hK => ?_) ?_
            · skip
              (simp only [z3, z4, z5])
              ((refine ⟨?_⟩); go_simp; (first | ((with_reducible refine fr_tap F T (tint480 (T.at F)) ?_); (try clear F T); (rintro _ u W ⟨y, rfl, hy⟩ T F); (try dsimp only)) | ((with_reducible refine fr_callP F (rmake_okG hy hx.1 hx.2 _) ?_); (try clear F); (rintro _ W ⟨n, d, rfl, ho⟩ F); (try dsimp only)) | skip))
              (refine hK _ _ ?_; clear hK K)
              refine dg_ready [3, 7] (by kernel_rfl) rfl ?_
              refine dg_want 3 15 rfl (by kernel_rfl) rfl (fun K hK => ?_) ?_
              · skip
                (simp only [z3, z4, z5])
                ((refine ⟨?_⟩); go_simp; (first | ((with_reducible refine fr_tap F T (tint480 (T.at F)) ?_); (try clear F T); (rintro _ u W ⟨y, rfl, hy⟩ T F); (try dsimp only)) | ((with_reducible refine fr_callP F (rmake_okG hy hx.1 hx.2 _) ?_); (try clear F); (rintro _ W ⟨n, d, rfl, ho⟩ F); (try dsimp only)) | skip))
                (refine hK _ _ ?_; clear hK K)
                (refine dg_take 4 17 31 (v := ?_) rfl (by kernel_rfl) (by kernel_rfl) (by kernel_rfl) (by kernel_rfl) (by kernel_rfl) (fun _ _ _ h => h) (Or.inl ⟨by kernel_rfl, ?_⟩) ?_; rotate_left; (focus (intro w; go_simp; try (with_reducible rfl))); (simp only [z1, z2]))
                (refine dg_take 5 22 63 (v := ?_) rfl (by kernel_rfl) (by kernel_rfl) (by kernel_rfl) (by kernel_rfl) (by kernel_rfl) (fun _ _ _ h => h) (Or.inl ⟨by kernel_rfl, ?_⟩) ?_; rotate_left; (focus (intro w; go_simp; try (with_reducible rfl))); (simp only [z1, z2]))
                (refine dg_take 6 23 127 (v := ?_) rfl (by kernel_rfl) (by kernel_rfl) (by kernel_rfl) (by kernel_rfl) (by kernel_rfl) (fun _ _ _ h => h) (Or.inl ⟨by kernel_rfl, ?_⟩) ?_; rotate_left; (focus (intro w; go_simp; try (with_reducible rfl))); (simp only [z1, z2]))
                refine dg_one 7 255 (by kernel_rfl) rfl (by kernel_rfl) rfl (fun K hK => ?_)
                (simp only [z3, z4, z5])
                (first | ((with_reducible apply gA_rat F)) | ((refine ⟨?_⟩); go_simp))
                ((try clear F); intro b5 W F; (try go_simp))
                (refine hK _ _ ?_; clear hK K)
                refine dg_one 8 511 (by kernel_rfl) rfl (by kernel_rfl) rfl (fun K hK => ?_)
                (simp only [z3, z4, z5])
                (first | ((with_reducible apply gS F); exact rfl; exact rfl; (exact tL); (exact tR3); (exact tS2); (try clear F); intro W F; simp only [z7, z8] at F; go_simp) | ((refine ⟨?_⟩); go_simp))
                (refine hK _ _ ?_; clear hK K)
                exact M y n d b5 u W ⟨ho, T, F⟩
              refine dg_want 7 135 rfl (by kernel_rfl) rfl (fun K hK => ?_) ?_
              · skip
                (simp only [z3, z4, z5])
                (first | ((with_reducible apply gA_rat F)) | ((refine ⟨?_⟩); go_simp))
                ((try clear F); intro b5 W F; (try go_simp))
                (refine hK _ _ ?_; clear hK K)
                refine dg_one 3 143 (by kernel_rfl) rfl (by kernel_rfl) rfl (fun K hK => ?_)
                (simp only [z3, z4, z5])
                ((refine ⟨?_⟩); go_simp; (first | ((with_reducible refine fr_tap F T (tint480 (T.at F)) ?_); (try clear F T); (rintro _ u W ⟨y, rfl, hy⟩ T F); (try dsimp only)) | ((with_reducible refine fr_callP F (rmake_okG hy hx.1 hx.2 _) ?_); (try clear F); (rintro _ W ⟨n, d, rfl, ho⟩ F); (try dsimp only)) | skip))
                (refine hK _ _ ?_; clear hK K)
                refine dg_one 4 159 (by kernel_rfl) rfl (by kernel_rfl) rfl (fun K hK => ?_)
                (simp only [z3, z4, z5])
                ((refine ⟨?_⟩); go_simp)
                (refine hK _ _ ?_; clear hK K)
                (refine dg_take 5 22 191 (v := ?_) rfl (by kernel_rfl) (by kernel_rfl) (by kernel_rfl) (by kernel_rfl) (by kernel_rfl) (fun _ _ _ h => h) (Or.inl ⟨by kernel_rfl, ?_⟩) ?_; rotate_left; (focus (intro w; go_simp; try (with_reducible rfl))); (simp only [z1, z2]))
                (refine dg_take 6 23 255 (v := ?_) rfl (by kernel_rfl) (by kernel_rfl) (by kernel_rfl) (by kernel_rfl) (by kernel_rfl) (fun _ _ _ h => h) (Or.inl ⟨by kernel_rfl, ?_⟩) ?_; rotate_left; (focus (intro w; go_simp; try (with_reducible rfl))); (simp only [z1, z2]))
                refine dg_one 8 511 (by kernel_rfl) rfl (by kernel_rfl) rfl (fun K hK => ?_)
                (simp only [z3, z4, z5])
                (first | ((with_reducible apply gS F); exact rfl; exact rfl; (exact tL); (exact tR3); (exact tS2); (try clear F); intro W F; simp only [z7, z8] at F; go_simp) | ((refine ⟨?_⟩); go_simp))
                (refine hK _ _ ?_; clear hK K)
                exact M y n d b5 u W ⟨ho, T, F⟩
              exact dg_nil
            refine dg_want 7 133 rfl (by kernel_rfl) rfl (fun K hK => ?_) ?_
            · skip
              (simp only [z3, z4, z5])
              (first | ((with_reducible apply gA_rat F)) | ((refine ⟨?_⟩); go_simp))
              ((try clear F); intro b5 W F; (try go_simp))
              (refine hK _ _ ?_; clear hK K)
              refine dg_one 1 135 (by kernel_rfl) rfl (by kernel_rfl) rfl (fun K hK => ?_)
              (simp only [z3, z4, z5])
              ((refine ⟨?_⟩); go_simp; (first | ((with_reducible refine fr_tap F T (tint480 (T.at F)) ?_); (try clear F T); (rintro _ u W ⟨y, rfl, hy⟩ T F); (try dsimp only)) | ((with_reducible refine fr_callP F (rmake_okG hy hx.1 hx.2 _) ?_); (try clear F); (rintro _ W ⟨n, d, rfl, ho⟩ F); (try dsimp only)) | skip))
              (refine hK _ _ ?_; clear hK K)
              refine dg_one 3 143 (by kernel_rfl) rfl (by kernel_rfl) rfl (fun K hK => ?_)
              (simp only [z3, z4, z5])
              ((refine ⟨?_⟩); go_simp; (first | ((with_reducible refine fr_tap F T (tint480 (T.at F)) ?_); (try clear F T); (rintro _ u W ⟨y, rfl, hy⟩ T F); (try dsimp only)) | ((with_reducible refine fr_callP F (rmake_okG hy hx.1 hx.2 _) ?_); (try clear F); (rintro _ W ⟨n, d, rfl, ho⟩ F); (try dsimp only)) | skip))
              (refine hK _ _ ?_; clear hK K)
              refine dg_one 4 159 (by kernel_rfl) rfl (by kernel_rfl) rfl (fun K hK => ?_)
              (simp only [z3, z4, z5])
              ((refine ⟨?_⟩); go_simp)
              (refine hK _ _ ?_; clear hK K)
              (refine dg_take 5 22 191 (v := ?_) rfl (by kernel_rfl) (by kernel_rfl) (by kernel_rfl) (by kernel_rfl) (by kernel_rfl) (fun _ _ _ h => h) (Or.inl ⟨by kernel_rfl, ?_⟩) ?_; rotate_left; (focus (intro w; go_simp; try (with_reducible rfl))); (simp only [z1, z2]))
              (refine dg_take 6 23 255 (v := ?_) rfl (by kernel_rfl) (by kernel_rfl) (by kernel_rfl) (by kernel_rfl) (by kernel_rfl) (fun _ _ _ h => h) (Or.inl ⟨by kernel_rfl, ?_⟩) ?_; rotate_left; (focus (intro w; go_simp; try (with_reducible rfl))); (simp only [z1, z2]))
              refine dg_one 8 511 (by kernel_rfl) rfl (by kernel_rfl) rfl (fun K hK => ?_)
              (simp only [z3, z4, z5])
              (first | ((with_reducible apply gS F); exact rfl; exact rfl; (exact tL); (exact tR3); (exact tS2); (try clear F); intro W F; simp only [z7, z8] at F; go_simp) | ((refine ⟨?_⟩); go_simp))
              (refine hK _ _ ?_; clear hK K)
              exact M y n d b5 u W ⟨ho, T, F⟩
            exact dg_nil
          refine dg_want 7 129 rfl (by kernel_rfl) rfl (fun K hK => ?_) ?_
          · skip
            (simp only [z3, z4, z5])
            (first | ((with_reducible apply gA_rat F)) | ((refine ⟨?_⟩); go_simp))
            ((try clear F); intro b5 W F; (try go_simp))
            (refine hK _ _ ?_; clear hK K)
            refine dg_ready [1, 2] (by kernel_rfl) rfl ?_
            refine dg_want 1 131 rfl (by kernel_rfl) rfl (fun K hK => ?_) ?_
            · skip
              (simp only [z3, z4, z5])
              ((refine ⟨?_⟩); go_simp; (first | ((with_reducible refine fr_tap F T (tint480 (T.at F)) ?_); (try clear F T); (rintro _ u W ⟨y, rfl, hy⟩ T F); (try dsimp only)) | ((with_reducible refine fr_callP F (rmake_okG hy hx.1 hx.2 _) ?_); (try clear F); (rintro _ W ⟨n, d, rfl, ho⟩ F); (try dsimp only)) | skip))
              (refine hK _ _ ?_; clear hK K)
              refine dg_one 2 135 (by kernel_rfl) rfl (by kernel_rfl) rfl (fun K hK => ?_)
              (simp only [z3, z4, z5])
              (first | ((with_reducible apply gL F); exact rfl; (exact tL); (exact tR3); go_simp) | ((with_reducible apply gLm F); exact rfl; (exact tL); (exact tM3); (exact tR3); go_simp) | ((refine ⟨?_⟩); go_simp))
              (refine hK _ _ ?_; clear hK K)
              refine dg_one 3 143 (by kernel_rfl) rfl (by kernel_rfl) rfl (fun K hK => ?_)
              (simp only [z3, z4, z5])
              ((refine ⟨?_⟩); go_simp; (first | ((with_reducible refine fr_tap F T (tint480 (T.at F)) ?_); (try clear F T); (rintro _ u W ⟨y, rfl, hy⟩ T F); (try dsimp only)) | ((with_reducible refine fr_callP F (rmake_okG hy hx.1 hx.2 _) ?_); (try clear F); (rintro _ W ⟨n, d, rfl, ho⟩ F); (try dsimp only)) | skip))
              (refine hK _ _ ?_; clear hK K)
              refine dg_one 4 159 (by kernel_rfl) rfl (by kernel_rfl) rfl (fun K hK => ?_)
              (simp only [z3, z4, z5])
              ((refine ⟨?_⟩); go_simp)
              (refine hK _ _ ?_; clear hK K)
              (refine dg_take 5 22 191 (v := ?_) rfl (by kernel_rfl) (by kernel_rfl) (by kernel_rfl) (by kernel_rfl) (by kernel_rfl) (fun _ _ _ h => h) (Or.inl ⟨by kernel_rfl, ?_⟩) ?_; rotate_left; (focus (intro w; go_simp; try (with_reducible rfl))); (simp only [z1, z2]))
              (refine dg_take 6 23 255 (v := ?_) rfl (by kernel_rfl) (by kernel_rfl) (by kernel_rfl) (by kernel_rfl) (by kernel_rfl) (fun _ _ _ h => h) (Or.inl ⟨by kernel_rfl, ?_⟩) ?_; rotate_left; (focus (intro w; go_simp; try (with_reducible rfl))); (simp only [z1, z2]))
              refine dg_one 8 511 (by kernel_rfl) rfl (by kernel_rfl) rfl (fun K hK => ?_)
              (simp only [z3, z4, z5])
              (first | ((with_reducible apply gS F); exact rfl; exact rfl; (exact tL); (exact tR3); (exact tS2); (try clear F); intro W F; simp only [z7, z8] at F; go_simp) | ((refine ⟨?_⟩); go_simp))
              (refine hK _ _ ?_; clear hK K)
              exact M y n d b5 u W ⟨ho, T, F⟩
            refine dg_want 2 133 rfl (by kernel_rfl) rfl (fun K hK => ?_) ?_
            · skip
              (simp only [z3, z4, z5])
              (first | ((with_reducible apply gL F); exact rfl; (exact tL); (exact tR3); go_simp) | ((with_reducible apply gLm F); exact rfl; (exact tL); (exact tM3); (exact tR3); go_simp) | ((refine ⟨?_⟩); go_simp))
              (refine hK _ _ ?_; clear hK K)
              refine dg_one 1 135 (by kernel_rfl) rfl (by kernel_rfl) rfl (fun K hK => ?_)
              (simp only [z3, z4, z5])
              ((refine ⟨?_⟩); go_simp; (first | ((with_reducible refine fr_tap F T (tint480 (T.at F)) ?_); (try clear F T); (rintro _ u W ⟨y, rfl, hy⟩ T F); (try dsimp only)) | ((with_reducible refine fr_callP F (rmake_okG hy hx.1 hx.2 _) ?_); (try clear F); (rintro _ W ⟨n, d, rfl, ho⟩ F); (try dsimp only)) | skip))
              (refine hK _ _ ?_; clear hK K)
              refine dg_one 3 143 (by kernel_rfl) rfl (by kernel_rfl) rfl (fun K hK => ?_)
              (simp only [z3, z4, z5])
              ((refine ⟨?_⟩); go_simp; (first | ((with_reducible refine fr_tap F T (tint480 (T.at F)) ?_); (try clear F T); (rintro _ u W ⟨y, rfl, hy⟩ T F); (try dsimp only)) | ((with_reducible refine fr_callP F (rmake_okG hy hx.1 hx.2 _) ?_); (try clear F); (rintro _ W ⟨n, d, rfl, ho⟩ F); (try dsimp only)) | skip))
              (refine hK _ _ ?_; clear hK K)
              refine dg_one 4 159 (by kernel_rfl) rfl (by kernel_rfl) rfl (fun K hK => ?_)
              (simp only [z3, z4, z5])
              ((refine ⟨?_⟩); go_simp)
              (refine hK _ _ ?_; clear hK K)
              (refine dg_take 5 22 191 (v := ?_) rfl (by kernel_rfl) (by kernel_rfl) (by kernel_rfl) (by kernel_rfl) (by kernel_rfl) (fun _ _ _ h => h) (Or.inl ⟨by kernel_rfl, ?_⟩) ?_; rotate_left; (focus (intro w; go_simp; try (with_reducible rfl))); (simp only [z1, z2]))
              (refine dg_take 6 23 255 (v := ?_) rfl (by kernel_rfl) (by kernel_rfl) (by kernel_rfl) (by kernel_rfl) (by kernel_rfl) (fun _ _ _ h => h) (Or.inl ⟨by kernel_rfl, ?_⟩) ?_; rotate_left; (focus (intro w; go_simp; try (with_reducible rfl))); (simp only [z1, z2]))
              refine dg_one 8 511 (by kernel_rfl) rfl (by kernel_rfl) rfl (fun K hK => ?_)
              (simp only [z3, z4, z5])
              (first | ((with_reducible apply gS F); exact rfl; exact rfl; (exact tL); (exact tR3); (exact tS2); (try clear F); intro W F; simp only [z7, z8] at F; go_simp) | ((refine ⟨?_⟩); go_simp))
              (refine hK _ _ ?_; clear hK K)
              exact M y n d b5 u W ⟨ho, T, F⟩
            exact dg_nil
          exact dg_nil
        clear F T
        intro y n d b5 u W hM
        obtain ⟨ho, T, F⟩ := hM
        refine dg_one 9 1023 (by kernel_rfl) rfl (by kernel_rfl) rfl (fun K hK => ?_)
        (simp only [z3, z4, z5])
        ((refine ⟨?_⟩); go_simp)
        (refine hK _ _ ?_; clear hK K)
        refine dg_end (by kernel_rfl) ?_ _
        go_wp2_with (first | go_skip | ((with_reducible apply fL F); exact rfl; exact rfl; (exact tL); (exact tR3)) | ((with_reducible apply fA_int F); exact rfl) | ((with_reducible apply fA_rat F); exact rfl) | ((with_reducible apply fS F); exact rfl; exact rfl; exact rfl; (exact tL); (exact tR3); (exact tS2); clear F; intro W F; simp only [z7, z8] at F))
        exact bodyPost_ret (res_c rfl rfl (Fr.get F tL) (rowRC _ _)) rfl (tap_end (T.less HML.out) F ho)
    · replace T := T.less (M := N + 135) (by omega)
      have t1 : decide ((i : Int) < 4) = false := decide_eq_false (by omega)
      go_wp2_with (first | go_skip | ((go_at_call 32); (with_reducible refine fr_tap F T (tratio (T.at F)) ?_); (try clear F T); (rintro _ u W ⟨n, d, rfl, ho⟩ T F); (try dsimp only)) | ((with_reducible apply fL F); exact rfl; exact rfl; (exact tL); (exact tR3)) | ((with_reducible apply fA_int F); exact rfl) | ((with_reducible apply fA_rat F); exact rfl) | ((with_reducible apply fS F); exact rfl; exact rfl; exact rfl; (exact tL); (exact tR3); (exact tS2); clear F; intro W F; simp only [z7, z8] at F))
      exact bodyPost_ret (res_c rfl rfl (Fr.get F tL) (rowRC _ _)) rfl (tap_end T F ⟨n, d, rfl, ho.1⟩)
end
section
open Go.RowKit
set_option maxHeartbeats 4000000
theorem rnd_den {e : Int} (he : e ∈ [1, 2, 4, 20, 200, 3]) : 1 ≤ e ∧ e ≤ 200 := by
  simp only [List.mem_cons, List.not_mem_nil, or_false] at he
  omega
theorem exact_rc {n d : Int} (h : okZ n d) (p m : Int) {w : World} (ht : Tab w) : Calls Tryz.prog 6 #[.agg (RC n d), .int .i64 p, .int .i64 m] w (RetB (.bool true) w) :=
  decimalExact_any (x := decide (n < 0)) (y := decide (d < 0)) (okZ_b h).1 (okZ_b h).2 p m ht
set_option maxRecDepth 100000 in
theorem decimalRounds_any (A0 : Option Addr) (L0 : List Int) (cap : Nat) {w : World} (hL : IntsAt w A0 L0) (ht : Tab w) : Calls Tryz.prog 7 #[.slice A0 L0.length cap] w (RetB (.bool true) w) := by
  have T0 := tape_start (cap := cap) hL
  have gk := fun u W N L (T : Tp (w.alloc (.cells #[.slice A0 L0.length cap, .int .i64 0] 25)) u w.heap.size w.heap.size N) (F : Fr u W L) => known_any (ht.next (tape_out T F))
  have ge := fun n d p m (h : okZ n d) u W N L (T : Tp (w.alloc (.cells #[.slice A0 L0.length cap, .int .i64 0] 25)) u w.heap.size w.heap.size N) (F : Fr u W L) => exact_rc h p m (ht.next (tape_out T F))
  have HO := Lib.hid (fun u W N L (T : Tp (w.alloc (.cells #[.slice A0 L0.length cap, .int .i64 0] 25)) u w.heap.size w.heap.size N) (F : Fr u W L) => (show RetB (.bool true) w (.returned (.bool true)) W from ⟨rfl, tape_out T F⟩))
  clear hL ht
  go_enter Tryz.func7, Tryz.ntmps7
  go_upto_region 2 with fail
  have F := Fr.start (w.alloc (.cells #[.slice A0 L0.length cap, .int .i64 0] 25))
  have T := Tp.start T0
  clear T0
  generalize w.alloc (.cells #[.slice A0 L0.length cap, .int .i64 0] 25) = w1 at *
  generalize w.heap.size = b at *
  go_wp2_with (first | go_skip | ((go_at_call 32); (with_reducible refine fr_tap F T (tratio (T.at F)) ?_); (try clear F T); (rintro _ u W ⟨n, d, rfl, hr⟩ T F); (try dsimp only)) | ((with_reducible apply fL F); exact rfl; exact rfl; (exact tL); (exact tR3)) | ((with_reducible apply fSli F slInt); exact rfl; exact rfl; exact rfl; decide; decide; (go_simp; exact rfl); exact rfl) | ((with_reducible apply fA_rat F); exact rfl) | ((with_reducible apply fS F); exact rfl; exact rfl; exact rfl; (exact tL); (exact tR3); (exact tS2); clear F; intro W F; simp only [z7, z8] at F))
  (clear F; intro b4 W F; try simp only [Act.put, z6, z1, z2])
  go_upto_if 15 with (first | go_skip | ((go_at_call 16); (with_reducible refine fr_tap F T (tnext _ (by decide) (by decide) (T.at F)) ?_); (try clear F T); (rintro _ u W ⟨p, rfl, hp⟩ T F); (try dsimp only)) | ((go_at_call 33); (with_reducible refine fr_tap F T (tchance _ _ (by decide) (by decide) (T.at F)) ?_); (try clear F T); (rintro _ u W ⟨c, rfl⟩ T F); (try dsimp only)) | ((with_reducible apply fL F); exact rfl; exact rfl; (exact tL); (exact tR3)) | ((with_reducible apply fSli F slInt); exact rfl; exact rfl; exact rfl; decide; decide; (go_simp; exact rfl); exact rfl) | ((with_reducible apply fA_rat F); exact rfl) | ((with_reducible apply fS F); exact rfl; exact rfl; exact rfl; (exact tL); (exact tR3); (exact tS2); clear F; intro W F; simp only [z7, z8] at F))
  have hok := hr.1
  clear hr hp
  go_cut [5] from 15 to 23 (fun v wr => ∃ (n d p : Int) (u : World), v = .int .i64 p ∧ okZ n d ∧ Tp w1 u b b 900000000 ∧ Fr u wr [(b4, RC n d, 31)])
  case first =>
    cases c
    · go_wp2_with (first | go_skip | ((with_reducible apply fL F); exact rfl; exact rfl; (exact tL); (exact tR3)) | ((with_reducible apply fSli F slInt); exact rfl; exact rfl; exact rfl; decide; decide; (go_simp; exact rfl); exact rfl) | ((with_reducible apply fA_rat F); exact rfl) | ((with_reducible apply fS F); exact rfl; exact rfl; exact rfl; (exact tL); (exact tR3); (exact tS2); clear F; intro W F; simp only [z7, z8] at F))
      go_meet
      exact ⟨n, d, p, _, rfl, hok, T.less (by decide), F⟩
    · go_wp2_with (first | go_skip | ((go_at_call 12); (with_reducible refine fr_tap F T (trange _ _ (by decide) (by decide) (by decide) (T.at F)) ?_); (try clear F T); (rintro _ u W ⟨k, rfl, hk⟩ T F); (try dsimp only)) | ((with_reducible apply fL F); exact rfl; exact rfl; (exact tL); (exact tR3)) | ((with_reducible apply fSli F slInt); exact rfl; exact rfl; exact rfl; decide; decide; (go_simp; exact rfl); exact rfl) | ((with_reducible apply fA_rat F); exact rfl) | ((with_reducible apply fS F); exact rfl; exact rfl; exact rfl; (exact tL); (exact tR3); (exact tS2); clear F; intro W F; simp only [z7, z8] at F))
      (clear F; intro b19 W F; try simp only [Act.put, z6, z1, z2])
      go_wp2_with (first | go_skip | ((go_at_call 13); (with_reducible refine fr_tap F T (tpickF [1, 2, 4, 20, 200, 3] F T tL (by with_unfolding_all rfl) (by with_unfolding_all rfl) (by simp) (by simp)) ?_); (try clear F T); (rintro _ u W ⟨e, rfl, he⟩ T F); (have he2 := rnd_den he); (clear he); (try dsimp only)) | ((go_at_call 11); (with_reducible refine fr_callP F (makeOf_ok (by omega) (by omega) (by omega) _) ?_); (try clear F); (rintro _ W ⟨n2, d2, rfl, ho⟩ F); (try dsimp only)) | ((go_at_call 16); (with_reducible refine fr_tap F T (tnext _ (by decide) (by decide) (T.at F)) ?_); (try clear F T); (rintro _ u W ⟨p2, rfl, hp2⟩ T F); (try dsimp only)) | ((with_reducible apply fL F); exact rfl; exact rfl; (exact tL); (exact tR3)) | ((with_reducible apply fSli F slInt); exact rfl; exact rfl; exact rfl; decide; decide; (go_simp; exact rfl); exact rfl) | ((with_reducible apply fA_rat F); exact rfl) | ((with_reducible apply fS F); exact rfl; exact rfl; exact rfl; (exact tL); (exact tR3); (exact tS2); clear F; intro W F; simp only [z7, z8] at F))
      go_meet
      exact ⟨n2, d2, p2, _, rfl, ho.1, T.less (by decide), F.sub (by repeat (first | exact List.Sublist.slnil | apply List.Sublist.cons_cons | apply List.Sublist.cons))⟩
  case rest =>
  clear F T hok
  obtain ⟨n, d, p, u, rfl, hok, T, F⟩ := hcut
  go_upto_if 25 with (first | go_skip | ((go_at_call 33); (with_reducible refine fr_tap F T (tchance _ _ (by decide) (by decide) (T.at F)) ?_); (try clear F T); (rintro _ u W ⟨c2, rfl⟩ T F); (try dsimp only)) | ((with_reducible apply fL F); exact rfl; exact rfl; (exact tL); (exact tR3)) | ((with_reducible apply fSli F slInt); exact rfl; exact rfl; exact rfl; decide; decide; (go_simp; exact rfl); exact rfl) | ((with_reducible apply fA_rat F); exact rfl) | ((with_reducible apply fS F); exact rfl; exact rfl; exact rfl; (exact tL); (exact tR3); (exact tS2); clear F; intro W F; simp only [z7, z8] at F))
  go_cut [] from 25 to 27 (fun wr => ∃ (n d : Int) (u : World), okZ n d ∧ Tp w1 u b b 800000000 ∧ Fr u wr [(b4, RC n d, 31)])
  case first =>
    cases c2
    · go_wp2_with (first | go_skip | ((with_reducible apply fL F); exact rfl; exact rfl; (exact tL); (exact tR3)) | ((with_reducible apply fSli F slInt); exact rfl; exact rfl; exact rfl; decide; decide; (go_simp; exact rfl); exact rfl) | ((with_reducible apply fA_rat F); exact rfl) | ((with_reducible apply fS F); exact rfl; exact rfl; exact rfl; (exact tL); (exact tR3); (exact tS2); clear F; intro W F; simp only [z7, z8] at F))
      go_meet
      exact ⟨n, d, _, hok, T.less (by decide), F⟩
    · go_wp2_with (first | go_skip | ((go_at_call 34); (with_reducible refine fr_tap F T (tlong (T.at F)) ?_); (try clear F T); (rintro _ u W ⟨n2, d2, rfl, ho⟩ T F); (try dsimp only)) | ((with_reducible apply fL F); exact rfl; exact rfl; (exact tL); (exact tR3)) | ((with_reducible apply fSli F slInt); exact rfl; exact rfl; exact rfl; decide; decide; (go_simp; exact rfl); exact rfl) | ((with_reducible apply fA_rat F); exact rfl) | ((with_reducible apply fS F); exact rfl; exact rfl; exact rfl; (exact tL); (exact tR3); (exact tS2); clear F; intro W F; simp only [z7, z8] at F))
      go_meet
      exact ⟨n2, d2, _, ho, T.less (by decide), F⟩
  case rest =>
  clear F T hok
  obtain ⟨n, d, u, hok, T, F⟩ := hcut
  go_wp2_with (first | go_skip | ((with_reducible apply fL F); exact rfl; exact rfl; (exact tL); (exact tR3)) | ((with_reducible apply fSli F slInt); exact rfl; exact rfl; exact rfl; decide; decide; (go_simp; exact rfl); exact rfl) | ((with_reducible apply fA_rat F); exact rfl) | ((with_reducible apply fS F); exact rfl; exact rfl; exact rfl; (exact tL); (exact tR3); (exact tS2); clear F; intro W F; simp only [z7, z8] at F))
  have ge2 := fun m W L (F : Fr u W L) => ge n d p m hok u W _ _ T F
  clear ge
  go_loopw [6] (fun iv wr => ∃ i : Nat, i ≤ 8 ∧ iv = .int .i64 i ∧ Fr u wr [(b4, RC n d, 31)]) (fun iv _ => 9 - (intOf iv).toNat)
  case atStart => exact ⟨0, by omega, rfl, F⟩
  case round =>
    clear F
    obtain ⟨i, hi, rfl, F⟩ := hrel
    by_cases h8 : i ≤ 7
    · have t1 : decide ((i : Int) ≤ 7) = true := decide_eq_true (by omega)
      go_wp2_with (first | go_skip | ((go_at_call 6); (with_reducible refine fr_call F (ge2 _ _ _ F) ?_); (clear F; intro W F); (try dsimp only)) | ((with_reducible apply fL F); exact rfl; exact rfl; (exact tL); (exact tR3)) | ((with_reducible apply fSli F slInt); exact rfl; exact rfl; exact rfl; decide; decide; (go_simp; exact rfl); exact rfl) | ((with_reducible apply fA_rat F); exact rfl) | ((with_reducible apply fS F); exact rfl; exact rfl; exact rfl; (exact tL); (exact tR3); (exact tS2); clear F; intro W F; simp only [z7, z8] at F))
      go_roundw
      case rel => exact ⟨i + 1, by omega, by first | rfl | go_num, F⟩
      case measure => simp [intOf]; omega
    · have t1 : decide ((i : Int) ≤ 7) = false := decide_eq_false (by omega)
      go_wp2_with (first | go_skip | ((go_at_call 18); (with_reducible refine fr_call F (gk _ _ _ _ T F) ?_); (clear F; intro W F); (try dsimp only)) | ((with_reducible apply fL F); exact rfl; exact rfl; (exact tL); (exact tR3)) | ((with_reducible apply fSli F slInt); exact rfl; exact rfl; exact rfl; decide; decide; (go_simp; exact rfl); exact rfl) | ((with_reducible apply fA_rat F); exact rfl) | ((with_reducible apply fS F); exact rfl; exact rfl; exact rfl; (exact tL); (exact tR3); (exact tS2); clear F; intro W F; simp only [z7, z8] at F))
      go_ret
      exact HO.out _ _ _ _ T F
end
end Go.Proofs.YtpaodheilchfnaaGreatDoor
