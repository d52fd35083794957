/-
  What the laws lean on.
-/
import Derived.Test.YtpaodheilchfnaaGreatDoorPkP1
import Derived.Test.YtpaodheilchfnaaGreatDoorPkP5
import Derived.Test.YtpaodheilchfnaaGreatDoorPkP10
import Derived.Test.YtpaodheilchfnaaGreatDoorPkD1
import Derived.Test.YtpaodheilchfnaaGreatDoorPkD3
import Derived.Test.YtpaodheilchfnaaGreatDoorPkD4
import Derived.Great.BuildSlice
import Derived.Deep.CutBlock
import Derived.Lib.SlBytesRow
import Derived.LaidMore
import Derived.Stop.Joined
import Derived.SevenTiedAt
import Derived.Test.YtpaodheilchfnaaGreatDoorTie
namespace Go.Proofs.YtpaodheilchfnaaGreatDoor
set_option linter.unusedVariables false
set_option linter.unusedSimpArgs false
section
open Go.RowKit
set_option maxHeartbeats 4000000
theorem makeOf_any {n d : Int} {r : Int × Int × Int} (h1 : -9223372036854775808 ≤ n) (h2 : n < 9223372036854775808) (h3 : -9223372036854775808 ≤ d) (h4 : d < 9223372036854775808) (hr : mkR n d = r) (w : World) : Calls Tryz.prog 11 #[.int .i64 n, .int .i64 d] w (RetB (.agg (RC r.1 r.2.1)) w) := by
  have F := Fr.start w
  have g1 := fun w => rofR h1 h2 h3 h4 hr w
  obtain ⟨rn, rd, re⟩ := r
  dsimp only at g1 ⊢
  clear h1 h2 h3 h4 hr
  go_enter Tryz.func11, Tryz.ntmps11
  go_wp2_with (first | go_skip | ((with_reducible apply fL F); exact rfl; exact rfl; (exact tL); (exact tR3)) | ((with_reducible apply fA_rat F); exact rfl) | ((with_reducible apply fS F); exact rfl; exact rfl; exact rfl; (exact tL); (exact tR3); (exact tS2); clear F; intro W F; simp only [List.cons_append, List.nil_append] at F))
  (clear F; intro b4 W F; try simp only [Act.put, List.setIfInBounds_toArray, List.set_cons_zero, List.set_cons_succ])
  go_wp2_with (first | go_skip | ((go_at_call 48); (with_reducible refine fr_call F (g1 _) ?_); (clear F; intro W F); (try dsimp only)) | ((with_reducible apply fL F); exact rfl; exact rfl; (exact tL); (exact tR3)) | ((with_reducible apply fA_rat F); exact rfl) | ((with_reducible apply fS F); exact rfl; exact rfl; exact rfl; (exact tL); (exact tR3); (exact tS2); clear F; intro W F; simp only [List.cons_append, List.nil_append] at F))
  (clear F; intro b5 W F; try simp only [Act.put, List.setIfInBounds_toArray, List.set_cons_zero, List.set_cons_succ])
  go_wp2_with (first | go_skip | ((with_reducible apply fL F); exact rfl; exact rfl; (exact tL); (exact tR3)) | ((with_reducible apply fA_rat F); exact rfl) | ((with_reducible apply fS F); exact rfl; exact rfl; exact rfl; (exact tL); (exact tR3); (exact tS2); clear F; intro W F; simp only [List.cons_append, List.nil_append] at F))
  exact bodyPost_ret (res_c rfl rfl (Fr.get F tL) (rowRC _ _)) rfl ⟨rfl, F.below⟩
end
section
open Go.RowKit
set_option maxHeartbeats 4000000
theorem k_of : mkR (-5) 2 = (-5, 2, 0) := by decide +kernel
theorem k_ri : rndI (okR (decide ((-5 : Int) < 0)) (Int.natAbs (-5)) (decide ((2 : Int) < 0)) (Int.natAbs 2)) (sZ (decide ((-5 : Int) < 0)) (Int.natAbs (-5))) (sZ (decide ((2 : Int) < 0)) (Int.natAbs 2)) 0 5 = (-3, 0) := by decide +kernel
theorem k_rj : rndI (okR (decide ((-5 : Int) < 0)) (Int.natAbs (-5)) (decide ((2 : Int) < 0)) (Int.natAbs 2)) (sZ (decide ((-5 : Int) < 0)) (Int.natAbs (-5))) (sZ (decide ((2 : Int) < 0)) (Int.natAbs 2)) 0 6 = (-2, 0) := by decide +kernel
theorem k_parse : prsR [48, 46, 53, 48] 2 = (1, 2, 0) := by decide +kernel
theorem k_pct : pctR [49, 46, 53, 37] = (3, 200, 0) := by decide +kernel
theorem k_fmt : fmtR (-5) 2 = ([45, 48, 46, 48, 53], 0) := by
  have h : Lib.decDigits 5 = [53] := Lib.decDigits_one (by decide)
  simp [fmtR, fmtL, h, pointL]
theorem k_o1 : mkR 1 2 = (1, 2, 0) := by decide +kernel
theorem k_o2 : mkR 3 200 = (3, 200, 0) := by decide +kernel
set_option maxRecDepth 100000 in
theorem known_any {w : World} (ht : Tab w) : Calls Tryz.prog 18 #[] w (RetB (.bool true) w) := by
  have F := Fr.start w
  have HT := Lib.hid ht
  clear ht
  have b1 : (Int.natAbs (-5)) < bp 32 := by decide
  have b2 : (Int.natAbs 2) < bp 32 := by decide
  have g1 := fun w => ofR (n := -5) (d := 2) (by decide) (by decide) (by decide) (by decide) k_of w
  have g2 : ∀ w, Calls Tryz.prog 17 #[.agg (RC (-5) 2), .int .i64 0, .int .i64 5] w (RetB (.tuple #[.int .i64 (-3), .int .i64 0]) w) := fun w => roundInt_any b1 b2 k_ri w
  have g3 : ∀ w, Calls Tryz.prog 17 #[.agg (RC (-5) 2), .int .i64 0, .int .i64 6] w (RetB (.tuple #[.int .i64 (-2), .int .i64 0]) w) := fun w => roundInt_any b1 b2 k_rj w
  have g4 : ∀ w, Calls Tryz.prog 19 #[.string ⟨#[48, 46, 53, 48]⟩, .int .i64 2] w (RetB (.tuple #[.agg (RC 1 2), .int .i64 0]) w) := fun w => parse_any [48, 46, 53, 48] 2 (by decide) k_parse w
  have g5 : ∀ W L, Fr w W L → Calls Tryz.prog 41 #[.int .i64 (-5), .int .i64 2] W (RetB (.tuple #[.string ⟨#[45, 48, 46, 48, 53]⟩, .int .i64 0]) W) := fun W L F => format_any (-5) 2 k_fmt (HT.out.next F.below)
  have g6 : ∀ w, Calls Tryz.prog 21 #[.string ⟨#[49, 46, 53, 37]⟩] w (RetB (.tuple #[.agg (RC 3 200), .int .i64 0]) w) := fun w => percent_any [49, 46, 53, 37] (by decide) k_pct w
  have g7 := fun w => makeOf_any (n := 1) (d := 2) (by decide) (by decide) (by decide) (by decide) k_o1 w
  have g8 := fun w => makeOf_any (n := 3) (d := 200) (by decide) (by decide) (by decide) (by decide) k_o2 w
  have q1 := fun w => eq_RC (n := 1) (d := 2) (n' := 1) (d' := 2) (by decide) (by decide) (by decide) (by decide) w
  have q2 := fun w => eq_RC (n := 3) (d := 200) (n' := 3) (d' := 200) (by decide) (by decide) (by decide) (by decide) w
  clear b1 b2
  go_enter Tryz.func18, Tryz.ntmps18
  go_wp2_with (first | go_skip | ((go_at_call 55); (with_reducible refine fr_call F (g1 _) ?_); (clear F; intro W F); (try dsimp only)) | ((with_reducible apply fL F); exact rfl; exact rfl; (exact tL); (exact tR3)) | ((with_reducible apply fA_rat F); exact rfl) | ((with_reducible apply fS F); exact rfl; exact rfl; exact rfl; (exact tL); (exact tR3); (exact tS2); clear F; intro W F; simp only [List.cons_append, List.nil_append] at F))
  (clear F; intro b1 W F; try simp only [Act.put, List.setIfInBounds_toArray, List.set_cons_zero, List.set_cons_succ])
  go_wp2_with (first | go_skip | ((go_at_call 17); (with_reducible refine fr_call F (g2 _) ?_); (clear F; intro W F); (try dsimp only)) | ((go_at_call 17); (with_reducible refine fr_call F (g3 _) ?_); (clear F; intro W F); (try dsimp only)) | ((go_at_call 19); (with_reducible refine fr_call F (g4 _) ?_); (clear F; intro W F); (try dsimp only)) | ((with_reducible apply fL F); exact rfl; exact rfl; (exact tL); (exact tR3)) | ((with_reducible apply fA_rat F); exact rfl) | ((with_reducible apply fS F); exact rfl; exact rfl; exact rfl; (exact tL); (exact tR3); (exact tS2); clear F; intro W F; simp only [List.cons_append, List.nil_append] at F))
  (clear F; intro b7 W F; try simp only [Act.put, List.setIfInBounds_toArray, List.set_cons_zero, List.set_cons_succ])
  go_wp2_with (first | go_skip | ((go_at_call 41); (with_reducible refine fr_call F (g5 _ _ F) ?_); (clear F; intro W F); (try dsimp only)) | ((go_at_call 21); (with_reducible refine fr_call F (g6 _) ?_); (clear F; intro W F); (try dsimp only)) | ((with_reducible apply fL F); exact rfl; exact rfl; (exact tL); (exact tR3)) | ((with_reducible apply fA_rat F); exact rfl) | ((with_reducible apply fS F); exact rfl; exact rfl; exact rfl; (exact tL); (exact tR3); (exact tS2); clear F; intro W F; simp only [List.cons_append, List.nil_append] at F))
  (clear F; intro b11 W F; try simp only [Act.put, List.setIfInBounds_toArray, List.set_cons_zero, List.set_cons_succ])
  go_wp2_with (first | go_skip | ((with_reducible apply fL F); exact rfl; exact rfl; (exact tL); (exact tR3)) | ((with_reducible apply fA_rat F); exact rfl) | ((with_reducible apply fS F); exact rfl; exact rfl; exact rfl; (exact tL); (exact tR3); (exact tS2); clear F; intro W F; simp only [List.cons_append, List.nil_append] at F))
  try simp only [Act.put, List.setIfInBounds_toArray, List.set_cons_zero, List.set_cons_succ]
  refine wp_region_bm 41 (by kernel_rfl) rfl ?_
  replace F := F.drew
  revert F
  generalize World.drew _ = W
  intro F
  refine dg_one 0 1 (by kernel_rfl) rfl (by kernel_rfl) rfl (fun K hK => ?_)
  (simp only [List.getElem_toArray, List.getElem_cons_succ, List.getElem_cons_zero])
  ((refine ⟨?_⟩); go_simp)
  (refine hK _ _ ?_; clear hK K)
  refine dg_one 1 3 (by kernel_rfl) rfl (by kernel_rfl) rfl (fun K hK => ?_)
  (simp only [List.getElem_toArray, List.getElem_cons_succ, List.getElem_cons_zero])
  ((refine ⟨?_⟩); go_simp)
  (refine hK _ _ ?_; clear hK K)
  refine dg_one 2 7 (by kernel_rfl) rfl (by kernel_rfl) rfl (fun K hK => ?_)
  (simp only [List.getElem_toArray, List.getElem_cons_succ, List.getElem_cons_zero])
  ((refine ⟨?_⟩); go_simp)
  (refine hK _ _ ?_; clear hK K)
  refine dg_one 3 15 (by kernel_rfl) rfl (by kernel_rfl) rfl (fun K hK => ?_)
  (simp only [List.getElem_toArray, List.getElem_cons_succ, List.getElem_cons_zero])
  ((refine ⟨?_⟩); go_simp)
  (refine hK _ _ ?_; clear hK K)
  refine dg_one 4 31 (by kernel_rfl) rfl (by kernel_rfl) rfl (fun K hK => ?_)
  (simp only [List.getElem_toArray, List.getElem_cons_succ, List.getElem_cons_zero])
  ((refine ⟨?_⟩); go_simp)
  (refine hK _ _ ?_; clear hK K)
  refine dg_one 5 63 (by kernel_rfl) rfl (by kernel_rfl) rfl (fun K hK => ?_)
  (simp only [List.getElem_toArray, List.getElem_cons_succ, List.getElem_cons_zero])
  ((refine ⟨?_⟩); go_simp)
  (refine hK _ _ ?_; clear hK K)
  refine dg_one 6 127 (by kernel_rfl) rfl (by kernel_rfl) rfl (fun K hK => ?_)
  (simp only [List.getElem_toArray, List.getElem_cons_succ, List.getElem_cons_zero])
  ((refine ⟨?_⟩); go_simp)
  (refine hK _ _ ?_; clear hK K)
  refine dg_one 7 255 (by kernel_rfl) rfl (by kernel_rfl) rfl (fun K hK => ?_)
  (simp only [List.getElem_toArray, List.getElem_cons_succ, List.getElem_cons_zero])
  ((refine ⟨?_⟩); go_simp)
  (refine hK _ _ ?_; clear hK K)
  refine dg_one 8 511 (by kernel_rfl) rfl (by kernel_rfl) rfl (fun K hK => ?_)
  (simp only [List.getElem_toArray, List.getElem_cons_succ, List.getElem_cons_zero])
  ((refine ⟨?_⟩); go_simp)
  (refine hK _ _ ?_; clear hK K)
  refine dg_one 9 1023 (by kernel_rfl) rfl (by kernel_rfl) rfl (fun K hK => ?_)
  (simp only [List.getElem_toArray, List.getElem_cons_succ, List.getElem_cons_zero])
  ((refine ⟨?_⟩); go_simp)
  (refine hK _ _ ?_; clear hK K)
  refine dg_one 10 2047 (by kernel_rfl) rfl (by kernel_rfl) rfl (fun K hK => ?_)
  (simp only [List.getElem_toArray, List.getElem_cons_succ, List.getElem_cons_zero])
  ((refine ⟨?_⟩); go_simp)
  (refine hK _ _ ?_; clear hK K)
  refine dg_one 11 4095 (by kernel_rfl) rfl (by kernel_rfl) rfl (fun K hK => ?_)
  (simp only [List.getElem_toArray, List.getElem_cons_succ, List.getElem_cons_zero])
  ((refine ⟨?_⟩); go_simp)
  (refine hK _ _ ?_; clear hK K)
  refine dg_one 12 8191 (by kernel_rfl) rfl (by kernel_rfl) rfl (fun K hK => ?_)
  (simp only [List.getElem_toArray, List.getElem_cons_succ, List.getElem_cons_zero])
  ((refine ⟨?_⟩); go_simp)
  (refine hK _ _ ?_; clear hK K)
  refine dg_one 13 16383 (by kernel_rfl) rfl (by kernel_rfl) rfl (fun K hK => ?_)
  (simp only [List.getElem_toArray, List.getElem_cons_succ, List.getElem_cons_zero])
  ((refine ⟨?_⟩); go_simp)
  (refine hK _ _ ?_; clear hK K)
  refine dg_one 14 32767 (by kernel_rfl) rfl (by kernel_rfl) rfl (fun K hK => ?_)
  (simp only [List.getElem_toArray, List.getElem_cons_succ, List.getElem_cons_zero])
  ((refine ⟨?_⟩); go_simp)
  (refine hK _ _ ?_; clear hK K)
  refine dg_one 15 65535 (by kernel_rfl) rfl (by kernel_rfl) rfl (fun K hK => ?_)
  (simp only [List.getElem_toArray, List.getElem_cons_succ, List.getElem_cons_zero])
  ((refine ⟨?_⟩); go_simp)
  (refine hK _ _ ?_; clear hK K)
  refine dg_one 16 131071 (by kernel_rfl) rfl (by kernel_rfl) rfl (fun K hK => ?_)
  (simp only [List.getElem_toArray, List.getElem_cons_succ, List.getElem_cons_zero])
  ((refine ⟨?_⟩); go_simp)
  (refine hK _ _ ?_; clear hK K)
  refine dg_one 17 262143 (by kernel_rfl) rfl (by kernel_rfl) rfl (fun K hK => ?_)
  (simp only [List.getElem_toArray, List.getElem_cons_succ, List.getElem_cons_zero])
  ((refine ⟨?_⟩); go_simp)
  (refine hK _ _ ?_; clear hK K)
  refine dg_one 18 524287 (by kernel_rfl) rfl (by kernel_rfl) rfl (fun K hK => ?_)
  (simp only [List.getElem_toArray, List.getElem_cons_succ, List.getElem_cons_zero])
  ((refine ⟨?_⟩); go_simp)
  (refine hK _ _ ?_; clear hK K)
  apply dg_meet (f' := 20) (m' := 2097151)
  · intro M
    refine dg_ready [19, 20] (by kernel_rfl) rfl ?_
    refine dg_want 19 1048575 rfl (by kernel_rfl) rfl (fun K hK => ?_) ?_
    · skip
      (simp only [List.getElem_toArray, List.getElem_cons_succ, List.getElem_cons_zero])
      (first | ((with_reducible apply gL F); exact rfl; (exact tL); (exact tR3); go_simp) | ((refine ⟨?_⟩); go_simp))
      (refine hK _ _ ?_; clear hK K)
      refine dg_one 20 2097151 (by kernel_rfl) rfl (by kernel_rfl) rfl (fun K hK => ?_)
      (simp only [List.getElem_toArray, List.getElem_cons_succ, List.getElem_cons_zero])
      ((refine ⟨?_⟩); go_simp; (first | ((with_reducible refine fr_call F (g7 _) ?_); (try clear F); (intro W F); (try dsimp only)) | ((with_reducible refine fr_call F (g8 _) ?_); (try clear F); (intro W F); (try dsimp only)) | skip))
      (refine hK _ _ ?_; clear hK K)
      exact M _ F
    refine dg_want 20 1572863 rfl (by kernel_rfl) rfl (fun K hK => ?_) ?_
    · skip
      (simp only [List.getElem_toArray, List.getElem_cons_succ, List.getElem_cons_zero])
      ((refine ⟨?_⟩); go_simp; (first | ((with_reducible refine fr_call F (g7 _) ?_); (try clear F); (intro W F); (try dsimp only)) | ((with_reducible refine fr_call F (g8 _) ?_); (try clear F); (intro W F); (try dsimp only)) | skip))
      (refine hK _ _ ?_; clear hK K)
      refine dg_one 19 2097151 (by kernel_rfl) rfl (by kernel_rfl) rfl (fun K hK => ?_)
      (simp only [List.getElem_toArray, List.getElem_cons_succ, List.getElem_cons_zero])
      (first | ((with_reducible apply gL F); exact rfl; (exact tL); (exact tR3); go_simp) | ((refine ⟨?_⟩); go_simp))
      (refine hK _ _ ?_; clear hK K)
      exact M _ F
    exact dg_nil
  clear F
  intro W F
  refine dg_one 21 4194303 (by kernel_rfl) rfl (by kernel_rfl) rfl (fun K hK => ?_)
  (simp only [List.getElem_toArray, List.getElem_cons_succ, List.getElem_cons_zero])
  ((refine ⟨?_⟩); go_simp)
  (refine hK _ _ ?_; clear hK K)
  refine dg_one 22 8388607 (by kernel_rfl) rfl (by kernel_rfl) rfl (fun K hK => ?_)
  (simp only [List.getElem_toArray, List.getElem_cons_succ, List.getElem_cons_zero])
  ((refine ⟨?_⟩); go_simp)
  (refine hK _ _ ?_; clear hK K)
  refine dg_one 23 16777215 (by kernel_rfl) rfl (by kernel_rfl) rfl (fun K hK => ?_)
  (simp only [List.getElem_toArray, List.getElem_cons_succ, List.getElem_cons_zero])
  ((refine ⟨?_⟩); go_simp)
  (refine hK _ _ ?_; clear hK K)
  refine dg_one 24 33554431 (by kernel_rfl) rfl (by kernel_rfl) rfl (fun K hK => ?_)
  (simp only [List.getElem_toArray, List.getElem_cons_succ, List.getElem_cons_zero])
  ((refine ⟨?_⟩); go_simp)
  (refine hK _ _ ?_; clear hK K)
  refine dg_one 25 67108863 (by kernel_rfl) rfl (by kernel_rfl) rfl (fun K hK => ?_)
  (simp only [List.getElem_toArray, List.getElem_cons_succ, List.getElem_cons_zero])
  ((refine ⟨?_⟩); go_simp)
  (refine hK _ _ ?_; clear hK K)
  refine dg_one 26 134217727 (by kernel_rfl) rfl (by kernel_rfl) rfl (fun K hK => ?_)
  (simp only [List.getElem_toArray, List.getElem_cons_succ, List.getElem_cons_zero])
  ((refine ⟨?_⟩); go_simp)
  (refine hK _ _ ?_; clear hK K)
  refine dg_one 27 268435455 (by kernel_rfl) rfl (by kernel_rfl) rfl (fun K hK => ?_)
  (simp only [List.getElem_toArray, List.getElem_cons_succ, List.getElem_cons_zero])
  ((refine ⟨?_⟩); go_simp)
  (refine hK _ _ ?_; clear hK K)
  refine dg_one 28 536870911 (by kernel_rfl) rfl (by kernel_rfl) rfl (fun K hK => ?_)
  (simp only [List.getElem_toArray, List.getElem_cons_succ, List.getElem_cons_zero])
  ((refine ⟨?_⟩); go_simp)
  (refine hK _ _ ?_; clear hK K)
  refine dg_one 29 1073741823 (by kernel_rfl) rfl (by kernel_rfl) rfl (fun K hK => ?_)
  (simp only [List.getElem_toArray, List.getElem_cons_succ, List.getElem_cons_zero])
  ((refine ⟨?_⟩); go_simp)
  (refine hK _ _ ?_; clear hK K)
  refine dg_one 30 2147483647 (by kernel_rfl) rfl (by kernel_rfl) rfl (fun K hK => ?_)
  (simp only [List.getElem_toArray, List.getElem_cons_succ, List.getElem_cons_zero])
  ((refine ⟨?_⟩); go_simp)
  (refine hK _ _ ?_; clear hK K)
  refine dg_one 31 4294967295 (by kernel_rfl) rfl (by kernel_rfl) rfl (fun K hK => ?_)
  (simp only [List.getElem_toArray, List.getElem_cons_succ, List.getElem_cons_zero])
  ((refine ⟨?_⟩); go_simp)
  (refine hK _ _ ?_; clear hK K)
  refine dg_one 32 8589934591 (by kernel_rfl) rfl (by kernel_rfl) rfl (fun K hK => ?_)
  (simp only [List.getElem_toArray, List.getElem_cons_succ, List.getElem_cons_zero])
  ((refine ⟨?_⟩); go_simp)
  (refine hK _ _ ?_; clear hK K)
  refine dg_one 33 17179869183 (by kernel_rfl) rfl (by kernel_rfl) rfl (fun K hK => ?_)
  (simp only [List.getElem_toArray, List.getElem_cons_succ, List.getElem_cons_zero])
  ((refine ⟨?_⟩); go_simp)
  (refine hK _ _ ?_; clear hK K)
  refine dg_one 34 34359738367 (by kernel_rfl) rfl (by kernel_rfl) rfl (fun K hK => ?_)
  (simp only [List.getElem_toArray, List.getElem_cons_succ, List.getElem_cons_zero])
  ((refine ⟨?_⟩); go_simp)
  (refine hK _ _ ?_; clear hK K)
  refine dg_one 35 68719476735 (by kernel_rfl) rfl (by kernel_rfl) rfl (fun K hK => ?_)
  (simp only [List.getElem_toArray, List.getElem_cons_succ, List.getElem_cons_zero])
  ((refine ⟨?_⟩); go_simp)
  (refine hK _ _ ?_; clear hK K)
  apply dg_meet (f' := 3) (m' := 274877906943)
  · intro M
    refine dg_ready [36, 37] (by kernel_rfl) rfl ?_
    refine dg_want 36 137438953471 rfl (by kernel_rfl) rfl (fun K hK => ?_) ?_
    · skip
      (simp only [List.getElem_toArray, List.getElem_cons_succ, List.getElem_cons_zero])
      (first | ((with_reducible apply gL F); exact rfl; (exact tL); (exact tR3); go_simp) | ((refine ⟨?_⟩); go_simp))
      (refine hK _ _ ?_; clear hK K)
      refine dg_one 37 274877906943 (by kernel_rfl) rfl (by kernel_rfl) rfl (fun K hK => ?_)
      (simp only [List.getElem_toArray, List.getElem_cons_succ, List.getElem_cons_zero])
      ((refine ⟨?_⟩); go_simp; (first | ((with_reducible refine fr_call F (g7 _) ?_); (try clear F); (intro W F); (try dsimp only)) | ((with_reducible refine fr_call F (g8 _) ?_); (try clear F); (intro W F); (try dsimp only)) | skip))
      (refine hK _ _ ?_; clear hK K)
      exact M _ F
    refine dg_want 37 206158430207 rfl (by kernel_rfl) rfl (fun K hK => ?_) ?_
    · skip
      (simp only [List.getElem_toArray, List.getElem_cons_succ, List.getElem_cons_zero])
      ((refine ⟨?_⟩); go_simp; (first | ((with_reducible refine fr_call F (g7 _) ?_); (try clear F); (intro W F); (try dsimp only)) | ((with_reducible refine fr_call F (g8 _) ?_); (try clear F); (intro W F); (try dsimp only)) | skip))
      (refine hK _ _ ?_; clear hK K)
      refine dg_one 36 274877906943 (by kernel_rfl) rfl (by kernel_rfl) rfl (fun K hK => ?_)
      (simp only [List.getElem_toArray, List.getElem_cons_succ, List.getElem_cons_zero])
      (first | ((with_reducible apply gL F); exact rfl; (exact tL); (exact tR3); go_simp) | ((refine ⟨?_⟩); go_simp))
      (refine hK _ _ ?_; clear hK K)
      exact M _ F
    exact dg_nil
  clear F
  intro W F
  refine dg_one 38 549755813887 (by kernel_rfl) rfl (by kernel_rfl) rfl (fun K hK => ?_)
  (simp only [List.getElem_toArray, List.getElem_cons_succ, List.getElem_cons_zero])
  ((refine ⟨?_⟩); go_simp)
  (refine hK _ _ ?_; clear hK K)
  refine dg_one 39 1099511627775 (by kernel_rfl) rfl (by kernel_rfl) rfl (fun K hK => ?_)
  (simp only [List.getElem_toArray, List.getElem_cons_succ, List.getElem_cons_zero])
  ((refine ⟨?_⟩); go_simp)
  (refine hK _ _ ?_; clear hK K)
  refine dg_one 40 2199023255551 (by kernel_rfl) rfl (by kernel_rfl) rfl (fun K hK => ?_)
  (simp only [List.getElem_toArray, List.getElem_cons_succ, List.getElem_cons_zero])
  ((refine ⟨?_⟩); go_simp)
  (refine hK _ _ ?_; clear hK K)
  refine dg_end (by kernel_rfl) ?_ _
  go_wp2_with (first | go_skip | ((with_reducible apply fL F); exact rfl; exact rfl; (exact tL); (exact tR3)) | ((with_reducible apply fA_rat F); exact rfl) | ((with_reducible apply fS F); exact rfl; exact rfl; exact rfl; (exact tL); (exact tR3); (exact tS2); clear F; intro W F; simp only [List.cons_append, List.nil_append] at F))
  go_ret
  exact ⟨rfl, F.below⟩
end
section
open Go.RowKit
set_option maxHeartbeats 4000000
theorem zz32 : (0 : Int).natAbs < bp 32 := bp_pos 32
theorem mkR_b (n d : Int) : (mkR n d).1.natAbs < bp 32 ∧ (mkR n d).2.1.natAbs < bp 32 := by
  by_cases h : (mkR n d).2.2 = 0
  · exact okZ_b (mkR_valid h)
  · unfold mkR at h ⊢
    by_cases hd : d = 0
    · rw [if_pos hd]
      exact ⟨zz32, zz32⟩
    · rw [if_neg hd] at h ⊢
      dsimp only at h ⊢
      generalize (if d < 0 then -(Int.gcd n d : Int) else (Int.gcd n d : Int)) = s at h ⊢
      by_cases hb : bl (n / s).natAbs ≤ 480 ∧ bl (d / s).natAbs ≤ 480
      · rw [if_pos hb] at h
        exact absurd rfl h
      · rw [if_neg hb]
        exact ⟨zz32, zz32⟩
theorem prs_b (s : List UInt8) (p : Int) : (prsR s p).1.natAbs < bp 32 ∧ (prsR s p).2.1.natAbs < bp 32 := by
  by_cases h : (prsR s p).2.2 = 0
  · exact okZ_b (prs_valid h).1
  · unfold prsR at h ⊢
    split
    · exact ⟨zz32, zz32⟩
    · rename_i hd
      rw [if_neg hd] at h
      dsimp only at h ⊢
      split
      · exact ⟨zz32, zz32⟩
      · rename_i hd2
        rw [if_neg hd2] at h
        unfold prsB at h ⊢
        dsimp only at h ⊢
        split
        · exact ⟨zz32, zz32⟩
        · rename_i hd3
          rw [if_neg hd3] at h
          exact absurd rfl h
theorem pct_b (s : List UInt8) : (pctR s).1.natAbs < bp 32 ∧ (pctR s).2.1.natAbs < bp 32 := by
  have k0 := bp_pos 32
  unfold pctR
  dsimp only
  split
  · exact ⟨by simpa using k0, by simpa using k0⟩
  · exact mkR_b _ _
theorem qnt_b (v : Prop) [Decidable v] (n d p m : Int) : (qntR v n d p m).1.natAbs < bp 32 ∧ (qntR v n d p m).2.1.natAbs < bp 32 := by
  have k0 := bp_pos 32
  unfold qntR
  dsimp only
  split
  · exact ⟨by simpa using k0, by simpa using k0⟩
  · exact mkR_b _ _
theorem bs_exl (s : ByteArray) (h : s.size ≤ maxLen) : ∃ l : List UInt8, s = bs l ∧ l.length ≤ 9223372036854775807 := ⟨s.data.toList, (bs_of s).symm, by unfold maxLen at h; simpa using (by exact h : s.data.size ≤ 9223372036854775807)⟩
set_option maxRecDepth 100000 in
theorem decimalTexts_any (s : ByteArray) (p : Int) (hs : s.size ≤ maxLen) {w : World} (ht : Tab w) : Calls Tryz.prog 4 #[.string s, .int .i64 p] w (RetB (.bool true) w) := by
  have F := Fr.start w
  have HT := Lib.hid ht
  clear ht
  obtain ⟨l, rfl, hl⟩ := bs_exl s hs
  clear hs
  obtain ⟨n, d, e, hn, hd, g1, g2⟩ : ∃ n d e : Int, n.natAbs < bp 32 ∧ d.natAbs < bp 32 ∧ (∀ w, Calls Tryz.prog 19 #[.string (bs l), .int .i64 p] w (RetB (.tuple #[.agg (RC n d), .int .i64 e]) w)) ∧ (∀ w, Calls Tryz.prog 20 #[.string (bs l), .int .i64 p] w (RetB (.tuple #[.agg (RC n d), .int .i64 e]) w)) :=
    ⟨_, _, _, (prs_b l p).1, (prs_b l p).2, fun w => parse_any l p hl rfl w, fun w => rparse_any l p hl rfl w⟩
  obtain ⟨n', d', e', hn', hd', g3, g4⟩ : ∃ n d e : Int, n.natAbs < bp 32 ∧ d.natAbs < bp 32 ∧ (∀ w, Calls Tryz.prog 21 #[.string (bs l)] w (RetB (.tuple #[.agg (RC n d), .int .i64 e]) w)) ∧ (∀ w, Calls Tryz.prog 22 #[.string (bs l)] w (RetB (.tuple #[.agg (RC n d), .int .i64 e]) w)) :=
    ⟨_, _, _, (pct_b l).1, (pct_b l).2, fun w => percent_any l hl rfl w, fun w => rpercent_any l hl rfl w⟩
  have q1 := fun w => eq_RC hn hd hn hd w
  have q2 := fun w => eq_RC hn' hd' hn' hd' w
  clear hn hd hn' hd' hl
  generalize bs l = s at *
  have gk := fun W L (F : Fr w W L) => known_any (HT.out.next F.below)
  go_enter Tryz.func4, Tryz.ntmps4
  go_wp2_with (first | go_skip | ((go_at_call 19); (with_reducible refine fr_call F (g1 _) ?_); (clear F; intro W F); (try dsimp only)) | ((with_reducible apply fL F); exact rfl; exact rfl; (exact tL); (exact tR3)) | ((with_reducible apply fA_rat F); exact rfl) | ((with_reducible apply fS F); exact rfl; exact rfl; exact rfl; (exact tL); (exact tR3); (exact tS2); clear F; intro W F; simp only [List.cons_append, List.nil_append] at F))
  (clear F; intro b5 W F; try simp only [Act.put, List.setIfInBounds_toArray, List.set_cons_zero, List.set_cons_succ])
  go_wp2_with (first | go_skip | ((go_at_call 20); (with_reducible refine fr_call F (g2 _) ?_); (clear F; intro W F); (try dsimp only)) | ((with_reducible apply fL F); exact rfl; exact rfl; (exact tL); (exact tR3)) | ((with_reducible apply fA_rat F); exact rfl) | ((with_reducible apply fS F); exact rfl; exact rfl; exact rfl; (exact tL); (exact tR3); (exact tS2); clear F; intro W F; simp only [List.cons_append, List.nil_append] at F))
  (clear F; intro b7 W F; try simp only [Act.put, List.setIfInBounds_toArray, List.set_cons_zero, List.set_cons_succ])
  go_wp2_with (first | go_skip | ((go_at_call 21); (with_reducible refine fr_call F (g3 _) ?_); (clear F; intro W F); (try dsimp only)) | ((with_reducible apply fL F); exact rfl; exact rfl; (exact tL); (exact tR3)) | ((with_reducible apply fA_rat F); exact rfl) | ((with_reducible apply fS F); exact rfl; exact rfl; exact rfl; (exact tL); (exact tR3); (exact tS2); clear F; intro W F; simp only [List.cons_append, List.nil_append] at F))
  (clear F; intro b9 W F; try simp only [Act.put, List.setIfInBounds_toArray, List.set_cons_zero, List.set_cons_succ])
  go_wp2_with (first | go_skip | ((go_at_call 22); (with_reducible refine fr_call F (g4 _) ?_); (clear F; intro W F); (try dsimp only)) | ((with_reducible apply fL F); exact rfl; exact rfl; (exact tL); (exact tR3)) | ((with_reducible apply fA_rat F); exact rfl) | ((with_reducible apply fS F); exact rfl; exact rfl; exact rfl; (exact tL); (exact tR3); (exact tS2); clear F; intro W F; simp only [List.cons_append, List.nil_append] at F))
  (clear F; intro b11 W F; try simp only [Act.put, List.setIfInBounds_toArray, List.set_cons_zero, List.set_cons_succ])
  go_wp2_with (first | go_skip | ((go_at_call 18); (with_reducible refine fr_call F (gk _ _ F) ?_); (clear F; intro W F); (try dsimp only)) | ((with_reducible apply fL F); exact rfl; exact rfl; (exact tL); (exact tR3)) | ((with_reducible apply fA_rat F); exact rfl) | ((with_reducible apply fS F); exact rfl; exact rfl; exact rfl; (exact tL); (exact tR3); (exact tS2); clear F; intro W F; simp only [List.cons_append, List.nil_append] at F))
  go_ret
  exact ⟨rfl, F.below⟩
set_option maxRecDepth 100000 in
theorem decimalExact_any {x : Bool} {a : Nat} {y : Bool} {b : Nat} (ha : a < bp 32) (hb : b < bp 32) (p m : Int) {w : World} (ht : Tab w) : Calls Tryz.prog 6 #[.agg (ratC x a y b), .int .i64 p, .int .i64 m] w (RetB (.bool true) w) := by
  have F := Fr.start w
  have HT := Lib.hid ht
  clear ht
  obtain ⟨z, e, hz, g1, g2⟩ : ∃ z e : Int, z.natAbs < bp 32 ∧ (∀ w, Calls Tryz.prog 25 #[.agg (ratC x a y b), .int .i64 p, .int .i64 m] w (RetB (.tuple #[.agg (IC z), .int .i64 e]) w)) ∧ (∀ w, Calls Tryz.prog 26 #[.agg (ratC x a y b), .int .i64 p, .int .i64 m] w (RetB (.tuple #[.agg (IC z), .int .i64 e]) w)) :=
    ⟨_, _, Nat.lt_of_lt_of_le rnd_lt (bp_le (by decide)), fun w => round_any ha hb rfl w, fun w => rround_any ha hb rfl w⟩
  obtain ⟨k, e2, g3, g4⟩ : ∃ z e : Int, (∀ w, Calls Tryz.prog 17 #[.agg (ratC x a y b), .int .i64 p, .int .i64 m] w (RetB (.tuple #[.int .i64 z, .int .i64 e]) w)) ∧ (∀ w, Calls Tryz.prog 27 #[.agg (ratC x a y b), .int .i64 p, .int .i64 m] w (RetB (.tuple #[.int .i64 z, .int .i64 e]) w)) :=
    ⟨_, _, fun w => roundInt_any ha hb rfl w, fun w => rroundInt_any ha hb rfl w⟩
  obtain ⟨n, d, e3, hn, hd, g5, g6⟩ : ∃ n d e : Int, n.natAbs < bp 32 ∧ d.natAbs < bp 32 ∧ (∀ w, Calls Tryz.prog 28 #[.agg (ratC x a y b), .int .i64 p, .int .i64 m] w (RetB (.tuple #[.agg (RC n d), .int .i64 e]) w)) ∧ (∀ w, Calls Tryz.prog 29 #[.agg (ratC x a y b), .int .i64 p, .int .i64 m] w (RetB (.tuple #[.agg (RC n d), .int .i64 e]) w)) :=
    ⟨_, _, _, (qnt_b _ _ _ p m).1, (qnt_b _ _ _ p m).2, fun w => quantize_any ha hb rfl w, fun w => rquantize_any ha hb rfl w⟩
  obtain ⟨c, e4, g7, g8⟩ : ∃ (c : Bool) (e : Int), (∀ w, Calls Tryz.prog 30 #[.agg (ratC x a y b), .int .i64 p] w (RetB (.tuple #[.bool c, .int .i64 e]) w)) ∧ (∀ w, Calls Tryz.prog 31 #[.agg (ratC x a y b), .int .i64 p] w (RetB (.tuple #[.bool c, .int .i64 e]) w)) :=
    ⟨_, _, fun w => exact_any ha hb rfl w, fun w => rexact_any ha hb rfl w⟩
  have q1 := fun w => eq_IC 9997 hz hz w
  have q2 := fun w => eq_RC hn hd hn hd w
  clear hz hn hd ha hb
  have gk := fun W L (F : Fr w W L) => known_any (HT.out.next F.below)
  go_enter Tryz.func6, Tryz.ntmps6
  go_wp2_with (first | go_skip | ((with_reducible apply fL F); exact rfl; exact rfl; (exact tL); (exact tR3)) | ((with_reducible apply fA_int F); exact rfl) | ((with_reducible apply fA_rat F); exact rfl) | ((with_reducible apply fX_rat F); exact rfl; exact rfl) | ((with_reducible apply fS F); exact rfl; exact rfl; exact rfl; (exact tL); (exact tR3); (exact tS2); clear F; intro W F; simp only [List.cons_append, List.nil_append] at F))
  (clear F; intro b3 W F; try simp only [Act.put, List.setIfInBounds_toArray, List.set_cons_zero, List.set_cons_succ])
  go_wp2_with (first | go_skip | ((go_at_call 25); (with_reducible refine fr_call F (g1 _) ?_); (clear F; intro W F); (try dsimp only)) | ((with_reducible apply fL F); exact rfl; exact rfl; (exact tL); (exact tR3)) | ((with_reducible apply fA_int F); exact rfl) | ((with_reducible apply fA_rat F); exact rfl) | ((with_reducible apply fX_rat F); exact rfl; exact rfl) | ((with_reducible apply fS F); exact rfl; exact rfl; exact rfl; (exact tL); (exact tR3); (exact tS2); clear F; intro W F; simp only [List.cons_append, List.nil_append] at F))
  (clear F; intro b7 W F; try simp only [Act.put, List.setIfInBounds_toArray, List.set_cons_zero, List.set_cons_succ])
  go_wp2_with (first | go_skip | ((go_at_call 26); (with_reducible refine fr_call F (g2 _) ?_); (clear F; intro W F); (try dsimp only)) | ((with_reducible apply fL F); exact rfl; exact rfl; (exact tL); (exact tR3)) | ((with_reducible apply fA_int F); exact rfl) | ((with_reducible apply fA_rat F); exact rfl) | ((with_reducible apply fX_rat F); exact rfl; exact rfl) | ((with_reducible apply fS F); exact rfl; exact rfl; exact rfl; (exact tL); (exact tR3); (exact tS2); clear F; intro W F; simp only [List.cons_append, List.nil_append] at F))
  (clear F; intro b9 W F; try simp only [Act.put, List.setIfInBounds_toArray, List.set_cons_zero, List.set_cons_succ])
  go_wp2_with (first | go_skip | ((go_at_call 17); (with_reducible refine fr_call F (g3 _) ?_); (clear F; intro W F); (try dsimp only)) | ((go_at_call 27); (with_reducible refine fr_call F (g4 _) ?_); (clear F; intro W F); (try dsimp only)) | ((go_at_call 28); (with_reducible refine fr_call F (g5 _) ?_); (clear F; intro W F); (try dsimp only)) | ((with_reducible apply fL F); exact rfl; exact rfl; (exact tL); (exact tR3)) | ((with_reducible apply fA_int F); exact rfl) | ((with_reducible apply fA_rat F); exact rfl) | ((with_reducible apply fX_rat F); exact rfl; exact rfl) | ((with_reducible apply fS F); exact rfl; exact rfl; exact rfl; (exact tL); (exact tR3); (exact tS2); clear F; intro W F; simp only [List.cons_append, List.nil_append] at F))
  (clear F; intro b15 W F; try simp only [Act.put, List.setIfInBounds_toArray, List.set_cons_zero, List.set_cons_succ])
  go_wp2_with (first | go_skip | ((go_at_call 29); (with_reducible refine fr_call F (g6 _) ?_); (clear F; intro W F); (try dsimp only)) | ((with_reducible apply fL F); exact rfl; exact rfl; (exact tL); (exact tR3)) | ((with_reducible apply fA_int F); exact rfl) | ((with_reducible apply fA_rat F); exact rfl) | ((with_reducible apply fX_rat F); exact rfl; exact rfl) | ((with_reducible apply fS F); exact rfl; exact rfl; exact rfl; (exact tL); (exact tR3); (exact tS2); clear F; intro W F; simp only [List.cons_append, List.nil_append] at F))
  (clear F; intro b17 W F; try simp only [Act.put, List.setIfInBounds_toArray, List.set_cons_zero, List.set_cons_succ])
  go_wp2_with (first | go_skip | ((go_at_call 30); (with_reducible refine fr_call F (g7 _) ?_); (clear F; intro W F); (try dsimp only)) | ((go_at_call 31); (with_reducible refine fr_call F (g8 _) ?_); (clear F; intro W F); (try dsimp only)) | ((go_at_call 18); (with_reducible refine fr_call F (gk _ _ F) ?_); (clear F; intro W F); (try dsimp only)) | ((with_reducible apply fL F); exact rfl; exact rfl; (exact tL); (exact tR3)) | ((with_reducible apply fA_int F); exact rfl) | ((with_reducible apply fA_rat F); exact rfl) | ((with_reducible apply fX_rat F); exact rfl; exact rfl) | ((with_reducible apply fS F); exact rfl; exact rfl; exact rfl; (exact tL); (exact tR3); (exact tS2); clear F; intro W F; simp only [List.cons_append, List.nil_append] at F))
  go_ret
  exact ⟨rfl, F.below⟩
end
section
open Go.ChangeShapes Go.WideShapes Go.ChangeAt Go.RowKit Go.Deep
theorem lims_of (n : Nat) (k : Nat → Nat) (hk : ∀ i, i < n → k i < 4294967296) : ∃ a, a < bp n ∧ ∀ i, i < n → lim a i = k i := by
  induction n with
  | zero => exact ⟨0, bp_pos 0, fun i h => absurd h (by omega)⟩
  | succ n ih =>
    obtain ⟨a, h1, h2⟩ := ih (fun i h => hk i (by omega))
    refine ⟨setM a n (k n), setM_new_lt h1 (hk n (by omega)), fun i hi => ?_⟩
    by_cases e : i = n
    · subst e
      rw [lim_set (hk i (by omega)), if_pos rfl]
    · rw [lim_set (hk n (by omega)), if_neg e]
      exact h2 i (by omega)
section
variable {H : Type} {enc : TypeId × Value → H}
theorem open_arr {W : World} {base : Nat} {sp : Nat → Bool} {held : Bool} {fuel : Nat} {cs : List Value} {x : DataW H × List MemPlace}
    (h : DataW.trod enc Tryz.prog W base sp held fuel 27 cs = some x) : ∃ a, a < bp 32 ∧ cs = (limA 32 a).toList := by
  obtain ⟨e, hu, he, hce⟩ := arr_und
  obtain ⟨xs, m, -, -, hl, hx, hel⟩ := DataW.trod_array hu h
  have hce1 : Tryz.prog.cellsOf e = 1 := by
    unfold Program.cellsOf
    cases hi : Tryz.prog.info? e with
    | none => rw [hi] at hce; cases hce
    | some i => rw [hi] at hce; simpa using hce
  have hl32 : cs.length = 32 := hl.trans (by kernel_rfl)
  have key : ∀ i, ∃ k : Nat, i < 32 → cs[i]? = some (.int .u32 (k : Int)) ∧ k < 4294967296 := by
    intro i
    by_cases hi : i < 32
    · have h1 := hel i hi
      rw [hce1, Nat.mul_one] at h1
      have h2 : xs[i]? = some xs[i] := List.getElem?_eq_getElem (by omega)
      rw [h2] at h1
      obtain ⟨n, hn, -, hw⟩ := DataW.trod_int he h1
      have h3 : cs[i]? = some (.int .u32 n) := by
        have h4 : cs[i]? = some cs[i] := List.getElem?_eq_getElem (by omega)
        have h5 : (List.take 1 (cs.drop i))[0]? = some cs[i] := by rw [List.getElem?_take_of_lt (by omega), List.getElem?_drop, Nat.add_zero]; exact h4
        rw [hn] at h5
        rw [h4, ← h5]
        rfl
      have hb : 0 ≤ n ∧ n < 4294967296 := by
        simp [Lit.wf, IntKind.min, IntKind.max, IntKind.signed, IntKind.bits] at hw
        omega
      exact ⟨n.toNat, fun _ => ⟨by rw [h3, Int.toNat_of_nonneg hb.1], by omega⟩⟩
    · exact ⟨0, fun h => absurd h hi⟩
  obtain ⟨a, ha, hlim⟩ := lims_of 32 (fun i => (key i).choose) (fun i hi => ((key i).choose_spec hi).2)
  refine ⟨a, ha, List.ext_getElem? fun i => ?_⟩
  by_cases hi : i < 32
  · have h6 : (limA 32 a).toList[i]? = (limA 32 a)[i]? := by simp
    rw [h6, limA_at hi, hlim i hi]
    exact ((key i).choose_spec hi).1
  · rw [List.getElem?_eq_none (by omega), List.getElem?_eq_none (by rw [Array.length_toList, limA_size]; omega)]
set_option maxRecDepth 100000 in
theorem open_int33 {W : World} {base : Nat} {sp : Nat → Bool} {held : Bool} {fuel : Nat} {cs : List Value} {x : DataW H × List MemPlace}
    (h : DataW.trod enc Tryz.prog W base sp held fuel 29 cs = some x) : ∃ (n : Bool) (a : Nat), a < bp 32 ∧ cs = (intC n a).toList := by
  obtain ⟨y0, y1, n, -, hl, h0, h1⟩ := trod_struct2 Tryz.underlying29 h
  have hl33 : cs.length = 33 := hl.trans (by kernel_rfl)
  have c0 : Tryz.prog.cellsOf 4 = 1 := by kernel_rfl
  have c1 : Tryz.prog.cellsOf 27 = 32 := by kernel_rfl
  have h0' : DataW.trod enc Tryz.prog W base sp held n 4 (cs.take 1) = some y0 := by rw [← c0]; exact h0
  have h1' : DataW.trod enc Tryz.prog W base sp held n 27 ((cs.drop 1).take 32) = some y1 := by rw [← c1]; exact h1
  obtain ⟨b, hb, -⟩ := DataW.trod_bool Tryz.underlying4 h0'
  obtain ⟨a, ha, hc⟩ := open_arr h1'
  refine ⟨b, a, ha, ?_⟩
  rw [List.take_of_length_le (by rw [List.length_drop]; omega)] at hc
  unfold intC
  rw [Array.toList_append, ← hc]
  show cs = [.bool b] ++ cs.drop 1
  rw [← hb, List.take_append_drop]
set_option maxRecDepth 100000 in
theorem open_rat {W : World} {base : Nat} {sp : Nat → Bool} {held : Bool} {fuel : Nat} {cs : List Value} {x : DataW H × List MemPlace}
    (h : DataW.trod enc Tryz.prog W base sp held fuel 31 cs = some x) : ∃ (p : Bool) (a : Nat) (q : Bool) (b : Nat), a < bp 32 ∧ b < bp 32 ∧ cs = (ratC p a q b).toList := by
  obtain ⟨y0, y1, n, -, hl, h0, h1⟩ := trod_struct2 Tryz.underlying31 h
  have hl66 : cs.length = 66 := hl.trans (by kernel_rfl)
  have c0 : Tryz.prog.cellsOf 29 = 33 := by kernel_rfl
  have h0' : DataW.trod enc Tryz.prog W base sp held n 29 (cs.take 33) = some y0 := by rw [← c0]; exact h0
  have h1' : DataW.trod enc Tryz.prog W base sp held n 29 ((cs.drop 33).take 33) = some y1 := by rw [← c0]; exact h1
  obtain ⟨p, a, ha, e1⟩ := open_int33 h0'
  obtain ⟨q, b, hb, e2⟩ := open_int33 h1'
  rw [List.take_of_length_le (by rw [List.length_drop]; omega)] at e2
  refine ⟨p, a, q, b, ha, hb, ?_⟩
  unfold ratC
  rw [Array.toList_append, ← e1, ← e2, List.take_append_drop]
end
theorem gP10 : Tryz.prog.globalNamed "internal/strconv.uint64pow10" = some 4 := by kernel_rfl
abbrev laid5 : List (String × DataW Unit) := [("math/bits.deBruijn32tab", Rows.laid_math_bits_deBruijn32tab), ("math/bits.deBruijn64tab", Rows.laid_math_bits_deBruijn64tab), ("internal/strconv.uint64pow10", Rows.laid_internal_strconv_uint64pow10), ("strconv.ErrRange", Rows.laid_strconv_ErrRange), ("strconv.ErrSyntax", Rows.laid_strconv_ErrSyntax)]
theorem tab5 {W : World} (h : laidMetH Tryz.prog laid5 W) : Tab W := by
  rw [MakeChecks.laidMetH_plain _ _ _ (by kernel_rfl)] at h
  obtain ⟨ps, ⟨g0, t0, cs0, f0, p0, q0, hg0, ht0, hv0, hd0, ⟨g1, t1, cs1, f1, p1, q1, hg1, ht1, hv1, hd1, ⟨g2, t2, cs2, f2, p2, q2, hg2, ht2, hv2, hd2, _, _⟩, _⟩, _⟩, _, _⟩ := h
  obtain rfl := Option.some.inj (gP10.symm.trans hg2)
  obtain ⟨t, e, n, hty, hu, he, hce, hct⟩ : ∃ t e n, (Tryz.prog.globals[4]?).map (·.type) = some t ∧ Tryz.prog.underlying t = some (.array n e) ∧ Tryz.prog.underlying e = some (.int .u64) ∧ Tryz.prog.cellsOf e = 1 ∧ Tryz.prog.cellsOf t = n := ⟨_, _, _, by kernel_rfl, Tryz.underlying203, Tryz.underlying112, by kernel_rfl, by kernel_rfl⟩
  obtain rfl := Option.some.inj (hty.symm.trans ht2)
  unfold Tab Lib.TabIs
  rw [hv2, ← Lib.cells_of_tab hu he hce hct hd2]
theorem door5 (os : Os) (args : Array Value) : laidMetH Tryz.prog laid5 ((World.doorLaid Tryz.prog 400 os).forCall (fun _ _ => 0) ⟨#[], args, []⟩).memory :=
  laidMetH_of_parts3 (fuel := 8) (laidMet_of_run' 8 (by kernel_rfl) (by kernel_rfl)) (by kernel_rfl) (by kernel_rfl)
end
end Go.Proofs.YtpaodheilchfnaaGreatDoor
