/- What the laws lean on. -/
import Derived.Test.YtpaodheilchfnaaGreatDoorPz18
namespace Go.Proofs.YtpaodheilchfnaaGreatDoor
set_option linter.unusedVariables false
set_option linter.unusedSimpArgs false
section
open Go.RowKit
set_option maxHeartbeats 4000000
theorem RC_ext0 (n d : Int) : (RC n d).extract 0 33 = IC n := by
  unfold RC
  rw [Array.extract_append, IC_size, show (IC d).extract (0 - 33) (33 - 33) = #[] by simp, Array.append_empty]
  have h : (IC n).extract 0 (IC n).size = IC n := Array.extract_size
  rwa [IC_size] at h
theorem field_num {o : Oper} {a : Act} {W : World} {x : Operand} {n d : Int} (ho : o.op = .field 31 x 0) (hx : a.eval x = .agg (RC n d)) : (execOp a.eval o).run Tryz.prog W = .ok (.value (.agg (IC n))) W := by
  obtain ⟨dst, op, pos, af, g, z⟩ := o
  subst ho
  unfold execOp
  simp only [hx]
  go_simp
  rw [← RC_ext0 n d]
  kernel_rfl
theorem gF_num {a : Act} {W : World} {K : Act → World → Prop} {Q : Exit → Act → World → Prop} {x : Operand} {dst : Option Tmp} {ty : TypeId} {pos : String} {af : Array Edge} {gd : Option (Nat × Bool)} {n d : Int} (hx : a.eval x = .agg (RC n d)) (hk : K (a.put dst (.agg (IC n))) W) : OpW Tryz.prog ⟨dst, .field 31 x 0, ty, pos, af, gd⟩ a W K Q := by
  refine ⟨?_⟩
  unfold Oper.wp
  rw [field_num (o := ⟨dst, .field 31 x 0, ty, pos, af, gd⟩) rfl hx]
  exact hk
set_option maxRecDepth 100000 in
theorem rpower_any {n : Nat} (hn : n ≤ 9) (w : World) : Calls Tryz.prog 84 #[.int .i64 n] w (RetB (.agg (RC ((10 ^ n : Nat) : Int) 1)) w) := by
  have F := Fr.start w
  have h9 := ten_le hn
  obtain ⟨T, hT⟩ : ∃ T, 10 ^ n = T := ⟨_, rfl⟩
  rw [hT] at h9 ⊢
  have g1 := fun w => rwholeR (n := (T : Int)) (by omega) (by omega) w
  have HT := Lib.hid hT
  clear h9 hT
  go_enter Tryz.func84, Tryz.ntmps84
  go_wp2_with (first | go_skip | ((with_reducible apply fA_rat F); exact rfl) | ((with_reducible apply fS F); exact rfl; exact rfl; exact rfl; (exact tL); (exact tR3); (exact tS2); clear F; intro W F; simp only [z7, z8] at F))
  (clear F; intro b2 W F; try simp only [Act.put, z6, z1, z2])
  go_wp2_with fail
  go_loopw [3, 4] (fun pv iv wr => ∃ i p : Nat, i ≤ n ∧ p = 10 ^ i ∧ pv = .int .i64 p ∧ iv = .int .i64 i ∧ Fr w wr [(b2, RC 0 0, 31)]) (fun _ iv _ => n - (intOf iv).toNat)
  case atStart => exact ⟨0, 1, by omega, rfl, rfl, rfl, F⟩
  case round =>
    clear F
    obtain ⟨i, p, hi, hp, rfl, rfl, F⟩ := hrel
    by_cases hin : i < n
    · have hp1 : p ≤ 1000000000 := by rw [hp]; exact ten_le (by omega)
      obtain ⟨q, hq⟩ : ∃ q, p * 10 = q := ⟨_, rfl⟩
      have HP := Lib.hid (show q = 10 ^ (i + 1) from by rw [← hq, hp, Nat.pow_succ])
      have m1 : IntKind.i64.wrap ((p : Int) * 10) = (q : Int) := by
        rw [show (p : Int) * 10 = (q : Int) by omega]
        exact IntWalk.i64_in _ (by omega)
      clear hp hq
      go_wp2_with fail
      go_roundw
      case rel => exact ⟨i + 1, q, by omega, HP.out, rfl, by go_num, F⟩
      case measure => simp [intOf]; omega
    · obtain rfl : n = i := by omega
      rw [HT.out] at hp
      subst hp
      go_wp2_with (first | go_skip | ((go_at_call 36); (with_reducible refine fr_call F (g1 _) ?_); (clear F; intro W F); (try dsimp only)) | ((with_reducible apply fA_rat F); exact rfl) | ((with_reducible apply fS F); exact rfl; exact rfl; exact rfl; (exact tL); (exact tR3); (exact tS2); clear F; intro W F; simp only [z7, z8] at F))
      exact bodyPost_ret (res_c rfl rfl (Fr.get F tL) (rowRC _ _)) rfl ⟨rfl, F.below⟩
theorem rplaces_any {p : Int} {f : Bool} (hf : decide (0 ≤ p ∧ p ≤ 9) = f) (w : World) : Calls Tryz.prog 64 #[.int .i64 p] w (RetB (.bool f) w) := by
  have F := Fr.start w
  by_cases h1 : 0 ≤ p
  · have t1 : decide (0 ≤ p) = true := decide_eq_true h1
    by_cases h2 : p ≤ 9
    · have t2 : decide (p ≤ 9) = true := decide_eq_true h2
      obtain rfl : true = f := by rw [← hf, decide_eq_true ⟨h1, h2⟩]
      clear hf h1 h2
      go_enter Tryz.func64, Tryz.ntmps64
      go_wp2_with fail
      go_ret
      exact ⟨rfl, F.below⟩
    · have t2 : decide (p ≤ 9) = false := decide_eq_false h2
      obtain rfl : false = f := by rw [← hf, decide_eq_false (fun h => h2 h.2)]
      clear hf h1 h2
      go_enter Tryz.func64, Tryz.ntmps64
      go_wp2_with fail
      go_ret
      exact ⟨rfl, F.below⟩
  · have t1 : decide (0 ≤ p) = false := decide_eq_false h1
    obtain rfl : false = f := by rw [← hf, decide_eq_false (fun h => h1 h.1)]
    clear hf h1
    go_enter Tryz.func64, Tryz.ntmps64
    go_wp2_with fail
    go_ret
    exact ⟨rfl, F.below⟩
end
end Go.Proofs.YtpaodheilchfnaaGreatDoor
