/- What the laws lean on. -/
import Derived.Test.YtpaodheilchfnaaGreatDoorPz16
namespace Go.Proofs.YtpaodheilchfnaaGreatDoor
set_option linter.unusedVariables false
set_option linter.unusedSimpArgs false
section
section
open Go.RowKit
def RangeP (lo hi : Int) (B b N : Nat) (w : World) (e : Ending) (w' : World) : Prop :=
  ∃ v : Int, lo ≤ v ∧ v ≤ hi ∧ e = .returned (.int .i64 v) ∧ TapeAt w' B b N ∧ Only b w w'
theorem range_any (lo hi : Int) (B b N : Nat) (w : World) (h : TapeAt w B b (N + 1)) (h1 : -1000000000 ≤ lo) (h2 : lo ≤ hi) (h3 : hi ≤ 1000000000) :
    Calls Tryz.prog 12 #[.pointer (some ⟨b, 0, none⟩), .int .i64 lo, .int .i64 hi] w (RangeP lo hi B b N w) := by
  go_enter Tryz.func12, Tryz.ntmps12
  go_wp2_with fail
  refine (next_in h (by omega) (by omega)).mono ?_
  rintro e w1 ⟨k, hk, rfl, ht, ho⟩
  go_wp2
  go_ret
  exact ⟨lo + k, by omega, by omega, rfl, ht, ho⟩
end
end
section
open Go.RowKit
section
variable {w0 u W W' : World} {L : List Ent} {B b N : Nat}
theorem trange (lo hi : Int) (h1 : -1000000000 ≤ lo) (h2 : lo ≤ hi) (h3 : hi ≤ 1000000000) (h : TapeAt W B b (N + 1)) : Calls Tryz.prog 12 #[.pointer (some ⟨b, 0, none⟩), .int .i64 lo, .int .i64 hi] W (TapP (fun v => ∃ k : Int, v = .int .i64 k ∧ lo ≤ k ∧ k ≤ hi) B b N W) :=
  (range_any lo hi B b N W h h1 h2 h3).mono fun _ _ ⟨k, hk, hk2, he, ht, ho⟩ => ⟨_, ⟨k, rfl, hk, hk2⟩, he, ht, ho⟩
end
end
section
open Go.RowKit
def RetP (R : Value → Prop) (w : World) (e : Ending) (w' : World) : Prop := ∃ v, R v ∧ e = .returned v ∧ Below w.heap.size w w'
theorem fr_callP {P : Program} {f : FuncId} {args : Array Value} {R : Value → Prop} {post : Ending → World → Prop} {w W : World} {F : List Ent} (h : Fr w W F) (hc : Calls P f args W (RetP R W)) (hk : ∀ v W', R v → Fr w W' F → post (.returned v) W') : Calls P f args W post := by
  refine hc.mono ?_
  rintro e W' ⟨v, hv, rfl, hb⟩
  exact hk v W' hv (h.next hb)
theorem Calls.retP {P : Program} {f : FuncId} {args : Array Value} {R : Value → Prop} {v : Value} {w : World} (h : Calls P f args w (RetB v w)) (hv : R v) : Calls P f args w (RetP R w) :=
  h.mono fun e W ⟨he, hb⟩ => ⟨v, hv, he, hb⟩
end
section
open Go.RowKit
set_option maxHeartbeats 4000000
def OfP (n d : Int) (v : Value) : Prop := ∃ a b : Int, v = .agg (RC a b) ∧ okZ a b ∧ a * d = n * b ∧ a.natAbs ≤ n.natAbs ∧ b.natAbs ≤ d.natAbs ∧ b ∣ d
theorem makeOf_ok {n d : Int} (hn : n.natAbs ≤ 10 ^ 15) (hd : 0 < d) (hd2 : d ≤ 10 ^ 15) (w : World) : Calls Tryz.prog 11 #[.int .i64 n, .int .i64 d] w (RetP (OfP n d) w) := by
  have hb := bp15_big
  obtain ⟨h1, h2⟩ := mkR_ok (n := n) hd (by omega) (by omega)
  obtain ⟨e1, e2⟩ := low_mul (n := n) hd
  refine Calls.retP (makeOf_any (by omega) (by omega) (by omega) (by omega) h1 w) ⟨_, _, rfl, h2, ?_, lowN_abs n d, lowD_abs n d, ⟨_, e2.symm⟩⟩
  show lowN n d * d = n * lowD n d
  generalize lowN n d = A at *
  generalize lowD n d = D at *
  generalize (Int.gcd n d : Int) = g at *
  rw [← e1, ← e2, Int.mul_assoc, Int.mul_comm g D]
end
end Go.Proofs.YtpaodheilchfnaaGreatDoor
