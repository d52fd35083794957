/- What the laws lean on. -/
import Derived.Test.YtpaodheilchfnaaGreatDoorPz9
import Derived.Lib.SmallJoins
import Derived.Lib.SlBytesRow
namespace Go.Proofs.YtpaodheilchfnaaGreatDoor
set_option linter.unusedVariables false
set_option linter.unusedSimpArgs false
section
open Go.RowKit
set_option maxHeartbeats 2000000
theorem numF_append (acc : Nat) (l m : List UInt8) : numF acc (l ++ m) = numF (numF acc l) m := by simp [numF]
end
section
open Go.RowKit
set_option maxHeartbeats 4000000
theorem elByte : ElT Tryz.prog 85 5 1 1 := ElT.of (z := .int .u8 0) Tryz.underlying85 (by kernel_rfl) rfl (by decide)
end
section
open Go.RowKit
set_option maxHeartbeats 4000000
def dcnt : List UInt8 → Nat
  | [] => 0
  | b :: l => if isD b = true then dcnt l + 1 else 0
theorem dcnt_all {l : List UInt8} (h : l.all isD = true) : dcnt l = l.length := by
  induction l with
  | nil => rfl
  | cons b l ih =>
    rw [List.all_cons, Bool.and_eq_true] at h
    unfold dcnt
    rw [if_pos h.1, ih h.2, List.length_cons]
theorem dcnt_at {l : List UInt8} {i : Nat} (h : i < l.length) (ha : (l.take i).all isD = true) (hb : isD l[i] = false) : dcnt l = i := by
  induction l generalizing i with
  | nil => exact absurd h (by simp)
  | cons b l ih =>
    unfold dcnt
    cases i with
    | zero =>
      rw [List.getElem_cons_zero] at hb
      rw [hb, if_neg (by decide)]
    | succ i =>
      rw [List.take_succ_cons, List.all_cons, Bool.and_eq_true] at ha
      rw [if_pos ha.1, ih (by simpa using h) ha.2 (by simpa using hb)]
theorem dcnt_take (l : List UInt8) : (l.take (dcnt l)).all isD = true := by
  induction l with
  | nil => rfl
  | cons b l ih =>
    unfold dcnt
    split
    · rename_i h
      rw [List.take_succ_cons, List.all_cons, h, ih]
      rfl
    · rfl
end
section
open Go.RowKit
set_option maxHeartbeats 4000000
def rdF (t : List UInt8) (k : Nat) (neg : Bool) : Int × Int × Bool :=
  if neg = true ∧ numL t = 0 then (0, 0, false)
  else
    let z : Int := if neg = true then -(numL t : Int) else numL t
    (lowN z ((10 ^ k : Nat) : Int), lowD z ((10 ^ k : Nat) : Int), true)
def rdB (s : List UInt8) : Bool := decide (dcnt s = 0 ∨ 15 < dcnt s ∨ (1 < dcnt s ∧ s.head? = some 48))
def rdC (r : List UInt8) (p : Int) : Bool := decide (dcnt r = 0 ∨ dcnt r ≠ r.length ∨ p < dcnt r)
def rdG (s : List UInt8) (p : Int) (neg : Bool) : Int × Int × Bool :=
  if rdB s = true then (0, 0, false)
  else
    let rest := s.drop (dcnt s)
    if rest = [] then rdF (s.take (dcnt s)) 0 neg
    else if rest.head? ≠ some 46 ∨ rdC rest.tail p = true then (0, 0, false)
    else rdF (s.take (dcnt s) ++ rest.tail) rest.tail.length neg
def rdR (s : List UInt8) (p : Int) (minus : Bool) : Int × Int × Bool :=
  if minus = true ∧ s.head? = some 45 then rdG s.tail p true else rdG s p false
end
section
open Go.RowKit
theorem rdB_iff {s : List UInt8} : rdB s = true ↔ (dcnt s = 0 ∨ 15 < dcnt s ∨ (1 < dcnt s ∧ s.head? = some 48)) := by
  unfold rdB
  rw [decide_eq_true_eq]
theorem isD_dot : isD 46 = false := by decide
end
end Go.Proofs.YtpaodheilchfnaaGreatDoor
