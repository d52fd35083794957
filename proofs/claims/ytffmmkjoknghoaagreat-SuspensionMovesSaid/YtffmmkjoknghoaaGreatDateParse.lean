/-
  Numbers of digits: the plain words, and the walks.
  The walks of dates: texts read as dates.
-/
import Derived.Test.YtffmmkjoknghoaaGreatBase
import Derived.Test.YtffmmkjoknghoaaGreatRows
import Derived.Test.YtffmmkjoknghoaaGreatDateWalk
namespace Go.Proofs.YtffmmkjoknghoaaGreat
section
open Go.RowKit
set_option maxHeartbeats 1000000

/-- A digit. -/
def isDg (c : UInt8) : Bool := decide (48 ≤ c.toNat ∧ c.toNat ≤ 57)
/-- What digits denote. -/
def numV (l : List UInt8) : Int := l.foldl (fun a c => 10 * a + ((c.toNat : Int) - 48)) 0
theorem numV_snoc (l : List UInt8) (c : UInt8) : numV (l ++ [c]) = 10 * numV l + ((c.toNat : Int) - 48) := by simp [numV]
theorem pow_succ10 (k : Nat) : (10 : Int) ^ (k + 1) = 10 * 10 ^ k := by rw [Int.pow_succ, Int.mul_comm]
theorem numV_bd : ∀ (k : Nat) (l : List UInt8), l.length = k → (∀ c ∈ l, isDg c = true) → 0 ≤ numV l ∧ numV l < 10 ^ k
  | 0, l, h, _ => by
    have : l = [] := List.length_eq_zero_iff.1 h
    subst this
    simp [numV]
  | k + 1, l, h, hd => by
    have hne : l ≠ [] := by intro e; rw [e] at h; simp at h
    have hl := (List.dropLast_concat_getLast hne).symm
    have ih := numV_bd k l.dropLast (by simp; omega) (fun c hc => hd c (List.dropLast_subset _ hc))
    have hc := hd _ (List.getLast_mem hne)
    simp only [isDg, decide_eq_true_eq] at hc
    rw [hl, numV_snoc, pow_succ10]
    omega
theorem numV_bd10 (l : List UInt8) (h : l.length ≤ 10) (hd : ∀ c ∈ l, isDg c = true) : 0 ≤ numV l ∧ numV l < 10000000000 := by
  obtain ⟨a, b⟩ := numV_bd l.length l rfl hd
  refine ⟨a, Int.lt_of_lt_of_le b ?_⟩
  have e : (10000000000 : Int) = 10 ^ 10 := by decide
  rw [e]
  exact_mod_cast Nat.pow_le_pow_right (by omega) h
theorem take_snocD (s : ByteArray) (k : Nat) (h : k < s.size) : s.data.toList.take (k + 1) = s.data.toList.take k ++ [s[k]] := by
  rw [List.take_succ_eq_append_getElem (by simpa using h)]; rfl

theorem u8sub {c : UInt8} (h : isDg c = true) : ((c - 48).toNat : Int) = (c.toNat : Int) - 48 := by
  simp only [isDg, decide_eq_true_eq] at h
  rw [UInt8.toNat_sub_of_le]
  · have : (48 : UInt8).toNat = 48 := rfl
    omega
  · show (48 : UInt8).toNat ≤ c.toNat
    exact h.1

theorem ret_ib {k : IntKind} {a b : Int} {c : Bool} (h : a = b) : Ending.returned (.tuple #[.int k a, .bool c]) = .returned (.tuple #[.int k b, .bool c]) := by rw [h]
end
section
open Go.RowKit
set_option maxHeartbeats 1000000

/-- All bytes are digits. -/
def numB (s : ByteArray) : Bool := s.data.toList.all isDg
/-- The number, or 0. -/
def numI (s : ByteArray) : Int := if numB s = true then numV s.data.toList else 0
theorem numB_yes {s : ByteArray} (h : numB s = true) (k : Nat) (hk : k < s.size) : isDg s[k] = true := by
  unfold numB at h
  rw [List.all_eq_true] at h
  refine h _ ?_
  show s.data[k] ∈ s.data.toList
  simp
theorem numB_no {s : ByteArray} (h : numB s = false) : ∃ (j : Nat) (hj : j < s.size), (∀ k (h : k < s.size), k < j → isDg s[k] = true) ∧ isDg s[j] = false := by
  have hlt : s.data.toList.findIdx (fun c => !isDg c) < s.data.toList.length := by
    apply List.findIdx_lt_length_of_exists
    unfold numB at h
    rw [List.all_eq_false] at h
    obtain ⟨c, hc, hd⟩ := h
    exact ⟨c, hc, by simpa using hd⟩
  have hlt2 : s.data.toList.findIdx (fun c => !isDg c) < s.size := by simpa using hlt
  refine ⟨_, hlt2, fun k hk hkj => ?_, ?_⟩
  · have := List.not_of_lt_findIdx (p := fun c => !isDg c) (xs := s.data.toList) hkj
    have h2 : isDg s.data[k] = true := by simpa using this
    exact h2
  · have := List.findIdx_getElem (p := fun c => !isDg c) (xs := s.data.toList) (w := hlt)
    have h2 : isDg (s.data[s.data.toList.findIdx (fun c => !isDg c)]'hlt2) = false := by simpa using this
    exact h2
/-- The text has the form of a date. -/
def formB (s : ByteArray) : Bool := if h : s.size = 10 then decide (s[4].toNat = 45 ∧ s[7].toNat = 45) && (numB (s.extract 0 4) && numB (s.extract 5 7) && numB (s.extract 8 s.size)) else false
theorem ext_le (s : ByteArray) (a b : Nat) : (s.extract a b).size ≤ b - a := by
  rw [ByteArray.size_extract]; omega

/-- What a text is read as: a day and no error, or the error. -/
def ParseR (s : ByteArray) (v e : Int) : Prop :=
  (formB s = false ∧ v = 0 ∧ e = 52) ∨
  (formB s = true ∧ ((CV v (numI (s.extract 0 4)) (numI (s.extract 5 7)) (numI (s.extract 8 s.size)) ∧ e = 0) ∨ (¬dateR (numI (s.extract 0 4)) (numI (s.extract 5 7)) (numI (s.extract 8 s.size)) ∧ v = 0 ∧ e = 51)))
theorem parse_ex (s : ByteArray) : ∃ v e, ParseR s v e := by
  cases h : formB s
  · exact ⟨0, 52, .inl ⟨h, rfl, rfl⟩⟩
  · by_cases hd : dateR (numI (s.extract 0 4)) (numI (s.extract 5 7)) (numI (s.extract 8 s.size))
    · obtain ⟨n, hn⟩ := hd.cv
      exact ⟨n, 0, .inr ⟨h, .inl ⟨hn, rfl⟩⟩⟩
    · exact ⟨0, 51, .inr ⟨h, .inr ⟨hd, rfl, rfl⟩⟩⟩
end
end Go.Proofs.YtffmmkjoknghoaaGreat
