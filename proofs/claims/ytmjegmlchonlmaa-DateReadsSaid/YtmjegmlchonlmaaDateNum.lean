/-
  Numbers of digits: the plain words, and the walks.
-/
import Derived.Test.YtmjegmlchonlmaaBase
import Derived.Test.YtmjegmlchonlmaaRows
namespace Go.Proofs.Ytmjegmlchonlmaa
open Go.RowKit
set_option maxHeartbeats 1000000

/-- A digit. -/
def isDg (c : UInt8) : Bool := decide (48 ≤ c.toNat ∧ c.toNat ≤ 57)
/-- What digits denote. -/
def numV (l : List UInt8) : Int := l.foldl (fun a c => 10 * a + ((c.toNat : Int) - 48)) 0
theorem numV_snoc (l : List UInt8) (c : UInt8) : numV (l ++ [c]) = 10 * numV l + ((c.toNat : Int) - 48) := by simp [numV]
theorem pow_succ10 (k : Nat) : (10 : Int) ^ (k + 1) = 10 * 10 ^ k := by rw [Int.pow_succ, Int.mul_comm]
theorem numV_bd : ∀ (k : Nat) (l : List UInt8), l.length = k → (∀ c ∈ l, isDg c = true) → 0 ≤ numV l ∧ numV l < 10 ^ k
  | 0, l, h, _ => by
    have : l = [] := List.length_eq_zero_iff.1 h
    subst this
    simp [numV]
  | k + 1, l, h, hd => by
    have hne : l ≠ [] := by intro e; rw [e] at h; simp at h
    have hl := (List.dropLast_concat_getLast hne).symm
    have ih := numV_bd k l.dropLast (by simp; omega) (fun c hc => hd c (List.dropLast_subset _ hc))
    have hc := hd _ (List.getLast_mem hne)
    simp only [isDg, decide_eq_true_eq] at hc
    rw [hl, numV_snoc, pow_succ10]
    omega
theorem numV_bd10 (l : List UInt8) (h : l.length ≤ 10) (hd : ∀ c ∈ l, isDg c = true) : 0 ≤ numV l ∧ numV l < 10000000000 := by
  obtain ⟨a, b⟩ := numV_bd l.length l rfl hd
  refine ⟨a, Int.lt_of_lt_of_le b ?_⟩
  have e : (10000000000 : Int) = 10 ^ 10 := by decide
  rw [e]
  exact_mod_cast Nat.pow_le_pow_right (by omega) h
theorem take_snoc (s : ByteArray) (k : Nat) (h : k < s.size) : s.data.toList.take (k + 1) = s.data.toList.take k ++ [s[k]] := by
  rw [List.take_succ_eq_append_getElem (by simpa using h)]; rfl

theorem u8sub {c : UInt8} (h : isDg c = true) : ((c - 48).toNat : Int) = (c.toNat : Int) - 48 := by
  simp only [isDg, decide_eq_true_eq] at h
  rw [UInt8.toNat_sub_of_le]
  · have : (48 : UInt8).toNat = 48 := rfl
    omega
  · show (48 : UInt8).toNat ≤ c.toNat
    exact h.1

theorem ret_ib {k : IntKind} {a b : Int} {c : Bool} (h : a = b) : Ending.returned (.tuple #[.int k a, .bool c]) = .returned (.tuple #[.int k b, .bool c]) := by rw [h]
theorem dnum_yes (s : ByteArray) (hs : s.size ≤ 10) (hd : ∀ k (h : k < s.size), isDg s[k] = true) (w : World) :
    Calls Try.prog 89 #[.string s] w (RetW (.tuple #[.int .i64 (numV s.data.toList), .bool true]) w) := by
  have HD := Lib.hid hd
  clear hd
  go_enter Try.func89, Try.ntmps89
  go_wp2_with fail
  go_loopw [4, 8] (fun n i wr => ∃ k : Nat, k ≤ s.size ∧ i = .int .i64 k ∧ n = .int .i64 (numV (s.data.toList.take k)) ∧ wr = w) (fun _ i _ => s.size - (intOf i).toNat)
  case atStart => exact ⟨0, Nat.zero_le _, rfl, rfl, rfl⟩
  case round =>
    obtain ⟨k, hk, rfl, rfl, hw⟩ := hrel
    have hb := numV_bd10 (s.data.toList.take k) (by simp; omega) (by
      intro c hc
      obtain ⟨i, hi, rfl⟩ := List.getElem_of_mem hc
      rw [List.getElem_take]
      exact HD.out i (by simp at hi; omega))
    by_cases hlt : k < s.size
    · have hsn := numV_snoc (s.data.toList.take k) s[k]
      rw [← take_snoc s k hlt] at hsn
      have hdg := HD.out k hlt
      have h48 : 48 ≤ (s[k].toNat : Int) ∧ (s[k].toNat : Int) ≤ 57 := by simp only [isDg, decide_eq_true_eq] at hdg; omega
      obtain ⟨h48a, h48b⟩ := h48
      have hu := Lib.hid (u8sub hdg)
      have HS := Lib.hid hsn
      clear hsn hdg
      go_wp2_with fail
      all_goals
        go_roundw
        case rel => exact ⟨k + 1, by omega, by go_num, by rw [HS.out], trivial⟩
        case measure => simp [intOf]; omega
    · have hks : k = s.size := by omega
      subst hks
      go_wp2_with fail
      go_ret2
      exact ⟨ret_ib (by rw [List.take_of_length_le (by simp)]), by first | rfl | assumption | (simp [*])⟩
theorem dnum_no (s : ByteArray) (hs : s.size ≤ 10) (j : Nat) (hj : j < s.size) (hd : ∀ k (h : k < s.size), k < j → isDg s[k] = true) (hn : isDg s[j] = false) (w : World) :
    Calls Try.prog 89 #[.string s] w (RetW (.tuple #[.int .i64 0, .bool false]) w) := by
  have HD := Lib.hid hd
  clear hd
  go_enter Try.func89, Try.ntmps89
  go_wp2_with fail
  go_loopw [4, 8] (fun n i wr => ∃ k : Nat, k ≤ j ∧ i = .int .i64 k ∧ n = .int .i64 (numV (s.data.toList.take k)) ∧ wr = w) (fun _ i _ => j - (intOf i).toNat)
  case atStart => exact ⟨0, Nat.zero_le _, rfl, rfl, rfl⟩
  case round =>
    obtain ⟨k, hk, rfl, rfl, hw⟩ := hrel
    have hb := numV_bd10 (s.data.toList.take k) (by simp; omega) (by
      intro c hc
      obtain ⟨i, hi, rfl⟩ := List.getElem_of_mem hc
      rw [List.getElem_take]
      simp at hi
      exact HD.out i (by omega) (by omega))
    have hlt0 : k < s.size := by omega
    by_cases hlt : k < j
    · have hsn := numV_snoc (s.data.toList.take k) s[k]
      rw [← take_snoc s k hlt0] at hsn
      have hdg := HD.out k hlt0 hlt
      have h48 : 48 ≤ (s[k].toNat : Int) ∧ (s[k].toNat : Int) ≤ 57 := by simp only [isDg, decide_eq_true_eq] at hdg; omega
      obtain ⟨h48a, h48b⟩ := h48
      have HS := Lib.hid hsn
      clear hsn hdg
      go_wp2_with fail
      all_goals
        go_roundw
        case rel => exact ⟨k + 1, by omega, by go_num, by rw [HS.out], trivial⟩
        case measure => simp [intOf]; omega
    · have hks : k = j := by omega
      subst hks
      have hn2 : (s[k].toNat : Int) < 48 ∨ 57 < (s[k].toNat : Int) := by simp only [isDg, decide_eq_false_iff_not] at hn; omega
      clear hn hlt
      rcases hn2 with hn2 | hn2
      · go_wp2_with fail
        go_ret2
        exact ⟨rfl, by first | rfl | assumption | (simp [*])⟩
      · go_wp2_with fail
        go_ret2
        exact ⟨rfl, by first | rfl | assumption | (simp [*])⟩
theorem rnum_yes (s : ByteArray) (hs : s.size ≤ 10) (hd : ∀ k (h : k < s.size), isDg s[k] = true) (w : World) :
    Calls Try.prog 90 #[.string s] w (RetW (.tuple #[.int .i64 (numV s.data.toList), .bool true]) w) := by
  have HD := Lib.hid hd
  clear hd
  go_enter Try.func90, Try.ntmps90
  go_wp2_with fail
  go_loopw [4, 5] (fun n i wr => ∃ k : Nat, k ≤ s.size ∧ i = .int .i64 k ∧ n = .int .i64 (numV (s.data.toList.take k)) ∧ wr = w) (fun _ i _ => s.size - (intOf i).toNat)
  case atStart => exact ⟨0, Nat.zero_le _, rfl, rfl, rfl⟩
  case round =>
    obtain ⟨k, hk, rfl, rfl, hw⟩ := hrel
    have hb := numV_bd10 (s.data.toList.take k) (by simp; omega) (by
      intro c hc
      obtain ⟨i, hi, rfl⟩ := List.getElem_of_mem hc
      rw [List.getElem_take]
      exact HD.out i (by simp at hi; omega))
    by_cases hlt : k < s.size
    · have hsn := numV_snoc (s.data.toList.take k) s[k]
      rw [← take_snoc s k hlt] at hsn
      have hdg := HD.out k hlt
      have h48 : 48 ≤ (s[k].toNat : Int) ∧ (s[k].toNat : Int) ≤ 57 := by simp only [isDg, decide_eq_true_eq] at hdg; omega
      obtain ⟨h48a, h48b⟩ := h48
      have hu := Lib.hid (u8sub hdg)
      have HS := Lib.hid hsn
      clear hsn hdg
      go_wp2_with fail
      all_goals
        go_roundw
        case rel => exact ⟨k + 1, by omega, by go_num, by rw [HS.out], trivial⟩
        case measure => simp [intOf]; omega
    · have hks : k = s.size := by omega
      subst hks
      go_wp2_with fail
      go_ret2
      exact ⟨ret_ib (by rw [List.take_of_length_le (by simp)]), by first | rfl | assumption | (simp [*])⟩
theorem rnum_no (s : ByteArray) (hs : s.size ≤ 10) (j : Nat) (hj : j < s.size) (hd : ∀ k (h : k < s.size), k < j → isDg s[k] = true) (hn : isDg s[j] = false) (w : World) :
    Calls Try.prog 90 #[.string s] w (RetW (.tuple #[.int .i64 0, .bool false]) w) := by
  have HD := Lib.hid hd
  clear hd
  go_enter Try.func90, Try.ntmps90
  go_wp2_with fail
  go_loopw [4, 5] (fun n i wr => ∃ k : Nat, k ≤ j ∧ i = .int .i64 k ∧ n = .int .i64 (numV (s.data.toList.take k)) ∧ wr = w) (fun _ i _ => j - (intOf i).toNat)
  case atStart => exact ⟨0, Nat.zero_le _, rfl, rfl, rfl⟩
  case round =>
    obtain ⟨k, hk, rfl, rfl, hw⟩ := hrel
    have hb := numV_bd10 (s.data.toList.take k) (by simp; omega) (by
      intro c hc
      obtain ⟨i, hi, rfl⟩ := List.getElem_of_mem hc
      rw [List.getElem_take]
      simp at hi
      exact HD.out i (by omega) (by omega))
    have hlt0 : k < s.size := by omega
    by_cases hlt : k < j
    · have hsn := numV_snoc (s.data.toList.take k) s[k]
      rw [← take_snoc s k hlt0] at hsn
      have hdg := HD.out k hlt0 hlt
      have h48 : 48 ≤ (s[k].toNat : Int) ∧ (s[k].toNat : Int) ≤ 57 := by simp only [isDg, decide_eq_true_eq] at hdg; omega
      obtain ⟨h48a, h48b⟩ := h48
      have HS := Lib.hid hsn
      clear hsn hdg
      go_wp2_with fail
      all_goals
        go_roundw
        case rel => exact ⟨k + 1, by omega, by go_num, by rw [HS.out], trivial⟩
        case measure => simp [intOf]; omega
    · have hks : k = j := by omega
      subst hks
      have hn2 : (s[k].toNat : Int) < 48 ∨ 57 < (s[k].toNat : Int) := by simp only [isDg, decide_eq_false_iff_not] at hn; omega
      clear hn hlt
      rcases hn2 with hn2 | hn2
      · go_wp2_with fail
        go_ret2
        exact ⟨rfl, by first | rfl | assumption | (simp [*])⟩
      · go_wp2_with fail
        go_ret2
        exact ⟨rfl, by first | rfl | assumption | (simp [*])⟩
end Go.Proofs.Ytmjegmlchonlmaa
