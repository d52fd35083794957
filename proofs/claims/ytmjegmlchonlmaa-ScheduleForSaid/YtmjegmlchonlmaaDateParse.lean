/-
  Numbers of digits: the plain words, and the walks.
  The walks of dates: texts read as dates.
-/
import Derived.Test.YtmjegmlchonlmaaBase
import Derived.Test.YtmjegmlchonlmaaRows
import Derived.Test.YtmjegmlchonlmaaDateWalk
namespace Go.Proofs.Ytmjegmlchonlmaa
section
open Go.RowKit
set_option maxHeartbeats 1000000

/-- A digit. -/
def isDg (c : UInt8) : Bool := decide (48 ≤ c.toNat ∧ c.toNat ≤ 57)
/-- What digits denote. -/
def numV (l : List UInt8) : Int := l.foldl (fun a c => 10 * a + ((c.toNat : Int) - 48)) 0
theorem numV_snoc (l : List UInt8) (c : UInt8) : numV (l ++ [c]) = 10 * numV l + ((c.toNat : Int) - 48) := by simp [numV]
theorem pow_succ10 (k : Nat) : (10 : Int) ^ (k + 1) = 10 * 10 ^ k := by rw [Int.pow_succ, Int.mul_comm]
theorem numV_bd : ∀ (k : Nat) (l : List UInt8), l.length = k → (∀ c ∈ l, isDg c = true) → 0 ≤ numV l ∧ numV l < 10 ^ k
  | 0, l, h, _ => by
    have : l = [] := List.length_eq_zero_iff.1 h
    subst this
    simp [numV]
  | k + 1, l, h, hd => by
    have hne : l ≠ [] := by intro e; rw [e] at h; simp at h
    have hl := (List.dropLast_concat_getLast hne).symm
    have ih := numV_bd k l.dropLast (by simp; omega) (fun c hc => hd c (List.dropLast_subset _ hc))
    have hc := hd _ (List.getLast_mem hne)
    simp only [isDg, decide_eq_true_eq] at hc
    rw [hl, numV_snoc, pow_succ10]
    omega
theorem numV_bd10 (l : List UInt8) (h : l.length ≤ 10) (hd : ∀ c ∈ l, isDg c = true) : 0 ≤ numV l ∧ numV l < 10000000000 := by
  obtain ⟨a, b⟩ := numV_bd l.length l rfl hd
  refine ⟨a, Int.lt_of_lt_of_le b ?_⟩
  have e : (10000000000 : Int) = 10 ^ 10 := by decide
  rw [e]
  exact_mod_cast Nat.pow_le_pow_right (by omega) h
theorem take_snocD (s : ByteArray) (k : Nat) (h : k < s.size) : s.data.toList.take (k + 1) = s.data.toList.take k ++ [s[k]] := by
  rw [List.take_succ_eq_append_getElem (by simpa using h)]; rfl

theorem u8sub {c : UInt8} (h : isDg c = true) : ((c - 48).toNat : Int) = (c.toNat : Int) - 48 := by
  simp only [isDg, decide_eq_true_eq] at h
  rw [UInt8.toNat_sub_of_le]
  · have : (48 : UInt8).toNat = 48 := rfl
    omega
  · show (48 : UInt8).toNat ≤ c.toNat
    exact h.1

theorem ret_ib {k : IntKind} {a b : Int} {c : Bool} (h : a = b) : Ending.returned (.tuple #[.int k a, .bool c]) = .returned (.tuple #[.int k b, .bool c]) := by rw [h]
theorem dnum_yes (s : ByteArray) (hs : s.size ≤ 10) (hd : ∀ k (h : k < s.size), isDg s[k] = true) (w : World) :
    Calls Try.prog 89 #[.string s] w (RetW (.tuple #[.int .i64 (numV s.data.toList), .bool true]) w) := by
  have HD := Lib.hid hd
  clear hd
  go_enter Try.func89, Try.ntmps89
  go_wp2_with fail
  go_loopw [4, 8] (fun n i wr => ∃ k : Nat, k ≤ s.size ∧ i = .int .i64 k ∧ n = .int .i64 (numV (s.data.toList.take k)) ∧ wr = w) (fun _ i _ => s.size - (intOf i).toNat)
  case atStart => exact ⟨0, Nat.zero_le _, rfl, rfl, rfl⟩
  case round =>
    obtain ⟨k, hk, rfl, rfl, hw⟩ := hrel
    have hb := numV_bd10 (s.data.toList.take k) (by simp; omega) (by
      intro c hc
      obtain ⟨i, hi, rfl⟩ := List.getElem_of_mem hc
      rw [List.getElem_take]
      exact HD.out i (by simp at hi; omega))
    by_cases hlt : k < s.size
    · have hsn := numV_snoc (s.data.toList.take k) s[k]
      rw [← take_snocD s k hlt] at hsn
      have hdg := HD.out k hlt
      have h48 : 48 ≤ (s[k].toNat : Int) ∧ (s[k].toNat : Int) ≤ 57 := by simp only [isDg, decide_eq_true_eq] at hdg; omega
      obtain ⟨h48a, h48b⟩ := h48
      have hu := Lib.hid (u8sub hdg)
      have HS := Lib.hid hsn
      clear hsn hdg
      go_wp2_with fail
      all_goals
        go_roundw
        case rel => exact ⟨k + 1, by omega, by go_num, by rw [HS.out], trivial⟩
        case measure => simp [intOf]; omega
    · have hks : k = s.size := by omega
      subst hks
      go_wp2_with fail
      go_ret2
      exact ⟨ret_ib (by rw [List.take_of_length_le (by simp)]), by first | rfl | assumption | (simp [*])⟩
theorem dnum_no (s : ByteArray) (hs : s.size ≤ 10) (j : Nat) (hj : j < s.size) (hd : ∀ k (h : k < s.size), k < j → isDg s[k] = true) (hn : isDg s[j] = false) (w : World) :
    Calls Try.prog 89 #[.string s] w (RetW (.tuple #[.int .i64 0, .bool false]) w) := by
  have HD := Lib.hid hd
  clear hd
  go_enter Try.func89, Try.ntmps89
  go_wp2_with fail
  go_loopw [4, 8] (fun n i wr => ∃ k : Nat, k ≤ j ∧ i = .int .i64 k ∧ n = .int .i64 (numV (s.data.toList.take k)) ∧ wr = w) (fun _ i _ => j - (intOf i).toNat)
  case atStart => exact ⟨0, Nat.zero_le _, rfl, rfl, rfl⟩
  case round =>
    obtain ⟨k, hk, rfl, rfl, hw⟩ := hrel
    have hb := numV_bd10 (s.data.toList.take k) (by simp; omega) (by
      intro c hc
      obtain ⟨i, hi, rfl⟩ := List.getElem_of_mem hc
      rw [List.getElem_take]
      simp at hi
      exact HD.out i (by omega) (by omega))
    have hlt0 : k < s.size := by omega
    by_cases hlt : k < j
    · have hsn := numV_snoc (s.data.toList.take k) s[k]
      rw [← take_snocD s k hlt0] at hsn
      have hdg := HD.out k hlt0 hlt
      have h48 : 48 ≤ (s[k].toNat : Int) ∧ (s[k].toNat : Int) ≤ 57 := by simp only [isDg, decide_eq_true_eq] at hdg; omega
      obtain ⟨h48a, h48b⟩ := h48
      have HS := Lib.hid hsn
      clear hsn hdg
      go_wp2_with fail
      all_goals
        go_roundw
        case rel => exact ⟨k + 1, by omega, by go_num, by rw [HS.out], trivial⟩
        case measure => simp [intOf]; omega
    · have hks : k = j := by omega
      subst hks
      have hn2 : (s[k].toNat : Int) < 48 ∨ 57 < (s[k].toNat : Int) := by simp only [isDg, decide_eq_false_iff_not] at hn; omega
      clear hn hlt
      rcases hn2 with hn2 | hn2
      · go_wp2_with fail
        go_ret2
        exact ⟨rfl, by first | rfl | assumption | (simp [*])⟩
      · go_wp2_with fail
        go_ret2
        exact ⟨rfl, by first | rfl | assumption | (simp [*])⟩
theorem rnum_yes (s : ByteArray) (hs : s.size ≤ 10) (hd : ∀ k (h : k < s.size), isDg s[k] = true) (w : World) :
    Calls Try.prog 90 #[.string s] w (RetW (.tuple #[.int .i64 (numV s.data.toList), .bool true]) w) := by
  have HD := Lib.hid hd
  clear hd
  go_enter Try.func90, Try.ntmps90
  go_wp2_with fail
  go_loopw [4, 5] (fun n i wr => ∃ k : Nat, k ≤ s.size ∧ i = .int .i64 k ∧ n = .int .i64 (numV (s.data.toList.take k)) ∧ wr = w) (fun _ i _ => s.size - (intOf i).toNat)
  case atStart => exact ⟨0, Nat.zero_le _, rfl, rfl, rfl⟩
  case round =>
    obtain ⟨k, hk, rfl, rfl, hw⟩ := hrel
    have hb := numV_bd10 (s.data.toList.take k) (by simp; omega) (by
      intro c hc
      obtain ⟨i, hi, rfl⟩ := List.getElem_of_mem hc
      rw [List.getElem_take]
      exact HD.out i (by simp at hi; omega))
    by_cases hlt : k < s.size
    · have hsn := numV_snoc (s.data.toList.take k) s[k]
      rw [← take_snocD s k hlt] at hsn
      have hdg := HD.out k hlt
      have h48 : 48 ≤ (s[k].toNat : Int) ∧ (s[k].toNat : Int) ≤ 57 := by simp only [isDg, decide_eq_true_eq] at hdg; omega
      obtain ⟨h48a, h48b⟩ := h48
      have hu := Lib.hid (u8sub hdg)
      have HS := Lib.hid hsn
      clear hsn hdg
      go_wp2_with fail
      all_goals
        go_roundw
        case rel => exact ⟨k + 1, by omega, by go_num, by rw [HS.out], trivial⟩
        case measure => simp [intOf]; omega
    · have hks : k = s.size := by omega
      subst hks
      go_wp2_with fail
      go_ret2
      exact ⟨ret_ib (by rw [List.take_of_length_le (by simp)]), by first | rfl | assumption | (simp [*])⟩
theorem rnum_no (s : ByteArray) (hs : s.size ≤ 10) (j : Nat) (hj : j < s.size) (hd : ∀ k (h : k < s.size), k < j → isDg s[k] = true) (hn : isDg s[j] = false) (w : World) :
    Calls Try.prog 90 #[.string s] w (RetW (.tuple #[.int .i64 0, .bool false]) w) := by
  have HD := Lib.hid hd
  clear hd
  go_enter Try.func90, Try.ntmps90
  go_wp2_with fail
  go_loopw [4, 5] (fun n i wr => ∃ k : Nat, k ≤ j ∧ i = .int .i64 k ∧ n = .int .i64 (numV (s.data.toList.take k)) ∧ wr = w) (fun _ i _ => j - (intOf i).toNat)
  case atStart => exact ⟨0, Nat.zero_le _, rfl, rfl, rfl⟩
  case round =>
    obtain ⟨k, hk, rfl, rfl, hw⟩ := hrel
    have hb := numV_bd10 (s.data.toList.take k) (by simp; omega) (by
      intro c hc
      obtain ⟨i, hi, rfl⟩ := List.getElem_of_mem hc
      rw [List.getElem_take]
      simp at hi
      exact HD.out i (by omega) (by omega))
    have hlt0 : k < s.size := by omega
    by_cases hlt : k < j
    · have hsn := numV_snoc (s.data.toList.take k) s[k]
      rw [← take_snocD s k hlt0] at hsn
      have hdg := HD.out k hlt0 hlt
      have h48 : 48 ≤ (s[k].toNat : Int) ∧ (s[k].toNat : Int) ≤ 57 := by simp only [isDg, decide_eq_true_eq] at hdg; omega
      obtain ⟨h48a, h48b⟩ := h48
      have HS := Lib.hid hsn
      clear hsn hdg
      go_wp2_with fail
      all_goals
        go_roundw
        case rel => exact ⟨k + 1, by omega, by go_num, by rw [HS.out], trivial⟩
        case measure => simp [intOf]; omega
    · have hks : k = j := by omega
      subst hks
      have hn2 : (s[k].toNat : Int) < 48 ∨ 57 < (s[k].toNat : Int) := by simp only [isDg, decide_eq_false_iff_not] at hn; omega
      clear hn hlt
      rcases hn2 with hn2 | hn2
      · go_wp2_with fail
        go_ret2
        exact ⟨rfl, by first | rfl | assumption | (simp [*])⟩
      · go_wp2_with fail
        go_ret2
        exact ⟨rfl, by first | rfl | assumption | (simp [*])⟩
end
section
open Go.RowKit
set_option maxHeartbeats 1000000

/-- All bytes are digits. -/
def numB (s : ByteArray) : Bool := s.data.toList.all isDg
/-- The number, or 0. -/
def numI (s : ByteArray) : Int := if numB s = true then numV s.data.toList else 0
theorem numB_yes {s : ByteArray} (h : numB s = true) (k : Nat) (hk : k < s.size) : isDg s[k] = true := by
  unfold numB at h
  rw [List.all_eq_true] at h
  refine h _ ?_
  show s.data[k] ∈ s.data.toList
  simp
theorem numB_no {s : ByteArray} (h : numB s = false) : ∃ (j : Nat) (hj : j < s.size), (∀ k (h : k < s.size), k < j → isDg s[k] = true) ∧ isDg s[j] = false := by
  have hlt : s.data.toList.findIdx (fun c => !isDg c) < s.data.toList.length := by
    apply List.findIdx_lt_length_of_exists
    unfold numB at h
    rw [List.all_eq_false] at h
    obtain ⟨c, hc, hd⟩ := h
    exact ⟨c, hc, by simpa using hd⟩
  have hlt2 : s.data.toList.findIdx (fun c => !isDg c) < s.size := by simpa using hlt
  refine ⟨_, hlt2, fun k hk hkj => ?_, ?_⟩
  · have := List.not_of_lt_findIdx (p := fun c => !isDg c) (xs := s.data.toList) hkj
    have h2 : isDg s.data[k] = true := by simpa using this
    exact h2
  · have := List.findIdx_getElem (p := fun c => !isDg c) (xs := s.data.toList) (w := hlt)
    have h2 : isDg (s.data[s.data.toList.findIdx (fun c => !isDg c)]'hlt2) = false := by simpa using this
    exact h2
theorem dnum_any (s : ByteArray) (hs : s.size ≤ 10) (w : World) : Calls Try.prog 89 #[.string s] w (RetW (.tuple #[.int .i64 (numI s), .bool (numB s)]) w) := by
  unfold numI
  cases h : numB s
  · obtain ⟨j, hj, h1, h2⟩ := numB_no h
    rw [if_neg (by simp)]
    exact dnum_no s hs j hj h1 h2 w
  · rw [if_pos rfl]
    exact dnum_yes s hs (numB_yes h) w
theorem rnum_any (s : ByteArray) (hs : s.size ≤ 10) (w : World) : Calls Try.prog 90 #[.string s] w (RetW (.tuple #[.int .i64 (numI s), .bool (numB s)]) w) := by
  unfold numI
  cases h : numB s
  · obtain ⟨j, hj, h1, h2⟩ := numB_no h
    rw [if_neg (by simp)]
    exact rnum_no s hs j hj h1 h2 w
  · rw [if_pos rfl]
    exact rnum_yes s hs (numB_yes h) w

/-- The text has the form of a date. -/
def formB (s : ByteArray) : Bool := if h : s.size = 10 then decide (s[4].toNat = 45 ∧ s[7].toNat = 45) && (numB (s.extract 0 4) && numB (s.extract 5 7) && numB (s.extract 8 s.size)) else false
theorem ext_le (s : ByteArray) (a b : Nat) : (s.extract a b).size ≤ b - a := by
  rw [ByteArray.size_extract]; omega

theorem dparse_form (s : ByteArray) (h : formB s = false) (w : World) : Calls Try.prog 41 #[.string s] w (RetW (.tuple #[.int .i64 0, .int .i64 52]) w) := by
  by_cases hz : s.size = 10
  · obtain ⟨g4, g7⟩ : 4 < s.size ∧ 7 < s.size := by omega
    have e1 : ((s.size : Int) != 10) = false := by rw [hz]; rfl
    unfold formB at h
    rw [dif_pos hz] at h
    by_cases h4 : s[4].toNat = 45
    · have e4 : ((s[4].toNat : Int) != 45) = false := by rw [h4]; rfl
      by_cases h7 : s[7].toNat = 45
      · have e7 : ((s[7].toNat : Int) != 45) = false := by rw [h7]; rfl
        rw [decide_eq_true (by exact ⟨h4, h7⟩), Bool.true_and] at h
        have l1 : 10 ≤ s.size := by omega
        have l2 : s.size ≤ 10 := by omega
        clear hz h4 h7
        cases b1 : numB (s.extract 0 4)
        · clear h
          go_enter Try.func41, Try.ntmps41
          go_wp2_with fail
          refine (dnum_any _ (by have := ext_le s 0 4; omega) _).mono ?_
          rintro e w1 ⟨rfl, rfl⟩
          go_wp2_with fail
          refine (dnum_any _ (by have := ext_le s 5 7; omega) _).mono ?_
          rintro e w1 ⟨rfl, rfl⟩
          go_wp2_with fail
          refine (dnum_any _ (by have := ext_le s 8 s.size; omega) _).mono ?_
          rintro e w1 ⟨rfl, rfl⟩
          go_wp2_with fail
          go_ret2
          exact ⟨rfl, rfl⟩
        · rw [b1, Bool.true_and] at h
          cases b2 : numB (s.extract 5 7)
          · clear h
            go_enter Try.func41, Try.ntmps41
            go_wp2_with fail
            refine (dnum_any _ (by have := ext_le s 0 4; omega) _).mono ?_
            rintro e w1 ⟨rfl, rfl⟩
            go_wp2_with fail
            refine (dnum_any _ (by have := ext_le s 5 7; omega) _).mono ?_
            rintro e w1 ⟨rfl, rfl⟩
            go_wp2_with fail
            refine (dnum_any _ (by have := ext_le s 8 s.size; omega) _).mono ?_
            rintro e w1 ⟨rfl, rfl⟩
            go_wp2_with fail
            go_ret2
            exact ⟨rfl, rfl⟩
          · rw [b2, Bool.true_and] at h
            go_enter Try.func41, Try.ntmps41
            go_wp2_with fail
            refine (dnum_any _ (by have := ext_le s 0 4; omega) _).mono ?_
            rintro e w1 ⟨rfl, rfl⟩
            go_wp2_with fail
            refine (dnum_any _ (by have := ext_le s 5 7; omega) _).mono ?_
            rintro e w1 ⟨rfl, rfl⟩
            go_wp2_with fail
            refine (dnum_any _ (by have := ext_le s 8 s.size; omega) _).mono ?_
            rintro e w1 ⟨rfl, rfl⟩
            go_wp2_with fail
            go_ret2
            exact ⟨rfl, rfl⟩
      · have e7 : ((s[7].toNat : Int) != 45) = true := by rw [bne_iff_ne]; omega
        have l1 : 10 ≤ s.size := by omega
        have l2 : s.size ≤ 10 := by omega
        clear hz h4 h7 h
        go_enter Try.func41, Try.ntmps41
        go_wp2_with fail
        go_ret2
        exact ⟨rfl, rfl⟩
    · have e4 : ((s[4].toNat : Int) != 45) = true := by rw [bne_iff_ne]; omega
      have l1 : 10 ≤ s.size := by omega
      have l2 : s.size ≤ 10 := by omega
      clear hz h4 h
      go_enter Try.func41, Try.ntmps41
      go_wp2_with fail
      go_ret2
      exact ⟨rfl, rfl⟩
  · have e1 : ((s.size : Int) != 10) = true := by rw [bne_iff_ne]; omega
    clear hz h
    go_enter Try.func41, Try.ntmps41
    go_wp2_with fail
    go_ret2
    exact ⟨rfl, rfl⟩
theorem dparse_num (s : ByteArray) (h : formB s = true) {v e : Int} (w : World)
    (hc : Calls Try.prog 47 #[.int .i64 (numI (s.extract 0 4)), .int .i64 (numI (s.extract 5 7)), .int .i64 (numI (s.extract 8 s.size))] w (RetW (.tuple #[.int .i64 v, .int .i64 e]) w)) :
    Calls Try.prog 41 #[.string s] w (RetW (.tuple #[.int .i64 v, .int .i64 e]) w) := by
  have HC := Lib.hid hc
  clear hc
  unfold formB at h
  by_cases hz : s.size = 10
  · rw [dif_pos hz] at h
    obtain ⟨g4, g7⟩ : 4 < s.size ∧ 7 < s.size := by omega
    have e1 : ((s.size : Int) != 10) = false := by rw [hz]; rfl
    simp only [Bool.and_eq_true, decide_eq_true_eq] at h
    obtain ⟨⟨h4, h7⟩, ⟨b1, b2⟩, b3⟩ := h
    have e4 : ((s[4].toNat : Int) != 45) = false := by rw [h4]; rfl
    have e7 : ((s[7].toNat : Int) != 45) = false := by rw [h7]; rfl
    have l1 : 10 ≤ s.size := by omega
    have l2 : s.size ≤ 10 := by omega
    clear hz h4 h7
    go_enter Try.func41, Try.ntmps41
    go_wp2_with fail
    refine (dnum_any _ (by have := ext_le s 0 4; omega) _).mono ?_
    rintro e w1 ⟨rfl, rfl⟩
    go_wp2_with fail
    refine (dnum_any _ (by have := ext_le s 5 7; omega) _).mono ?_
    rintro e w1 ⟨rfl, rfl⟩
    go_wp2_with fail
    refine (dnum_any _ (by have := ext_le s 8 s.size; omega) _).mono ?_
    rintro e w1 ⟨rfl, rfl⟩
    go_wp2_with fail
    refine HC.out.mono ?_
    rintro e' w1 ⟨rfl, rfl⟩
    go_wp2_with fail
    go_ret2
    exact ⟨rfl, rfl⟩
  · rw [dif_neg hz] at h
    cases h

theorem rparse_form (s : ByteArray) (h : formB s = false) (w : World) : Calls Try.prog 42 #[.string s] w (RetW (.tuple #[.int .i64 0, .int .i64 52]) w) := by
  by_cases hz : s.size = 10
  · obtain ⟨g4, g7⟩ : 4 < s.size ∧ 7 < s.size := by omega
    have e1 : ((s.size : Int) != 10) = false := by rw [hz]; rfl
    unfold formB at h
    rw [dif_pos hz] at h
    by_cases h4 : s[4].toNat = 45
    · have e4 : ((s[4].toNat : Int) != 45) = false := by rw [h4]; rfl
      by_cases h7 : s[7].toNat = 45
      · have e7 : ((s[7].toNat : Int) != 45) = false := by rw [h7]; rfl
        rw [decide_eq_true (by exact ⟨h4, h7⟩), Bool.true_and] at h
        have l1 : 10 ≤ s.size := by omega
        have l2 : s.size ≤ 10 := by omega
        clear hz h4 h7
        cases b1 : numB (s.extract 0 4)
        · clear h
          go_enter Try.func42, Try.ntmps42
          go_wp2_with fail
          refine (rnum_any _ (by have := ext_le s 0 4; omega) _).mono ?_
          rintro e w1 ⟨rfl, rfl⟩
          go_wp2_with fail
          refine (rnum_any _ (by have := ext_le s 5 7; omega) _).mono ?_
          rintro e w1 ⟨rfl, rfl⟩
          go_wp2_with fail
          refine (rnum_any _ (by have := ext_le s 8 s.size; omega) _).mono ?_
          rintro e w1 ⟨rfl, rfl⟩
          go_wp2_with fail
          go_ret2
          exact ⟨rfl, rfl⟩
        · rw [b1, Bool.true_and] at h
          cases b2 : numB (s.extract 5 7)
          · clear h
            go_enter Try.func42, Try.ntmps42
            go_wp2_with fail
            refine (rnum_any _ (by have := ext_le s 0 4; omega) _).mono ?_
            rintro e w1 ⟨rfl, rfl⟩
            go_wp2_with fail
            refine (rnum_any _ (by have := ext_le s 5 7; omega) _).mono ?_
            rintro e w1 ⟨rfl, rfl⟩
            go_wp2_with fail
            refine (rnum_any _ (by have := ext_le s 8 s.size; omega) _).mono ?_
            rintro e w1 ⟨rfl, rfl⟩
            go_wp2_with fail
            go_ret2
            exact ⟨rfl, rfl⟩
          · rw [b2, Bool.true_and] at h
            go_enter Try.func42, Try.ntmps42
            go_wp2_with fail
            refine (rnum_any _ (by have := ext_le s 0 4; omega) _).mono ?_
            rintro e w1 ⟨rfl, rfl⟩
            go_wp2_with fail
            refine (rnum_any _ (by have := ext_le s 5 7; omega) _).mono ?_
            rintro e w1 ⟨rfl, rfl⟩
            go_wp2_with fail
            refine (rnum_any _ (by have := ext_le s 8 s.size; omega) _).mono ?_
            rintro e w1 ⟨rfl, rfl⟩
            go_wp2_with fail
            go_ret2
            exact ⟨rfl, rfl⟩
      · have e7 : ((s[7].toNat : Int) != 45) = true := by rw [bne_iff_ne]; omega
        have l1 : 10 ≤ s.size := by omega
        have l2 : s.size ≤ 10 := by omega
        clear hz h4 h7 h
        go_enter Try.func42, Try.ntmps42
        go_wp2_with fail
        go_ret2
        exact ⟨rfl, rfl⟩
    · have e4 : ((s[4].toNat : Int) != 45) = true := by rw [bne_iff_ne]; omega
      have l1 : 10 ≤ s.size := by omega
      have l2 : s.size ≤ 10 := by omega
      clear hz h4 h
      go_enter Try.func42, Try.ntmps42
      go_wp2_with fail
      go_ret2
      exact ⟨rfl, rfl⟩
  · have e1 : ((s.size : Int) != 10) = true := by rw [bne_iff_ne]; omega
    clear hz h
    go_enter Try.func42, Try.ntmps42
    go_wp2_with fail
    go_ret2
    exact ⟨rfl, rfl⟩
theorem rparse_num (s : ByteArray) (h : formB s = true) {v e : Int} (w : World)
    (hc : Calls Try.prog 52 #[.int .i64 (numI (s.extract 0 4)), .int .i64 (numI (s.extract 5 7)), .int .i64 (numI (s.extract 8 s.size))] w (RetW (.tuple #[.int .i64 v, .int .i64 e]) w)) :
    Calls Try.prog 42 #[.string s] w (RetW (.tuple #[.int .i64 v, .int .i64 e]) w) := by
  have HC := Lib.hid hc
  clear hc
  unfold formB at h
  by_cases hz : s.size = 10
  · rw [dif_pos hz] at h
    obtain ⟨g4, g7⟩ : 4 < s.size ∧ 7 < s.size := by omega
    have e1 : ((s.size : Int) != 10) = false := by rw [hz]; rfl
    simp only [Bool.and_eq_true, decide_eq_true_eq] at h
    obtain ⟨⟨h4, h7⟩, ⟨b1, b2⟩, b3⟩ := h
    have e4 : ((s[4].toNat : Int) != 45) = false := by rw [h4]; rfl
    have e7 : ((s[7].toNat : Int) != 45) = false := by rw [h7]; rfl
    have l1 : 10 ≤ s.size := by omega
    have l2 : s.size ≤ 10 := by omega
    clear hz h4 h7
    go_enter Try.func42, Try.ntmps42
    go_wp2_with fail
    refine (rnum_any _ (by have := ext_le s 0 4; omega) _).mono ?_
    rintro e w1 ⟨rfl, rfl⟩
    go_wp2_with fail
    refine (rnum_any _ (by have := ext_le s 5 7; omega) _).mono ?_
    rintro e w1 ⟨rfl, rfl⟩
    go_wp2_with fail
    refine (rnum_any _ (by have := ext_le s 8 s.size; omega) _).mono ?_
    rintro e w1 ⟨rfl, rfl⟩
    go_wp2_with fail
    refine HC.out.mono ?_
    rintro e' w1 ⟨rfl, rfl⟩
    go_wp2_with fail
    go_ret2
    exact ⟨rfl, rfl⟩
  · rw [dif_neg hz] at h
    cases h

/-- What a text is read as: a day and no error, or the error. -/
def ParseR (s : ByteArray) (v e : Int) : Prop :=
  (formB s = false ∧ v = 0 ∧ e = 52) ∨
  (formB s = true ∧ ((CV v (numI (s.extract 0 4)) (numI (s.extract 5 7)) (numI (s.extract 8 s.size)) ∧ e = 0) ∨ (¬dateR (numI (s.extract 0 4)) (numI (s.extract 5 7)) (numI (s.extract 8 s.size)) ∧ v = 0 ∧ e = 51)))
theorem parse_ex (s : ByteArray) : ∃ v e, ParseR s v e := by
  cases h : formB s
  · exact ⟨0, 52, .inl ⟨h, rfl, rfl⟩⟩
  · by_cases hd : dateR (numI (s.extract 0 4)) (numI (s.extract 5 7)) (numI (s.extract 8 s.size))
    · obtain ⟨n, hn⟩ := hd.cv
      exact ⟨n, 0, .inr ⟨h, .inl ⟨hn, rfl⟩⟩⟩
    · exact ⟨0, 51, .inr ⟨h, .inr ⟨hd, rfl, rfl⟩⟩⟩
theorem dparse_is {s : ByteArray} {v e : Int} (h : ParseR s v e) (w : World) : Calls Try.prog 41 #[.string s] w (RetW (.tuple #[.int .i64 v, .int .i64 e]) w) := by
  rcases h with ⟨h, rfl, rfl⟩ | ⟨h, ⟨hc, rfl⟩ | ⟨hd, rfl, rfl⟩⟩
  · exact dparse_form s h w
  · exact dparse_num s h w (dfrom_in hc w)
  · exact dparse_num s h w (dfrom_out hd w)
theorem rparse_is {s : ByteArray} {v e : Int} (h : ParseR s v e) (w : World) : Calls Try.prog 42 #[.string s] w (RetW (.tuple #[.int .i64 v, .int .i64 e]) w) := by
  rcases h with ⟨h, rfl, rfl⟩ | ⟨h, ⟨hc, rfl⟩ | ⟨hd, rfl, rfl⟩⟩
  · exact rparse_form s h w
  · exact rparse_num s h w (rfrom_in hc w)
  · exact rparse_num s h w (rfrom_out hd w)
end
end Go.Proofs.Ytmjegmlchonlmaa
