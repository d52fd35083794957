/-
  The walks of the small functions of zones: usable names, possible offsets, valid zones.
-/
import Derived.Test.YtmjegmlchonlmaaZonePlain
import Derived.Test.YtmjegmlchonlmaaRows
namespace Go.Proofs.Ytmjegmlchonlmaa
open Go.RowKit

theorem possible_any (n : Int) (w : World) : Calls Try.prog 86 #[.int .i64 n] w (RetW (.bool (offB n)) w) := by
  go_enter Try.func86, Try.ntmps86
  go_wp2
  all_goals go_ret
  · exact ⟨by simp [offB, *], rfl⟩
  · exact ⟨by simp [offB]; omega, rfl⟩
theorem offsetOK_any (n : Int) (w : World) : Calls Try.prog 88 #[.int .i64 n] w (RetW (.bool (offB n)) w) := by
  go_enter Try.func88, Try.ntmps88
  go_wp2
  all_goals go_ret
  · exact ⟨by simp [offB, *], rfl⟩
  · exact ⟨by simp [offB]; omega, rfl⟩
theorem instantOK_any (n : Int) (w : World) : Calls Try.prog 82 #[.int .i64 n] w (RetW (.bool (instB n)) w) := by
  go_enter Try.func82, Try.ntmps82
  go_wp2
  all_goals go_ret
  · exact ⟨by simp [instB, *], rfl⟩
  · exact ⟨by simp [instB]; omega, rfl⟩
theorem out_any (n : Int) (w : World) : Calls Try.prog 84 #[.int .i64 n] w (RetW (.bool (!dayB n)) w) := by
  go_enter Try.func84, Try.ntmps84
  go_wp2
  all_goals go_ret
  all_goals (refine ⟨ret_bool ?_, rfl⟩; unfold dayB; rw [Bool.eq_iff_iff]; simp; try omega)

theorem possible_is {n : Int} {b : Bool} (h : offB n = b) (w : World) : Calls Try.prog 86 #[.int .i64 n] w (RetW (.bool b) w) := by rw [← h]; exact possible_any n w
theorem offsetOK_is {n : Int} {b : Bool} (h : offB n = b) (w : World) : Calls Try.prog 88 #[.int .i64 n] w (RetW (.bool b) w) := by rw [← h]; exact offsetOK_any n w
theorem instantOK_is {n : Int} {b : Bool} (h : instB n = b) (w : World) : Calls Try.prog 82 #[.int .i64 n] w (RetW (.bool b) w) := by rw [← h]; exact instantOK_any n w
theorem out_is {n : Int} {b : Bool} (h : dayB n = b) (w : World) : Calls Try.prog 84 #[.int .i64 n] w (RetW (.bool (!b)) w) := by rw [← h]; exact out_any n w
theorem take_snoc (s : ByteArray) (k : Nat) (h : k < s.size) : s.data.toList.take (k + 1) = s.data.toList.take k ++ [s[k]] := by
  rw [List.take_succ_eq_append_getElem (by simpa using h)]; rfl

theorem nameChars_bad (s : ByteArray) (k : Nat) (h : k < s.size) (hb : (lowB s[k] || digB s[k]) = false) : nameChars s.data.toList = false := by
  unfold nameChars
  rw [List.all_eq_false]
  exact ⟨s[k], List.getElem_mem (l := s.data.toList) (by simpa using h), by rw [hb]; simp⟩
theorem nameChars_snoc (s : ByteArray) (k : Nat) (h : k < s.size) (hb : (lowB s[k] || digB s[k]) = true) (hp : nameChars (s.data.toList.take k) = true) : nameChars (s.data.toList.take (k + 1)) = true := by
  rw [take_snoc s k h]
  unfold nameChars at hp ⊢
  rw [List.all_append, hp]
  simp [hb]
theorem head_of (s : ByteArray) (h : 0 < s.size) : ∃ r, s.data.toList = s[0] :: r := by
  have := List.drop_eq_getElem_cons (l := s.data.toList) (i := 0) (by simpa using h)
  exact ⟨_, this⟩
theorem nameB_first (s : ByteArray) (h : 0 < s.size) (hc : lowB s[0] = false) : nameB s.data.toList = false := by
  obtain ⟨r, hr⟩ := head_of s h
  unfold nameB
  rw [hr]
  simp only [hc]
  simp
theorem nameB_good (s : ByteArray) (h : 0 < s.size) (hl : s.size ≤ 16) (hc : lowB s[0] = true) (ha : nameChars s.data.toList = true) : nameB s.data.toList = true := by
  obtain ⟨r, hr⟩ := head_of s h
  have hlen : s.data.toList.length = s.size := by simp
  unfold nameB
  rw [ha, hlen]
  rw [hr]
  simp only [hc]
  simp; omega
theorem nameB_long (s : ByteArray) (hl : ¬ s.size ≤ 16) : nameB s.data.toList = false := by
  have hlen : s.data.toList.length = s.size := by simp
  unfold nameB
  rw [hlen]
  simp; omega
theorem nameB_empty (s : ByteArray) (hl : s.size = 0) : nameB s.data.toList = false := by
  have hlen : s.data.toList.length = s.size := by simp
  unfold nameB
  rw [hlen]
  simp; omega
theorem nameB_chars (s : ByteArray) (hc : nameChars s.data.toList = false) : nameB s.data.toList = false := by
  unfold nameB
  rw [hc]
  simp

set_option maxHeartbeats 400000 in
theorem usable_any (s : ByteArray) (w : World) (hs : s.size ≤ maxLen) : Calls Try.prog 85 #[.string s] w (RetW (.bool (nameB s.data.toList)) w) := by
  unfold maxLen at hs
  by_cases h0 : s.size = 0
  · rw [nameB_empty s h0]
    go_enter Try.func85, Try.ntmps85
    go_wp2
    go_ret
    exact ⟨rfl, rfl⟩
  · have hpos : 0 < s.size := by omega
    have hne : ((s.size : Int) == 0) = false := beq_eq_false_iff_ne.2 (by omega)
    clear h0
    by_cases hl : s.size ≤ 16
    · go_enter Try.func85, Try.ntmps85
      go_wp2
      · go_ret
        refine ⟨ret_bool ?_, rfl⟩
        rw [nameB_first s hpos (by unfold lowB; simp; omega)]
      · have hc0 : lowB s[0] = true := by unfold lowB; simp; omega
        go_loop [3, 24] (fun _ i => ∃ k : Nat, k ≤ s.size ∧ i = .int .i64 k ∧ nameChars (s.data.toList.take k) = true) (fun _ i => s.size - (intOf i).toNat)
        case atStart => exact ⟨0, Nat.zero_le _, rfl, rfl⟩
        case round =>
          obtain ⟨k, hk, rfl, hp⟩ := hrel
          have HP := Lib.hid hp
          clear hp
          by_cases hlt : k < s.size
          · go_wp2
            all_goals first
              | (go_ret; exact ⟨ret_bool (nameB_chars s (nameChars_bad s k hlt (by unfold lowB digB; simp; omega))).symm, rfl⟩)
              | (go_round; (case rel => exact ⟨k + 1, by omega, by go_num, nameChars_snoc s k hlt (by unfold lowB digB; simp; omega) HP.out⟩); (case measure => simp [intOf]; omega))
          · go_wp2
            go_ret
            refine ⟨ret_bool ?_, rfl⟩
            rw [nameB_good s hpos hl hc0 (by have := HP.out; rwa [List.take_of_length_le (by simp; omega)] at this)]
      · go_ret
        refine ⟨ret_bool ?_, rfl⟩
        rw [nameB_first s hpos (by unfold lowB; simp; omega)]
    · rw [nameB_long s hl]
      go_enter Try.func85, Try.ntmps85
      go_wp2
      go_ret
      exact ⟨rfl, rfl⟩

theorem nameB_digit (s : ByteArray) (h : 0 < s.size) (hc : digB s[0] = true) : nameB s.data.toList = false := by
  refine nameB_first s h ?_
  unfold digB at hc
  unfold lowB
  simp at hc ⊢
  omega
theorem low_of (s : ByteArray) (h : 0 < s.size) (hc : digB s[0] = false) (ha : nameChars s.data.toList = true) : lowB s[0] = true := by
  unfold nameChars at ha
  rw [List.all_eq_true] at ha
  have := ha s[0] (List.getElem_mem (l := s.data.toList) (by simpa using h))
  simpa [hc] using this

set_option maxHeartbeats 400000 in
theorem refUsable_any (s : ByteArray) (w : World) (hs : s.size ≤ maxLen) : Calls Try.prog 87 #[.string s] w (RetW (.bool (nameB s.data.toList)) w) := by
  unfold maxLen at hs
  by_cases h0 : s.size = 0
  · rw [nameB_empty s h0]
    go_enter Try.func87, Try.ntmps87
    go_wp2
    go_ret
    exact ⟨rfl, rfl⟩
  · have hpos : 0 < s.size := by omega
    clear h0
    by_cases hl : s.size ≤ 16
    · cases hd : digB s[0]
      · have hdd : ¬ (48 ≤ (s[0].toNat : Int)) ∨ ¬ ((s[0].toNat : Int) ≤ 57) := by unfold digB at hd; simp at hd; omega
        rcases hdd with hdd | hdd
        all_goals
          go_enter Try.func87, Try.ntmps87
          go_wp2
          go_loop [3] (fun i => ∃ k : Nat, k ≤ s.size ∧ i = .int .i64 k ∧ nameChars (s.data.toList.take k) = true) (fun i => s.size - (intOf i).toNat)
          case atStart => exact ⟨0, Nat.zero_le _, rfl, rfl⟩
          case round =>
            obtain ⟨k, hk, rfl, hp⟩ := hrel
            have HP := Lib.hid hp
            clear hp
            by_cases hlt : k < s.size
            · go_wp2
              all_goals first
                | (go_ret; exact ⟨ret_bool (nameB_chars s (nameChars_bad s k hlt (by unfold lowB digB; simp; omega))).symm, rfl⟩)
                | (go_round; (case rel => exact ⟨k + 1, by omega, by go_num, nameChars_snoc s k hlt (by unfold lowB digB; simp; omega) HP.out⟩); (case measure => simp [intOf]; omega))
            · go_wp2
              go_ret
              refine ⟨ret_bool ?_, rfl⟩
              have ha : nameChars s.data.toList = true := by have := HP.out; rwa [List.take_of_length_le (by simp; omega)] at this
              rw [nameB_good s hpos hl (low_of s hpos hd ha) ha]
      · rw [nameB_digit s hpos hd]
        have hd1 : 48 ≤ (s[0].toNat : Int) := by unfold digB at hd; simp at hd; omega
        have hd2 : (s[0].toNat : Int) ≤ 57 := by unfold digB at hd; simp at hd; omega
        go_enter Try.func87, Try.ntmps87
        go_wp2
        go_ret
        exact ⟨rfl, rfl⟩
    · rw [nameB_long s hl]
      go_enter Try.func87, Try.ntmps87
      go_wp2
      go_ret
      exact ⟨rfl, rfl⟩
end Go.Proofs.Ytmjegmlchonlmaa
