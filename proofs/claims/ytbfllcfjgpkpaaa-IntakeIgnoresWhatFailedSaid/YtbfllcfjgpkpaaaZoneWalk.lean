/-
  The walks of the small functions of zones: usable names, possible offsets, valid zones.
  The walks of the two checks of a zone: the program's and the document's.
  The walks of the document's zone functions, and of the program's Local.
  The walk of the document's Instant.
-/
import Derived.Test.YtbfllcfjgpkpaaaPlain
import Derived.Test.YtbfllcfjgpkpaaaRows
namespace Go.Proofs.Ytbfllcfjgpkpaaa
section
open Go.RowKit

theorem possible_any (n : Int) (w : World) : Calls Try.prog 41 #[.int .i64 n] w (RetW (.bool (offB n)) w) := by
  go_enter Try.func41, Try.ntmps41
  go_wp2
  all_goals go_ret
  · exact ⟨by simp [offB, *], rfl⟩
  · exact ⟨by simp [offB]; omega, rfl⟩
theorem possible_is {n : Int} {b : Bool} (h : offB n = b) (w : World) : Calls Try.prog 41 #[.int .i64 n] w (RetW (.bool b) w) := by rw [← h]; exact possible_any n w
theorem take_snoc (s : ByteArray) (k : Nat) (h : k < s.size) : s.data.toList.take (k + 1) = s.data.toList.take k ++ [s[k]] := by
  rw [List.take_succ_eq_append_getElem (by simpa using h)]; rfl

theorem nameChars_bad (s : ByteArray) (k : Nat) (h : k < s.size) (hb : (lowB s[k] || digB s[k]) = false) : nameChars s.data.toList = false := by
  unfold nameChars
  rw [List.all_eq_false]
  exact ⟨s[k], List.getElem_mem (l := s.data.toList) (by simpa using h), by rw [hb]; simp⟩
theorem nameChars_snoc (s : ByteArray) (k : Nat) (h : k < s.size) (hb : (lowB s[k] || digB s[k]) = true) (hp : nameChars (s.data.toList.take k) = true) : nameChars (s.data.toList.take (k + 1)) = true := by
  rw [take_snoc s k h]
  unfold nameChars at hp ⊢
  rw [List.all_append, hp]
  simp [hb]
theorem head_of (s : ByteArray) (h : 0 < s.size) : ∃ r, s.data.toList = s[0] :: r := by
  have := List.drop_eq_getElem_cons (l := s.data.toList) (i := 0) (by simpa using h)
  exact ⟨_, this⟩
theorem nameB_first (s : ByteArray) (h : 0 < s.size) (hc : lowB s[0] = false) : nameB s.data.toList = false := by
  obtain ⟨r, hr⟩ := head_of s h
  unfold nameB
  rw [hr]
  simp only [hc]
  simp
theorem nameB_good (s : ByteArray) (h : 0 < s.size) (hl : s.size ≤ 16) (hc : lowB s[0] = true) (ha : nameChars s.data.toList = true) : nameB s.data.toList = true := by
  obtain ⟨r, hr⟩ := head_of s h
  have hlen : s.data.toList.length = s.size := by simp
  unfold nameB
  rw [ha, hlen]
  rw [hr]
  simp only [hc]
  simp; omega
theorem nameB_long (s : ByteArray) (hl : ¬ s.size ≤ 16) : nameB s.data.toList = false := by
  have hlen : s.data.toList.length = s.size := by simp
  unfold nameB
  rw [hlen]
  simp; omega
theorem nameB_empty (s : ByteArray) (hl : s.size = 0) : nameB s.data.toList = false := by
  have hlen : s.data.toList.length = s.size := by simp
  unfold nameB
  rw [hlen]
  simp; omega
theorem nameB_chars (s : ByteArray) (hc : nameChars s.data.toList = false) : nameB s.data.toList = false := by
  unfold nameB
  rw [hc]
  simp

set_option maxHeartbeats 400000 in
theorem usable_any (s : ByteArray) (w : World) (hs : s.size ≤ maxLen) : Calls Try.prog 40 #[.string s] w (RetW (.bool (nameB s.data.toList)) w) := by
  unfold maxLen at hs
  by_cases h0 : s.size = 0
  · rw [nameB_empty s h0]
    go_enter Try.func40, Try.ntmps40
    go_wp2
    go_ret
    exact ⟨rfl, rfl⟩
  · have hpos : 0 < s.size := by omega
    have hne : ((s.size : Int) == 0) = false := beq_eq_false_iff_ne.2 (by omega)
    clear h0
    by_cases hl : s.size ≤ 16
    · go_enter Try.func40, Try.ntmps40
      go_wp2
      · go_ret
        refine ⟨ret_bool ?_, rfl⟩
        rw [nameB_first s hpos (by unfold lowB; simp; omega)]
      · have hc0 : lowB s[0] = true := by unfold lowB; simp; omega
        go_loop [3, 24] (fun _ i => ∃ k : Nat, k ≤ s.size ∧ i = .int .i64 k ∧ nameChars (s.data.toList.take k) = true) (fun _ i => s.size - (intOf i).toNat)
        case atStart => exact ⟨0, Nat.zero_le _, rfl, rfl⟩
        case round =>
          obtain ⟨k, hk, rfl, hp⟩ := hrel
          have HP := Lib.hid hp
          clear hp
          by_cases hlt : k < s.size
          · go_wp2
            all_goals first
              | (go_ret; exact ⟨ret_bool (nameB_chars s (nameChars_bad s k hlt (by unfold lowB digB; simp; omega))).symm, rfl⟩)
              | (go_round; (case rel => exact ⟨k + 1, by omega, by go_num, nameChars_snoc s k hlt (by unfold lowB digB; simp; omega) HP.out⟩); (case measure => simp [intOf]; omega))
          · go_wp2
            go_ret
            refine ⟨ret_bool ?_, rfl⟩
            rw [nameB_good s hpos hl hc0 (by have := HP.out; rwa [List.take_of_length_le (by simp; omega)] at this)]
      · go_ret
        refine ⟨ret_bool ?_, rfl⟩
        rw [nameB_first s hpos (by unfold lowB; simp; omega)]
    · rw [nameB_long s hl]
      go_enter Try.func40, Try.ntmps40
      go_wp2
      go_ret
      exact ⟨rfl, rfl⟩

theorem nameB_digit (s : ByteArray) (h : 0 < s.size) (hc : digB s[0] = true) : nameB s.data.toList = false := by
  refine nameB_first s h ?_
  unfold digB at hc
  unfold lowB
  simp at hc ⊢
  omega
theorem low_of (s : ByteArray) (h : 0 < s.size) (hc : digB s[0] = false) (ha : nameChars s.data.toList = true) : lowB s[0] = true := by
  unfold nameChars at ha
  rw [List.all_eq_true] at ha
  have := ha s[0] (List.getElem_mem (l := s.data.toList) (by simpa using h))
  simpa [hc] using this

end
section
open Go.RowKit

set_option maxHeartbeats 400000 in
theorem zcheck_any (z : ZN) (A : Option Addr) (c : Nat) (w : World) (hz : ZAt w z A) :
    Calls Try.prog 30 #[.agg #[.string z.name, .int .i64 z.off, .slice A z.cs.length c]] w (RetB (.int .i64 z.err) w) := by
  have hs := hz.nm
  have hn := hz.ln
  unfold maxLen at hn
  cases hu : nameB z.name.data.toList
  · rw [ZN.err_name hu]
    go_enter Try.func30, Try.ntmps30
    go_wp2_with (first | (go_at_call 40; refine (usable_any _ _ hs).mono ?_; rw [hu]; rintro e w' ⟨rfl, rfl⟩))
    go_ret
    exact ⟨rfl, (Below.refl _ _).alloc (Nat.le_refl _) _⟩
  · by_cases hl : z.cs.length ≤ 400
    · cases ho : offB z.off
      · rw [ZN.err_off ho]
        go_enter Try.func30, Try.ntmps30
        go_wp2_with (first | (go_at_call 40; refine (usable_any _ _ hs).mono ?_; rw [hu]; rintro e w' ⟨rfl, rfl⟩) | (go_at_call 41; refine (possible_any _ _).mono ?_; rw [ho]; rintro e w' ⟨rfl, rfl⟩))
        go_ret
        exact ⟨rfl, (Below.refl _ _).alloc (Nat.le_refl _) _⟩
      · go_enter Try.func30, Try.ntmps30
        go_wp2_with (first | (go_at_call 40; refine (usable_any _ _ hs).mono ?_; rw [hu]; rintro e w' ⟨rfl, rfl⟩) | (go_at_call 41; refine (possible_any _ _).mono ?_; rw [ho]; rintro e w' ⟨rfl, rfl⟩))
        go_loopw [3, 25] (fun t i wr => ∃ (k : Nat) (last : Int), k ≤ z.cs.length ∧ i = .int .i64 k ∧ t = .int .i64 last ∧ chkFrom (-1) z.cs = chkFrom last (z.cs.drop k) ∧ Below w.heap.size w wr) (fun _ i _ => z.cs.length - (intOf i).toNat)
        case atStart => exact ⟨0, -1, by omega, rfl, rfl, rfl, (Below.refl _ _).alloc (Nat.le_refl _) _⟩
        case round =>
          obtain ⟨k, last, hk, rfl, rfl, hE, hB⟩ := hrel
          have HE := Lib.hid hE
          clear hE
          by_cases hlt : k < z.cs.length
          · obtain ⟨b, o, x1, x2, rfl, hb, g1, g2, hd, -⟩ := hz.at_ hB k hlt
            have hsz := hB.size
            have HD := Lib.hid hd
            clear hd hz
            cases ho1 : offB x2
            · go_wp2_with (go_at_call 41; refine (possible_any _ _).mono ?_; rw [ho1]; rintro e w' ⟨rfl, rfl⟩)
              all_goals go_ret
              all_goals (refine ⟨ret_int (ZN.err_chk ?_).symm, hB.alloc hsz _⟩; rw [HE.out, HD.out, chkFrom_cons, if_pos (by simp [ho1])])
            · go_wp2_with (go_at_call 41; refine (possible_any _ _).mono ?_; rw [ho1]; rintro e w' ⟨rfl, rfl⟩)
              all_goals first
                | (go_ret; refine ⟨ret_int (ZN.err_chk ?_).symm, hB.alloc hsz _⟩; rw [HE.out, HD.out, chkFrom_cons, if_pos (by omega)])
                | (go_roundw; (case rel => exact ⟨k + 1, x1, by omega, by go_num, rfl, by rw [HE.out, HD.out, chkFrom_cons, if_neg (by simp [ho1]; omega)], hB.alloc hsz _⟩); (case measure => simp [intOf]; omega))
          · go_wp2
            go_ret
            refine ⟨ret_int (ZN.err_ok hu hl ho ?_).symm, hB⟩
            rw [HE.out, List.drop_of_length_le (by omega)]
            rfl
    · rw [ZN.err_len hl]
      go_enter Try.func30, Try.ntmps30
      go_wp2_with (first | (go_at_call 40; refine (usable_any _ _ hs).mono ?_; rw [hu]; rintro e w' ⟨rfl, rfl⟩))
      go_ret
      exact ⟨rfl, (Below.refl _ _).alloc (Nat.le_refl _) _⟩

/-- The document's loop: from place k on, the last change but one being at 'last'. -/
theorem chk_bad (z : ZN) (k : Nat) (last x1 x2 : Int) (hE : chkFrom (-1) z.cs = chkFrom last (z.cs.drop k)) (hd : z.cs.drop k = (x1, x2) :: z.cs.drop (k + 1)) (h : x1 ≤ last ∨ 105190559 < x1 ∨ offB x2 = false) : z.err = 70 := by
  refine ZN.err_chk ?_
  rw [hE, hd, chkFrom_cons, if_pos h]

theorem chkAt {cs : List (Int × Int)} {k : Nat} {x : Int × Int} (h : cs.drop k = x :: cs.drop (k + 1)) : cs[k]? = some x := by
  have := List.getElem?_drop (xs := cs) (i := k) (j := 0)
  rw [h] at this
  simpa using this.symm

theorem zcheck_is {z : ZN} {e : Int} (h : z.err = e) (A : Option Addr) (c : Nat) (w : World) (hz : ZAt w z A) :
    Calls Try.prog 30 #[.agg #[.string z.name, .int .i64 z.off, .slice A z.cs.length c]] w (RetB (.int .i64 e) w) := by rw [← h]; exact zcheck_any z A c w hz
end
section
open Go.RowKit

end
section
open Go.RowKit

theorem inst_lt {f o l a p t : Int} {r : List (Int × Int)} (ht : t = max f (l - o)) (h : t < a) : instFrom f o ((a, p) :: r) l = some t := by
  rw [instFrom_cons, ← ht, if_pos h]
theorem inst_ge {f o l a p t : Int} {r : List (Int × Int)} (ht : t = max f (l - o)) (h : a ≤ t) : instFrom f o ((a, p) :: r) l = instFrom a p r l := by
  rw [instFrom_cons, ← ht, if_neg (by omega)]
theorem inst_nil_lt {f o l t : Int} (ht : t = max f (l - o)) (h : t < 105190560) : instFrom f o [] l = some t := by
  rw [instFrom_nil, ← ht, if_pos h]
theorem inst_nil_ge {f o l t : Int} (ht : t = max f (l - o)) (h : 105190560 ≤ t) : instFrom f o [] l = none := by
  rw [instFrom_nil, ← ht, if_neg (by omega)]

end
end Go.Proofs.Ytbfllcfjgpkpaaa
