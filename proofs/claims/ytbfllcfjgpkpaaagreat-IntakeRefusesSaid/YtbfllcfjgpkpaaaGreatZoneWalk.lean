/-
  The walks of the small functions of zones: usable names, possible offsets, valid zones.
  The walks of the two checks of a zone: the program's and the document's.
  The walks of the document's zone functions, and of the program's Local.
  The walk of the document's Instant.
-/
import Derived.Test.YtbfllcfjgpkpaaaGreatPlain
import Derived.Test.YtbfllcfjgpkpaaaGreatRows
namespace Go.Proofs.YtbfllcfjgpkpaaaGreat
section
open Go.RowKit

theorem possible_any (n : Int) (w : World) : Calls Tryz.prog 68 #[.int .i64 n] w (RetW (.bool (offB n)) w) := by
  go_enter Tryz.func68, Tryz.ntmps68
  go_wp2
  all_goals go_ret
  · exact ⟨by simp [offB, *], rfl⟩
  · exact ⟨by simp [offB]; omega, rfl⟩
theorem offsetOK_any (n : Int) (w : World) : Calls Tryz.prog 87 #[.int .i64 n] w (RetW (.bool (offB n)) w) := by
  go_enter Tryz.func87, Tryz.ntmps87
  go_wp2
  all_goals go_ret
  · exact ⟨by simp [offB, *], rfl⟩
  · exact ⟨by simp [offB]; omega, rfl⟩
theorem instantOK_any (n : Int) (w : World) : Calls Tryz.prog 88 #[.int .i64 n] w (RetW (.bool (instB n)) w) := by
  go_enter Tryz.func88, Tryz.ntmps88
  go_wp2
  all_goals go_ret
  · exact ⟨by simp [instB, *], rfl⟩
  · exact ⟨by simp [instB]; omega, rfl⟩
theorem out_any (n : Int) (w : World) : Calls Tryz.prog 89 #[.int .i64 n] w (RetW (.bool (!dayB n)) w) := by
  go_enter Tryz.func89, Tryz.ntmps89
  go_wp2
  all_goals go_ret
  all_goals (refine ⟨ret_bool ?_, rfl⟩; unfold dayB; rw [Bool.eq_iff_iff]; simp; try omega)

theorem possible_is {n : Int} {b : Bool} (h : offB n = b) (w : World) : Calls Tryz.prog 68 #[.int .i64 n] w (RetW (.bool b) w) := by rw [← h]; exact possible_any n w
theorem offsetOK_is {n : Int} {b : Bool} (h : offB n = b) (w : World) : Calls Tryz.prog 87 #[.int .i64 n] w (RetW (.bool b) w) := by rw [← h]; exact offsetOK_any n w
theorem instantOK_is {n : Int} {b : Bool} (h : instB n = b) (w : World) : Calls Tryz.prog 88 #[.int .i64 n] w (RetW (.bool b) w) := by rw [← h]; exact instantOK_any n w
theorem out_is {n : Int} {b : Bool} (h : dayB n = b) (w : World) : Calls Tryz.prog 89 #[.int .i64 n] w (RetW (.bool (!b)) w) := by rw [← h]; exact out_any n w
theorem take_snoc (s : ByteArray) (k : Nat) (h : k < s.size) : s.data.toList.take (k + 1) = s.data.toList.take k ++ [s[k]] := by
  rw [List.take_succ_eq_append_getElem (by simpa using h)]; rfl

theorem nameChars_bad (s : ByteArray) (k : Nat) (h : k < s.size) (hb : (lowB s[k] || digB s[k]) = false) : nameChars s.data.toList = false := by
  unfold nameChars
  rw [List.all_eq_false]
  exact ⟨s[k], List.getElem_mem (l := s.data.toList) (by simpa using h), by rw [hb]; simp⟩
theorem nameChars_snoc (s : ByteArray) (k : Nat) (h : k < s.size) (hb : (lowB s[k] || digB s[k]) = true) (hp : nameChars (s.data.toList.take k) = true) : nameChars (s.data.toList.take (k + 1)) = true := by
  rw [take_snoc s k h]
  unfold nameChars at hp ⊢
  rw [List.all_append, hp]
  simp [hb]
theorem head_of (s : ByteArray) (h : 0 < s.size) : ∃ r, s.data.toList = s[0] :: r := by
  have := List.drop_eq_getElem_cons (l := s.data.toList) (i := 0) (by simpa using h)
  exact ⟨_, this⟩
theorem nameB_first (s : ByteArray) (h : 0 < s.size) (hc : lowB s[0] = false) : nameB s.data.toList = false := by
  obtain ⟨r, hr⟩ := head_of s h
  unfold nameB
  rw [hr]
  simp only [hc]
  simp
theorem nameB_good (s : ByteArray) (h : 0 < s.size) (hl : s.size ≤ 16) (hc : lowB s[0] = true) (ha : nameChars s.data.toList = true) : nameB s.data.toList = true := by
  obtain ⟨r, hr⟩ := head_of s h
  have hlen : s.data.toList.length = s.size := by simp
  unfold nameB
  rw [ha, hlen]
  rw [hr]
  simp only [hc]
  simp; omega
theorem nameB_long (s : ByteArray) (hl : ¬ s.size ≤ 16) : nameB s.data.toList = false := by
  have hlen : s.data.toList.length = s.size := by simp
  unfold nameB
  rw [hlen]
  simp; omega
theorem nameB_empty (s : ByteArray) (hl : s.size = 0) : nameB s.data.toList = false := by
  have hlen : s.data.toList.length = s.size := by simp
  unfold nameB
  rw [hlen]
  simp; omega
theorem nameB_chars (s : ByteArray) (hc : nameChars s.data.toList = false) : nameB s.data.toList = false := by
  unfold nameB
  rw [hc]
  simp

set_option maxHeartbeats 400000 in
theorem usable_any (s : ByteArray) (w : World) (hs : s.size ≤ maxLen) : Calls Tryz.prog 67 #[.string s] w (RetW (.bool (nameB s.data.toList)) w) := by
  unfold maxLen at hs
  by_cases h0 : s.size = 0
  · rw [nameB_empty s h0]
    go_enter Tryz.func67, Tryz.ntmps67
    go_wp2
    go_ret
    exact ⟨rfl, rfl⟩
  · have hpos : 0 < s.size := by omega
    have hne : ((s.size : Int) == 0) = false := beq_eq_false_iff_ne.2 (by omega)
    clear h0
    by_cases hl : s.size ≤ 16
    · go_enter Tryz.func67, Tryz.ntmps67
      go_wp2
      · go_ret
        refine ⟨ret_bool ?_, rfl⟩
        rw [nameB_first s hpos (by unfold lowB; simp; omega)]
      · have hc0 : lowB s[0] = true := by unfold lowB; simp; omega
        go_loop [3, 24] (fun _ i => ∃ k : Nat, k ≤ s.size ∧ i = .int .i64 k ∧ nameChars (s.data.toList.take k) = true) (fun _ i => s.size - (intOf i).toNat)
        case atStart => exact ⟨0, Nat.zero_le _, rfl, rfl⟩
        case round =>
          obtain ⟨k, hk, rfl, hp⟩ := hrel
          have HP := Lib.hid hp
          clear hp
          by_cases hlt : k < s.size
          · go_wp2
            all_goals first
              | (go_ret; exact ⟨ret_bool (nameB_chars s (nameChars_bad s k hlt (by unfold lowB digB; simp; omega))).symm, rfl⟩)
              | (go_round; (case rel => exact ⟨k + 1, by omega, by go_num, nameChars_snoc s k hlt (by unfold lowB digB; simp; omega) HP.out⟩); (case measure => simp [intOf]; omega))
          · go_wp2
            go_ret
            refine ⟨ret_bool ?_, rfl⟩
            rw [nameB_good s hpos hl hc0 (by have := HP.out; rwa [List.take_of_length_le (by simp; omega)] at this)]
      · go_ret
        refine ⟨ret_bool ?_, rfl⟩
        rw [nameB_first s hpos (by unfold lowB; simp; omega)]
    · rw [nameB_long s hl]
      go_enter Tryz.func67, Tryz.ntmps67
      go_wp2
      go_ret
      exact ⟨rfl, rfl⟩

theorem nameB_digit (s : ByteArray) (h : 0 < s.size) (hc : digB s[0] = true) : nameB s.data.toList = false := by
  refine nameB_first s h ?_
  unfold digB at hc
  unfold lowB
  simp at hc ⊢
  omega
theorem low_of (s : ByteArray) (h : 0 < s.size) (hc : digB s[0] = false) (ha : nameChars s.data.toList = true) : lowB s[0] = true := by
  unfold nameChars at ha
  rw [List.all_eq_true] at ha
  have := ha s[0] (List.getElem_mem (l := s.data.toList) (by simpa using h))
  simpa [hc] using this

set_option maxHeartbeats 400000 in
theorem refUsable_any (s : ByteArray) (w : World) (hs : s.size ≤ maxLen) : Calls Tryz.prog 86 #[.string s] w (RetW (.bool (nameB s.data.toList)) w) := by
  unfold maxLen at hs
  by_cases h0 : s.size = 0
  · rw [nameB_empty s h0]
    go_enter Tryz.func86, Tryz.ntmps86
    go_wp2
    go_ret
    exact ⟨rfl, rfl⟩
  · have hpos : 0 < s.size := by omega
    clear h0
    by_cases hl : s.size ≤ 16
    · cases hd : digB s[0]
      · have hdd : ¬ (48 ≤ (s[0].toNat : Int)) ∨ ¬ ((s[0].toNat : Int) ≤ 57) := by unfold digB at hd; simp at hd; omega
        rcases hdd with hdd | hdd
        all_goals
          go_enter Tryz.func86, Tryz.ntmps86
          go_wp2
          go_loop [3] (fun i => ∃ k : Nat, k ≤ s.size ∧ i = .int .i64 k ∧ nameChars (s.data.toList.take k) = true) (fun i => s.size - (intOf i).toNat)
          case atStart => exact ⟨0, Nat.zero_le _, rfl, rfl⟩
          case round =>
            obtain ⟨k, hk, rfl, hp⟩ := hrel
            have HP := Lib.hid hp
            clear hp
            by_cases hlt : k < s.size
            · go_wp2
              all_goals first
                | (go_ret; exact ⟨ret_bool (nameB_chars s (nameChars_bad s k hlt (by unfold lowB digB; simp; omega))).symm, rfl⟩)
                | (go_round; (case rel => exact ⟨k + 1, by omega, by go_num, nameChars_snoc s k hlt (by unfold lowB digB; simp; omega) HP.out⟩); (case measure => simp [intOf]; omega))
            · go_wp2
              go_ret
              refine ⟨ret_bool ?_, rfl⟩
              have ha : nameChars s.data.toList = true := by have := HP.out; rwa [List.take_of_length_le (by simp; omega)] at this
              rw [nameB_good s hpos hl (low_of s hpos hd ha) ha]
      · rw [nameB_digit s hpos hd]
        have hd1 : 48 ≤ (s[0].toNat : Int) := by unfold digB at hd; simp at hd; omega
        have hd2 : (s[0].toNat : Int) ≤ 57 := by unfold digB at hd; simp at hd; omega
        go_enter Tryz.func86, Tryz.ntmps86
        go_wp2
        go_ret
        exact ⟨rfl, rfl⟩
    · rw [nameB_long s hl]
      go_enter Tryz.func86, Tryz.ntmps86
      go_wp2
      go_ret
      exact ⟨rfl, rfl⟩
end
section
open Go.RowKit

set_option maxHeartbeats 400000 in
theorem zcheck_any (z : ZN) (A : Option Addr) (c : Nat) (w : World) (hz : ZAt w z A) :
    Calls Tryz.prog 42 #[.agg #[.string z.name, .int .i64 z.off, .slice A z.cs.length c]] w (RetB (.int .i64 z.err) w) := by
  have hs := hz.nm
  have hn := hz.ln
  unfold maxLen at hn
  cases hu : nameB z.name.data.toList
  · rw [ZN.err_name hu]
    go_enter Tryz.func42, Tryz.ntmps42
    go_wp2_with (first | (go_at_call 67; refine (usable_any _ _ hs).mono ?_; rw [hu]; rintro e w' ⟨rfl, rfl⟩))
    go_ret
    exact ⟨rfl, (Below.refl _ _).alloc (Nat.le_refl _) _⟩
  · by_cases hl : z.cs.length ≤ 400
    · cases ho : offB z.off
      · rw [ZN.err_off ho]
        go_enter Tryz.func42, Tryz.ntmps42
        go_wp2_with (first | (go_at_call 67; refine (usable_any _ _ hs).mono ?_; rw [hu]; rintro e w' ⟨rfl, rfl⟩) | (go_at_call 68; refine (possible_any _ _).mono ?_; rw [ho]; rintro e w' ⟨rfl, rfl⟩))
        go_ret
        exact ⟨rfl, (Below.refl _ _).alloc (Nat.le_refl _) _⟩
      · go_enter Tryz.func42, Tryz.ntmps42
        go_wp2_with (first | (go_at_call 67; refine (usable_any _ _ hs).mono ?_; rw [hu]; rintro e w' ⟨rfl, rfl⟩) | (go_at_call 68; refine (possible_any _ _).mono ?_; rw [ho]; rintro e w' ⟨rfl, rfl⟩))
        go_loopw [3, 25] (fun t i wr => ∃ (k : Nat) (last : Int), k ≤ z.cs.length ∧ i = .int .i64 k ∧ t = .int .i64 last ∧ chkFrom (-1) z.cs = chkFrom last (z.cs.drop k) ∧ Below w.heap.size w wr) (fun _ i _ => z.cs.length - (intOf i).toNat)
        case atStart => exact ⟨0, -1, by omega, rfl, rfl, rfl, (Below.refl _ _).alloc (Nat.le_refl _) _⟩
        case round =>
          obtain ⟨k, last, hk, rfl, rfl, hE, hB⟩ := hrel
          have HE := Lib.hid hE
          clear hE
          by_cases hlt : k < z.cs.length
          · obtain ⟨b, o, x1, x2, rfl, hb, g1, g2, hd, -⟩ := hz.at_ hB k hlt
            have hsz := hB.size
            have HD := Lib.hid hd
            clear hd hz
            cases ho1 : offB x2
            · go_wp2_with (go_at_call 68; refine (possible_any _ _).mono ?_; rw [ho1]; rintro e w' ⟨rfl, rfl⟩)
              all_goals go_ret
              all_goals (refine ⟨ret_int (ZN.err_chk ?_).symm, hB.alloc hsz _⟩; rw [HE.out, HD.out, chkFrom_cons, if_pos (by simp [ho1])])
            · go_wp2_with (go_at_call 68; refine (possible_any _ _).mono ?_; rw [ho1]; rintro e w' ⟨rfl, rfl⟩)
              all_goals first
                | (go_ret; refine ⟨ret_int (ZN.err_chk ?_).symm, hB.alloc hsz _⟩; rw [HE.out, HD.out, chkFrom_cons, if_pos (by omega)])
                | (go_roundw; (case rel => exact ⟨k + 1, x1, by omega, by go_num, rfl, by rw [HE.out, HD.out, chkFrom_cons, if_neg (by simp [ho1]; omega)], hB.alloc hsz _⟩); (case measure => simp [intOf]; omega))
          · go_wp2
            go_ret
            refine ⟨ret_int (ZN.err_ok hu hl ho ?_).symm, hB⟩
            rw [HE.out, List.drop_of_length_le (by omega)]
            rfl
    · rw [ZN.err_len hl]
      go_enter Tryz.func42, Tryz.ntmps42
      go_wp2_with (first | (go_at_call 67; refine (usable_any _ _ hs).mono ?_; rw [hu]; rintro e w' ⟨rfl, rfl⟩))
      go_ret
      exact ⟨rfl, (Below.refl _ _).alloc (Nat.le_refl _) _⟩

/-- The document's loop: from place k on, the last change but one being at 'last'. -/
theorem chk_bad (z : ZN) (k : Nat) (last x1 x2 : Int) (hE : chkFrom (-1) z.cs = chkFrom last (z.cs.drop k)) (hd : z.cs.drop k = (x1, x2) :: z.cs.drop (k + 1)) (h : x1 ≤ last ∨ 105190559 < x1 ∨ offB x2 = false) : z.err = 70 := by
  refine ZN.err_chk ?_
  rw [hE, hd, chkFrom_cons, if_pos h]

theorem chkAt {cs : List (Int × Int)} {k : Nat} {x : Int × Int} (h : cs.drop k = x :: cs.drop (k + 1)) : cs[k]? = some x := by
  have := List.getElem?_drop (xs := cs) (i := k) (j := 0)
  rw [h] at this
  simpa using this.symm

set_option maxHeartbeats 1000000 in
theorem refCheck_any (z : ZN) (A : Option Addr) (c : Nat) (w : World) (hz : ZAt w z A) :
    Calls Tryz.prog 56 #[.agg #[.string z.name, .int .i64 z.off, .slice A z.cs.length c]] w (RetB (.int .i64 z.err) w) := by
  have hs := hz.nm
  have hn := hz.ln
  unfold maxLen at hn
  cases hu : nameB z.name.data.toList
  · rw [ZN.err_name hu]
    go_enter Tryz.func56, Tryz.ntmps56
    go_wp2_with (first | (go_at_call 86; refine (refUsable_any _ _ hs).mono ?_; rw [hu]; rintro e w' ⟨rfl, rfl⟩))
    go_ret
    exact ⟨rfl, (Below.refl _ _).alloc (Nat.le_refl _) _⟩
  · cases ho : offB z.off
    · rw [ZN.err_off ho]
      go_enter Tryz.func56, Tryz.ntmps56
      go_wp2_with (first | (go_at_call 86; refine (refUsable_any _ _ hs).mono ?_; rw [hu]; rintro e w' ⟨rfl, rfl⟩) | (go_at_call 87; refine (offsetOK_any _ _).mono ?_; rw [ho]; rintro e w' ⟨rfl, rfl⟩))
      go_ret
      exact ⟨rfl, (Below.refl _ _).alloc (Nat.le_refl _) _⟩
    · by_cases hl : z.cs.length ≤ 400
      · go_enter Tryz.func56, Tryz.ntmps56
        go_wp2_with (first | (go_at_call 86; refine (refUsable_any _ _ hs).mono ?_; rw [hu]; rintro e w' ⟨rfl, rfl⟩) | (go_at_call 87; refine (offsetOK_any _ _).mono ?_; rw [ho]; rintro e w' ⟨rfl, rfl⟩))
        go_loopw [3] (fun i wr => ∃ (k : Nat) (last : Int), k ≤ z.cs.length ∧ i = .int .i64 k ∧ (k = 0 → last = -1) ∧ (∀ j, k = j + 1 → (z.cs.getD j (0, 0)).1 = last) ∧ -1 ≤ last ∧ chkFrom (-1) z.cs = chkFrom last (z.cs.drop k) ∧ Below (w.heap.size + 1) (w.alloc (.cells #[.string z.name, .int .i64 z.off, .slice A z.cs.length c] 32)) wr) (fun i _ => z.cs.length - (intOf i).toNat)
        case atStart => exact ⟨0, -1, by omega, rfl, fun _ => rfl, fun j h => by omega, by omega, rfl, Below.refl _ _⟩
        case round =>
          obtain ⟨k, last, hk, rfl, h0, hj, hl0, hE, hB⟩ := hrel
          have HE := Lib.hid hE
          have H0 := Lib.hid h0
          have HJ := Lib.hid hj
          have hlo := Lib.hid hl0
          clear hE h0 hj hl0
          have hBw : Below w.heap.size w wr := ((Below.refl _ _).alloc (Nat.le_refl _) _).trans (hB.mono (by omega))
          have c0 := (bcell hB w.heap.size 0 (by omega))
          have c1 := (bcell hB w.heap.size 1 (by omega))
          have c2 := (bcell hB w.heap.size 2 (by omega))
          simp at c0 c1 c2
          have hsz := hB.size
          simp at hsz
          by_cases hlt : k < z.cs.length
          · obtain ⟨b, o, x1, x2, hA, hb, g1, g2, hd, -⟩ := hz.at_ hBw k hlt
            have HD := Lib.hid hd
            clear hd
            subst hA
            have hszw := hBw.size
            have hszl : w.heap.size < wr.heap.size := by omega
            have hbl : b < wr.heap.size := by omega
            cases ho1 : offB x2
            · clear hz
              go_wp2
              go_quiet ((go_at_call 87; exact quietW (offsetOK_is ho1 _)))
              go_wp2
              go_ret
              exact ⟨ret_int (chk_bad z k last x1 x2 HE.out HD.out (by simp [ho1])).symm, below_drewN (hBw.alloc hszw _) _⟩
            · cases hi1 : instB x1
              · clear hz
                go_wp2
                go_quiet ((first | (go_at_call 87; exact quietW (offsetOK_is ho1 _)) | (go_at_call 88; exact quietW (instantOK_is hi1 _))))
                go_wp2
                go_ret
                refine ⟨ret_int (chk_bad z k last x1 x2 HE.out HD.out ?_).symm, below_drewN (hBw.alloc hszw _) _⟩
                have hlast : -1 ≤ last := hlo.out
                unfold instB at hi1
                simp at hi1
                omega
              · have hi2 : 0 ≤ x1 := by unfold instB at hi1; simp at hi1; omega
                have hi3 : x1 ≤ 105190559 := by unfold instB at hi1; simp at hi1; omega
                by_cases hk0 : k = 0
                · have hkb : decide (0 < k) = false := by simp [hk0]
                  have HK := Lib.hid hk0
                  clear hk0 hz
                  go_wp2
                  go_quiet ((first | (go_at_call 87; exact quietW (offsetOK_is ho1 _)) | (go_at_call 88; exact quietW (instantOK_is hi1 _))))
                  go_wp2
                  go_roundw
                  case rel => exact ⟨k + 1, x1, by omega, by go_num, fun h => by omega, fun j h => by (obtain rfl : j = k := by omega); simp [List.getD, chkAt HD.out], by omega, by rw [HE.out, HD.out, chkFrom_cons, if_neg (by simp [ho1, H0.out HK.out]; omega)], below_drewN (hB.alloc (by omega) _) _⟩
                  case measure => simp [intOf]; omega
                · obtain ⟨j, rfl⟩ : ∃ j, k = j + 1 := ⟨k - 1, by omega⟩
                  clear hk0
                  obtain ⟨b', o', y1, y2, hA', hb', g1', g2', hd', hgd⟩ := hz.at_ hBw j (by omega)
                  obtain ⟨rfl, rfl⟩ : b' = b ∧ o' = o := by injection hA' with h; injection h with h1 h2; exact ⟨h1.symm, h2.symm⟩
                  have hy : y1 = last := by rw [← HJ.out j rfl, hgd]
                  have HY := Lib.hid hy
                  clear hy hd' hgd hA' hz g2'
                  go_wp2
                  go_quiet ((first | (go_at_call 87; exact quietW (offsetOK_is ho1 _)) | (go_at_call 88; exact quietW (instantOK_is hi1 _))))
                  go_wp2
                  · go_ret
                    exact ⟨ret_int (chk_bad z _ last x1 x2 HE.out HD.out (by have := HY.out; omega)).symm, below_drewN (hBw.alloc hszw _) _⟩
                  · go_roundw
                    case rel => exact ⟨j + 1 + 1, x1, by omega, by go_num, fun h => by omega, fun i h => by (obtain rfl : i = j + 1 := by omega); simp [List.getD, chkAt HD.out], by omega, by rw [HE.out, HD.out, chkFrom_cons, if_neg (by have := HY.out; simp [ho1]; omega)], below_drewN (hB.alloc (by omega) _) _⟩
                    case measure => simp [intOf]; omega
          · go_wp2
            go_ret
            refine ⟨ret_int (ZN.err_ok hu hl ho ?_).symm, hBw⟩
            rw [HE.out, List.drop_of_length_le (by omega)]
            rfl
      · rw [ZN.err_len hl]
        go_enter Tryz.func56, Tryz.ntmps56
        go_wp2_with (first | (go_at_call 86; refine (refUsable_any _ _ hs).mono ?_; rw [hu]; rintro e w' ⟨rfl, rfl⟩) | (go_at_call 87; refine (offsetOK_any _ _).mono ?_; rw [ho]; rintro e w' ⟨rfl, rfl⟩))
        go_ret
        exact ⟨rfl, (Below.refl _ _).alloc (Nat.le_refl _) _⟩

theorem zcheck_is {z : ZN} {e : Int} (h : z.err = e) (A : Option Addr) (c : Nat) (w : World) (hz : ZAt w z A) :
    Calls Tryz.prog 42 #[.agg #[.string z.name, .int .i64 z.off, .slice A z.cs.length c]] w (RetB (.int .i64 e) w) := by rw [← h]; exact zcheck_any z A c w hz
theorem refCheck_is {z : ZN} {e : Int} (h : z.err = e) (A : Option Addr) (c : Nat) (w : World) (hz : ZAt w z A) :
    Calls Tryz.prog 56 #[.agg #[.string z.name, .int .i64 z.off, .slice A z.cs.length c]] w (RetB (.int .i64 e) w) := by rw [← h]; exact refCheck_any z A c w hz
end
section
open Go.RowKit

end
section
open Go.RowKit

theorem inst_lt {f o l a p t : Int} {r : List (Int × Int)} (ht : t = max f (l - o)) (h : t < a) : instFrom f o ((a, p) :: r) l = some t := by
  rw [instFrom_cons, ← ht, if_pos h]
theorem inst_ge {f o l a p t : Int} {r : List (Int × Int)} (ht : t = max f (l - o)) (h : a ≤ t) : instFrom f o ((a, p) :: r) l = instFrom a p r l := by
  rw [instFrom_cons, ← ht, if_neg (by omega)]
theorem inst_nil_lt {f o l t : Int} (ht : t = max f (l - o)) (h : t < 105190560) : instFrom f o [] l = some t := by
  rw [instFrom_nil, ← ht, if_pos h]
theorem inst_nil_ge {f o l t : Int} (ht : t = max f (l - o)) (h : 105190560 ≤ t) : instFrom f o [] l = none := by
  rw [instFrom_nil, ← ht, if_neg (by omega)]

set_option maxHeartbeats 1000000 in
theorem refInstant_any (z : ZN) (A : Option Addr) (c : Nat) (d m : Int) (w : World) (hz : ZAt w z A) :
    Calls Tryz.prog 62 #[.agg #[.string z.name, .int .i64 z.off, .slice A z.cs.length c], .int .i64 d, .int .i64 m] w (RetB (.tuple #[.int .i64 (z.instV d m), .int .i64 (z.instE d m)]) w) := by
  have hz1 : ZAt (w.alloc (.cells #[.string z.name, .int .i64 z.off, .slice A z.cs.length c] 32)) z A := hz.below (bal0 _ _)
  have hw1 : Below w.heap.size w (w.alloc (.cells #[.string z.name, .int .i64 z.off, .slice A z.cs.length c] 32)) := bal0 _ _
  cases ho : z.ok
  · obtain ⟨e1, e2⟩ := ZN.inst_zone ho d m
    rw [e1, e2]
    clear e1 e2
    go_enter Tryz.func62, Tryz.ntmps62
    go_wp2_with (go_at_call 56; refine (refCheck_is (ZN.err_of_bad ho) A c _ hz1).mono ?_; rintro e w' ⟨rfl, hb⟩)
    go_ret2
    exact ⟨rfl, bnext hw1 hb⟩
  · cases hd : dayB d
    · obtain ⟨e1, e2⟩ := ZN.inst_day ho hd m
      rw [e1, e2]
      clear e1 e2
      go_enter Tryz.func62, Tryz.ntmps62
      go_wp2_with (first | (go_at_call 56; refine (refCheck_is (ZN.err_of_ok ho) A c _ hz1).mono ?_; rintro e w' ⟨rfl, hb⟩) | (go_at_call 89; refine (out_is hd _).mono ?_; rintro e w' ⟨rfl, rfl⟩))
      go_ret2
      exact ⟨rfl, bnext hw1 hb⟩
    · cases hm : minB m
      · obtain ⟨e1, e2⟩ := ZN.inst_min ho hd hm
        rw [e1, e2]
        clear e1 e2
        rcases minB_no hm with hmm | hmm
        all_goals
          clear hm
          go_enter Tryz.func62, Tryz.ntmps62
          go_wp2_with (first | (go_at_call 56; refine (refCheck_is (ZN.err_of_ok ho) A c _ hz1).mono ?_; rintro e w' ⟨rfl, hb⟩) | (go_at_call 89; refine (out_is hd _).mono ?_; rintro e w' ⟨rfl, rfl⟩))
          go_ret2
          exact ⟨rfl, bnext hw1 hb⟩
      · have hN := @ZN.inst_none z ho d m hd hm
        have hS := fun x => @ZN.inst_some z ho d m x hd hm
        have HN := Lib.hid hN
        have HS := Lib.hid hS
        have hl4 := ZN.len_of_ok ho
        obtain ⟨hd1, hd2⟩ := (dayB_iff d).1 hd
        obtain ⟨hm1, hm2⟩ := (minB_iff m).1 hm
        obtain ⟨ho1, ho2⟩ := ZN.off_of_ok ho
        have hcs := Lib.hid (ZN.cs_of_ok ho)
        clear hN hS hm
        go_enter Tryz.func62, Tryz.ntmps62
        go_wp2_with (first | (go_at_call 56; refine (refCheck_is (ZN.err_of_ok ho) A c _ hz1).mono ?_; rintro e w' ⟨rfl, hb⟩; have hc := bcell hb; simp at hc) | (go_at_call 89; refine (out_is hd _).mono ?_; rintro e w' ⟨rfl, rfl⟩))
        go_quiet (fail)
        go_wp2
        have hW0 : Below w.heap.size w w' := bnext hw1 hb
        have hs0 := hb.size
        simp at hs0
        go_loopw [9, 10, 11] (fun fv ov iv wr => ∃ (k : Nat) (f o : Int), k ≤ z.cs.length + 1 ∧ iv = .int .i64 k ∧ fv = .int .i64 f ∧ ov = .int .i64 o ∧ -900 ≤ o ∧ o ≤ 900 ∧
            (k ≤ z.cs.length → instFrom 0 z.off z.cs (1440 * d + m) = instFrom f o (z.cs.drop k) (1440 * d + m)) ∧ (k = z.cs.length + 1 → instFrom 0 z.off z.cs (1440 * d + m) = none) ∧ Below w'.heap.size w' wr)
          (fun _ _ iv _ => z.cs.length + 1 - (intOf iv).toNat)
        case atStart => exact ⟨0, 0, z.off, by omega, rfl, rfl, rfl, ho1, ho2, fun _ => rfl, fun h => by omega, below_drewN (Below.refl _ _) _⟩
        case round =>
          obtain ⟨k, f, o, hk, rfl, rfl, rfl, hk1, hk2, hE, hX, hB⟩ := hrel
          have HE := Lib.hid hE
          have HX := Lib.hid hX
          clear hE hX
          have hBw : Below w.heap.size w wr := bnext hW0 hB
          have c2 := (bcell hB w.heap.size 2 (by omega)).trans (hc w.heap.size 2 (by omega))
          simp at c2
          by_cases hlt : k < z.cs.length
          · obtain ⟨b, off, x1, x2, rfl, hb0, g1, g2, hdr, -⟩ := hz.at_ hBw k hlt
            have HD := Lib.hid hdr
            have hx := hcs.out (x1, x2) (by have : (x1, x2) ∈ z.cs.drop k := by rw [hdr]; exact List.mem_cons_self
                                            exact List.mem_of_mem_drop this)
            obtain ⟨hx1, hx2, hx3, hx4⟩ := hx
            clear hdr
            obtain ⟨t, ht⟩ : ∃ t, t = max f (1440 * d + m - o) := ⟨_, rfl⟩
            have HT := Lib.hid ht
            by_cases hmx : f < 1440 * d + m - o
            · have ht2 : t = 1440 * d + m - o := by omega
              clear ht
              by_cases htx : 1440 * d + m - o < x1
              · have hin : instFrom 0 z.off z.cs (1440 * d + m) = some (1440 * d + m - o) := by rw [HE.out (by omega), HD.out]; exact inst_lt (by omega) htx
                obtain ⟨e1, e2⟩ := HS.out _ hin
                rw [e1, e2]
                clear e1 e2 hin ht2
                go_wp2
                go_ret2
                exact ⟨rfl, hBw⟩
              · have hin : instFrom 0 z.off z.cs (1440 * d + m) = instFrom x1 x2 (z.cs.drop (k + 1)) (1440 * d + m) := by rw [HE.out (by omega), HD.out]; exact inst_ge HT.out (by omega)
                have HI := Lib.hid hin
                clear hin ht2
                go_wp2
                go_quiet (fail)
                go_wp2
                go_roundw
                case rel => exact ⟨k + 1, x1, x2, by omega, by go_num, rfl, rfl, by omega, by omega, fun _ => HI.out, fun h => by omega, below_drewN hB _⟩
                case measure => simp [intOf]; omega
            · have ht2 : t = f := by omega
              clear ht
              by_cases htx : f < x1
              · have hin : instFrom 0 z.off z.cs (1440 * d + m) = some f := by rw [HE.out (by omega), HD.out]; exact inst_lt (by omega) htx
                obtain ⟨e1, e2⟩ := HS.out _ hin
                rw [e1, e2]
                clear e1 e2 hin ht2
                go_wp2
                go_ret2
                exact ⟨rfl, hBw⟩
              · have hin : instFrom 0 z.off z.cs (1440 * d + m) = instFrom x1 x2 (z.cs.drop (k + 1)) (1440 * d + m) := by rw [HE.out (by omega), HD.out]; exact inst_ge HT.out (by omega)
                have HI := Lib.hid hin
                clear hin ht2
                go_wp2
                go_quiet (fail)
                go_wp2
                go_roundw
                case rel => exact ⟨k + 1, x1, x2, by omega, by go_num, rfl, rfl, by omega, by omega, fun _ => HI.out, fun h => by omega, below_drewN hB _⟩
                case measure => simp [intOf]; omega
          · by_cases hke : k = z.cs.length
            · have hdr : z.cs.drop k = [] := List.drop_of_length_le (by omega)
              have HD := Lib.hid hdr
              have HK := Lib.hid hke
              have hkle : k ≤ z.cs.length := by omega
              clear hdr hke
              obtain ⟨t, ht⟩ : ∃ t, t = max f (1440 * d + m - o) := ⟨_, rfl⟩
              have HT := Lib.hid ht
              by_cases hmx : f < 1440 * d + m - o
              · have ht2 : t = 1440 * d + m - o := by omega
                clear ht
                by_cases htx : 1440 * d + m - o < 105190560
                · have hin : instFrom 0 z.off z.cs (1440 * d + m) = some (1440 * d + m - o) := by rw [HE.out (by omega), HD.out]; exact inst_nil_lt (by omega) htx
                  obtain ⟨e1, e2⟩ := HS.out _ hin
                  rw [e1, e2]
                  clear e1 e2 hin ht2
                  go_wp2
                  go_ret2
                  exact ⟨rfl, hBw⟩
                · have hin : instFrom 0 z.off z.cs (1440 * d + m) = none := by rw [HE.out (by omega), HD.out]; exact inst_nil_ge HT.out (by omega)
                  have HI := Lib.hid hin
                  clear hin ht2
                  go_wp2
                  go_roundw
                  case rel => exact ⟨k + 1, f, o, by omega, by go_num, rfl, rfl, by omega, by omega, fun h => by omega, fun _ => HI.out, hB⟩
                  case measure => simp [intOf]; omega
              · have ht2 : t = f := by omega
                clear ht
                by_cases htx : f < 105190560
                · have hin : instFrom 0 z.off z.cs (1440 * d + m) = some f := by rw [HE.out (by omega), HD.out]; exact inst_nil_lt (by omega) htx
                  obtain ⟨e1, e2⟩ := HS.out _ hin
                  rw [e1, e2]
                  clear e1 e2 hin ht2
                  go_wp2
                  go_ret2
                  exact ⟨rfl, hBw⟩
                · have hin : instFrom 0 z.off z.cs (1440 * d + m) = none := by rw [HE.out (by omega), HD.out]; exact inst_nil_ge HT.out (by omega)
                  have HI := Lib.hid hin
                  clear hin ht2
                  go_wp2
                  go_roundw
                  case rel => exact ⟨k + 1, f, o, by omega, by go_num, rfl, rfl, by omega, by omega, fun h => by omega, fun _ => HI.out, hB⟩
                  case measure => simp [intOf]; omega
            · obtain ⟨e1, e2⟩ := HN.out (HX.out (by omega))
              have E1 := Lib.hid e1
              have E2 := Lib.hid e2
              clear e1 e2
              have hgt : z.cs.length < k := by omega
              go_wp2
              go_ret2
              exact ⟨ret_pair E1.out.symm E2.out.symm, hBw⟩
end
end Go.Proofs.YtbfllcfjgpkpaaaGreat
