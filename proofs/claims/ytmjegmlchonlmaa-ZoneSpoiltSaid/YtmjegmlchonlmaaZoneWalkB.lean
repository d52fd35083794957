/-
  The walks of the two checks of a zone: the program's and the document's.
-/
import Derived.Test.YtmjegmlchonlmaaZoneWalkA
namespace Go.Proofs.Ytmjegmlchonlmaa
open Go.RowKit

set_option maxHeartbeats 400000 in
theorem zcheck_any (z : ZN) (A : Option Addr) (c : Nat) (w : World) (hz : ZAt w z A) :
    Calls Try.prog 31 #[.agg #[.string z.name, .int .i64 z.off, .slice A z.cs.length c]] w (RetB (.int .i64 z.err) w) := by
  have hs := hz.nm
  have hn := hz.ln
  unfold maxLen at hn
  cases hu : nameB z.name.data.toList
  · rw [ZN.err_name hu]
    go_enter Try.func31, Try.ntmps31
    go_wp2_with (first | (go_at_call 85; refine (usable_any _ _ hs).mono ?_; rw [hu]; rintro e w' ⟨rfl, rfl⟩))
    go_ret
    exact ⟨rfl, (Below.refl _ _).alloc (Nat.le_refl _) _⟩
  · by_cases hl : z.cs.length ≤ 400
    · cases ho : offB z.off
      · rw [ZN.err_off ho]
        go_enter Try.func31, Try.ntmps31
        go_wp2_with (first | (go_at_call 85; refine (usable_any _ _ hs).mono ?_; rw [hu]; rintro e w' ⟨rfl, rfl⟩) | (go_at_call 86; refine (possible_any _ _).mono ?_; rw [ho]; rintro e w' ⟨rfl, rfl⟩))
        go_ret
        exact ⟨rfl, (Below.refl _ _).alloc (Nat.le_refl _) _⟩
      · go_enter Try.func31, Try.ntmps31
        go_wp2_with (first | (go_at_call 85; refine (usable_any _ _ hs).mono ?_; rw [hu]; rintro e w' ⟨rfl, rfl⟩) | (go_at_call 86; refine (possible_any _ _).mono ?_; rw [ho]; rintro e w' ⟨rfl, rfl⟩))
        go_loopw [3, 25] (fun t i wr => ∃ (k : Nat) (last : Int), k ≤ z.cs.length ∧ i = .int .i64 k ∧ t = .int .i64 last ∧ chkFrom (-1) z.cs = chkFrom last (z.cs.drop k) ∧ Below w.heap.size w wr) (fun _ i _ => z.cs.length - (intOf i).toNat)
        case atStart => exact ⟨0, -1, by omega, rfl, rfl, rfl, (Below.refl _ _).alloc (Nat.le_refl _) _⟩
        case round =>
          obtain ⟨k, last, hk, rfl, rfl, hE, hB⟩ := hrel
          have HE := Lib.hid hE
          clear hE
          by_cases hlt : k < z.cs.length
          · obtain ⟨b, o, x1, x2, rfl, hb, g1, g2, hd, -⟩ := hz.at_ hB k hlt
            have hsz := hB.size
            have HD := Lib.hid hd
            clear hd hz
            cases ho1 : offB x2
            · go_wp2_with (go_at_call 86; refine (possible_any _ _).mono ?_; rw [ho1]; rintro e w' ⟨rfl, rfl⟩)
              all_goals go_ret
              all_goals (refine ⟨ret_int (ZN.err_chk ?_).symm, hB.alloc hsz _⟩; rw [HE.out, HD.out, chkFrom_cons, if_pos (by simp [ho1])])
            · go_wp2_with (go_at_call 86; refine (possible_any _ _).mono ?_; rw [ho1]; rintro e w' ⟨rfl, rfl⟩)
              all_goals first
                | (go_ret; refine ⟨ret_int (ZN.err_chk ?_).symm, hB.alloc hsz _⟩; rw [HE.out, HD.out, chkFrom_cons, if_pos (by omega)])
                | (go_roundw; (case rel => exact ⟨k + 1, x1, by omega, by go_num, rfl, by rw [HE.out, HD.out, chkFrom_cons, if_neg (by simp [ho1]; omega)], hB.alloc hsz _⟩); (case measure => simp [intOf]; omega))
          · go_wp2
            go_ret
            refine ⟨ret_int (ZN.err_ok hu hl ho ?_).symm, hB⟩
            rw [HE.out, List.drop_of_length_le (by omega)]
            rfl
    · rw [ZN.err_len hl]
      go_enter Try.func31, Try.ntmps31
      go_wp2_with (first | (go_at_call 85; refine (usable_any _ _ hs).mono ?_; rw [hu]; rintro e w' ⟨rfl, rfl⟩))
      go_ret
      exact ⟨rfl, (Below.refl _ _).alloc (Nat.le_refl _) _⟩

/-- The document's loop: from place k on, the last change but one being at 'last'. -/
theorem chk_bad (z : ZN) (k : Nat) (last x1 x2 : Int) (hE : chkFrom (-1) z.cs = chkFrom last (z.cs.drop k)) (hd : z.cs.drop k = (x1, x2) :: z.cs.drop (k + 1)) (h : x1 ≤ last ∨ 105190559 < x1 ∨ offB x2 = false) : z.err = 70 := by
  refine ZN.err_chk ?_
  rw [hE, hd, chkFrom_cons, if_pos h]

theorem chkAt {cs : List (Int × Int)} {k : Nat} {x : Int × Int} (h : cs.drop k = x :: cs.drop (k + 1)) : cs[k]? = some x := by
  have := List.getElem?_drop (xs := cs) (i := k) (j := 0)
  rw [h] at this
  simpa using this.symm

set_option maxHeartbeats 1000000 in
theorem refCheck_any (z : ZN) (A : Option Addr) (c : Nat) (w : World) (hz : ZAt w z A) :
    Calls Try.prog 32 #[.agg #[.string z.name, .int .i64 z.off, .slice A z.cs.length c]] w (RetB (.int .i64 z.err) w) := by
  have hs := hz.nm
  have hn := hz.ln
  unfold maxLen at hn
  cases hu : nameB z.name.data.toList
  · rw [ZN.err_name hu]
    go_enter Try.func32, Try.ntmps32
    go_wp2_with (first | (go_at_call 87; refine (refUsable_any _ _ hs).mono ?_; rw [hu]; rintro e w' ⟨rfl, rfl⟩))
    go_ret
    exact ⟨rfl, (Below.refl _ _).alloc (Nat.le_refl _) _⟩
  · cases ho : offB z.off
    · rw [ZN.err_off ho]
      go_enter Try.func32, Try.ntmps32
      go_wp2_with (first | (go_at_call 87; refine (refUsable_any _ _ hs).mono ?_; rw [hu]; rintro e w' ⟨rfl, rfl⟩) | (go_at_call 88; refine (offsetOK_any _ _).mono ?_; rw [ho]; rintro e w' ⟨rfl, rfl⟩))
      go_ret
      exact ⟨rfl, (Below.refl _ _).alloc (Nat.le_refl _) _⟩
    · by_cases hl : z.cs.length ≤ 400
      · go_enter Try.func32, Try.ntmps32
        go_wp2_with (first | (go_at_call 87; refine (refUsable_any _ _ hs).mono ?_; rw [hu]; rintro e w' ⟨rfl, rfl⟩) | (go_at_call 88; refine (offsetOK_any _ _).mono ?_; rw [ho]; rintro e w' ⟨rfl, rfl⟩))
        go_loopw [3] (fun i wr => ∃ (k : Nat) (last : Int), k ≤ z.cs.length ∧ i = .int .i64 k ∧ (k = 0 → last = -1) ∧ (∀ j, k = j + 1 → (z.cs.getD j (0, 0)).1 = last) ∧ -1 ≤ last ∧ chkFrom (-1) z.cs = chkFrom last (z.cs.drop k) ∧ Below (w.heap.size + 1) (w.alloc (.cells #[.string z.name, .int .i64 z.off, .slice A z.cs.length c] 24)) wr) (fun i _ => z.cs.length - (intOf i).toNat)
        case atStart => exact ⟨0, -1, by omega, rfl, fun _ => rfl, fun j h => by omega, by omega, rfl, Below.refl _ _⟩
        case round =>
          obtain ⟨k, last, hk, rfl, h0, hj, hl0, hE, hB⟩ := hrel
          have HE := Lib.hid hE
          have H0 := Lib.hid h0
          have HJ := Lib.hid hj
          have hlo := Lib.hid hl0
          clear hE h0 hj hl0
          have hBw : Below w.heap.size w wr := ((Below.refl _ _).alloc (Nat.le_refl _) _).trans (hB.mono (by omega))
          have c0 := (bcell hB w.heap.size 0 (by omega))
          have c1 := (bcell hB w.heap.size 1 (by omega))
          have c2 := (bcell hB w.heap.size 2 (by omega))
          simp at c0 c1 c2
          have hsz := hB.size
          simp at hsz
          by_cases hlt : k < z.cs.length
          · obtain ⟨b, o, x1, x2, hA, hb, g1, g2, hd, -⟩ := hz.at_ hBw k hlt
            have HD := Lib.hid hd
            clear hd
            subst hA
            have hszw := hBw.size
            have hszl : w.heap.size < wr.heap.size := by omega
            have hbl : b < wr.heap.size := by omega
            cases ho1 : offB x2
            · clear hz
              go_wp2
              go_quiet ((go_at_call 88; exact quietW (offsetOK_is ho1 _)))
              go_wp2
              go_ret
              exact ⟨ret_int (chk_bad z k last x1 x2 HE.out HD.out (by simp [ho1])).symm, below_drewN (hBw.alloc hszw _) _⟩
            · cases hi1 : instB x1
              · clear hz
                go_wp2
                go_quiet ((first | (go_at_call 88; exact quietW (offsetOK_is ho1 _)) | (go_at_call 82; exact quietW (instantOK_is hi1 _))))
                go_wp2
                go_ret
                refine ⟨ret_int (chk_bad z k last x1 x2 HE.out HD.out ?_).symm, below_drewN (hBw.alloc hszw _) _⟩
                have hlast : -1 ≤ last := hlo.out
                unfold instB at hi1
                simp at hi1
                omega
              · have hi2 : 0 ≤ x1 := by unfold instB at hi1; simp at hi1; omega
                have hi3 : x1 ≤ 105190559 := by unfold instB at hi1; simp at hi1; omega
                by_cases hk0 : k = 0
                · have hkb : decide (0 < k) = false := by simp [hk0]
                  have HK := Lib.hid hk0
                  clear hk0 hz
                  go_wp2
                  go_quiet ((first | (go_at_call 88; exact quietW (offsetOK_is ho1 _)) | (go_at_call 82; exact quietW (instantOK_is hi1 _))))
                  go_wp2
                  go_roundw
                  case rel => exact ⟨k + 1, x1, by omega, by go_num, fun h => by omega, fun j h => by (obtain rfl : j = k := by omega); simp [List.getD, chkAt HD.out], by omega, by rw [HE.out, HD.out, chkFrom_cons, if_neg (by simp [ho1, H0.out HK.out]; omega)], below_drewN (hB.alloc (by omega) _) _⟩
                  case measure => simp [intOf]; omega
                · obtain ⟨j, rfl⟩ : ∃ j, k = j + 1 := ⟨k - 1, by omega⟩
                  clear hk0
                  obtain ⟨b', o', y1, y2, hA', hb', g1', g2', hd', hgd⟩ := hz.at_ hBw j (by omega)
                  obtain ⟨rfl, rfl⟩ : b' = b ∧ o' = o := by injection hA' with h; injection h with h1 h2; exact ⟨h1.symm, h2.symm⟩
                  have hy : y1 = last := by rw [← HJ.out j rfl, hgd]
                  have HY := Lib.hid hy
                  clear hy hd' hgd hA' hz g2'
                  go_wp2
                  go_quiet ((first | (go_at_call 88; exact quietW (offsetOK_is ho1 _)) | (go_at_call 82; exact quietW (instantOK_is hi1 _))))
                  go_wp2
                  · go_ret
                    exact ⟨ret_int (chk_bad z _ last x1 x2 HE.out HD.out (by have := HY.out; omega)).symm, below_drewN (hBw.alloc hszw _) _⟩
                  · go_roundw
                    case rel => exact ⟨j + 1 + 1, x1, by omega, by go_num, fun h => by omega, fun i h => by (obtain rfl : i = j + 1 := by omega); simp [List.getD, chkAt HD.out], by omega, by rw [HE.out, HD.out, chkFrom_cons, if_neg (by have := HY.out; simp [ho1]; omega)], below_drewN (hB.alloc (by omega) _) _⟩
                    case measure => simp [intOf]; omega
          · go_wp2
            go_ret
            refine ⟨ret_int (ZN.err_ok hu hl ho ?_).symm, hBw⟩
            rw [HE.out, List.drop_of_length_le (by omega)]
            rfl
      · rw [ZN.err_len hl]
        go_enter Try.func32, Try.ntmps32
        go_wp2_with (first | (go_at_call 87; refine (refUsable_any _ _ hs).mono ?_; rw [hu]; rintro e w' ⟨rfl, rfl⟩) | (go_at_call 88; refine (offsetOK_any _ _).mono ?_; rw [ho]; rintro e w' ⟨rfl, rfl⟩))
        go_ret
        exact ⟨rfl, (Below.refl _ _).alloc (Nat.le_refl _) _⟩

theorem zcheck_is {z : ZN} {e : Int} (h : z.err = e) (A : Option Addr) (c : Nat) (w : World) (hz : ZAt w z A) :
    Calls Try.prog 31 #[.agg #[.string z.name, .int .i64 z.off, .slice A z.cs.length c]] w (RetB (.int .i64 e) w) := by rw [← h]; exact zcheck_any z A c w hz
theorem refCheck_is {z : ZN} {e : Int} (h : z.err = e) (A : Option Addr) (c : Nat) (w : World) (hz : ZAt w z A) :
    Calls Try.prog 32 #[.agg #[.string z.name, .int .i64 z.off, .slice A z.cs.length c]] w (RetB (.int .i64 e) w) := by rw [← h]; exact refCheck_any z A c w hz
end Go.Proofs.Ytmjegmlchonlmaa
