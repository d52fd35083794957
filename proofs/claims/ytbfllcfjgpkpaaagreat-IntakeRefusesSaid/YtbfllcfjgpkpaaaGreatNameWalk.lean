/-
  Names: the program's and the document's.
-/
import Derived.Test.YtbfllcfjgpkpaaaGreatPlain
import Derived.Test.YtbfllcfjgpkpaaaGreatZoneWalk
import Derived.Test.YtbfllcfjgpkpaaaGreatRows
import Derived.Test.YtbfllcfjgpkpaaaGreatShelf
import Derived.Lib.SpaceUEq
namespace Go.Proofs.YtbfllcfjgpkpaaaGreat
open Go.RowKit Go.Shelf
set_option linter.unusedVariables false
def okC (c : UInt8) : Bool := lowB c || digB c
/-- The runes that no name has. -/
def runeB (r : Nat) : Bool := !((decide (97 ≤ r) && decide (r ≤ 122)) || (decide (48 ≤ r) && decide (r ≤ 57)))
theorem runeB_byte (c : UInt8) : runeB c.toNat = !okC c := by
  unfold runeB okC lowB digB
  congr 1
  rw [Bool.eq_iff_iff]
  simp
theorem runeB_big {r : Nat} (h : 128 ≤ r) : runeB r = true := by
  unfold runeB
  simp
  omega
theorem decN_big (n b0 b1 b2 b3 : Nat) (h : 128 ≤ b0) : 128 ≤ (Lib.decodeN n b0 b1 b2 b3).1 := by
  rcases Lib.decodeN_cases n b0 b1 b2 b3 with ⟨h1, _⟩ | ⟨_, _, _, h1, e⟩ | ⟨_, _, _, _, h1, e⟩ | ⟨h1, _⟩ | e
  · omega
  · rw [e]; exact h1
  · rw [e]; show 128 ≤ _; omega
  · omega
  · rw [e]; decide
theorem idx_all (s : ByteArray) : ∀ (f pos : Nat), s.size ≤ pos + f → ((s.data.toList.drop pos).all okC = true → Lib.idxFuncFrom runeB true s f pos = -1) ∧ ((s.data.toList.drop pos).all okC = false → 0 ≤ Lib.idxFuncFrom runeB true s f pos)
  | 0, pos, h => by
    rw [List.drop_of_length_le (by simp; omega)]
    exact ⟨fun _ => rfl, fun h => by simp at h⟩
  | f + 1, pos, h => by
    unfold Lib.idxFuncFrom
    by_cases hp : pos < s.size
    · rw [if_pos hp]
      have hl : pos < s.data.toList.length := by simpa using hp
      have hd := List.drop_eq_getElem_cons hl
      have hg : s.data.toList.getD pos 0 = s.data.toList[pos] := by
        rw [List.getD_eq_getElem?_getD, List.getElem?_eq_getElem hl]
        rfl
      rw [hd, List.all_cons]
      generalize s.data.toList[pos] = c at *
      by_cases hc : c.toNat < 128
      · have e : Utf8.decode s pos = (c.toNat, 1) := by rw [Lib.decode_N, hg, Lib.decodeN_ascii _ _ _ _ _ hc]
        rw [e]
        simp only [runeB_byte]
        have ih := idx_all s f (pos + 1) (by omega)
        cases hk : okC c
        · simp
        · simpa using ih
      · have e : 128 ≤ (Utf8.decode s pos).1 := by
          rw [Lib.decode_N, hg]
          exact decN_big _ _ _ _ _ (by omega)
        rw [runeB_big e]
        have hk : okC c = false := by
          unfold okC lowB digB
          simp
          omega
        rw [hk]
        simp
    · rw [if_neg hp, List.drop_of_length_le (by simp; omega)]
      exact ⟨fun _ => rfl, fun h => by simp at h⟩
theorem idx_chars (s : ByteArray) : decide (0 ≤ Lib.idxFunc runeB true s) = !nameChars s.data.toList := by
  have h := idx_all s s.size 0 (by omega)
  rw [List.drop_zero] at h
  unfold Lib.idxFunc
  have e : nameChars s.data.toList = s.data.toList.all okC := rfl
  rw [e]
  cases hk : s.data.toList.all okC
  · simpa using h.2 hk
  · rw [h.1 hk]
    rfl
/-- The closure of the program's Name. -/
theorem nameF (w : World) : PredAt Tryz.prog 66 #[] encR runeB w := fun W r _ => by
  unfold FnGives
  have hr : runeB r = !((decide (97 ≤ r) && decide (r ≤ 122)) || (decide (48 ≤ r) && decide (r ≤ 57))) := rfl
  by_cases h1 : 97 ≤ r <;> by_cases h2 : r ≤ 122 <;> by_cases h3 : 48 ≤ r <;> by_cases h4 : r ≤ 57
  all_goals
    first
    | (exfalso; omega)
    | (rw [hr]
       clear hr
       have z1 : (97 : Int) ≤ (r : Int) ↔ 97 ≤ r := by omega
       have z2 : (r : Int) ≤ 122 ↔ r ≤ 122 := by omega
       have z3 : (48 : Int) ≤ (r : Int) ↔ 48 ≤ r := by omega
       have z4 : (r : Int) ≤ 57 ↔ r ≤ 57 := by omega
       go_enter Tryz.func66, Tryz.ntmps66
       go_wp2
       all_goals first | (exfalso; omega) | (go_ret; exact ⟨by simp [h1, h2, h3, h4] <;> omega, 0, rfl⟩))
theorem oname_any (s : ByteArray) (w : World) (hs : s.size ≤ maxLen) : Calls Tryz.prog 41 #[.string s] w (RetB (.bool (nmB s)) w) := by
  unfold maxLen at hs
  unfold nmB
  by_cases h0 : s.size = 0
  · rw [nameB_empty s h0]
    have e0 : s.toList = [] := by
      rw [Lib.toList_data]
      exact List.eq_nil_of_length_eq_zero (by simpa using h0)
    clear h0 hs
    go_enter Tryz.func41, Tryz.ntmps41
    go_wp2
    go_ret
    exact ⟨rfl, Below.refl _ _⟩
  · have hpos : 0 < s.size := by omega
    have e1 : s.toList.isEmpty = false := by
      rw [Lib.toList_data, List.isEmpty_eq_false_iff]
      intro h
      have hz : s.data.toList.length = s.size := by simp
      rw [h] at hz
      simp at hz
      omega
    clear h0
    by_cases hl : s.size ≤ 16
    · have hC := fun w => Tryz.strings_ContainsFunc 66 #[] (enters_of Tryz.func66 (by kernel_rfl) rfl) runeB s w (nameF w)
      rw [idx_chars] at hC
      cases hn : nameChars s.data.toList
      · rw [hn] at hC
        have HN := Lib.hid (nameB_chars s hn)
        clear hn
        go_enter Tryz.func41, Tryz.ntmps41
        go_wp2_with (go_at_call 65; refine (hC _).mono ?_; rintro e w1 ⟨rfl, hb⟩)
        all_goals go_ret
        all_goals first | exact ⟨ret_bool HN.out.symm, Below.refl _ _⟩ | exact ⟨ret_bool HN.out.symm, hb⟩
      · rw [hn] at hC
        have HN := Lib.hid hn
        clear hn
        go_enter Tryz.func41, Tryz.ntmps41
        go_wp2_with (go_at_call 65; refine (hC _).mono ?_; rintro e w1 ⟨rfl, hb⟩)
        all_goals go_ret
        all_goals first | exact ⟨ret_bool (nameB_first s hpos (by unfold lowB; simp; omega)).symm, Below.refl _ _⟩ | exact ⟨ret_bool (nameB_good s hpos hl (by unfold lowB; simp; omega) HN.out).symm, hb⟩
    · rw [nameB_long s hl]
      go_enter Tryz.func41, Tryz.ntmps41
      go_wp2
      go_ret
      exact ⟨rfl, Below.refl _ _⟩
theorem oname_is : ∀ (s : ByteArray) (b : Bool), nmB s = b → s.size ≤ maxLen → ∀ w, Calls Tryz.prog 41 #[.string s] w (RetB (.bool b) w) := fun s b h hs w => by
  subst h
  exact oname_any s w hs
theorem bdn {B : Nat} {a w : World} (h : Below B a w) (q : Nat) : Below B a (w.drewN q) := ⟨h.os, h.tape, h.output, h.size, h.block⟩
theorem byte_cases (c : UInt8) : ((c.toNat : Int) < 48 ∧ lowB c = false ∧ digB c = false) ∨ (48 ≤ (c.toNat : Int) ∧ (c.toNat : Int) ≤ 57 ∧ lowB c = false ∧ digB c = true) ∨ (57 < (c.toNat : Int) ∧ (c.toNat : Int) < 97 ∧ lowB c = false ∧ digB c = false) ∨ (97 ≤ (c.toNat : Int) ∧ (c.toNat : Int) ≤ 122 ∧ lowB c = true ∧ digB c = false) ∨ (122 < (c.toNat : Int) ∧ lowB c = false ∧ digB c = false) := by
  unfold lowB digB
  simp
  omega
set_option maxHeartbeats 2000000 in
theorem rname_any (s : ByteArray) (w : World) (hs : s.size ≤ maxLen) : Calls Tryz.prog 48 #[.string s] w (RetB (.bool (nmB s)) w) := by
  unfold maxLen at hs
  unfold nmB
  by_cases h0 : s.size = 0
  · rw [nameB_empty s h0]
    go_enter Tryz.func48, Tryz.ntmps48
    go_wp2
    go_ret
    exact ⟨rfl, Below.refl _ _⟩
  · have hpos : 0 < s.size := by omega
    clear h0
    by_cases hl : s.size ≤ 16
    · go_enter Tryz.func48, Tryz.ntmps48
      go_wp2
      go_loopw [3] (fun i wr => ∃ k : Nat, k ≤ s.size ∧ i = .int .i64 k ∧ nameChars (s.data.toList.take k) = true ∧ (k ≠ 0 → lowB s[0] = true) ∧ Below w.heap.size w wr) (fun i _ => s.size - (intOf i).toNat)
      case atStart => exact ⟨0, Nat.zero_le _, rfl, rfl, fun h => absurd rfl h, Below.refl _ _⟩
      case round =>
        obtain ⟨k, hk, rfl, hp, hf, hB⟩ := hrel
        have HP := Lib.hid hp
        have HF := Lib.hid hf
        clear hp hf
        by_cases hlt : k < s.size
        · have bad : lowB s[k] = false → digB s[k] = false → nameB s.data.toList = false := fun h1 h2 => nameB_chars s (nameChars_bad s k hlt (by rw [h1, h2]; rfl))
          have BAD := Lib.hid bad
          have NX := Lib.hid (nameChars_snoc s k hlt)
          clear bad
          have z0 : (0 : Int) ≤ (k : Int) := by omega
          have z1 : (k : Int) < (s.size : Int) := by omega
          by_cases hk0 : k = 0
          · have g0 : ((k : Int) == 0) = true := by rw [hk0]; rfl
            have HS0 : Hid (lowB s[0] = lowB s[k]) := Lib.hid (by subst hk0; rfl)
            have HSD : Hid (digB s[0] = digB s[k]) := Lib.hid (by subst hk0; rfl)
            clear hk0
            rcases byte_cases s[k] with ⟨e1, e2, e3⟩ | ⟨e1, e2, e3, e4⟩ | ⟨e1, e2, e3, e4⟩ | ⟨e1, e2, e3, e4⟩ | ⟨e1, e2, e3⟩
            · have E2 := Lib.hid e2; have E3 := Lib.hid e3
              have t1 : decide (97 ≤ (s[k].toNat : Int)) = false := by simp; omega
              have t3 : decide (48 ≤ (s[k].toNat : Int)) = false := by simp; omega
              clear e1 e2 e3
              go_wp2
              go_quiet (fail)
              go_wp2
              go_ret
              exact ⟨ret_bool (Eq.symm (BAD.out E2.out E3.out)), bdn hB _⟩
            · have E2 := Lib.hid e3; have E3 := Lib.hid e4
              have t1 : decide (97 ≤ (s[k].toNat : Int)) = false := by simp; omega
              have t3 : decide (48 ≤ (s[k].toNat : Int)) = true := by simp; omega
              have t4 : decide ((s[k].toNat : Int) ≤ 57) = true := by simp; omega
              clear e1 e2 e3 e4
              go_wp2
              go_quiet (fail)
              go_wp2
              go_ret
              exact ⟨ret_bool (Eq.symm (nameB_digit s hpos (by rw [HSD.out, E3.out]))), bdn hB _⟩
            · have E2 := Lib.hid e3; have E3 := Lib.hid e4
              have t1 : decide (97 ≤ (s[k].toNat : Int)) = false := by simp; omega
              have t3 : decide (48 ≤ (s[k].toNat : Int)) = true := by simp; omega
              have t4 : decide ((s[k].toNat : Int) ≤ 57) = false := by simp; omega
              clear e1 e2 e3 e4
              go_wp2
              go_quiet (fail)
              go_wp2
              go_ret
              exact ⟨ret_bool (Eq.symm (BAD.out E2.out E3.out)), bdn hB _⟩
            · have E2 := Lib.hid e3; have E3 := Lib.hid e4
              have t1 : decide (97 ≤ (s[k].toNat : Int)) = true := by simp; omega
              have t2 : decide ((s[k].toNat : Int) ≤ 122) = true := by simp; omega
              have t3 : decide (48 ≤ (s[k].toNat : Int)) = true := by simp; omega
              have t4 : decide ((s[k].toNat : Int) ≤ 57) = false := by simp; omega
              clear e1 e2 e3 e4
              go_wp2
              go_quiet (fail)
              go_wp2
              go_roundw
              case rel => exact ⟨k + 1, by omega, by go_num, NX.out (by rw [E2.out, E3.out]; rfl) HP.out, fun _ => HS0.out.trans E2.out, bdn hB _⟩
              case measure => simp [intOf]; omega
            · have E2 := Lib.hid e2; have E3 := Lib.hid e3
              have t1 : decide (97 ≤ (s[k].toNat : Int)) = true := by simp; omega
              have t2 : decide ((s[k].toNat : Int) ≤ 122) = false := by simp; omega
              have t3 : decide (48 ≤ (s[k].toNat : Int)) = true := by simp; omega
              have t4 : decide ((s[k].toNat : Int) ≤ 57) = false := by simp; omega
              clear e1 e2 e3
              go_wp2
              go_quiet (fail)
              go_wp2
              go_ret
              exact ⟨ret_bool (Eq.symm (BAD.out E2.out E3.out)), bdn hB _⟩
          · have g0 : ((k : Int) == 0) = false := by rw [beq_eq_false_iff_ne]; omega
            have HK0 := Lib.hid hk0
            clear hk0
            rcases byte_cases s[k] with ⟨e1, e2, e3⟩ | ⟨e1, e2, e3, e4⟩ | ⟨e1, e2, e3, e4⟩ | ⟨e1, e2, e3, e4⟩ | ⟨e1, e2, e3⟩
            · have E2 := Lib.hid e2; have E3 := Lib.hid e3
              have t1 : decide (97 ≤ (s[k].toNat : Int)) = false := by simp; omega
              have t3 : decide (48 ≤ (s[k].toNat : Int)) = false := by simp; omega
              clear e1 e2 e3
              go_wp2
              go_quiet (fail)
              go_wp2
              go_ret
              exact ⟨ret_bool (Eq.symm (BAD.out E2.out E3.out)), bdn hB _⟩
            · have E2 := Lib.hid e3; have E3 := Lib.hid e4
              have t1 : decide (97 ≤ (s[k].toNat : Int)) = false := by simp; omega
              have t3 : decide (48 ≤ (s[k].toNat : Int)) = true := by simp; omega
              have t4 : decide ((s[k].toNat : Int) ≤ 57) = true := by simp; omega
              clear e1 e2 e3 e4
              go_wp2
              go_quiet (fail)
              go_wp2
              go_roundw
              case rel => exact ⟨k + 1, by omega, by go_num, NX.out (by rw [E2.out, E3.out]; rfl) HP.out, fun _ => HF.out HK0.out, bdn hB _⟩
              case measure => simp [intOf]; omega
            · have E2 := Lib.hid e3; have E3 := Lib.hid e4
              have t1 : decide (97 ≤ (s[k].toNat : Int)) = false := by simp; omega
              have t3 : decide (48 ≤ (s[k].toNat : Int)) = true := by simp; omega
              have t4 : decide ((s[k].toNat : Int) ≤ 57) = false := by simp; omega
              clear e1 e2 e3 e4
              go_wp2
              go_quiet (fail)
              go_wp2
              go_ret
              exact ⟨ret_bool (Eq.symm (BAD.out E2.out E3.out)), bdn hB _⟩
            · have E2 := Lib.hid e3; have E3 := Lib.hid e4
              have t1 : decide (97 ≤ (s[k].toNat : Int)) = true := by simp; omega
              have t2 : decide ((s[k].toNat : Int) ≤ 122) = true := by simp; omega
              have t3 : decide (48 ≤ (s[k].toNat : Int)) = true := by simp; omega
              have t4 : decide ((s[k].toNat : Int) ≤ 57) = false := by simp; omega
              clear e1 e2 e3 e4
              go_wp2
              go_quiet (fail)
              go_wp2
              go_roundw
              case rel => exact ⟨k + 1, by omega, by go_num, NX.out (by rw [E2.out, E3.out]; rfl) HP.out, fun _ => HF.out HK0.out, bdn hB _⟩
              case measure => simp [intOf]; omega
            · have E2 := Lib.hid e2; have E3 := Lib.hid e3
              have t1 : decide (97 ≤ (s[k].toNat : Int)) = true := by simp; omega
              have t2 : decide ((s[k].toNat : Int) ≤ 122) = false := by simp; omega
              have t3 : decide (48 ≤ (s[k].toNat : Int)) = true := by simp; omega
              have t4 : decide ((s[k].toNat : Int) ≤ 57) = false := by simp; omega
              clear e1 e2 e3
              go_wp2
              go_quiet (fail)
              go_wp2
              go_ret
              exact ⟨ret_bool (Eq.symm (BAD.out E2.out E3.out)), bdn hB _⟩
        · go_wp2
          go_ret
          refine ⟨ret_bool ?_, hB⟩
          have ha : nameChars s.data.toList = true := by have := HP.out; rwa [List.take_of_length_le (by simp; omega)] at this
          rw [nameB_good s hpos hl (HF.out (by omega)) ha]
    · rw [nameB_long s hl]
      go_enter Tryz.func48, Tryz.ntmps48
      go_wp2
      go_ret
      exact ⟨rfl, Below.refl _ _⟩
theorem rname_is : ∀ (s : ByteArray) (b : Bool), nmB s = b → s.size ≤ maxLen → ∀ w, Calls Tryz.prog 48 #[.string s] w (RetB (.bool b) w) := fun s b h hs w => by
  subst h
  exact rname_any s w hs
theorem known_any (k : Int) (w : World) : Calls Tryz.prog 47 #[.int .i64 k] w (RetW (.int .i64 (if knB k = true then 0 else 240)) w) := by
  by_cases h : knB k = true
  · rw [if_pos h]
    have h2 := (knB_iff k).1 h
    obtain ⟨h3, h4⟩ := h2
    clear h
    go_enter Tryz.func47, Tryz.ntmps47
    go_wp2
    go_ret
    exact ⟨rfl, rfl⟩
  · rw [if_neg h]
    have h2 := knB_no (by simpa using h)
    clear h
    rcases h2 with h2 | h2
    all_goals
      go_enter Tryz.func47, Tryz.ntmps47
      go_wp2
      go_ret
      exact ⟨rfl, rfl⟩
end Go.Proofs.YtbfllcfjgpkpaaaGreat
