/- What the laws lean on. -/
import Derived.Test.YtpaodheilchfnaaGreatDoorPz5
import Derived.Lib.SmallJoins
import Derived.Deep.Fields
import Derived.Deep.Strs
import Derived.ShutString
import Derived.ChangeOld
import Derived.Deep.OwnRows
import Derived.Lib.SlBytesRow
import Derived.Great.BuildSlice
import Derived.LaidMore
import Derived.Stop.Joined
import Derived.SevenTiedAt
import Derived.Test.YtpaodheilchfnaaGreatDoorTie
namespace Go.Proofs.YtpaodheilchfnaaGreatDoor
set_option linter.unusedVariables false
set_option linter.unusedSimpArgs false
section
open Go.ChangeShapes Go.WideShapes Go.ChangeAt Go.RowKit Go.Deep
theorem lims_of (n : Nat) (k : Nat → Nat) (hk : ∀ i, i < n → k i < 4294967296) : ∃ a, a < bp n ∧ ∀ i, i < n → lim a i = k i := by
  induction n with
  | zero => exact ⟨0, bp_pos 0, fun i h => absurd h (by omega)⟩
  | succ n ih =>
    obtain ⟨a, h1, h2⟩ := ih (fun i h => hk i (by omega))
    refine ⟨setM a n (k n), setM_new_lt h1 (hk n (by omega)), fun i hi => ?_⟩
    by_cases e : i = n
    · subst e
      rw [lim_set (hk i (by omega)), if_pos rfl]
    · rw [lim_set (hk n (by omega)), if_neg e]
      exact h2 i (by omega)
section
variable {H : Type} {enc : TypeId × Value → H}
theorem open_arr {W : World} {base : Nat} {sp : Nat → Bool} {held : Bool} {fuel : Nat} {cs : List Value} {x : DataW H × List MemPlace}
    (h : DataW.trod enc Tryz.prog W base sp held fuel 27 cs = some x) : ∃ a, a < bp 32 ∧ cs = (limA 32 a).toList := by
  obtain ⟨e, hu, he, hce⟩ := arr_und
  obtain ⟨xs, m, -, -, hl, hx, hel⟩ := DataW.trod_array hu h
  have hce1 : Tryz.prog.cellsOf e = 1 := by
    unfold Program.cellsOf
    cases hi : Tryz.prog.info? e with
    | none => rw [hi] at hce; cases hce
    | some i => rw [hi] at hce; simpa using hce
  have hl32 : cs.length = 32 := hl.trans (by kernel_rfl)
  have key : ∀ i, ∃ k : Nat, i < 32 → cs[i]? = some (.int .u32 (k : Int)) ∧ k < 4294967296 := by
    intro i
    by_cases hi : i < 32
    · have h1 := hel i hi
      rw [hce1, Nat.mul_one] at h1
      have h2 : xs[i]? = some xs[i] := List.getElem?_eq_getElem (by omega)
      rw [h2] at h1
      obtain ⟨n, hn, -, hw⟩ := DataW.trod_int he h1
      have h3 : cs[i]? = some (.int .u32 n) := by
        have h4 : cs[i]? = some cs[i] := List.getElem?_eq_getElem (by omega)
        have h5 : (List.take 1 (cs.drop i))[0]? = some cs[i] := by rw [List.getElem?_take_of_lt (by omega), List.getElem?_drop, Nat.add_zero]; exact h4
        rw [hn] at h5
        rw [h4, ← h5]
        rfl
      have hb : 0 ≤ n ∧ n < 4294967296 := by
        simp [Lit.wf, IntKind.min, IntKind.max, IntKind.signed, IntKind.bits] at hw
        omega
      exact ⟨n.toNat, fun _ => ⟨by rw [h3, Int.toNat_of_nonneg hb.1], by omega⟩⟩
    · exact ⟨0, fun h => absurd h hi⟩
  obtain ⟨a, ha, hlim⟩ := lims_of 32 (fun i => (key i).choose) (fun i hi => ((key i).choose_spec hi).2)
  refine ⟨a, ha, List.ext_getElem? fun i => ?_⟩
  by_cases hi : i < 32
  · have h6 : (limA 32 a).toList[i]? = (limA 32 a)[i]? := by simp
    rw [h6, limA_at hi, hlim i hi]
    exact ((key i).choose_spec hi).1
  · rw [List.getElem?_eq_none (by omega), List.getElem?_eq_none (by rw [Array.length_toList, limA_size]; omega)]
set_option maxRecDepth 100000 in
theorem open_int33 {W : World} {base : Nat} {sp : Nat → Bool} {held : Bool} {fuel : Nat} {cs : List Value} {x : DataW H × List MemPlace}
    (h : DataW.trod enc Tryz.prog W base sp held fuel 29 cs = some x) : ∃ (n : Bool) (a : Nat), a < bp 32 ∧ cs = (intC n a).toList := by
  obtain ⟨y0, y1, n, -, hl, h0, h1⟩ := trod_struct2 Tryz.underlying29 h
  have hl33 : cs.length = 33 := hl.trans (by kernel_rfl)
  have c0 : Tryz.prog.cellsOf 4 = 1 := by kernel_rfl
  have c1 : Tryz.prog.cellsOf 27 = 32 := by kernel_rfl
  have h0' : DataW.trod enc Tryz.prog W base sp held n 4 (cs.take 1) = some y0 := by rw [← c0]; exact h0
  have h1' : DataW.trod enc Tryz.prog W base sp held n 27 ((cs.drop 1).take 32) = some y1 := by rw [← c1]; exact h1
  obtain ⟨b, hb, -⟩ := DataW.trod_bool Tryz.underlying4 h0'
  obtain ⟨a, ha, hc⟩ := open_arr h1'
  refine ⟨b, a, ha, ?_⟩
  rw [List.take_of_length_le (by rw [List.length_drop]; omega)] at hc
  unfold intC
  rw [Array.toList_append, ← hc]
  show cs = [.bool b] ++ cs.drop 1
  rw [← hb, List.take_append_drop]
set_option maxRecDepth 100000 in
theorem open_rat {W : World} {base : Nat} {sp : Nat → Bool} {held : Bool} {fuel : Nat} {cs : List Value} {x : DataW H × List MemPlace}
    (h : DataW.trod enc Tryz.prog W base sp held fuel 31 cs = some x) : ∃ (p : Bool) (a : Nat) (q : Bool) (b : Nat), a < bp 32 ∧ b < bp 32 ∧ cs = (ratC p a q b).toList := by
  obtain ⟨y0, y1, n, -, hl, h0, h1⟩ := trod_struct2 Tryz.underlying31 h
  have hl66 : cs.length = 66 := hl.trans (by kernel_rfl)
  have c0 : Tryz.prog.cellsOf 29 = 33 := by kernel_rfl
  have h0' : DataW.trod enc Tryz.prog W base sp held n 29 (cs.take 33) = some y0 := by rw [← c0]; exact h0
  have h1' : DataW.trod enc Tryz.prog W base sp held n 29 ((cs.drop 33).take 33) = some y1 := by rw [← c0]; exact h1
  obtain ⟨p, a, ha, e1⟩ := open_int33 h0'
  obtain ⟨q, b, hb, e2⟩ := open_int33 h1'
  rw [List.take_of_length_le (by rw [List.length_drop]; omega)] at e2
  refine ⟨p, a, q, b, ha, hb, ?_⟩
  unfold ratC
  rw [Array.toList_append, ← e1, ← e2, List.take_append_drop]
end
end
end Go.Proofs.YtpaodheilchfnaaGreatDoor
