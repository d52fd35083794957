/-
  Marks that are valid: what the program and the document say of which count as known.
  Marks that are valid: the document's list of those that count as known.
-/
import Derived.Test.YtffmmkjoknghoaaSusRow
import Derived.Test.YtffmmkjoknghoaaRegion
import Derived.Test.YtffmmkjoknghoaaRowMid
import Derived.Deep.RegionHeld3
import Derived.IntWalk
import Derived.Lib.Strings
import Derived.Test.YtffmmkjoknghoaaPush
namespace Go.Proofs.Ytffmmkjoknghoaa
section
open Go.RowKit
set_option linter.unusedVariables false
set_option maxHeartbeats 4000000
theorem mksB_len {l : List MK} (h : mksB l = true) : l.length ≤ 4096 := by
  unfold mksB at h
  simp only [Bool.and_eq_true, decide_eq_true_eq] at h
  exact h.1
theorem mksB_from {l : List MK} (h : mksB l = true) : mksFrom 0 l = true := by
  unfold mksB at h
  simp only [Bool.and_eq_true, decide_eq_true_eq] at h
  exact h.2
theorem MK.ok_of {m : MK} (h : m.ok = true) : 1 ≤ m.key.size ∧ m.key.size ≤ 64 ∧ m.known ≤ 2147483647 := by
  unfold MK.ok at h
  simp only [Bool.and_eq_true, decide_eq_true_eq] at h
  omega
def prevM (l : List MK) (i : Nat) : Int := if i = 0 then 0 else match l[i - 1]? with | some x => x.known | none => 0
theorem prevM_succ {l : List MK} {i : Nat} {x : MK} (h : l[i]? = some x) : prevM l (i + 1) = x.known := by
  unfold prevM
  rw [if_neg (by omega), Nat.add_sub_cancel, h]
theorem prevM_lt {l : List MK} (h : mksB l = true) {i : Nat} {x : MK} (hx : l[i]? = some x) : 0 ≤ prevM l i ∧ prevM l i < x.known := by
  have h2 := mksB_from h
  unfold prevM
  by_cases hi : i = 0
  · rw [if_pos hi]
    have := mksFrom_get l 0 i x h2 hx
    omega
  · rw [if_neg hi]
    have hl := (List.getElem?_eq_some_iff.1 hx).1
    have hy : l[i - 1]? = some l[i - 1] := List.getElem?_eq_getElem (by omega)
    rw [hy]
    have h3 := mksFrom_get l 0 (i - 1) _ h2 hy
    have h4 := mksFrom_lt l 0 (i - 1) i _ x h2 hy hx (by omega)
    exact ⟨by show 0 ≤ l[i - 1].known; omega, h4⟩
theorem key_eq {a b : ByteArray} (h : (a.toList == b.toList) = true) : a = b := by
  rw [Lib.toList_data, Lib.toList_data] at h
  have h2 : a.data.toList = b.data.toList := by simpa using h
  cases a
  cases b
  simp at h2
  rw [h2]
theorem key_ne {a b : ByteArray} (h : (a.toList == b.toList) = false) : a ≠ b := fun e => by
  subst e
  simp at h
theorem key_t {a b : ByteArray} (h : a = b) : (a.toList == b.toList) = true := by subst h; simp
theorem key_f {a b : ByteArray} (h : a ≠ b) : (a.toList == b.toList) = false := by
  cases hc : (a.toList == b.toList)
  · rfl
  · exact absurd (key_eq hc) h
theorem mkQ {W : World} {b : Nat} {x : MK} {t : TypeId} (h : BlkAt W b (mkV x) t) : W.cell? ⟨b, 0, none⟩ = some (.string x.key) ∧ W.cell? ⟨b, 1, none⟩ = some (.int .i64 x.known) ∧ W.cell? ⟨b, 2, none⟩ = some (.bool x.void) :=
  ⟨h.cell rfl, h.cell rfl, h.cell rfl⟩
theorem aChk_ok (l : List MK) (hv : mksB l = true) (A : Option Addr) (cp : Nat) (w : World) (h : MkAt w A l) : Calls Try.prog 100 #[.slice A l.length cp] w (RetB (.int .i64 0) w) := by
  have hl := mksB_len hv
  have HV := Lib.hid hv
  clear hv
  go_enter Try.func100, Try.ntmps100
  go_wp2
  go_loopw [3, 11] (fun lv iv wr => ∃ i : Nat, i ≤ l.length ∧ iv = .int .i64 i ∧ lv = .int .i64 (prevM l i) ∧ MkAt wr A l ∧ Below w.heap.size w wr) (fun _ iv _ => l.length - (intOf iv).toNat)
  case atStart => exact ⟨0, by omega, rfl, rfl, h, Below.refl _ _⟩
  case round =>
    obtain ⟨i, hi, rfl, rfl, hS, hB⟩ := hrel
    clear h
    by_cases hlt : i < l.length
    · obtain ⟨b, o, x, rfl, hx, hbl, hsm, q0, q1, q2⟩ := hS.get hlt
      have hp := prevM_lt HV.out hx
      obtain ⟨hp1, hp2⟩ := hp
      have hk := MK.ok_of (mksFrom_get l 0 i x (mksB_from HV.out) hx).1
      obtain ⟨hk1, hk2, hk3⟩ := hk
      have g0 : ((x.key.size : Int) == 0) = false := by rw [beq_eq_false_iff_ne]; omega
      have HX := Lib.hid hx
      have HB2 := Lib.hid (BlkAt.new wr (mkV x) 132)
      have HS := Lib.hid hS
      have hB2 := bal hB (.cells (mkV x) 132)
      obtain ⟨p0, p1, p2⟩ := mkQ HB2.out
      clear hx hS
      go_wp2_with ((with_reducible refine wpl_store_new rfl 132 _ _ rfl (mkV x) ?_ ?_ (rowMk _) ?_ ?_); exact rfl; exact rfl; exact rfl)
      go_roundw
      case rel => exact ⟨i + 1, by omega, by go_num, by rw [prevM_succ HX.out], HS.out.below (bal0 _ _), hB2⟩
      case measure => simp [intOf]; omega
    · go_wp2
      go_ret
      exact ⟨rfl, hB⟩
theorem bdN {B : Nat} {a w : World} (h : Below B a w) (q : Nat) : Below B a (w.drewN q) := ⟨h.os, h.tape, h.output, h.size, h.block⟩
end
section
open Go.RowKit
set_option linter.unusedVariables false
set_option maxHeartbeats 4000000
/-- A list of numbers and no error: the list lies in a slice of the call's own. -/
def ListP (L : List Int) (w : World) (e : Ending) (w' : World) : Prop :=
  ∃ v, e = .returned (.tuple #[v, .int .i64 0]) ∧ OwnL w w' 3 1 v L.length (L.map (.int .i64))
theorem vis_snoc {ms : List MK} {k : Int} {i : Nat} (h : visAt ms k i = true) : visF ms k (i + 1) = visF ms k i ++ [(i : Int)] := by rw [visF, if_pos h]
theorem vis_same {ms : List MK} {k : Int} {i : Nat} (h : visAt ms k i = false) : visF ms k (i + 1) = visF ms k i := by rw [visF, if_neg (by simp [h])]; simp
theorem visAt_eq {ms : List MK} {k : Int} {i : Nat} {x : MK} (h : ms[i]? = some x) : visAt ms k i = (!x.void && decide (x.known ≤ k) && decide (lastF ms k x.key ms.length = i)) := by simp [visAt, h]
theorem OwnL.eqv {W0 W : World} {e : TypeId} {sz : Nat} {v : Value} {n n' : Nat} {xs xs' : List Value} (h : OwnL W0 W e sz v n xs) (hn : n = n') (hx : xs = xs') : OwnL W0 W e sz v n' xs' := by
  subst hn hx
  exact h
end
end Go.Proofs.Ytffmmkjoknghoaa
