/-
  The suspensions of a fund that count as known: the document's.
  The suspensions of a fund that count as known: the program's.
  Whether a day is suspended: the program's and the document's.
  Whether a day is suspended: the document's.
  Where a dealing day is moved to: what both say, and the first part of the program's walk.
  Where a dealing day is moved to: the program's walk where all is valid.
  Where a dealing day is moved to: the document's walk.
-/
import Derived.Test.YtbfllcfjgpkpaaaGreatMarks
import Derived.Test.YtbfllcfjgpkpaaaGreatSusWalk
import Derived.Test.YtbfllcfjgpkpaaaGreatNameWalk
import Derived.Laws.MakeOwn
import Derived.Laws.OwnMore
import Derived.BigQuiet
import Derived.Deep.QuietTactic
import Derived.Test.YtbfllcfjgpkpaaaGreatSchedLaws
import Derived.Deep.RegionHeld3
import Derived.WalkMore
import Derived.Deep.LoopGhost
import Derived.Test.YtbfllcfjgpkpaaaGreatMem
namespace Go.Proofs.YtbfllcfjgpkpaaaGreat
section
section
open Go.RowKit
set_option linter.unusedVariables false
set_option maxHeartbeats 4000000
/-- A slice of the call's own, beside a list of suspensions. -/
structure MV (w W : World) (E : TypeId) (sz : Nat) (v : Value) (n : Nat) (xs : List Value) (A : Option Addr) (l : List SU) : Prop where
  own : OwnL w W E sz v n xs
  su : SuAt W A l
theorem MV.next {w W W' : World} {E : TypeId} {sz : Nat} {v : Value} {n : Nat} {xs : List Value} {A : Option Addr} {l : List SU} (h : MV w W E sz v n xs A l) (hb : Below W.heap.size W W') : MV w W' E sz v n xs A l := ⟨h.own.next hb, h.su.below hb⟩
theorem SuAt.q3 {W : World} {b o i : Nat} {x : SU} {l : List SU} (h : SuAt W (some ⟨b, o, none⟩) l) (hx : l[i]? = some x) : W.cell? ⟨b, o + i * 6, none⟩ = some (.string x.key) ∧ W.cell? ⟨b, o + i * 6 + 4, none⟩ = some (.int .i64 x.known) ∧ W.cell? ⟨b, o + i * 6 + 5, none⟩ = some (.bool x.void) ∧ SuAt W (some ⟨b, o, none⟩) l := by
  have := h.q hx
  exact ⟨this.1, this.2.2.2.2.1, this.2.2.2.2.2, h⟩
def mkL (l : List SU) : List (List Value) := (l.map SU.mark).map fun x => (mkV x).toList
def suL (l : List SU) : List (List Value) := l.map fun x => (suV x).toList
theorem take_next {α : Type} {l : List α} {i : Nat} {x : α} (h : l[i]? = some x) : l.take (i + 1) = l.take i ++ [x] := by
  obtain ⟨hl, e⟩ := List.getElem?_eq_some_iff.1 h
  rw [List.take_succ_eq_append_getElem hl, e]
theorem mkL_next {l : List SU} {i : Nat} {x : SU} (h : l[i]? = some x) : (mkL (l.take i)).flatten ++ (mkV x.mark).toList = (mkL (l.take (i + 1))).flatten := by
  rw [take_next h]
  simp [mkL]
theorem mkL_len (l : List SU) : ∀ x ∈ mkL l, x.length = 3 := fun x hx => by
  unfold mkL at hx
  simp at hx
  obtain ⟨a, -, rfl⟩ := hx
  rfl
theorem suL_len (l : List SU) : ∀ x ∈ suL l, x.length = 6 := fun x hx => by
  unfold suL at hx
  simp at hx
  obtain ⟨a, -, rfl⟩ := hx
  rfl
theorem suL_next (l : List SU) (x : SU) : (suL l).flatten ++ (suV x).toList = (suL (l ++ [x])).flatten := by simp [suL]
theorem pickS_snoc {l : List SU} {fund : ByteArray} {L : List Int} {j ii : Nat} {x : SU} (hj : L[j]? = some (ii : Int)) (hx : l[ii]? = some x) (hf : x.fund = fund) : pickS l fund (L.take (j + 1)) = pickS l fund (L.take j) ++ [x] := by
  rw [take_next hj, pickS_append]
  simp [pickS, hx, hf]
theorem pickS_same {l : List SU} {fund : ByteArray} {L : List Int} {j ii : Nat} {x : SU} (hj : L[j]? = some (ii : Int)) (hx : l[ii]? = some x) (hf : x.fund ≠ fund) : pickS l fund (L.take (j + 1)) = pickS l fund (L.take j) := by
  rw [take_next hj, pickS_append]
  simp [pickS, hx, hf]
theorem vis_at {ms : List MK} {k : Int} {j : Nat} {i : Int} (h : (vis ms k)[j]? = some i) : ∃ ii : Nat, i = ii ∧ ii < ms.length := by
  have := List.mem_of_getElem? h
  unfold vis at this
  obtain ⟨ii, h1, h2, -⟩ := (visF_mem i _).1 this
  exact ⟨ii, h1, h2⟩
theorem susB_len {l : List SU} (h : susB l = true) : l.length ≤ 4096 := by
  unfold susB at h
  simp only [Bool.and_eq_true, decide_eq_true_eq] at h
  exact h.1
end
section
open Go.RowKit
set_option linter.unusedVariables false
set_option maxHeartbeats 4000000
theorem spl_same : ∀ (l : List Value) (cs : Array Value) (o m : Nat), (m < o ∨ o + l.length ≤ m) → (spl cs o l)[m]? = cs[m]?
  | [], cs, o, m, _ => rfl
  | v :: r, cs, o, m, h => by
    unfold spl
    rw [spl_same r _ (o + 1) m (by simp only [List.length_cons] at h; omega), Array.getElem?_setIfInBounds_ne (by simp only [List.length_cons] at h; omega)]
theorem spl_hit : ∀ (l : List Value) (cs : Array Value) (o j : Nat), j < l.length → o + l.length ≤ cs.size → (spl cs o l)[o + j]? = l[j]?
  | [], cs, o, j, h, _ => by simp at h
  | v :: r, cs, o, j, h, hs => by
    simp only [List.length_cons] at h hs
    unfold spl
    cases j with
    | zero =>
      rw [spl_same r _ (o + 1) (o + 0) (by omega), Nat.add_zero, Array.getElem?_setIfInBounds_self_of_lt (by omega)]
      rfl
    | succ j =>
      have := spl_hit r (cs.setIfInBounds o v) (o + 1) j (by omega) (by simp; omega)
      rw [show o + (j + 1) = o + 1 + j by omega, this]
      rfl
/-- The first i marks have been laid. -/
structure MkC (cs : Array Value) (l : List SU) (i : Nat) : Prop where
  size : cs.size = l.length * 3
  at_ : ∀ j x, j < i → l[j]? = some x → ∀ c v, (mkV x.mark).toList[c]? = some v → cs[j * 3 + c]? = some v
theorem MkC.step {cs : Array Value} {l : List SU} {i : Nat} {x : SU} (h : MkC cs l i) (hx : l[i]? = some x) : MkC (spl cs (i * 3) (mkV x.mark).toList) l (i + 1) := by
  have hi : i < l.length := (List.getElem?_eq_some_iff.1 hx).1
  have h3 : (mkV x.mark).toList.length = 3 := rfl
  refine ⟨by rw [spl_size]; exact h.size, fun j y hj hy c v hc => ?_⟩
  have hc3 : c < 3 := by
    have := (List.getElem?_eq_some_iff.1 hc).1
    exact this
  by_cases e : j = i
  · subst e
    rw [hx] at hy
    injection hy with hy
    subst hy
    rw [spl_hit _ _ _ _ (by rw [h3]; exact hc3) (by rw [h3, h.size]; omega)]
    exact hc
  · rw [spl_same _ _ _ _ (by rw [h3]; omega)]
    exact h.at_ j y (by omega) hy c v hc
def zMarks (n : Nat) : Array Value := madeCells (Value.agg #[.string ⟨#[]⟩, .int .i64 0, .bool false]).cells (n * 3)
theorem zMarks_size (n : Nat) : (zMarks n).size = n * 3 := size_madeCells _ _
def nilE (er : Int) (w : World) (e : Ending) (w' : World) : Prop := e = .returned (.tuple #[.slice none 0 0, .int .i64 er]) ∧ Below w.heap.size w w'
end
end
section
section
open Go.RowKit
set_option linter.unusedVariables false
set_option maxHeartbeats 4000000
theorem visS_small {l : List SU} {k : Int} {fund : ByteArray} (h : ∀ x ∈ l, x.small) : ∀ x ∈ visS l k fund, x.small := fun x hx => h x (pickS_mem _ hx).1
/-- What Active answers. -/
def ActR (l : List SU) (k : Int) (fund : ByteArray) (d : Int) (v : Bool) (e : Int) : Prop :=
  (susB l = false ∧ v = false ∧ e = 280) ∨ (susB l = true ∧ knB k = false ∧ v = false ∧ e = 240) ∨ (susB l = true ∧ knB k = true ∧ nmB fund = false ∧ v = false ∧ e = 241) ∨
  (susB l = true ∧ knB k = true ∧ nmB fund = true ∧ dayB d = false ∧ v = false ∧ e = 50) ∨ (susB l = true ∧ knB k = true ∧ nmB fund = true ∧ dayB d = true ∧ v = actB (visS l k fund) d ∧ e = 0)
theorem act_ex (l : List SU) (k : Int) (fund : ByteArray) (d : Int) : ∃ v e, ActR l k fund d v e := by
  cases h1 : susB l
  · exact ⟨_, _, .inl ⟨h1, rfl, rfl⟩⟩
  cases h2 : knB k
  · exact ⟨_, _, .inr (.inl ⟨h1, h2, rfl, rfl⟩)⟩
  cases h3 : nmB fund
  · exact ⟨_, _, .inr (.inr (.inl ⟨h1, h2, h3, rfl, rfl⟩))⟩
  cases h4 : dayB d
  · exact ⟨_, _, .inr (.inr (.inr (.inl ⟨h1, h2, h3, h4, rfl, rfl⟩)))⟩
  · exact ⟨_, _, .inr (.inr (.inr (.inr ⟨h1, h2, h3, h4, rfl, rfl⟩)))⟩
theorem any_drop {L : List SU} {i : Nat} {x : SU} (hx : L[i]? = some x) (d : Int) : actB (L.drop i) d = (covB x d || actB (L.drop (i + 1)) d) := by
  obtain ⟨hl, e⟩ := List.getElem?_eq_some_iff.1 hx
  rw [List.drop_eq_getElem_cons hl, e]
  rfl
end
section
open Go.RowKit
set_option linter.unusedVariables false
set_option maxHeartbeats 4000000
theorem lastC_snoc (d : Int) (x : SU) : ∀ L : List SU, (∀ y ∈ L, True) → 0 ≤ lastC d L → lastC d (L ++ [x]) = if covB x d = true then max (lastC d L) x.til else lastC d L
  | [], _, _ => by
    simp only [List.nil_append, lastC]
    split <;> omega
  | y :: r, _, h => by
    have hr : 0 ≤ lastC d r ∨ lastC d r < 0 := by omega
    have key : ∀ r : List SU, 0 ≤ lastC d r := fun r => by
      induction r with
      | nil => simp [lastC]
      | cons z s ih => unfold lastC; split <;> omega
    have ih := lastC_snoc d x r (fun _ _ => trivial) (key r)
    simp only [List.cons_append, lastC, ih]
    split <;> split <;> omega
theorem lastC_nn (d : Int) (L : List SU) : 0 ≤ lastC d L := by
  induction L with
  | nil => simp [lastC]
  | cons z s ih => unfold lastC; split <;> omega
theorem last_yes {L : List SU} {i : Nat} {x : SU} {d : Int} (hx : L[i]? = some x) (hc : covB x d = true) : lastC d (L.take (i + 1)) = max (lastC d (L.take i)) x.til := by
  rw [take_next hx, lastC_snoc d x _ (fun _ _ => trivial) (lastC_nn _ _), if_pos hc]
theorem last_no {L : List SU} {i : Nat} {x : SU} {d : Int} (hx : L[i]? = some x) (hc : covB x d = false) : lastC d (L.take (i + 1)) = lastC d (L.take i) := by
  rw [take_next hx, lastC_snoc d x _ (fun _ _ => trivial) (lastC_nn _ _), if_neg (by simp [hc])]
theorem act_snoc {L : List SU} {i : Nat} {x : SU} {d : Int} (hx : L[i]? = some x) : actB (L.take (i + 1)) d = (actB (L.take i) d || covB x d) := by
  rw [take_next hx]
  simp [actB]
theorem open_snoc {L : List SU} {i : Nat} {x : SU} {d : Int} (hx : L[i]? = some x) : openB (L.take (i + 1)) d = (openB (L.take i) d || (covB x d && decide (x.til = 0))) := by
  rw [take_next hx]
  simp [openB]
theorem ret_tri {a a' b b' : Bool} {c c' : Int} (h1 : a = a') (h2 : b = b') (h3 : c = c') : Ending.returned (.tuple #[.bool a, .bool b, .int .i64 c]) = .returned (.tuple #[.bool a', .bool b', .int .i64 c']) := by rw [h1, h2, h3]
/-- What the document's check answers. -/
def ChkR (l : List SU) (k : Int) (fund : ByteArray) (d : Int) (e : Int) : Prop :=
  (susB l = false ∧ e = 280) ∨ (susB l = true ∧ knB k = false ∧ e = 240) ∨ (susB l = true ∧ knB k = true ∧ nmB fund = false ∧ e = 241) ∨
  (susB l = true ∧ knB k = true ∧ nmB fund = true ∧ dayB d = false ∧ e = 50) ∨ (susB l = true ∧ knB k = true ∧ nmB fund = true ∧ dayB d = true ∧ e = 0)
theorem known_is {k : Int} {b : Bool} (h : knB k = b) (w : World) : Calls Tryz.prog 47 #[.int .i64 k] w (RetW (.int .i64 (if b = true then 0 else 240)) w) := by
  subst h
  exact known_any k w
/-- The document's Active, where all is well. -/
theorem visS_len2 {l : List SU} (h : susB l = true) (k : Int) (fund : ByteArray) : (visS l k fund).length ≤ 4096 := Nat.le_trans (visS_len l k fund) (susB_len h)
theorem ActR.chk {l : List SU} {k : Int} {fund : ByteArray} {d : Int} {v : Bool} {e : Int} (h : ActR l k fund d v e) : ChkR l k fund d e := by
  rcases h with ⟨a, -, b⟩ | ⟨a, b, -, c⟩ | ⟨a, b, c, -, e⟩ | ⟨a, b, c, d, -, e⟩ | ⟨a, b, c, d, -, e⟩
  · exact .inl ⟨a, b⟩
  · exact .inr (.inl ⟨a, b, c⟩)
  · exact .inr (.inr (.inl ⟨a, b, c, e⟩))
  · exact .inr (.inr (.inr (.inl ⟨a, b, c, d, e⟩)))
  · exact .inr (.inr (.inr (.inr ⟨a, b, c, d, e⟩)))
theorem ActR.good {l : List SU} {k : Int} {fund : ByteArray} {d : Int} {v : Bool} {e : Int} (h : ActR l k fund d v e) : (e ≠ 0 ∧ v = false) ∨ (e = 0 ∧ susB l = true ∧ v = actB (visS l k fund) d) := by
  rcases h with ⟨a, c, b⟩ | ⟨a, b, d, c⟩ | ⟨a, b, c, d, e⟩ | ⟨a, b, c, d, f, e⟩ | ⟨a, b, c, d, f, e⟩
  · exact .inl ⟨by omega, c⟩
  · exact .inl ⟨by omega, d⟩
  · exact .inl ⟨by omega, d⟩
  · exact .inl ⟨by omega, f⟩
  · exact .inr ⟨e, a, f⟩
end
end
section
section
open Go.RowKit
set_option linter.unusedVariables false
set_option maxHeartbeats 8000000
/-- What Move answers; nx: what the schedule's Next answers. -/
def MovR (l : List SU) (k : Int) (fund : ByteArray) (s : SC) (z : ZN) (c : CN) (nx : Int → Int × Int) (d v e : Int) : Prop :=
  (ChkR l k fund d e ∧ e ≠ 0 ∧ v = 0) ∨ (ChkR l k fund d 0 ∧ z.ok = false ∧ v = 0 ∧ e = 70) ∨ (ChkR l k fund d 0 ∧ z.ok = true ∧ c.ok = false ∧ v = 0 ∧ e = 80) ∨
  (ChkR l k fund d 0 ∧ z.ok = true ∧ c.ok = true ∧ s.ok = false ∧ v = 0 ∧ e = 90) ∨ (ChkR l k fund d 0 ∧ z.ok = true ∧ c.ok = true ∧ s.ok = true ∧ mov nx (visS l k fund) d = (v, e))
def NxR (s : SC) (z : ZN) (c : CN) (nx : Int → Int × Int) : Prop := ∀ d, NextR s z c d (nx d).1 (nx d).2
theorem nx_ex (s : SC) (z : ZN) (c : CN) : ∃ nx, NxR s z c nx := ⟨fun d => ⟨(next_ex s z c d).choose, (next_ex s z c d).choose_spec.choose⟩, fun d => (next_ex s z c d).choose_spec.choose_spec⟩
theorem NxR.le {s : SC} {z : ZN} {c : CN} {nx : Int → Int × Int} (h : NxR s z c nx) (d : Int) (h0 : (nx d).2 = 0) : d ≤ (nx d).1 := by
  rcases h d with ⟨-, h1, -⟩ | ⟨-, -, -, h1⟩ | ⟨-, -, ⟨-, -, h1⟩ | ⟨h1, -⟩⟩
  · exact absurd h0 h1
  · omega
  · omega
  · exact (fromP_spec h1).1
theorem NxR.hi {s : SC} {z : ZN} {c : CN} {nx : Int → Int × Int} (h : NxR s z c nx) (d : Int) (hd : 73048 < d) : (nx d).2 ≠ 0 := by
  rcases h d with ⟨-, h1, -⟩ | ⟨-, -, -, h1⟩ | ⟨-, h2, -⟩
  · exact h1
  · omega
  · have := (dayB_iff d).1 h2
    omega
theorem act_of_chk {l : List SU} {k : Int} {fund : ByteArray} {d e : Int} (h : ChkR l k fund d e) : ∃ v, ActR l k fund d v e := by
  obtain ⟨v, e', h'⟩ := act_ex l k fund d
  have h2 := h'.chk
  refine ⟨v, ?_⟩
  have : e = e' := by
    rcases h with ⟨a, b⟩ | ⟨a, b, c⟩ | ⟨a, b, c, e1⟩ | ⟨a, b, c, d1, e1⟩ | ⟨a, b, c, d1, e1⟩ <;>
    rcases h2 with ⟨a', b'⟩ | ⟨a', b', c'⟩ | ⟨a', b', c', e2⟩ | ⟨a', b', c', d2, e2⟩ | ⟨a', b', c', d2, e2⟩ <;> simp_all
  rw [this]
  exact h'
theorem mov_ex (l : List SU) (k : Int) (fund : ByteArray) (s : SC) (z : ZN) (c : CN) (nx : Int → Int × Int) (d : Int) : ∃ v e, MovR l k fund s z c nx d v e := by
  obtain ⟨va, e, ha⟩ := act_ex l k fund d
  have hc := ha.chk
  by_cases he : e = 0
  · subst he
    cases h1 : z.ok
    · exact ⟨_, _, .inr (.inl ⟨hc, h1, rfl, rfl⟩)⟩
    cases h2 : c.ok
    · exact ⟨_, _, .inr (.inr (.inl ⟨hc, h1, h2, rfl, rfl⟩))⟩
    cases h3 : s.ok
    · exact ⟨_, _, .inr (.inr (.inr (.inl ⟨hc, h1, h2, h3, rfl, rfl⟩)))⟩
    · exact ⟨_, _, .inr (.inr (.inr (.inr ⟨hc, h1, h2, h3, rfl⟩)))⟩
  · exact ⟨_, _, .inl ⟨hc, he, rfl⟩⟩
/-- The boxes of a schedule and a place, beside a list of suspensions. -/
structure MB (w W : World) (s : SC) (z : ZN) (A : Option Addr) (kz : Nat) (c : CN) (Ac : Option Addr) (kc : Nat) (l : List SU) (Al : Option Addr) : Prop where
  sb : BlkAt W w.heap.size (sV s) 28
  pb : BlkAt W (w.heap.size + 1) (pV z A kz c Ac kc) 37
  za : ZAt W z A
  ca : CAt W c Ac
  su : SuAt W Al l
  below : Below w.heap.size w W
section
variable {w W W' : World} {s : SC} {z : ZN} {A : Option Addr} {kz : Nat} {c : CN} {Ac : Option Addr} {kc : Nat} {l : List SU} {Al : Option Addr}
theorem MB.next (h : MB w W s z A kz c Ac kc l Al) (hb : Below W.heap.size W W') : MB w W' s z A kz c Ac kc l Al := ⟨h.sb.next hb, h.pb.next hb, h.za.below hb, h.ca.below hb, h.su.below hb, bnext h.below hb⟩
theorem MB.new (s : SC) (kz kc : Nat) (hz : ZAt w z A) (hc : CAt w c Ac) (hs : SuAt w Al l) : MB w ((w.alloc (.cells (sV s) 28)).alloc (.cells (pV z A kz c Ac kc) 37)) s z A kz c Ac kc l Al := by
  have hb := bal (bal0 w (.cells (sV s) 28)) (.cells (pV z A kz c Ac kc) 37)
  exact ⟨(BlkAt.new _ _ _).al _, BlkAt.newAt _ _ _ (by simp), hz.below hb, hc.below hb, hs.below hb, hb⟩
theorem MB.q (h : MB w W s z A kz c Ac kc l Al) : (W.cell? ⟨w.heap.size, 0, none⟩ = some (.int .i64 s.period) ∧ W.cell? ⟨w.heap.size, 1, none⟩ = some (.int .i64 s.nth) ∧ W.cell? ⟨w.heap.size, 2, none⟩ = some (.int .i64 s.notice) ∧ W.cell? ⟨w.heap.size, 3, none⟩ = some (.int .i64 s.settle) ∧ W.cell? ⟨w.heap.size, 4, none⟩ = some (.int .i64 s.cutoff)) ∧ (W.cell? ⟨w.heap.size + 1, 0, none⟩ = some (.string z.name) ∧ W.cell? ⟨w.heap.size + 1, 1, none⟩ = some (.int .i64 z.off) ∧ W.cell? ⟨w.heap.size + 1, 2, none⟩ = some (.slice A z.cs.length kz) ∧ W.cell? ⟨w.heap.size + 1, 3, none⟩ = some (.string c.name) ∧ W.cell? ⟨w.heap.size + 1, 4, none⟩ = some (.bool c.w0) ∧ W.cell? ⟨w.heap.size + 1, 5, none⟩ = some (.bool c.w1) ∧ W.cell? ⟨w.heap.size + 1, 6, none⟩ = some (.bool c.w2) ∧ W.cell? ⟨w.heap.size + 1, 7, none⟩ = some (.bool c.w3) ∧ W.cell? ⟨w.heap.size + 1, 8, none⟩ = some (.bool c.w4) ∧ W.cell? ⟨w.heap.size + 1, 9, none⟩ = some (.bool c.w5) ∧ W.cell? ⟨w.heap.size + 1, 10, none⟩ = some (.bool c.w6) ∧ W.cell? ⟨w.heap.size + 1, 11, none⟩ = some (.slice Ac c.hs.length kc)) ∧ MB w W s z A kz c Ac kc l Al :=
  ⟨⟨h.sb.cell rfl, h.sb.cell rfl, h.sb.cell rfl, h.sb.cell rfl, h.sb.cell rfl⟩,
    ⟨h.pb.cell rfl, h.pb.cell rfl, h.pb.cell rfl, h.pb.cell rfl, h.pb.cell rfl, h.pb.cell rfl, h.pb.cell rfl, h.pb.cell rfl, h.pb.cell rfl, h.pb.cell rfl, h.pb.cell rfl, h.pb.cell rfl⟩, h⟩
end
theorem ret_two {a b a' b' : Int} (h1 : a = a') (h2 : b = b') : Ending.returned (.tuple #[.int .i64 a, .int .i64 b]) = .returned (.tuple #[.int .i64 a', .int .i64 b']) := by rw [h1, h2]
/-- Three errors: the first that is not 0. -/
def err3 (a b c : Int) : Int := if a ≠ 0 then a else if b ≠ 0 then b else c
end
section
open Go.RowKit
set_option linter.unusedVariables false
set_option maxHeartbeats 8000000
theorem sus_til {l : List SU} (h : susB l = true) {k : Int} {fund : ByteArray} : ∀ x ∈ visS l k fund, 0 ≤ x.til ∧ x.til ≤ 73048 := fun x hx => by
  have hm := (pickS_mem _ hx).1
  obtain ⟨i, hi⟩ := List.getElem?_of_mem hm
  unfold susB at h
  simp only [Bool.and_eq_true] at h
  have hok := (susFrom_get l 0 i x h.2 hi).1
  unfold SU.ok at hok
  simp only [Bool.and_eq_true] at hok
  have h2 := hok.2
  split at h2
  · simp at h2
    omega
  · simp [spanB] at h2
    omega
/-- The program's last. -/
def lpS (d : Int) (L : List SU) : Int := if actB L d = true then lastC d L else -1
theorem lpS_nil (d : Int) : lpS d [] = -1 := rfl
theorem lpS_no {L : List SU} {i : Nat} {x : SU} {d : Int} (hx : L[i]? = some x) (hc : covB x d = false) : lpS d (L.take (i + 1)) = lpS d (L.take i) := by
  unfold lpS
  rw [act_snoc hx, last_no hx hc, hc, Bool.or_false]
theorem lpS_yes {L : List SU} {i : Nat} {x : SU} {d : Int} (hx : L[i]? = some x) (hc : covB x d = true) (h0 : 0 ≤ x.til) : lpS d (L.take (i + 1)) = max (lpS d (L.take i)) x.til := by
  have hnil : actB (L.take i) d = false → lastC d (L.take i) = 0 := fun h => by
    generalize L.take i = M at h
    induction M with
    | nil => rfl
    | cons y r ih =>
      simp [actB] at h
      unfold lastC
      rw [if_neg (by simp [h.1])]
      exact ih (by simp [actB]; exact h.2)
  unfold lpS
  rw [act_snoc hx, last_yes hx hc, hc, Bool.or_true, if_pos rfl]
  cases ha : actB (L.take i) d
  · rw [hnil ha]
    simp
    omega
  · simp
theorem open_in {L : List SU} {i : Nat} {x : SU} {d : Int} (hx : L[i]? = some x) (hc : covB x d = true) (h0 : x.til = 0) : openB L d = true := by
  unfold openB
  rw [List.any_eq_true]
  exact ⟨x, List.mem_of_getElem? hx, by simp [hc, h0]⟩
theorem next_hi {s : SC} {z : ZN} {c : CN} {d v : Int} (h : NextR s z c d v 0) : v ≤ 73048 := by
  rcases h with ⟨-, hn, -⟩ | ⟨-, -, h1, hn⟩ | ⟨-, -, ⟨-, -, hn⟩ | ⟨hr, -⟩⟩
  · exact absurd rfl hn
  · omega
  · omega
  · exact (fromP_spec hr).2.1
end
section
open Go.RowKit
set_option linter.unusedVariables false
set_option maxHeartbeats 8000000
theorem ne0 {e : Int} (h : e ≠ 0) : (e != 0) = true := by rw [bne_iff_ne]; exact h
set_option maxRecDepth 100000 in
theorem place_is (s : SC) (z : ZN) (A : Option Addr) (kz : Nat) (c : CN) (Ac : Option Addr) (kc : Nat) (w : World) (hz : ZAt w z A) (hc : CAt w c Ac) : Calls Tryz.prog 49 #[.agg (sV s), .agg (pV z A kz c Ac kc)] w (RetB (.int .i64 (err3 z.err c.err s.err)) w) := by
  have HM := Lib.hid (MB.new s kz kc hz hc (l := []) (Al := none) ⟨RecsAt.nil .., fun x h => by simp at h⟩)
  obtain ⟨ez, hez⟩ : ∃ ez, z.err = ez := ⟨_, rfl⟩
  obtain ⟨ec, hec⟩ : ∃ ec, c.err = ec := ⟨_, rfl⟩
  obtain ⟨es, hes⟩ : ∃ es, s.err = es := ⟨_, rfl⟩
  rw [hez, hec, hes]
  have Z := Lib.hid hez
  have C := Lib.hid hec
  have S := Lib.hid hes
  obtain ⟨-, ⟨r0, r1, r2, -⟩, -⟩ := HM.out.q
  clear hz hc hez hec hes
  by_cases h1 : ez = 0
  · have H1 := Lib.hid h1
    have g1 : (ez != 0) = false := by simp [h1]
    clear h1
    go_enter Tryz.func49, Tryz.ntmps49
    go_wp2_with fail
    refine (refCheck_is Z.out A kz _ HM.out.za).mono ?_
    rintro e w1 ⟨rfl, hb1⟩
    have HM1 := Lib.hid (HM.out.next hb1)
    clear HM r0 r1 r2 hb1
    by_cases h2 : ec = 0
    · have H2 := Lib.hid h2
      have g2 : (ec != 0) = false := by simp [h2]
      clear h2
      go_wp2_with ((with_reducible refine wpl_load_mid rfl 35 _ rfl _ 3 ?_ HM1.out.pb ?_ (rowC c Ac kc) ?_); exact rfl; exact rfl)
      refine (rcheck_is C.out Ac kc _ HM1.out.ca).mono ?_
      rintro e w2 ⟨rfl, hb2⟩
      have HM2 := Lib.hid (HM1.out.next hb2)
      clear HM1 hb2
      go_wp2_with ((with_reducible refine wpl_load rfl 28 _ rfl _ ?_ HM2.out.sb (rowS _) ?_); exact rfl)
      refine (r9check_is S.out _).mono ?_
      rintro e w3 ⟨rfl, hb3⟩
      have HM3 := Lib.hid (HM2.out.next hb3)
      clear HM2 hb3
      go_wp2_with fail
      go_ret
      exact ⟨ret_int (by unfold err3; rw [if_neg (by simp [H1.out]), if_neg (by simp [H2.out])]), HM3.out.below⟩
    · have H2 := Lib.hid h2
      have g2 := ne0 h2
      clear h2
      go_wp2_with ((with_reducible refine wpl_load_mid rfl 35 _ rfl _ 3 ?_ HM1.out.pb ?_ (rowC c Ac kc) ?_); exact rfl; exact rfl)
      refine (rcheck_is C.out Ac kc _ HM1.out.ca).mono ?_
      rintro e w2 ⟨rfl, hb2⟩
      have HM2 := Lib.hid (HM1.out.next hb2)
      clear HM1 hb2
      go_wp2_with fail
      go_ret
      exact ⟨ret_int (by unfold err3; rw [if_neg (by simp [H1.out]), if_pos H2.out]), HM2.out.below⟩
  · have H1 := Lib.hid h1
    have g1 := ne0 h1
    clear h1
    go_enter Tryz.func49, Tryz.ntmps49
    go_wp2_with fail
    refine (refCheck_is Z.out A kz _ HM.out.za).mono ?_
    rintro e w1 ⟨rfl, hb1⟩
    have HM1 := Lib.hid (HM.out.next hb1)
    clear HM r0 r1 r2 hb1
    go_wp2_with fail
    go_ret
    exact ⟨ret_int (by unfold err3; rw [if_pos H1.out]), HM1.out.below⟩
end
end
end Go.Proofs.YtbfllcfjgpkpaaaGreat
