/-
  How schedules, calendars and places that came in are read.
-/
import Derived.Test.YtbfllcfjgpkpaaaGreatSchedRow
import Derived.Test.YtbfllcfjgpkpaaaGreatCalWalk
import Derived.Test.YtbfllcfjgpkpaaaGreatRow
namespace Go.Proofs.YtbfllcfjgpkpaaaGreat
open Go.ChangeShapes Go.WideShapes Go.ChangeAt Go.RowKit Go.Deep
set_option linter.unusedVariables false
section
variable {H : Type} {enc : TypeId × Value → H}
theorem int1 {W : World} {base : Nat} {sp : Nat → Bool} {held : Bool} {fuel : Nat} {c : Value} {x : DataW H × List MemPlace} (h : DataW.trod enc Tryz.prog W base sp held fuel 3 [c] = some x) : ∃ v : Int, c = .int .i64 v := by
  obtain ⟨v, hv, _, _⟩ := DataW.trod_int Tryz.underlying3 h
  simp only [List.cons.injEq, and_true] at hv
  exact ⟨v, hv⟩
theorem bool1 {W : World} {base : Nat} {sp : Nat → Bool} {held : Bool} {fuel : Nat} {c : Value} {x : DataW H × List MemPlace} (h : DataW.trod enc Tryz.prog W base sp held fuel 4 [c] = some x) : ∃ v : Bool, c = .bool v := by
  obtain ⟨v, hv, _⟩ := DataW.trod_bool Tryz.underlying4 h
  simp only [List.cons.injEq, and_true] at hv
  exact ⟨v, hv⟩
theorem string1 {W : World} {base : Nat} {sp : Nat → Bool} {held : Bool} {fuel : Nat} {c : Value} {x : DataW H × List MemPlace} (h : DataW.trod enc Tryz.prog W base sp held fuel 9 [c] = some x) : ∃ v : ByteArray, c = .string v ∧ v.size ≤ maxLen := by
  obtain ⟨v, hv, _, hs⟩ := DataW.trod_string Tryz.underlying9 h
  simp only [List.cons.injEq, and_true] at hv
  exact ⟨v, hv, hs⟩
theorem ints1 {W : World} {fuel : Nat} {c : Value} {x : DataW H × List MemPlace} (h : DataW.trod enc Tryz.prog W 0 (fun _ => true) true fuel 23 [c] = some x) : ∃ (A : Option Addr) (L : List Int) (cap : Nat), c = .slice A L.length cap ∧ IntsAt W A L := by
  have hs : ∃ (A : Option Addr) (len cap : Nat), c = .slice A len cap := by
    rcases open_ints Tryz.underlying23 Tryz.underlying3 (by kernel_rfl) h with ⟨hcs, _⟩ | ⟨x, l, c, zs, hcs, _⟩
    · simp only [List.cons.injEq, and_true] at hcs
      exact ⟨_, _, _, hcs⟩
    · simp only [List.cons.injEq, and_true] at hcs
      exact ⟨_, _, _, hcs⟩
  obtain ⟨A, len, cap, rfl⟩ := hs
  obtain ⟨L, rfl, hL⟩ := open_ints1 (d := x.1) (p := x.2) ⟨fuel, h⟩
  exact ⟨A, L, cap, rfl, hL⟩
set_option maxRecDepth 100000 in
/-- A schedule that came in. -/
theorem open_sched {W : World} {base : Nat} {sp : Nat → Bool} {held : Bool} {fuel : Nat} {cs : List Value} {x : DataW H × List MemPlace}
    (h : DataW.trod enc Tryz.prog W base sp held fuel 28 cs = some x) : ∃ s : SC, cs = (sV s).toList := by
  obtain ⟨xs, n, _, _, hl, hlen, hf⟩ := DataW.trod_struct Tryz.underlying28 h
  have hl5 : cs.length = 5 := hl.trans (by kernel_rfl)
  match cs, hl5 with
  | [c0, c1, c2, c3, c4], _ =>
    match xs, hlen with
    | [y0, y1, y2, y3, y4], _ =>
      have h0 : DataW.trod enc Tryz.prog W base sp held n 3 [c0] = some y0 := hf 0 _ rfl
      have h1 : DataW.trod enc Tryz.prog W base sp held n 3 [c1] = some y1 := hf 1 _ rfl
      have h2 : DataW.trod enc Tryz.prog W base sp held n 3 [c2] = some y2 := hf 2 _ rfl
      have h3 : DataW.trod enc Tryz.prog W base sp held n 3 [c3] = some y3 := hf 3 _ rfl
      have h4 : DataW.trod enc Tryz.prog W base sp held n 3 [c4] = some y4 := hf 4 _ rfl
      obtain ⟨a0, rfl⟩ := int1 h0
      obtain ⟨a1, rfl⟩ := int1 h1
      obtain ⟨a2, rfl⟩ := int1 h2
      obtain ⟨a3, rfl⟩ := int1 h3
      obtain ⟨a4, rfl⟩ := int1 h4
      exact ⟨⟨a0, a1, a2, a3, a4⟩, rfl⟩
set_option maxRecDepth 100000 in
/-- A calendar that came in. -/
theorem open_cal {W : World} {fuel : Nat} {cs : List Value} {x : DataW H × List MemPlace}
    (h : DataW.trod enc Tryz.prog W 0 (fun _ => true) true fuel 35 cs = some x) : ∃ (c : CN) (A : Option Addr) (k : Nat), cs = (cV c A k).toList ∧ CAt W c A := by
  obtain ⟨y0, y1, y2, n, _, hl, h0, h1, h2⟩ := trod_struct3 Tryz.underlying35 h
  have hl9 : cs.length = 9 := hl.trans (by kernel_rfl)
  match cs, hl9 with
  | [c0, c1, c2, c3, c4, c5, c6, c7, c8], _ =>
    have h0' : DataW.trod enc Tryz.prog W 0 (fun _ => true) true n 9 [c0] = some y0 := h0
    have h1' : DataW.trod enc Tryz.prog W 0 (fun _ => true) true n 33 [c1, c2, c3, c4, c5, c6, c7] = some y1 := h1
    have h2' : DataW.trod enc Tryz.prog W 0 (fun _ => true) true n 23 [c8] = some y2 := h2
    obtain ⟨nm, rfl, hnm⟩ := string1 h0'
    obtain ⟨A, L, cap, rfl, hL⟩ := ints1 h2'
    obtain ⟨xs, m, _, _, _, hlen, hf⟩ := DataW.trod_array Tryz.underlying33 h1'
    match xs, hlen with
    | [z0, z1, z2, z3, z4, z5, z6], _ =>
      have g0 : DataW.trod enc Tryz.prog W 0 (fun _ => true) true m 4 [c1] = some z0 := hf 0 (by decide)
      have g1 : DataW.trod enc Tryz.prog W 0 (fun _ => true) true m 4 [c2] = some z1 := hf 1 (by decide)
      have g2 : DataW.trod enc Tryz.prog W 0 (fun _ => true) true m 4 [c3] = some z2 := hf 2 (by decide)
      have g3 : DataW.trod enc Tryz.prog W 0 (fun _ => true) true m 4 [c4] = some z3 := hf 3 (by decide)
      have g4 : DataW.trod enc Tryz.prog W 0 (fun _ => true) true m 4 [c5] = some z4 := hf 4 (by decide)
      have g5 : DataW.trod enc Tryz.prog W 0 (fun _ => true) true m 4 [c6] = some z5 := hf 5 (by decide)
      have g6 : DataW.trod enc Tryz.prog W 0 (fun _ => true) true m 4 [c7] = some z6 := hf 6 (by decide)
      obtain ⟨b0, rfl⟩ := bool1 g0
      obtain ⟨b1, rfl⟩ := bool1 g1
      obtain ⟨b2, rfl⟩ := bool1 g2
      obtain ⟨b3, rfl⟩ := bool1 g3
      obtain ⟨b4, rfl⟩ := bool1 g4
      obtain ⟨b5, rfl⟩ := bool1 g5
      obtain ⟨b6, rfl⟩ := bool1 g6
      exact ⟨⟨nm, b0, b1, b2, b3, b4, b5, b6, L⟩, A, cap, rfl, ⟨hnm, hL⟩⟩
set_option maxRecDepth 100000 in
/-- A place that came in. -/
theorem open_place {W : World} {fuel : Nat} {cs : List Value} {x : DataW H × List MemPlace}
    (h : DataW.trod enc Tryz.prog W 0 (fun _ => true) true fuel 37 cs = some x) :
    ∃ (z : ZN) (zA : Option Addr) (zc : Nat) (c : CN) (cA : Option Addr) (cc : Nat), cs = (pV z zA zc c cA cc).toList ∧ ZAt W z zA ∧ CAt W c cA := by
  obtain ⟨xs, n, _, _, hl, hlen, hf⟩ := DataW.trod_struct Tryz.underlying37 h
  have hl12 : cs.length = 12 := hl.trans (by kernel_rfl)
  match cs, hl12 with
  | [c0, c1, c2, c3, c4, c5, c6, c7, c8, c9, c10, c11], _ =>
    match xs, hlen with
    | [y0, y1], _ =>
      have h0 : DataW.trod enc Tryz.prog W 0 (fun _ => true) true n 32 [c0, c1, c2] = some y0 := hf 0 _ rfl
      have h1 : DataW.trod enc Tryz.prog W 0 (fun _ => true) true n 35 [c3, c4, c5, c6, c7, c8, c9, c10, c11] = some y1 := hf 1 _ rfl
      obtain ⟨z, zA, zc, hz, hzat⟩ := open_zone h0
      obtain ⟨c, cA, cc, hc, hcat⟩ := open_cal h1
      refine ⟨z, zA, zc, c, cA, cc, ?_, hzat, hcat⟩
      show [c0, c1, c2] ++ [c3, c4, c5, c6, c7, c8, c9, c10, c11] = [.string z.name, .int .i64 z.off, .slice zA z.cs.length zc] ++ (cV c cA cc).toList
      rw [hz, hc]
end
end Go.Proofs.YtbfllcfjgpkpaaaGreat
