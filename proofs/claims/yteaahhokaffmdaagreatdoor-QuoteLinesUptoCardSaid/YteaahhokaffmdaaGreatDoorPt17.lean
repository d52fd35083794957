/- What the laws lean on. -/
import Derived.Test.YteaahhokaffmdaaGreatDoorPt16
import Derived.SizedLaws
namespace Go.Proofs.YteaahhokaffmdaaGreatDoor
set_option linter.unusedVariables false
set_option linter.unusedSimpArgs false
section
open Go.ChangeShapes Go.WideShapes Go.ChangeAt Go.RowKit Go.Deep
theorem maxL {s : ByteArray} (h : s.size ≤ maxLen) : s.data.toList.length ≤ 9223372036854775807 := by
 unfold maxLen at h
 have : s.data.toList.length = s.size := by simp
 omega
section
variable {H : Type} {enc : TypeId × Value → H}
theorem qstr1 {W : World} {n : Nat} {c : Value} {y : DataW H × List MemPlace} (h : DataW.trod enc Tryz.prog W 0 (fun _ => true) true n 9 [c] = some y) : ∃ s : ByteArray, c = .string s ∧ s.size ≤ maxLen := by
 obtain ⟨s, hs, _, hm⟩ := DataW.trod_string Tryz.underlying9 h
 simp only [List.cons.injEq, and_true] at hs
 exact ⟨s, hs, hm⟩
theorem qint1 {W : World} {n : Nat} {c : Value} {y : DataW H × List MemPlace} (h : DataW.trod enc Tryz.prog W 0 (fun _ => true) true n 3 [c] = some y) : ∃ s : Int, c = .int .i64 s := by
 obtain ⟨s, hs, _, _⟩ := DataW.trod_int Tryz.underlying3 h
 simp only [List.cons.injEq, and_true] at hs
 exact ⟨s, hs⟩
theorem qbool1 {W : World} {n : Nat} {c : Value} {y : DataW H × List MemPlace} (h : DataW.trod enc Tryz.prog W 0 (fun _ => true) true n 4 [c] = some y) : ∃ s : Bool, c = .bool s := by
 obtain ⟨s, hs, _⟩ := DataW.trod_bool Tryz.underlying4 h
 simp only [List.cons.injEq, and_true] at hs
 exact ⟨s, hs⟩
def QT.good (q : QT) : Prop := q.a < bp 32 ∧ q.b < bp 32 ∧ q.src.length ≤ 9223372036854775807 ∧ q.ins.length ≤ 9223372036854775807 ∧ q.cur.length ≤ 9223372036854775807
set_option maxRecDepth 100000 in
theorem open_q1 {W : World} {fuel : Nat} {cs : List Value} {x : DataW H × List MemPlace}
  (h : DataW.trod enc Tryz.prog W 0 (fun _ => true) true fuel 33 cs = some x) (hl : cs.length = 72) : ∃ q : QT, cs = (qC q).toList ∧ q.good := by
 obtain ⟨xs, n, _, _, hl2, hlen, hf⟩ := DataW.trod_struct Tryz.underlying33 h
 obtain ⟨c0, c1, c2, c3, r, rfl⟩ : ∃ c0 c1 c2 c3 r, cs = c0 :: c1 :: c2 :: c3 :: r := by
  match cs, hl with
  | c0 :: c1 :: c2 :: c3 :: r, _ => exact ⟨c0, c1, c2, c3, r, rfl⟩
 have hr : r.length = 68 := by simpa using hl
 match xs, hlen with
 | [y0, y1, y2, y3, y4, y5, y6], _ =>
  have h0 : DataW.trod enc Tryz.prog W 0 (fun _ => true) true n 9 [c0] = some y0 := hf 0 _ rfl
  have h1 : DataW.trod enc Tryz.prog W 0 (fun _ => true) true n 9 [c1] = some y1 := hf 1 _ rfl
  have h2 : DataW.trod enc Tryz.prog W 0 (fun _ => true) true n 9 [c2] = some y2 := hf 2 _ rfl
  have h3 : DataW.trod enc Tryz.prog W 0 (fun _ => true) true n 3 [c3] = some y3 := hf 3 _ rfl
  have h4 : DataW.trod enc Tryz.prog W 0 (fun _ => true) true n 31 (r.take (Tryz.prog.cellsOf 31)) = some y4 := hf 4 _ rfl
  rw [show Tryz.prog.cellsOf 31 = 66 by kernel_rfl] at h4
  have h5 : DataW.trod enc Tryz.prog W 0 (fun _ => true) true n 3 ((r.drop 66).take 1) = some y5 := hf 5 _ rfl
  have h6 : DataW.trod enc Tryz.prog W 0 (fun _ => true) true n 4 ((r.drop 67).take 1) = some y6 := hf 6 _ rfl
  obtain ⟨u, v, huv⟩ : ∃ u v, r.drop 66 = [u, v] := by
   have : (r.drop 66).length = 2 := by rw [List.length_drop, hr]
   match r.drop 66, this with
   | [u, v], _ => exact ⟨u, v, rfl⟩
  have h67 : r.drop 67 = [v] := by
   have : r.drop 67 = (r.drop 66).drop 1 := by rw [List.drop_drop]
   rw [this, huv]
   rfl
  rw [huv] at h5
  rw [h67] at h6
  obtain ⟨a0, rfl, b0⟩ := qstr1 h0
  obtain ⟨a1, rfl, b1⟩ := qstr1 h1
  obtain ⟨a2, rfl, b2⟩ := qstr1 h2
  obtain ⟨a3, rfl⟩ := qint1 h3
  obtain ⟨a5, rfl⟩ := qint1 h5
  obtain ⟨a6, rfl⟩ := qbool1 h6
  obtain ⟨p, m, q, k, hm, hk, hc⟩ := open_rat h4
  refine ⟨⟨a0.data.toList, a1.data.toList, a2.data.toList, a3, p, m, q, k, a5, a6⟩, ?_, hm, hk, maxL b0, maxL b1, maxL b2⟩
  unfold qC qHd qTl
  rw [Array.toList_append, Array.toList_append, ← hc, bs_of, bs_of, bs_of]
  show Value.string a0 :: Value.string a1 :: Value.string a2 :: Value.int .i64 a3 :: r = _
  conv => lhs; rw [← List.take_append_drop 66 r, huv]
  rfl
theorem quo_len {W : World} {fuel : Nat} {cs : List Value} {x : DataW H × List MemPlace} (h : DataW.trod enc Tryz.prog W 0 (fun _ => true) true fuel 33 cs = some x) : cs.length = 72 := by
 obtain ⟨xs, n, _, _, hl2, hlen, hf⟩ := DataW.trod_struct Tryz.underlying33 h
 exact hl2.trans (by kernel_rfl)
end
end
end Go.Proofs.YteaahhokaffmdaaGreatDoor
