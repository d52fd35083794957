/-
  The last step of every row of this seat: a law that returns true and leaves what lay as it lay; how its arguments are read.
  A slice of integers that came in; the tape that a law lays over it.
-/
import Derived.Test.YtbfllcfjgpkpaaaGreatPlain
import Derived.Test.YtbfllcfjgpkpaaaGreatRows
import Derived.Lib.SmallJoins
import Derived.Deep.Slices
import Derived.Deep.Fields
import Derived.Deep.Strs
import Derived.ShutString
import Derived.ChangeOld
import Derived.Test.YtbfllcfjgpkpaaaGreatMake
namespace Go.Proofs.YtbfllcfjgpkpaaaGreat
section
open Go.ChangeShapes Go.WideShapes Go.ChangeAt Go.RowKit Go.Deep

theorem own : ownKnob Tryz.prog.godebug = none := by kernel_rfl
theorem laidOut : laidOutB Tryz.prog = true := by kernel_rfl

section
variable {H : Type} {enc : TypeId × Value → H}
theorem trodAll_below {P : Program} (hl : laidOutB P = true) {W W' : World} (hb : Below W.heap.size W W') : ∀ {ts : List TypeId} {vs : List Value} {ds : List (DataW H)} {ps : List MemPlace},
    (∀ t ∈ ts, P.readableRec t = true ∧ t < P.types.size) → DataW.TrodAll enc P W 0 (fun _ => true) true ts vs ds ps → (∀ x ∈ ps, x.block < W.heap.size) →
    DataW.TrodAll enc P W' 0 (fun b => decide (b < W.heap.size)) true ts vs ds ps
  | [], [], [], _, _, h, _ => h
  | t :: _, _ :: _, _ :: _, _, hT, ⟨p, q, h1, h2, e⟩, hs =>
    ⟨p, q, Below.trod hl (hT t (by simp)).1 (hT t (by simp)).2 h1 hb (fun x hx => hs x (by rw [e]; exact List.mem_append_left _ hx)),
      trodAll_below hl hb (fun u hu => hT u (by simp [hu])) h2 (fun x hx => hs x (by rw [e]; exact List.mem_append_right _ hx)), e⟩

theorem law_post {f : Func} {s : ChangeSpec} {W W' : World} {args : Array Value} {ds : List (DataW H)} {before : List MemPlace} {e : Ending}
    (hv : s.vars = []) (hs : s.fn H ds = { results := [.lit (.bool true)], args := ds })
    (hT0 : (f.params.toList.all fun t => Tryz.prog.readableRec t && decide (t < Tryz.prog.types.size)) = true) (hR : f.resultTypes = #[4])
    (hW : DataW.Whole enc Tryz.prog f.params.toList s.vars false W args.toList ds [] before) (h : RetB (.bool true) W e W') :
    ∃ v, e = .returned v ∧ s.post enc Tryz.prog f false true false false W args v W' := by
  have hT : ∀ t ∈ f.params.toList, Tryz.prog.readableRec t = true ∧ t < Tryz.prog.types.size := fun t ht => by
    have := List.all_eq_true.1 hT0 t ht
    simpa using this
  obtain ⟨he, hb⟩ := h
  have hlt := hW.lt
  refine ⟨_, he, ds, [], before, [], before, [], hW, ?_, ?_, ?_, ?_, fun h => by cases h⟩
  · rw [hR]
    simp only [List.append_nil, hs]
    exact trodAll_mk1 (shut_bool Tryz.underlying4 _)
  · obtain ⟨p, q, hA, hV, rfl, _, _⟩ := hW
    rw [hv] at hV
    obtain ⟨_, rfl⟩ := trodVars_none hV
    simp only [List.append_nil, hs]
    have hA' : DataW.TrodAll enc Tryz.prog W 0 (fun _ => true) true f.params.toList args.toList ds p := hA
    exact trodAll_below laidOut hb hT hA' (fun x hx => hlt x (by simpa using hx))
  · simp only [List.append_nil, hs, hv]
    rfl
  · exact hb.frame _

set_option maxRecDepth 100000 in
/-- A zone that came in. -/
theorem open_zone {W : World} {base : Nat} {sp : Nat → Bool} {held : Bool} {fuel : Nat} {cs : List Value} {x : DataW H × List MemPlace}
    (h : DataW.trod enc Tryz.prog W base sp held fuel 32 cs = some x) :
    ∃ (z : ZN) (A : Option Addr) (c : Nat), cs = [.string z.name, .int .i64 z.off, .slice A z.cs.length c] ∧ ZAt W z A := by
  obtain ⟨y0, y1, y2, n, _, hl, h0, h1, h2⟩ := trod_struct3 Tryz.underlying32 h
  have hl3 : cs.length = 3 := hl.trans (by kernel_rfl)
  match cs, hl3 with
  | [c0, c1, c2], _ =>
    have h0' : DataW.trod enc Tryz.prog W base sp held n 9 [c0] = some y0 := h0
    have h1' : DataW.trod enc Tryz.prog W base sp held n 3 [c1] = some y1 := h1
    have h2' : DataW.trod enc Tryz.prog W base sp held n 30 [c2] = some y2 := h2
    obtain ⟨s, hs, _, hsm⟩ := DataW.trod_string Tryz.underlying9 h0'
    obtain ⟨o, ho, _, _⟩ := DataW.trod_int Tryz.underlying3 h1'
    simp only [List.cons.injEq, and_true] at hs ho
    subst hs ho
    rcases open_slice Tryz.underlying30 h2' with ⟨hc, _⟩ | ⟨a, len, cap, m, k, D, Pl, hc, _, hle, hcap, hmm, _, hel⟩
    · simp only [List.cons.injEq, and_true] at hc
      subst hc
      exact ⟨⟨s, o, []⟩, none, 0, rfl, hsm, by simp [maxLen], fun k x h => by simp at h⟩
    · simp only [List.cons.injEq, and_true] at hc
      subst hc
      have hlm : len ≤ m := by rw [hmm]; split <;> omega
      have key : ∀ i, ∃ x : Int × Int, i < len → W.cell? (a.add (i * 2)) = some (.int .i64 x.1) ∧ W.cell? (a.add (i * 2 + 1)) = some (.int .i64 x.2) := by
        intro i
        by_cases hi : i < len
        · obtain ⟨cs', hcs, ht⟩ := hel i (by omega)
          have h2c : Tryz.prog.cellsOf 69 = 2 := by kernel_rfl
          rw [h2c] at hcs
          obtain ⟨_, hcl, hat⟩ := World.cells?_some hcs
          obtain ⟨z0, z1, n', _, _, e0, e1⟩ := trod_struct2 Tryz.underlying69 ht
          match cs', hcl with
          | [u0, u1], _ =>
            have e0' : DataW.trod enc Tryz.prog W base sp held n' 3 [u0] = some z0 := e0
            have e1' : DataW.trod enc Tryz.prog W base sp held n' 3 [u1] = some z1 := e1
            obtain ⟨p, hp, _, _⟩ := DataW.trod_int Tryz.underlying3 e0'
            obtain ⟨q, hq, _, _⟩ := DataW.trod_int Tryz.underlying3 e1'
            simp only [List.cons.injEq, and_true] at hp hq
            subst hp hq
            refine ⟨(p, q), fun _ => ⟨?_, ?_⟩⟩
            · have := hat 0 (by omega)
              simpa [Addr.add] using this
            · have := hat 1 (by omega)
              rw [Go.Deep.add_add] at this
              simpa using this
        · exact ⟨(0, 0), fun h => absurd h hi⟩
      obtain ⟨F, hF⟩ : ∃ F : Nat → Int × Int, ∀ i, i < len → W.cell? (a.add (i * 2)) = some (.int .i64 (F i).1) ∧ W.cell? (a.add (i * 2 + 1)) = some (.int .i64 (F i).2) := ⟨fun i => (key i).choose, fun i => (key i).choose_spec⟩
      refine ⟨⟨s, o, (List.range len).map F⟩, some a, cap, by simp, hsm, by simp; omega, ?_⟩
      intro k x hx
      have hk : k < len := by
        have := List.getElem?_eq_some_iff.1 hx
        obtain ⟨h1, _⟩ := this
        simpa using h1
      have hxe : x = F k := by
        simp [hk] at hx
        exact hx.symm
      have hch := hF k hk
      rw [← hxe] at hch
      obtain ⟨b, off, spot⟩ := a
      have hspot : spot = none := by
        have h0 := (hF 0 (by omega)).1
        simpa [Addr.add] using World.cell?_spot h0
      subst hspot
      rw [Go.WideShapes.add_plain, Go.WideShapes.add_plain] at hch
      exact ⟨b, off, rfl, blt hch.1, hch.1, hch.2⟩
end
end
section
open Go.ChangeShapes Go.WideShapes Go.ChangeAt Go.RowKit Go.Deep

/-- A list of integers lies behind the address A. -/
def IntsAt (W : World) (A : Option Addr) (L : List Int) : Prop :=
  L.length ≤ 9223372036854775807 ∧ ∀ k x, L[k]? = some x → ∃ bb o, A = some ⟨bb, o, none⟩ ∧ bb < W.heap.size ∧ W.cell? ⟨bb, o + k, none⟩ = some (.int .i64 x)
theorem IntsAt.below {W W' : World} {A : Option Addr} {L : List Int} (h : IntsAt W A L) (hb : Below W.heap.size W W') : IntsAt W' A L :=
  ⟨h.1, fun k x hx => by
    obtain ⟨bb, o, hA, hlt, hc⟩ := h.2 k x hx
    exact ⟨bb, o, hA, Nat.lt_of_lt_of_le hlt hb.size, (hb.cell (p := ⟨bb, _, none⟩) hlt).trans hc⟩⟩

section
variable {H : Type} {enc : TypeId × Value → H}
theorem open_ints1 {W : World} {A : Option Addr} {len cap : Nat} {d : DataW H} {p : List MemPlace} (h : DataW.Trod enc Tryz.prog W 0 (fun _ => true) true 23 (.slice A len cap) d p) :
    ∃ L : List Int, len = L.length ∧ IntsAt W A L := by
  obtain ⟨fuel, hf⟩ := h
  rcases open_ints Tryz.underlying23 Tryz.underlying3 (by kernel_rfl) hf with ⟨hcs, _⟩ | ⟨x, l, c, zs, hcs, _, hl, hm, hz, _, hcell, hwz⟩
  · simp [Value.cells] at hcs
    obtain ⟨rfl, rfl, rfl⟩ := hcs
    exact ⟨[], rfl, by simp, fun k x hx => by simp at hx⟩
  · simp [Value.cells] at hcs
    obtain ⟨rfl, rfl, rfl⟩ := hcs
    have hzl : zs.length = cap := by simpa using hz
    unfold maxLen at hm
    refine ⟨zs.take len, by simp; omega, by simp; omega, fun k y hk => ?_⟩
    have hk1 : k < len := by
      have := (List.getElem?_eq_some_iff.1 hk).1
      simp at this
      omega
    obtain ⟨b, off, rfl, hc⟩ := ints_at hcell (by omega)
    have hck := hc k (by omega)
    have hy : zs.getD k 0 = y := by
      rw [List.getElem?_take_of_lt hk1] at hk
      simp [List.getD, hk]
    rw [hy] at hck
    exact ⟨b, off, rfl, blt hck, hck⟩
end

end
end Go.Proofs.YtbfllcfjgpkpaaaGreat
