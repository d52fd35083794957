/-
  A slice that a function makes by appending, beside old memory.
  Slices of structs: rows of n cells each behind an address; plain lemmas.
  How suspensions and marks lie in memory.
  A region that draws its order, walked by hand: operations that look at no memory, or whose guard is false, are taken first; the frame stays written out.
  Whole structs and arrays in the midst of a block: loads and stores by one law each.
  append of one element to a slice that the function makes itself.
-/
import Derived.Test.YtbfllcfjgpkpaaaGreatBase
import Derived.Test.YtbfllcfjgpkpaaaGreatRows
import Derived.Deep.Slices
import Derived.Test.YtbfllcfjgpkpaaaGreatPlain
import Derived.Orders
import Derived.RegionTactic
import Derived.Deep.RegionWith
import Derived.Laws.AppendOwn
import Derived.OwnWalk
namespace Go.Proofs.YtbfllcfjgpkpaaaGreat
section
open Go.RowKit
/-- Since W0 only new blocks have turned, and v is a slice of n elements of sz cells in such a block, or nil. -/
structure OwnL (W0 W : World) (e : TypeId) (sz : Nat) (v : Value) (n : Nat) (xs : List Value) : Prop where
  below : Below W0.heap.size W0 W
  own : W.ownsRow W0.heap.size e sz v n xs
section
variable {W0 W W' : World} {e : TypeId} {sz : Nat} {v v' : Value} {n n' : Nat} {xs xs' : List Value}
theorem grown_below {W W' : World} (hb : Below W.heap.size W W') (r : Option Nat) : W.grownBy W' r := ⟨hb.os, hb.tape, hb.output, hb.size, fun i hi _ => hb.block i hi⟩
theorem own_next {B : Nat} (h : W.ownsRow B e sz v n xs) (hb : Below W.heap.size W W') : W'.ownsRow B e sz v n xs := by
  refine h.kept (grown_below hb none) ?_
  cases v.ownBlock with
  | none => exact .inl rfl
  | some k => exact .inr (fun e => by cases e)
theorem OwnL.next (h : OwnL W0 W e sz v n xs) (hb : Below W.heap.size W W') : OwnL W0 W' e sz v n xs := ⟨bnext h.below hb, own_next h.own hb⟩
theorem OwnL.start (W0 : World) (e : TypeId) (sz : Nat) : OwnL W0 W0 e sz (.slice none 0 0) 0 [] := ⟨Below.refl _ _, World.ownsRow_nil _ _ _ _⟩
theorem OwnL.pushed (h : OwnL W0 W e sz v n xs) (hg : W.grownBy W' v.ownBlock) (hown : W'.ownsRow W0.heap.size e sz v' n' xs') : OwnL W0 W' e sz v' n' xs' :=
  ⟨⟨hg.os.trans h.below.os, hg.tape.trans h.below.tape, hg.output.trans h.below.output, Nat.le_trans h.below.size hg.size, fun i hi => (hg.block i (Nat.lt_of_lt_of_le hi h.below.size) (fun e => by have := (h.own.lt i e.symm).1; omega)).trans (h.below.block i hi)⟩, hown⟩
/-- It is a slice of n elements, and its cells read as listed. -/
theorem OwnL.read (h : OwnL W0 W e sz v n xs) : ∃ A cap, v = .slice A n cap ∧ ∀ j u, xs[j]? = some u → ∃ g, A = some ⟨g, 0, none⟩ ∧ g < W.heap.size ∧ W.cell? ⟨g, j, none⟩ = some u := by
  rcases h.own.2 with ⟨rfl, h0⟩ | ⟨g, cap, cur, rfl, hgb, hh, hle, _, hsz, ht⟩
  · refine ⟨none, 0, by rw [h0], fun j u hu => ?_⟩
    have := h.own.1
    rw [h0] at this
    simp at this
    rw [this] at hu
    simp at hu
  · refine ⟨some ⟨g, 0, none⟩, cap, rfl, fun j u hu => ⟨g, rfl, (Array.getElem?_eq_some_iff.1 hh).1, ?_⟩⟩
    have := h.own.cells (g := g) rfl j u hu
    rw [Go.WideShapes.add_plain] at this
    simpa using this
end
end
section
open Go.RowKit
/-- Behind A lie rows of n cells each. -/
structure RecsAt (W : World) (A : Option Addr) (n : Nat) (L : List (List Value)) : Prop where
  ln : L.length ≤ 9223372036854775807
  rows : ∀ k r, L[k]? = some r → ∃ b o, A = some ⟨b, o, none⟩ ∧ b < W.heap.size ∧ ∀ j v, r[j]? = some v → W.cell? ⟨b, o + k * n + j, none⟩ = some v
section
variable {W W' : World} {A : Option Addr} {n : Nat} {L : List (List Value)}
theorem RecsAt.below (h : RecsAt W A n L) (hb : Below W.heap.size W W') : RecsAt W' A n L :=
  ⟨h.ln, fun k r hr => by
    obtain ⟨b, o, hA, hlt, hc⟩ := h.rows k r hr
    exact ⟨b, o, hA, Nat.lt_of_lt_of_le hlt hb.size, fun j v hj => (hb.cell (p := ⟨b, _, none⟩) hlt).trans (hc j v hj)⟩⟩
theorem RecsAt.nil (W : World) (n : Nat) (A : Option Addr) : RecsAt W A n [] := ⟨by simp, fun k r h => by simp at h⟩
/-- The block of the rows is not g. -/
def FarA (A : Option Addr) (L : List (List Value)) (g : Nat) : Prop := ∀ (k : Nat) (r : List Value), L[k]? = some r → ∀ ad : Addr, A = some ad → ad.block ≠ g
theorem RecsAt.keep (h : RecsAt W A n L) (hs : W.heap.size ≤ W'.heap.size) (he : ∀ (k : Nat) (r : List Value), L[k]? = some r → ∀ ad : Addr, A = some ad → W'.heap[ad.block]? = W.heap[ad.block]?) : RecsAt W' A n L :=
  ⟨h.ln, fun k r hr => by
    obtain ⟨b, o, hA, hlt, hc⟩ := h.rows k r hr
    exact ⟨b, o, hA, Nat.lt_of_lt_of_le hlt hs, fun j v hj => (World.cell?_of_block (w := W) (a := ⟨b, o + k * n + j, none⟩) (he k r hr ⟨b, o, none⟩ hA)).trans (hc j v hj)⟩⟩
theorem RecsAt.grown {g : Option Nat} (h : RecsAt W A n L) (hg : W.grownBy W' g) (hf : ∀ (k : Nat) (r : List Value), L[k]? = some r → ∀ ad : Addr, A = some ad → g ≠ some ad.block) : RecsAt W' A n L :=
  h.keep hg.size fun k r hr ad hA => by
    obtain ⟨b, o, hA2, hlt, _⟩ := h.rows k r hr
    rw [hA] at hA2
    injection hA2 with e
    subst e
    exact hg.block _ hlt (fun e => hf k r hr _ hA e.symm)
/-- All rows lie in a block below B. -/
def UnderA (A : Option Addr) (L : List (List Value)) (B : Nat) : Prop := ∀ (k : Nat) (r : List Value), L[k]? = some r → ∀ ad : Addr, A = some ad → ad.block < B
theorem RecsAt.under (h : RecsAt W A n L) : UnderA A L W.heap.size := fun k r hr ad hA => by
  obtain ⟨b, o, hA2, hlt, _⟩ := h.rows k r hr
  rw [hA] at hA2
  injection hA2 with e
  subst e
  exact hlt
theorem RecsAt.belowB {B : Nat} (h : RecsAt W A n L) (hu : UnderA A L B) (hb : Below B W W') : RecsAt W' A n L :=
  h.keep hb.size fun k r hr ad hA => hb.block _ (hu k r hr ad hA)
end
/-- A list of rows of n cells, laid one behind the other. -/
theorem flat_get {n : Nat} : ∀ (L : List (List Value)) (k : Nat) (r : List Value), (∀ x ∈ L, x.length = n) → L[k]? = some r → ∀ j v, r[j]? = some v → L.flatten[k * n + j]? = some v
  | [], k, r, _, h, j, v, _ => by simp at h
  | x :: L, 0, r, hn, h, j, v, hj => by
    simp at h
    subst h
    have hl : j < x.length := (List.getElem?_eq_some_iff.1 hj).1
    simp only [List.flatten_cons, Nat.zero_mul, Nat.zero_add]
    rw [List.getElem?_append_left hl]
    exact hj
  | x :: L, k + 1, r, hn, h, j, v, hj => by
    have hx := hn x (by simp)
    have ih := flat_get L k r (fun y hy => hn y (by simp [hy])) (by simpa using h) j v hj
    simp only [List.flatten_cons]
    rw [List.getElem?_append_right (by rw [hx, Nat.succ_mul]; omega), hx, show (k + 1) * n + j - n = k * n + j by rw [Nat.succ_mul]; omega]
    exact ih
theorem flat_len {n : Nat} : ∀ (L : List (List Value)), (∀ x ∈ L, x.length = n) → L.flatten.length = L.length * n
  | [], _ => by simp
  | x :: L, hn => by
    have hx := hn x (by simp)
    have ih := flat_len L (fun y hy => hn y (by simp [hy]))
    simp only [List.flatten_cons, List.length_append, List.length_cons, ih, hx, Nat.succ_mul]
    omega
/-- A slice that a function has made by appending rows reads as these rows. -/
theorem OwnL.recs {W0 W : World} {e : TypeId} {sz : Nat} {v : Value} {n : Nat} {L : List (List Value)} (h : OwnL W0 W e sz v n L.flatten) (hL : ∀ x ∈ L, x.length = sz) (hs : 0 < sz) (hl : L.length ≤ 9223372036854775807) :
    n = L.length ∧ ∃ A cap, v = .slice A n cap ∧ RecsAt W A sz L ∧ (∀ ad, A = some ad → W0.heap.size ≤ ad.block ∧ ad.block < W.heap.size) := by
  have hf := flat_len L hL
  have hx := h.own.1
  have hn : n = L.length := Nat.eq_of_mul_eq_mul_right hs (by omega)
  obtain ⟨A, cap, rfl, hc⟩ := h.read
  refine ⟨hn, A, cap, rfl, ⟨hl, fun k r hr => ?_⟩, fun ad e => ?_⟩
  · have hm : r ∈ L := List.mem_of_getElem? hr
    have hr0 : 0 < r.length := by rw [hL r hm]; exact hs
    obtain ⟨g, hA, hg, _⟩ := hc (k * sz + 0) r[0] (flat_get L k r hL hr 0 _ (List.getElem?_eq_getElem hr0))
    refine ⟨g, 0, hA, hg, fun j u hu => ?_⟩
    obtain ⟨g2, hA2, _, hcell⟩ := hc (k * sz + j) u (flat_get L k r hL hr j u hu)
    rw [hA] at hA2
    injection hA2 with e1
    injection e1 with e2
    subst e2
    rw [Nat.zero_add]
    exact hcell
  · subst e
    exact h.own.lt ad.block rfl
/-- One row more. -/
theorem flat_snoc (L : List (List Value)) (r : List Value) : L.flatten ++ r = (L ++ [r]).flatten := by simp
section
open Go.ChangeShapes Go.WideShapes Go.ChangeAt Go.Deep
variable {H : Type} {enc : TypeId × Value → H}
/-- A slice of structs that came in, read element by element. -/
theorem open_recs {Y : Type} {W : World} {tS tE : TypeId} {A : Option Addr} {len cap : Nat} {d : DataW H} {p : List MemPlace} (cells : Y → List Value) (good : Y → Prop) (n : Nat) (y0 : Y) (hl : ∀ y, (cells y).length = n)
    (hS : Tryz.prog.underlying tS = some (.slice tE)) (hn : Tryz.prog.cellsOf tE = n) (hn0 : 0 < n)
    (hE : ∀ (fuel : Nat) (cs : List Value) (x : DataW H × List MemPlace), DataW.trod enc Tryz.prog W 0 (fun _ => true) true fuel tE cs = some x → cs.length = n → ∃ y, cs = cells y ∧ good y)
    (h : DataW.Trod enc Tryz.prog W 0 (fun _ => true) true tS (.slice A len cap) d p) :
    ∃ L : List Y, len = L.length ∧ RecsAt W A n (L.map cells) ∧ ∀ y ∈ L, good y := by
  obtain ⟨fuel, hf⟩ := h
  rcases open_slice hS hf with ⟨hc, _⟩ | ⟨a, l, c, m, k, D, Pl, hc, _, hle, hcap, hmm, _, hel⟩
  · simp [Value.cells] at hc
    obtain ⟨rfl, rfl, rfl⟩ := hc
    exact ⟨[], rfl, RecsAt.nil _ _ _, fun y hy => by simp at hy⟩
  · simp [Value.cells] at hc
    obtain ⟨rfl, rfl, rfl⟩ := hc
    have hlm : len ≤ m := by rw [hmm]; split <;> omega
    have key : ∀ i, ∃ y : Y, i < len → good y ∧ ∀ j v, (cells y)[j]? = some v → W.cell? (a.add (i * n + j)) = some v := by
      intro i
      by_cases hi : i < len
      · obtain ⟨cs, hcs, ht⟩ := hel i (by omega)
        rw [hn] at hcs
        obtain ⟨_, hcl, hat⟩ := World.cells?_some hcs
        obtain ⟨y, rfl, hy⟩ := hE _ _ _ ht hcl
        refine ⟨y, fun _ => ⟨hy, fun j v hj => ?_⟩⟩
        have hjl : j < (cells y).length := (List.getElem?_eq_some_iff.1 hj).1
        have := hat j (by omega)
        rw [Go.Deep.add_add] at this
        rw [this]
        exact hj
      · exact ⟨y0, fun h => absurd h hi⟩
    obtain ⟨F, hF⟩ : ∃ F : Nat → Y, ∀ i, i < len → good (F i) ∧ ∀ j v, (cells (F i))[j]? = some v → W.cell? (a.add (i * n + j)) = some v := ⟨fun i => (key i).choose, fun i => (key i).choose_spec⟩
    unfold maxLen at hcap
    refine ⟨(List.range len).map F, by simp, ⟨by simp; omega, fun k r hr => ?_⟩, fun y hy => ?_⟩
    · have hk : k < len := by
        have := (List.getElem?_eq_some_iff.1 hr).1
        simpa using this
      have hre : r = cells (F k) := by
        simp [hk] at hr
        exact hr.symm
      subst hre
      obtain ⟨_, hcell⟩ := hF k hk
      have h0 : 0 < (cells (F k)).length := by rw [hl]; exact hn0
      obtain ⟨b, off, spot⟩ := a
      have hc0 := hcell 0 (cells (F k))[0] (List.getElem?_eq_getElem h0)
      have hspot : spot = none := by
        have h00 : 0 < (cells (F 0)).length := by rw [hl]; exact hn0
        have h1 := (hF 0 (by omega)).2 0 (cells (F 0))[0] (List.getElem?_eq_getElem h00)
        rw [Nat.zero_mul] at h1
        exact World.cell?_spot h1
      subst hspot
      rw [Go.WideShapes.add_plain] at hc0
      refine ⟨b, off, rfl, blt hc0, fun j v hj => ?_⟩
      have := hcell j v hj
      rw [Go.WideShapes.add_plain] at this
      rw [← Nat.add_assoc] at this
      exact this
    · simp at hy
      obtain ⟨i, hi, rfl⟩ := hy
      exact (hF i hi).1
end
end
section
open Go.RowKit
def suV (x : SU) : Array Value := #[.string x.key, .string x.fund, .int .i64 x.frm, .int .i64 x.til, .int .i64 x.known, .bool x.void]
def mkV (m : MK) : Array Value := #[.string m.key, .int .i64 m.known, .bool m.void]
def SU.small (x : SU) : Prop := x.key.size ≤ maxLen ∧ x.fund.size ≤ maxLen
/-- A list of suspensions lies behind A. -/
structure SuAt (W : World) (A : Option Addr) (l : List SU) : Prop where
  recs : RecsAt W A 6 (l.map fun x => (suV x).toList)
  small : ∀ x ∈ l, x.small
theorem SuAt.below {W W' : World} {A : Option Addr} {l : List SU} (h : SuAt W A l) (hb : Below W.heap.size W W') : SuAt W' A l := ⟨h.recs.below hb, h.small⟩
theorem SuAt.ln {W : World} {A : Option Addr} {l : List SU} (h : SuAt W A l) : l.length ≤ 9223372036854775807 := by simpa using h.recs.ln
/-- The cells of one of them. -/
theorem SuAt.get {W : World} {A : Option Addr} {l : List SU} (h : SuAt W A l) {i : Nat} (hi : i < l.length) : ∃ b o x, A = some ⟨b, o, none⟩ ∧ l[i]? = some x ∧ b < W.heap.size ∧ x.small ∧
    W.cell? ⟨b, o + i * 6, none⟩ = some (.string x.key) ∧ W.cell? ⟨b, o + i * 6 + 1, none⟩ = some (.string x.fund) ∧ W.cell? ⟨b, o + i * 6 + 2, none⟩ = some (.int .i64 x.frm) ∧
    W.cell? ⟨b, o + i * 6 + 3, none⟩ = some (.int .i64 x.til) ∧ W.cell? ⟨b, o + i * 6 + 4, none⟩ = some (.int .i64 x.known) ∧ W.cell? ⟨b, o + i * 6 + 5, none⟩ = some (.bool x.void) := by
  have hx : l[i]? = some l[i] := List.getElem?_eq_getElem hi
  obtain ⟨b, o, hA, hlt, hc⟩ := h.recs.rows i (suV l[i]).toList (by rw [List.getElem?_map, hx]; rfl)
  exact ⟨b, o, l[i], hA, hx, hlt, h.small _ (List.getElem_mem hi), hc 0 _ rfl, hc 1 _ rfl, hc 2 _ rfl, hc 3 _ rfl, hc 4 _ rfl, hc 5 _ rfl⟩
/-- A list of marks lies behind A. -/
structure MkAt (W : World) (A : Option Addr) (l : List MK) : Prop where
  recs : RecsAt W A 3 (l.map fun x => (mkV x).toList)
  small : ∀ x ∈ l, x.key.size ≤ maxLen
theorem MkAt.below {W W' : World} {A : Option Addr} {l : List MK} (h : MkAt W A l) (hb : Below W.heap.size W W') : MkAt W' A l := ⟨h.recs.below hb, h.small⟩
theorem MkAt.ln {W : World} {A : Option Addr} {l : List MK} (h : MkAt W A l) : l.length ≤ 9223372036854775807 := by simpa using h.recs.ln
theorem MkAt.get {W : World} {A : Option Addr} {l : List MK} (h : MkAt W A l) {i : Nat} (hi : i < l.length) : ∃ b o x, A = some ⟨b, o, none⟩ ∧ l[i]? = some x ∧ b < W.heap.size ∧ x.key.size ≤ maxLen ∧
    W.cell? ⟨b, o + i * 3, none⟩ = some (.string x.key) ∧ W.cell? ⟨b, o + i * 3 + 1, none⟩ = some (.int .i64 x.known) ∧ W.cell? ⟨b, o + i * 3 + 2, none⟩ = some (.bool x.void) := by
  have hx : l[i]? = some l[i] := List.getElem?_eq_getElem hi
  obtain ⟨b, o, hA, hlt, hc⟩ := h.recs.rows i (mkV l[i]).toList (by rw [List.getElem?_map, hx]; rfl)
  exact ⟨b, o, l[i], hA, hx, hlt, h.small _ (List.getElem_mem hi), hc 0 _ rfl, hc 1 _ rfl, hc 2 _ rfl⟩
end
section
open Go.RowKit
section
variable {P : Program} {md : Region.Mode} {ops : Array Oper} {Q : Exit → Act → World → Prop}
theorem rg_take (i d : Nat) {oi : Oper} {tmps : List Value} {ds : List Deferred} {v : Value} {fuel : Nat} {listed : Array Bool} {w : World} (hi : ops[i]? = some oi) (hd : oi.dst = some d)
    (hs : Region.noSelect ops = true) (hf : Region.free md ops listed i = true) (hr : (Region.ready md ops listed).contains i = true)
    (hQ : ∀ c a w, Q (.panic c) (a.put oi.dst v) w → Q (.panic c) a w) (hy : Yields P ops oi v ⟨⟨tmps⟩, ds⟩)
    (h : wpAny P md ops Q fuel (listed.setIfInBounds i true) ⟨⟨tmps.set d v⟩, ds⟩ w) : wpAny P md ops Q (fuel + 1) listed ⟨⟨tmps⟩, ds⟩ w := by
  refine wpAny_take hi hs hf hr hQ hy ?_
  rw [hd]
  simpa [Act.put] using h
end
end
section
open Go.RowKit
/-- The cells cs, where from o on the values of a list stand. -/
def spl (cs : Array Value) (o : Nat) : List Value → Array Value
  | [] => cs
  | v :: r => spl (cs.setIfInBounds o v) (o + 1) r
theorem spl_size (cs : Array Value) (o : Nat) (l : List Value) : (spl cs o l).size = cs.size := by
  induction l generalizing cs o with
  | nil => rfl
  | cons v r ih => unfold spl; rw [ih]; simp
theorem setRow_self {b : Nat} {t : TypeId} {cs : Array Value} {w : World} (h : BlkAt w b cs t) : w.setRow b cs = w := by
  have e : (w.setRow b cs).heap = w.heap := by
    apply Array.ext_getElem?
    intro i
    by_cases hi : i = b
    · subst hi
      rw [(h.set cs).blk, h.blk]
    · exact setRow_other w b i cs hi
  have e2 : w.setRow b cs = { w with heap := (w.setRow b cs).heap } := rfl
  rw [e2, e]
theorem setCells_row {b : Nat} {t : TypeId} : ∀ (l : List Value) (o : Nat) (cs : Array Value) (w : World), BlkAt w b cs t → w.setCells b o l = w.setRow b (spl cs o l)
  | [], o, cs, w, h => (setRow_self h).symm
  | v :: r, o, cs, w, h => by
    show (w.setCell ⟨b, o, none⟩ v).setCells b (o + 1) r = w.setRow b (spl (cs.setIfInBounds o v) (o + 1) r)
    rw [setCells_row r (o + 1) _ _ (h.cellSet o v), setCell_eq_setRow w b o cs t (0, 0) v h.blk, setRow_setRow]
section
variable {P : Program} {ops : Array Oper} {rest : List Oper} {o : Oper} {a : Act} {w : World} {Q : Exit → Act → World → Prop}
theorem wpl_load_mid (hgd : o.guard = none) (T : TypeId) (x : Operand) (ho : o.op = .load T x) (g k : Nat) (hx : a.eval x = .pointer (some ⟨g, k, none⟩)) {t : TypeId} {cs : Array Value} (hb : BlkAt w g cs t) {ds : Array Value} (hd : (cs.toList.drop k).take ds.size = ds.toList) (hr : RowV P T ds)
    (h : wpList P ops Q rest (a.put o.dst (.agg ds)) w) : wpList P ops Q (o :: rest) a w := by
  obtain ⟨d, hu, hd2⟩ := hr.row.row
  refine wpList_load_mid hgd T x ho g k hx ds.toList d (fun j v hv => hb.cell ?_) hu (by cases d <;> simp_all [TypeDesc.isRow]) (by simpa using hr.row.size) (by simpa using h)
  rw [← hd] at hv
  have hj : j < ds.size := by
    have := (List.getElem?_eq_some_iff.1 hv).1
    simp at this
    omega
  rw [List.getElem?_take_of_lt hj, List.getElem?_drop] at hv
  simpa using hv
theorem wpl_store_mid (hgd : o.guard = none) (T : TypeId) (x y : Operand) (ho : o.op = .store T x y) (g k : Nat) (ds : Array Value) (hx : a.eval x = .pointer (some ⟨g, k, none⟩)) (hy : a.eval y = .agg ds) {t : TypeId} {cs : Array Value} (hb : BlkAt w g cs t) (hr : RowV P T ds) (hs : k + ds.size ≤ cs.size)
    (h : wpList P ops Q rest (a.put o.dst undef) (w.setRow g (spl cs k ds.toList))) : wpList P ops Q (o :: rest) a w := by
  rw [← setCells_row _ _ _ _ hb] at h
  refine wpList_store_mid hgd T x y ho g k ds hx hy (fun j hj => ⟨?_, hb.fz _⟩) hr.row.size hr.one h
  rw [hb.cell (v := cs[k + j]'(by omega)) (Array.getElem?_eq_getElem _)]
  rfl
end
end
section
open Go.RowKit
/-- T is a type of slices of E, whose variables are sz cells and so many bytes. -/
structure ElT (P : Program) (T E : TypeId) (sz bytes : Nat) : Prop where
  sl : P.underlying T = some (.slice E)
  info : ∃ i z, P.info? E = some i ∧ i.zero = some z ∧ i.size = sz ∧ i.bytes = bytes ∧ z.cells.size = sz
  pos : 0 < sz
theorem ElT.of {P : Program} {T E : TypeId} {sz bytes : Nat} {z : Value} (h1 : P.underlying T = some (.slice E)) (h2 : (P.info? E).map (fun i => (i.zero, i.size, i.bytes)) = some (some z, sz, bytes)) (h3 : z.cells.size = sz) (h4 : 0 < sz) : ElT P T E sz bytes := by
  refine ⟨h1, ?_, h4⟩
  cases hi : P.info? E with
  | none => rw [hi] at h2; cases h2
  | some i =>
    rw [hi] at h2
    simp at h2
    exact ⟨i, z, rfl, h2.1, h2.2.1, h2.2.2, h3⟩
section
variable {P : Program} {ops : Array Oper} {rest : List Oper} {o : Oper} {a : Act} {Q : Exit → Act → World → Prop}
theorem wpl_push {T E : TypeId} {sz bytes : Nat} (hel : ElT P T E sz bytes) (hgd : o.guard = none) (s x : Operand) (ho : o.op = .call { callee := .builtin .append, args := #[s, x], argTypes := #[T, T] })
    {W0 W : World} {v : Value} {n : Nat} {xs : List Value} (hO : OwnL W0 W E sz v n xs) (hs : a.eval s = v) (news : Array Value) (hx : a.eval x = .slice (some ⟨W.heap.size, 0, none⟩) 1 1) (hl : news.size = sz) (h1 : news.toList.all (·.oneCell') = true)
    (hn : n ≤ 100000) (hb : bytes ≤ 10000)
    (h : ∀ v' w', OwnL W0 w' E sz v' (n + 1) (xs ++ news.toList) → (W.alloc (.cells news E)).grownBy w' v.ownBlock → wpList P ops Q rest (a.put o.dst v') w') : wpList P ops Q (o :: rest) a (W.alloc (.cells news E)) := by
  obtain ⟨i, z, hi, hz, hsz, hby, hzs⟩ := hel.info
  refine wpList_append_own _ hgd s x T ho W0.heap.size E i z sz bytes hel.sl hi hz hsz hby hzs hel.pos v n xs hs (hO.own.alloc _) ⟨W.heap.size, 0, none⟩ 1 1 news.toList hx (by simp [hl]) (fun j u hj => ?_) (fun u hu => ?_) (by unfold maxLen; omega) ?_ (by have := hO.below.size; simp; omega) ?_
  · rw [Go.WideShapes.add_plain, Nat.zero_add, World.cell?_alloc_new]
    simpa using hj
  · exact List.all_eq_true.1 h1 u hu
  · have : (n + 1) * bytes ≤ 100001 * 10000 := Nat.mul_le_mul (by omega) hb
    omega
  · intro v' w' hown hg _
    exact h v' w' ((hO.next (bal0 _ _)).pushed hg hown) hg
/-- .. in a region that draws its order. -/
theorem step_push {T E : TypeId} {sz bytes : Nat} (hel : ElT P T E sz bytes) (hgd : o.guard = none) (s x : Operand) (ho : o.op = .call { callee := .builtin .append, args := #[s, x], argTypes := #[T, T] }) {K : Act → World → Prop} {F : Prop}
    {W0 W : World} {v : Value} {n : Nat} {xs : List Value} (hO : OwnL W0 W E sz v n xs) (hs : a.eval s = v) (news : Array Value) (hx : a.eval x = .slice (some ⟨W.heap.size, 0, none⟩) 1 1) (hl : news.size = sz) (h1 : news.toList.all (·.oneCell') = true)
    (hn : n ≤ 100000) (hb : bytes ≤ 10000)
    (h : ∀ v' w', OwnL W0 w' E sz v' (n + 1) (xs ++ news.toList) → (W.alloc (.cells news E)).grownBy w' v.ownBlock → K (a.put o.dst v') w') : if Region.wanted o (yielded ops a.tmps) = true then Oper.wp P o a (W.alloc (.cells news E)) K Q else F := by
  have hw : Region.wanted o (yielded ops a.tmps) = true := by simp [Region.wanted, hgd]
  rw [if_pos hw]
  obtain ⟨i, z, hi, hz, hsz, hby, hzs⟩ := hel.info
  refine wp_append_own _ s x T ho W0.heap.size E i z sz bytes hel.sl hi hz hsz hby hzs hel.pos v n xs hs (hO.own.alloc _) ⟨W.heap.size, 0, none⟩ 1 1 news.toList hx (by simp [hl]) (fun j u hj => ?_) (fun u hu => ?_) (by unfold maxLen; omega) ?_ (by have := hO.below.size; simp; omega) ?_
  · rw [Go.WideShapes.add_plain, Nat.zero_add, World.cell?_alloc_new]
    simpa using hj
  · exact List.all_eq_true.1 h1 u hu
  · have : (n + 1) * bytes ≤ 100001 * 10000 := Nat.mul_le_mul (by omega) hb
    omega
  · intro v' w' hown hg _
    exact h v' w' ((hO.next (bal0 _ _)).pushed hg hown) hg
end
theorem elInt : ElT Tryz.prog 23 3 1 8 := ElT.of (z := .int .i64 0) Tryz.underlying23 (by kernel_rfl) rfl (by decide)
end
end Go.Proofs.YtbfllcfjgpkpaaaGreat
