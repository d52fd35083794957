/-
  Whole structs and arrays in the midst of a block: loads and stores by one law each.
-/
import Derived.Test.YtffmmkjoknghoaaGreatBase
namespace Go.Proofs.YtffmmkjoknghoaaGreat
open Go.RowKit
/-- The cells cs, where from o on the values of a list stand. -/
def spl (cs : Array Value) (o : Nat) : List Value → Array Value
  | [] => cs
  | v :: r => spl (cs.setIfInBounds o v) (o + 1) r
theorem spl_size (cs : Array Value) (o : Nat) (l : List Value) : (spl cs o l).size = cs.size := by
  induction l generalizing cs o with
  | nil => rfl
  | cons v r ih => unfold spl; rw [ih]; simp
theorem setRow_self {b : Nat} {t : TypeId} {cs : Array Value} {w : World} (h : BlkAt w b cs t) : w.setRow b cs = w := by
  have e : (w.setRow b cs).heap = w.heap := by
    apply Array.ext_getElem?
    intro i
    by_cases hi : i = b
    · subst hi
      rw [(h.set cs).blk, h.blk]
    · exact setRow_other w b i cs hi
  have e2 : w.setRow b cs = { w with heap := (w.setRow b cs).heap } := rfl
  rw [e2, e]
theorem setCells_row {b : Nat} {t : TypeId} : ∀ (l : List Value) (o : Nat) (cs : Array Value) (w : World), BlkAt w b cs t → w.setCells b o l = w.setRow b (spl cs o l)
  | [], o, cs, w, h => (setRow_self h).symm
  | v :: r, o, cs, w, h => by
    show (w.setCell ⟨b, o, none⟩ v).setCells b (o + 1) r = w.setRow b (spl (cs.setIfInBounds o v) (o + 1) r)
    rw [setCells_row r (o + 1) _ _ (h.cellSet o v), setCell_eq_setRow w b o cs t (0, 0) v h.blk, setRow_setRow]
section
variable {P : Program} {ops : Array Oper} {rest : List Oper} {o : Oper} {a : Act} {w : World} {Q : Exit → Act → World → Prop}
theorem wpl_load_mid (hgd : o.guard = none) (T : TypeId) (x : Operand) (ho : o.op = .load T x) (g k : Nat) (hx : a.eval x = .pointer (some ⟨g, k, none⟩)) {t : TypeId} {cs : Array Value} (hb : BlkAt w g cs t) {ds : Array Value} (hd : (cs.toList.drop k).take ds.size = ds.toList) (hr : RowV P T ds)
    (h : wpList P ops Q rest (a.put o.dst (.agg ds)) w) : wpList P ops Q (o :: rest) a w := by
  obtain ⟨d, hu, hd2⟩ := hr.row.row
  refine wpList_load_mid hgd T x ho g k hx ds.toList d (fun j v hv => hb.cell ?_) hu (by cases d <;> simp_all [TypeDesc.isRow]) (by simpa using hr.row.size) (by simpa using h)
  rw [← hd] at hv
  have hj : j < ds.size := by
    have := (List.getElem?_eq_some_iff.1 hv).1
    simp at this
    omega
  rw [List.getElem?_take_of_lt hj, List.getElem?_drop] at hv
  simpa using hv
theorem wpl_store_mid (hgd : o.guard = none) (T : TypeId) (x y : Operand) (ho : o.op = .store T x y) (g k : Nat) (ds : Array Value) (hx : a.eval x = .pointer (some ⟨g, k, none⟩)) (hy : a.eval y = .agg ds) {t : TypeId} {cs : Array Value} (hb : BlkAt w g cs t) (hr : RowV P T ds) (hs : k + ds.size ≤ cs.size)
    (h : wpList P ops Q rest (a.put o.dst undef) (w.setRow g (spl cs k ds.toList))) : wpList P ops Q (o :: rest) a w := by
  rw [← setCells_row _ _ _ _ hb] at h
  refine wpList_store_mid hgd T x y ho g k ds hx hy (fun j hj => ⟨?_, hb.fz _⟩) hr.row.size hr.one h
  rw [hb.cell (v := cs[k + j]'(by omega)) (Array.getElem?_eq_getElem _)]
  rfl
end
end Go.Proofs.YtffmmkjoknghoaaGreat
