/-
  append of one element to a slice that the function makes itself.
-/
import Derived.Test.YtffmmkjoknghoaaGreatOwn
import Derived.Test.YtffmmkjoknghoaaGreatRows
import Derived.Laws.AppendOwn
import Derived.OwnWalk
namespace Go.Proofs.YtffmmkjoknghoaaGreat
open Go.RowKit
/-- T is a type of slices of E, whose variables are sz cells and so many bytes. -/
structure ElT (P : Program) (T E : TypeId) (sz bytes : Nat) : Prop where
  sl : P.underlying T = some (.slice E)
  info : ∃ i z, P.info? E = some i ∧ i.zero = some z ∧ i.size = sz ∧ i.bytes = bytes ∧ z.cells.size = sz
  pos : 0 < sz
theorem ElT.of {P : Program} {T E : TypeId} {sz bytes : Nat} {z : Value} (h1 : P.underlying T = some (.slice E)) (h2 : (P.info? E).map (fun i => (i.zero, i.size, i.bytes)) = some (some z, sz, bytes)) (h3 : z.cells.size = sz) (h4 : 0 < sz) : ElT P T E sz bytes := by
  refine ⟨h1, ?_, h4⟩
  cases hi : P.info? E with
  | none => rw [hi] at h2; cases h2
  | some i =>
    rw [hi] at h2
    simp at h2
    exact ⟨i, z, rfl, h2.1, h2.2.1, h2.2.2, h3⟩
section
variable {P : Program} {ops : Array Oper} {rest : List Oper} {o : Oper} {a : Act} {Q : Exit → Act → World → Prop}
theorem wpl_push {T E : TypeId} {sz bytes : Nat} (hel : ElT P T E sz bytes) (hgd : o.guard = none) (s x : Operand) (ho : o.op = .call { callee := .builtin .append, args := #[s, x], argTypes := #[T, T] })
    {W0 W : World} {v : Value} {n : Nat} {xs : List Value} (hO : OwnL W0 W E sz v n xs) (hs : a.eval s = v) (news : Array Value) (hx : a.eval x = .slice (some ⟨W.heap.size, 0, none⟩) 1 1) (hl : news.size = sz) (h1 : news.toList.all (·.oneCell') = true)
    (hn : n ≤ 100000) (hb : bytes ≤ 10000)
    (h : ∀ v' w', OwnL W0 w' E sz v' (n + 1) (xs ++ news.toList) → (W.alloc (.cells news E)).grownBy w' v.ownBlock → wpList P ops Q rest (a.put o.dst v') w') : wpList P ops Q (o :: rest) a (W.alloc (.cells news E)) := by
  obtain ⟨i, z, hi, hz, hsz, hby, hzs⟩ := hel.info
  refine wpList_append_own _ hgd s x T ho W0.heap.size E i z sz bytes hel.sl hi hz hsz hby hzs hel.pos v n xs hs (hO.own.alloc _) ⟨W.heap.size, 0, none⟩ 1 1 news.toList hx (by simp [hl]) (fun j u hj => ?_) (fun u hu => ?_) (by unfold maxLen; omega) ?_ (by have := hO.below.size; simp; omega) ?_
  · rw [Go.WideShapes.add_plain, Nat.zero_add, World.cell?_alloc_new]
    simpa using hj
  · exact List.all_eq_true.1 h1 u hu
  · have : (n + 1) * bytes ≤ 100001 * 10000 := Nat.mul_le_mul (by omega) hb
    omega
  · intro v' w' hown hg _
    exact h v' w' ((hO.next (bal0 _ _)).pushed hg hown) hg
/-- .. in a region that draws its order. -/
theorem step_push {T E : TypeId} {sz bytes : Nat} (hel : ElT P T E sz bytes) (hgd : o.guard = none) (s x : Operand) (ho : o.op = .call { callee := .builtin .append, args := #[s, x], argTypes := #[T, T] }) {K : Act → World → Prop} {F : Prop}
    {W0 W : World} {v : Value} {n : Nat} {xs : List Value} (hO : OwnL W0 W E sz v n xs) (hs : a.eval s = v) (news : Array Value) (hx : a.eval x = .slice (some ⟨W.heap.size, 0, none⟩) 1 1) (hl : news.size = sz) (h1 : news.toList.all (·.oneCell') = true)
    (hn : n ≤ 100000) (hb : bytes ≤ 10000)
    (h : ∀ v' w', OwnL W0 w' E sz v' (n + 1) (xs ++ news.toList) → (W.alloc (.cells news E)).grownBy w' v.ownBlock → K (a.put o.dst v') w') : if Region.wanted o (yielded ops a.tmps) = true then Oper.wp P o a (W.alloc (.cells news E)) K Q else F := by
  have hw : Region.wanted o (yielded ops a.tmps) = true := by simp [Region.wanted, hgd]
  rw [if_pos hw]
  obtain ⟨i, z, hi, hz, hsz, hby, hzs⟩ := hel.info
  refine wp_append_own _ s x T ho W0.heap.size E i z sz bytes hel.sl hi hz hsz hby hzs hel.pos v n xs hs (hO.own.alloc _) ⟨W.heap.size, 0, none⟩ 1 1 news.toList hx (by simp [hl]) (fun j u hj => ?_) (fun u hu => ?_) (by unfold maxLen; omega) ?_ (by have := hO.below.size; simp; omega) ?_
  · rw [Go.WideShapes.add_plain, Nat.zero_add, World.cell?_alloc_new]
    simpa using hj
  · exact List.all_eq_true.1 h1 u hu
  · have : (n + 1) * bytes ≤ 100001 * 10000 := Nat.mul_le_mul (by omega) hb
    omega
  · intro v' w' hown hg _
    exact h v' w' ((hO.next (bal0 _ _)).pushed hg hown) hg
end
theorem elInt : ElT Tryz.prog 22 3 1 8 := ElT.of (z := .int .i64 0) Tryz.underlying22 (by kernel_rfl) rfl (by decide)
end Go.Proofs.YtffmmkjoknghoaaGreat
