/-
  The tape of the generators: drawing numbers from it. What is drawn is in its range, whatever the tape holds.
  Picks out of lists that have just been written out; the generator of days.
-/
import Derived.Test.YtffmmkjoknghoaaBase
import Derived.Test.YtffmmkjoknghoaaRows
import Derived.Deep.OwnRows
import Derived.Laws.AppendOwn
namespace Go.Proofs.Ytffmmkjoknghoaa
section
open Go.RowKit

def foldI (x n : Int) : Int := if n ≤ 1 then 0 else x % n
theorem fold_lt (x n : Int) : 0 ≤ foldI x n ∧ foldI x n < max n 1 := by
  unfold foldI
  split
  · omega
  · have h1 := Int.emod_nonneg x (b := n) (by omega)
    have h2 := Int.emod_lt_of_pos x (b := n) (by omega)
    omega
theorem tmod_neg {x n : Int} (hn : 1 < n) (hN : n ≤ 9223372036854775807) (h : x.tmod n < 0) : wrap64 (x.tmod n + n) = x % n := by
  have h1 : x.tmod n = x % n - n := by
    rw [Int.tmod_eq_emod] at h ⊢
    split at h
    · have := Int.emod_nonneg x (b := n) (by omega); omega
    · rename_i hx
      rw [if_neg hx, Int.natAbs_of_nonneg (by omega)]
  have h2 := Int.emod_nonneg x (b := n) (by omega)
  have h3 := Int.emod_lt_of_pos x (b := n) (by omega)
  rw [h1]
  unfold wrap64
  omega
theorem tmod_pos {x n : Int} (hn : 1 < n) (h : 0 ≤ x.tmod n) : x.tmod n = x % n := by
  rw [Int.tmod_eq_emod] at h ⊢
  split
  · omega
  · rename_i hx
    rw [if_neg hx, Int.natAbs_of_nonneg (by omega)] at h
    have := Int.emod_lt_of_pos x (b := n) (by omega)
    omega
theorem fold_any (x n : Int) (w : World) (hN : n ≤ 9223372036854775807) : Calls Try.prog 67 #[.int .i64 x, .int .i64 n] w (RetW (.int .i64 (foldI x n)) w) := by
  by_cases h : n ≤ 1
  · go_enter Try.func67, Try.ntmps67
    go_wp2
    go_ret
    exact ⟨ret_int (by unfold foldI; rw [if_pos h]), rfl⟩
  · have h1 : 1 < n := by omega
    have hf : foldI x n = x % n := by unfold foldI; rw [if_neg h]
    have HF := Lib.hid hf
    clear hf h
    by_cases ht : x.tmod n < 0
    · have hw := Lib.hid (tmod_neg h1 hN ht)
      clear hN
      go_enter Try.func67, Try.ntmps67
      go_wp2
      go_ret
      exact ⟨ret_int (hw.out.trans HF.out.symm), rfl⟩
    · have hw := Lib.hid (tmod_pos (x := x) h1 (by omega))
      have ht' : 0 ≤ x.tmod n := by omega
      clear hN ht
      go_enter Try.func67, Try.ntmps67
      go_wp2
      go_ret
      exact ⟨ret_int (hw.out.trans HF.out.symm), rfl⟩

/-- A tape in block b, over a list that lies below block B; at least n draws are left before its place is out of range. -/
structure TapeAt (w : World) (B b n : Nat) : Prop where
  base : B ≤ b
  ex : ∃ (A : Option Addr) (L : List Int) (cap p : Nat), L.length ≤ 9223372036854775807 ∧ p + n ≤ 1000000000 ∧
    w.heap[b]? = some (.cells #[.slice A L.length cap, .int .i64 p] 25 (0, 0)) ∧
    ∀ k x, L[k]? = some x → ∃ bb o, A = some ⟨bb, o, none⟩ ∧ bb < B ∧ w.cell? ⟨bb, o + k, none⟩ = some (.int .i64 x)
theorem TapeAt.lt {w : World} {B b n : Nat} (h : TapeAt w B b n) : b < w.heap.size := by
  obtain ⟨_, A, L, cap, p, _, _, h, _⟩ := h
  exact (Array.getElem?_eq_some_iff.1 h).1
theorem TapeAt.keep {w w' : World} {B b n : Nat} (h : TapeAt w B b n) (h1 : ∀ k, k < B → w'.heap[k]? = w.heap[k]?) (h2 : w'.heap[b]? = w.heap[b]?) : TapeAt w' B b n := by
  obtain ⟨hb, A, L, cap, p, hl, hp, hc, he⟩ := h
  refine ⟨hb, A, L, cap, p, hl, hp, h2.trans hc, fun k x hx => ?_⟩
  obtain ⟨bb, o, hA, hlt, hcell⟩ := he k x hx
  exact ⟨bb, o, hA, hlt, (World.cell?_of_block (w := w) (h1 bb hlt)).trans hcell⟩
theorem TapeAt.less {w : World} {B b n m : Nat} (h : TapeAt w B b n) (hm : m ≤ n) : TapeAt w B b m := by
  obtain ⟨hb, A, L, cap, p, hl, hp, hc, he⟩ := h
  exact ⟨hb, A, L, cap, p, hl, by omega, hc, he⟩
theorem TapeAt.below {w w' : World} {B b n : Nat} (h : TapeAt w B b n) (hb : Below w.heap.size w w') : TapeAt w' B b n :=
  h.keep (fun k hk => hb.block k (by have := h.lt; have := h.base; omega)) (hb.block b h.lt)
theorem TapeAt.grown {w w' : World} {B b n : Nat} (h : TapeAt w B b n) {g : Nat} (hg : w.grownBy w' (some g)) (hB : B ≤ g) (hne : g ≠ b) : TapeAt w' B b n :=
  h.keep (fun k hk => hg.block k (by have := h.lt; have := h.base; omega) (by intro e; injection e with e; omega)) (hg.block b h.lt (by intro e; injection e with e; exact hne e.symm))
theorem TapeAt.alloc {w : World} {B b n : Nat} (h : TapeAt w B b n) (o : Obj) : TapeAt (w.alloc o) B b n := h.below (bal0 w o)
theorem TapeAt.drewN {w : World} {B b n : Nat} (h : TapeAt w B b n) (k : Nat) : TapeAt (w.drewN k) B b n := h.below (below_drewN (Below.refl _ _) k)
theorem TapeAt.setCell {w : World} {B b n : Nat} (h : TapeAt w B b n) {p : Addr} (hB : B ≤ p.block) (hne : p.block ≠ b) (v : Value) : TapeAt (w.setCell p v) B b n :=
  h.keep (fun k hk => Below.heap_setCell w p v k (by omega)) (Below.heap_setCell w p v b (by omega))

/-- Only block b and new blocks have turned. -/
abbrev Only (b : Nat) (w w' : World) : Prop := w.grownBy w' (some b)
theorem only_refl (b : Nat) (w : World) : Only b w w := ⟨rfl, rfl, rfl, Nat.le_refl _, fun _ _ _ => rfl⟩
theorem only_trans {b : Nat} {x y z : World} (h : Only b x y) (k : Only b y z) : Only b x z :=
  ⟨k.os.trans h.os, k.tape.trans h.tape, k.output.trans h.output, Nat.le_trans h.size k.size, fun i hi hne => (k.block i (Nat.lt_of_lt_of_le hi h.size) hne).trans (h.block i hi hne)⟩
theorem only_below {b : Nat} {x y : World} (h : Below x.heap.size x y) : Only b x y := ⟨h.os, h.tape, h.output, h.size, fun i hi _ => h.block i hi⟩
theorem only_set {b : Nat} {x y : World} (h : Only b x y) {p : Addr} (hp : p.block = b ∨ x.heap.size ≤ p.block) (v : Value) : Only b x (y.setCell p v) :=
  ⟨h.os, h.tape, h.output, by simpa [World.setCell] using h.size, fun i hi hne => (Below.heap_setCell y p v i (by
    rintro rfl
    rcases hp with hp | hp
    · exact hne (by rw [hp])
    · omega)).trans (h.block i hi hne)⟩
theorem only_al {b : Nat} {x y : World} (h : Only b x y) (o : Obj) : Only b x (y.alloc o) := only_trans h (only_below (bal0 y o))
theorem only_drewN {b : Nat} {x y : World} (h : Only b x y) (n : Nat) : Only b x (y.drewN n) := only_trans h (only_below (below_drewN (Below.refl _ _) n))
theorem only_next {b : Nat} {x y z : World} (h : Only b x y) (k : Below y.heap.size y z) : Only b x z := only_trans h (only_below k)
theorem only_cell {b : Nat} {x y : World} (h : Only b x y) {g o : Nat} {r : Option Value} (hl : g < x.heap.size) (hne : g ≠ b) (hc : x.cell? ⟨g, o, none⟩ = r) : y.cell? ⟨g, o, none⟩ = r :=
  (World.cell?_of_block (w := x) (h.block g hl (by intro e; injection e with e; exact hne e))).trans hc
theorem only_frozen {b : Nat} {x y : World} (h : Only b x y) {g o : Nat} {r : Bool} (hl : g < x.heap.size) (hne : g ≠ b) (hc : x.frozen? ⟨g, o, none⟩ = r) : y.frozen? ⟨g, o, none⟩ = r :=
  (World.frozen?_of_block (w := x) (h.block g hl (by intro e; injection e with e; exact hne e))).trans hc
theorem only_to_below {b B : Nat} {x y : World} (h : Only b x y) (hB : B ≤ b) (hx : B ≤ x.heap.size) : Below B x y :=
  ⟨h.os, h.tape, h.output, h.size, fun i hi => h.block i (by omega) (by intro e; injection e with e; omega)⟩

/-- A number below n (0 where n is at most 1) has been drawn. -/
def NextP (n : Int) (B b N : Nat) (w : World) (e : Ending) (w' : World) : Prop :=
  ∃ k : Nat, (k : Int) < max n 1 ∧ e = .returned (.int .i64 k) ∧ TapeAt w' B b N ∧ Only b w w'

set_option maxHeartbeats 1000000 in
theorem next_any (n : Int) (B b N : Nat) (w : World) (h : TapeAt w B b (N + 1)) (hn : n ≤ 9223372036854775807) :
    Calls Try.prog 34 #[.pointer (some ⟨b, 0, none⟩), .int .i64 n] w (NextP n B b N w) := by
  have hlt := h.lt
  obtain ⟨hB, A, L, cap, p, hl, hp, hblk, he⟩ := h
  have q0 : w.cell? ⟨b, 0, none⟩ = some (.slice A L.length cap) := by simp [World.cell?, hblk]
  have q1 : w.cell? ⟨b, 1, none⟩ = some (.int .i64 p) := by simp [World.cell?, hblk]
  have q2 : w.frozen? ⟨b, 1, none⟩ = false := by simp [World.frozen?, hblk]
  have HB := Lib.hid hblk
  have HE := Lib.hid he
  clear hblk he
  have fin : ∀ (x : Int) (nq : Nat), NextP n B b N w (.returned (.int .i64 (foldI x n))) ((w.drewN nq).setCell ⟨b, 1, none⟩ (.int .i64 (p + 1))) := by
    intro x nq
    obtain ⟨f1, f2⟩ := fold_lt x n
    refine ⟨(foldI x n).toNat, by omega, ret_int (by omega), ⟨hB, A, L, cap, p + 1, hl, by omega, ?_, fun k x hx => ?_⟩, only_set (only_drewN (only_refl _ _) _) (.inl rfl) _⟩
    · have := HB.out
      show ((w.drewN nq).heap.modify b _)[b]? = _
      rw [Array.getElem?_modify, if_pos rfl]
      show (w.heap[b]?).map _ = _
      rw [this]
      rfl
    · obtain ⟨bb, o, hA, hlt', hc⟩ := HE.out k x hx
      exact ⟨bb, o, hA, hlt', cell_far (by omega) hc⟩
  have FIN := Lib.hid fin
  clear fin
  by_cases hpl : p < L.length
  · obtain ⟨bb, o, rfl, hbb, hc⟩ := HE.out p L[p] (List.getElem?_eq_getElem hpl)
    generalize L[p] = x at hc
    go_enter Try.func34, Try.ntmps34
    go_wp2
    go_quiet (fail)
    go_wp2
    go_quiet (fail)
    go_wp2_with (go_at_call 67; refine (fold_any _ _ _ hn).mono ?_; rintro e w' ⟨rfl, rfl⟩)
    go_ret
    exact FIN.out _ _
  · go_enter Try.func34, Try.ntmps34
    go_wp2
    go_quiet (fail)
    go_wp2_with (go_at_call 67; refine (fold_any _ _ _ hn).mono ?_; rintro e w' ⟨rfl, rfl⟩)
    go_ret
    exact FIN.out _ _

theorem next_in {n : Int} {B b N : Nat} {w : World} (h : TapeAt w B b (N + 1)) (hn : 1 ≤ n) (hn2 : n ≤ 9223372036854775807) :
    Calls Try.prog 34 #[.pointer (some ⟨b, 0, none⟩), .int .i64 n] w fun e w' => ∃ k : Nat, (k : Int) < n ∧ e = .returned (.int .i64 k) ∧ TapeAt w' B b N ∧ Only b w w' :=
  (next_any n B b N w h hn2).mono fun _ _ ⟨k, hk, he, ht, ho⟩ => ⟨k, by omega, he, ht, ho⟩

/-- A number from lo to hi. -/
def RangeP (lo hi : Int) (B b N : Nat) (w : World) (e : Ending) (w' : World) : Prop :=
  ∃ v : Int, lo ≤ v ∧ v ≤ hi ∧ e = .returned (.int .i64 v) ∧ TapeAt w' B b N ∧ Only b w w'
/-- One of the numbers of a list. -/
def PickP (xs : List Int) (B b N : Nat) (w : World) (e : Ending) (w' : World) : Prop :=
  ∃ v : Int, v ∈ xs ∧ e = .returned (.int .i64 v) ∧ TapeAt w' B b N ∧ Only b w w'
theorem pick_any (xs : List Int) (g : Nat) (B b N : Nat) (w : World) (h : TapeAt w B b (N + 1)) (hx : 0 < xs.length) (hx2 : xs.length ≤ 1000) (hg : g < w.heap.size) (hgb : g ≠ b) (c : Nat)
    (hc : ∀ k x, xs[k]? = some x → w.cell? ⟨g, k, none⟩ = some (.int .i64 x)) :
    Calls Try.prog 10 #[.pointer (some ⟨b, 0, none⟩), .slice (some ⟨g, 0, none⟩) xs.length c] w (PickP xs B b N w) := by
  have hne : ((xs.length : Int) == 0) = false := beq_eq_false_iff_ne.2 (by omega)
  have HC := Lib.hid hc
  clear hc
  go_enter Try.func10, Try.ntmps10
  go_wp2_with fail
  refine (next_in h (by omega) (by omega)).mono ?_
  rintro e w1 ⟨k, hk, rfl, ht, ho⟩
  have hkl : k < xs.length := by omega
  have hcell := only_cell ho hg hgb (HC.out k xs[k] (List.getElem?_eq_getElem hkl))
  have hmem : xs[k] ∈ xs := List.getElem_mem hkl
  have HM := Lib.hid hmem
  clear hmem
  generalize xs[k] = x at *
  go_wp2
  go_ret
  exact ⟨x, HM.out, rfl, ht, ho⟩

/-- One of the texts of a list. -/
def OneP (xs : List ByteArray) (B b N : Nat) (w : World) (e : Ending) (w' : World) : Prop :=
  ∃ v : ByteArray, v ∈ xs ∧ e = .returned (.string v) ∧ TapeAt w' B b N ∧ Only b w w'
theorem one_any (xs : List ByteArray) (g : Nat) (B b N : Nat) (w : World) (h : TapeAt w B b (N + 1)) (hx : 0 < xs.length) (hx2 : xs.length ≤ 1000) (hg : g < w.heap.size) (hgb : g ≠ b) (c : Nat)
    (hc : ∀ k x, xs[k]? = some x → w.cell? ⟨g, k, none⟩ = some (.string x)) :
    Calls Try.prog 33 #[.pointer (some ⟨b, 0, none⟩), .slice (some ⟨g, 0, none⟩) xs.length c] w (OneP xs B b N w) := by
  have hne : ((xs.length : Int) == 0) = false := beq_eq_false_iff_ne.2 (by omega)
  have HC := Lib.hid hc
  clear hc
  go_enter Try.func33, Try.ntmps33
  go_wp2_with fail
  refine (next_in h (by omega) (by omega)).mono ?_
  rintro e w1 ⟨k, hk, rfl, ht, ho⟩
  have hkl : k < xs.length := by omega
  have hcell := only_cell ho hg hgb (HC.out k xs[k] (List.getElem?_eq_getElem hkl))
  have hmem : xs[k] ∈ xs := List.getElem_mem hkl
  have HM := Lib.hid hmem
  clear hmem
  generalize xs[k] = x at *
  go_wp2
  go_ret
  exact ⟨x, HM.out, rfl, ht, ho⟩

/-- True or false. -/
def ChanceP (B b N : Nat) (w : World) (e : Ending) (w' : World) : Prop :=
  ∃ v : Bool, e = .returned (.bool v) ∧ TapeAt w' B b N ∧ Only b w w'
/-- A day. -/
def DayP (B b N : Nat) (w : World) (e : Ending) (w' : World) : Prop :=
  ∃ v : Int, 0 ≤ v ∧ v ≤ 73048 ∧ e = .returned (.int .i64 v) ∧ TapeAt w' B b N ∧ Only b w w'
end
section
open Go.RowKit

theorem cells_new (w : World) (vs : List Value) (t : TypeId) : ∀ (k : Nat) (v : Value), vs[k]? = some v → (w.alloc (.cells vs.toArray t)).cell? ⟨w.heap.size, k, none⟩ = some v := by
  intro k v h
  rw [World.cell?_alloc_new]
  simpa using h
theorem pick_new (xs : List Int) {vs : List Value} (hvs : vs = xs.map (Value.int .i64)) {B b N : Nat} {w : World} (h : TapeAt w B b (N + 1)) (hx : 0 < xs.length) (hx2 : xs.length ≤ 1000) {n c g : Nat} (hn : xs.length = n) (hg : w.heap.size = g) :
    Calls Try.prog 10 #[.pointer (some ⟨b, 0, none⟩), .slice (some ⟨g, 0, none⟩) n c] (w.alloc (.cells vs.toArray 3)) (PickP xs B b N w) := by
  subst hg
  have hlt := h.lt
  have hc := pick_any xs w.heap.size B b N (w.alloc (.cells vs.toArray 3)) (h.alloc _) hx hx2 (by simp) (by omega) c (fun k x hk => cells_new w vs _ k _ (by rw [hvs, List.getElem?_map, hk]; rfl))
  rw [hn] at hc
  refine hc.mono ?_
  rintro e w' ⟨v, hv, he, ht, ho⟩
  exact ⟨v, hv, he, ht, only_trans (only_below (bal0 w _)) ho⟩
theorem one_new (xs : List ByteArray) {vs : List Value} (hvs : vs = xs.map Value.string) {B b N : Nat} {w : World} (h : TapeAt w B b (N + 1)) (hx : 0 < xs.length) (hx2 : xs.length ≤ 1000) {n c g : Nat} (hn : xs.length = n) (hg : w.heap.size = g) :
    Calls Try.prog 33 #[.pointer (some ⟨b, 0, none⟩), .slice (some ⟨g, 0, none⟩) n c] (w.alloc (.cells vs.toArray 9)) (OneP xs B b N w) := by
  subst hg
  have hlt := h.lt
  have hc := one_any xs w.heap.size B b N (w.alloc (.cells vs.toArray 9)) (h.alloc _) hx hx2 (by simp) (by omega) c (fun k x hk => cells_new w vs _ k _ (by rw [hvs, List.getElem?_map, hk]; rfl))
  rw [hn] at hc
  refine hc.mono ?_
  rintro e w' ⟨v, hv, he, ht, ho⟩
  exact ⟨v, hv, he, ht, only_trans (only_below (bal0 w _)) ho⟩

end
end Go.Proofs.Ytffmmkjoknghoaa
