/-
  The scenes: versions of dealing orders.
-/
import Derived.Test.YtbfllcfjgpkpaaaGreatScene5
import Derived.Test.YtbfllcfjgpkpaaaGreatMem
import Derived.Test.YtbfllcfjgpkpaaaGreatScene4
import Derived.Deep.DeepCutAuto
import Derived.Deep.CutBlock
import Derived.Deep.RegionWith
namespace Go.Proofs.YtbfllcfjgpkpaaaGreat
open Go.RowKit
set_option linter.unusedVariables false
set_option maxHeartbeats 4000000
def orL (L : List OR) : List (List Value) := L.map fun x => (orV x).toList
theorem orL_len (L : List OR) : ∀ r ∈ orL L, r.length = 11 := fun r hr => by
  obtain ⟨x, -, rfl⟩ := List.mem_map.1 hr
  rfl
theorem orL_next (L : List OR) (x : OR) : (orL (L ++ [x])).flatten = (orL L).flatten ++ [.string x.key, .string x.nom, .string x.hol, .string x.fund, .string x.cls, .int .i64 x.kind, .int .i64 x.amt, .int .i64 x.units, .int .i64 x.t, .int .i64 x.known, .bool x.void] := by
  simp [orL, orV]
structure MdO (x : OR) : Prop where
  ok : x.ok = true
  small : x.small
structure MadeO (L : List OR) (kn : Int) : Prop where
  asc : bookFrom 0 L = 0
  k0 : 0 ≤ kn
  known : ∀ x ∈ L, x.known ≤ kn
  each : ∀ x ∈ L, MdO x
theorem book_snoc {x : OR} (hx : x.ok = true) : ∀ (L : List OR) (last : Int), bookFrom last L = 0 → last < x.known → (∀ y ∈ L, y.known < x.known) → bookFrom last (L ++ [x]) = 0
  | [], last, _, h1, _ => by
    have h2 : ¬ x.known ≤ last := by omega
    simp [bookFrom, hx, h2]
  | y :: r, last, h, h1, h2 => by
    unfold bookFrom at h
    rw [List.cons_append]
    unfold bookFrom
    split at h
    · cases h
    · rename_i a
      rw [if_neg a]
      split at h
      · cases h
      · rename_i c
        rw [if_neg c]
        exact book_snoc hx r _ h (h2 y (by simp)) (fun z hz => h2 z (by simp [hz]))
theorem MadeO.nil : MadeO [] 0 := ⟨rfl, Int.le_refl _, by simp, by simp⟩
theorem MadeO.push {L : List OR} {kn : Int} {x : OR} (h : MadeO L kn) (hx : MdO x) (hk : kn < x.known) : MadeO (L ++ [x]) x.known := by
  refine ⟨book_snoc hx.ok L 0 h.asc (by have := h.k0; omega) (fun y hy => by have := h.known y hy; omega), by have := h.k0; omega, fun y hy => ?_, fun y hy => ?_⟩
  · rcases List.mem_append.1 hy with hy | hy
    · have := h.known y hy; omega
    · simp at hy
      subst hy
      exact Int.le_refl _
  · rcases List.mem_append.1 hy with hy | hy
    · exact h.each y hy
    · simp at hy
      subst hy
      exact hx
theorem MadeO.book {L : List OR} {kn : Int} (h : MadeO L kn) (hl : L.length ≤ 4096) : bookErr L = 0 := by
  unfold bookErr
  rw [if_pos hl]
  exact h.asc
/-- Orders have been made. -/
def SOrdP (B b : Nat) (m : Nat) (w : World) (e : Ending) (w' : World) : Prop :=
  ∃ (L : List OR) (A : Option Addr) (c : Nat) (kn : Int), e = .returned (.slice A L.length c) ∧ L.length ≤ m ∧ kn ≤ 3 * m ∧ MadeO L kn ∧ OrAt w' A L ∧ (∀ ad, A = some ad → w.heap.size ≤ ad.block) ∧ TapS w' B b ∧ Only b w w'
theorem own_ord {W : World} {B : Nat} {v : Value} {n : Nat} {L : List OR} (h : W.ownsRow B 57 11 v n (orL L).flatten) (hs : ∀ x ∈ L, x.small) (hl : L.length ≤ 4096) : ∃ A cap, v = .slice A L.length cap ∧ OrAt W A L ∧ (∀ ad, A = some ad → B ≤ ad.block) := by
  have hml : (orL L).length = L.length := by simp [orL]
  obtain ⟨hn, A, cap, rfl, hr, hA⟩ := own_recs h (orL_len L) (by decide) (by omega)
  exact ⟨A, cap, by rw [hn, hml], ⟨hr, hs⟩, fun ad e => (hA ad e).1⟩
/-- The state of the making. -/
structure OrdM (w W : World) (B b : Nat) (v : Value) (L : List OR) : Prop where
  tape : TapS W B b
  only : Only b w W
  own : W.ownsRow w.heap.size 57 11 v L.length (orL L).flatten
  hb : b < w.heap.size
section
variable {w W W' : World} {B b : Nat} {v : Value} {L : List OR}
theorem OrdM.only' (h : OrdM w W B b v L) (ho : Only b W W') (ht : TapS W' B b) : OrdM w W' B b v L :=
  ⟨ht, only_trans h.only ho, h.own.kept ho (.inr (fun e => by have := (h.own.lt b e).1; have := h.hb; omega)), h.hb⟩
theorem OrdM.next (h : OrdM w W B b v L) (hb : Below W.heap.size W W') : OrdM w W' B b v L := h.only' (only_below hb) (h.tape.below hb)
end
theorem OrdM.pushed {w W W' : World} {B b : Nat} {v v' : Value} {L : List OR} {x : OR} {E : TypeId} (h : OrdM w W B b v L) (ho : W'.ownsRow w.heap.size 57 11 v' (L.length + 1) ((orL L).flatten ++ [.string x.key, .string x.nom, .string x.hol, .string x.fund, .string x.cls, .int .i64 x.kind, .int .i64 x.amt, .int .i64 x.units, .int .i64 x.t, .int .i64 x.known, .bool x.void])) (hg : (W.alloc (.cells #[.string x.key, .string x.nom, .string x.hol, .string x.fund, .string x.cls, .int .i64 x.kind, .int .i64 x.amt, .int .i64 x.units, .int .i64 x.t, .int .i64 x.known, .bool x.void] E)).grownBy W' v.ownBlock) : OrdM w W' B b v' (L ++ [x]) := by
  have hb := h.hb
  refine ⟨(h.tape.alloc _).row hg (fun k hk => by have := (h.own.lt k hk).1; omega), only_row (only_al h.only _) hg (fun k hk => (h.own.lt k hk).1), ?_, hb⟩
  rw [orL_next, List.length_append]
  exact ho
/-- An order in its block, beside the state. -/
structure OrdX (w W : World) (B b G : Nat) (v : Value) (L : List OR) (x : OR) : Prop where
  m : OrdM w W B b v L
  blk : BlkAt W G (orV x) 57
  hG : w.heap.size ≤ G
  hv : v.ownBlock ≠ some G
section
variable {w W W' : World} {B b G : Nat} {v : Value} {L : List OR} {x x' : OR}
theorem OrdX.only' (h : OrdX w W B b G v L x) (ho : Only b W W') (ht : TapS W' B b) : OrdX w W' B b G v L x := ⟨h.m.only' ho ht, h.blk.only ho (by have := h.m.hb; have := h.hG; omega), h.hG, h.hv⟩
theorem OrdX.next (h : OrdX w W B b G v L x) (hb : Below W.heap.size W W') : OrdX w W' B b G v L x := h.only' (only_below hb) (h.m.tape.below hb)
theorem OrdX.al (h : OrdX w W B b G v L x) (o : Obj) : OrdX w (W.alloc o) B b G v L x := h.next (bal0 W o)
theorem OrdX.drew (h : OrdX w W B b G v L x) : OrdX w W.drew B b G v L x := h.next ((Below.refl _ _).drew)
theorem OrdX.row (h : OrdX w W B b G v L x) (x' : OR) : OrdX w (W.setRow G (orV x')) B b G v L x' :=
  ⟨⟨h.m.tape.setRow (by have := h.hG; have := h.m.hb; have := h.m.tape.base; omega) (by have := h.hG; have := h.m.hb; omega) _, only_setRow h.m.only (.inr h.hG) _, h.m.own.kept (row := some G) ⟨rfl, rfl, rfl, by rw [setRow_size]; exact Nat.le_refl _, fun k hk hne => setRow_other _ _ _ _ (fun e => hne (by rw [e]))⟩ (.inr h.hv), h.m.hb⟩, h.blk.set _, h.hG, h.hv⟩
/-- A cell of it is written. It is not in the list's block. -/
theorem OrdX.set (h : OrdX w W B b G v L x) (i : Nat) (u : Value) (e : (orV x).setIfInBounds i u = orV x') : OrdX w (W.setCell ⟨G, i, none⟩ u) B b G v L x' :=
  ⟨⟨h.m.tape.setCell (by show B ≤ G; have := h.hG; have := h.m.hb; have := h.m.tape.base; omega) (by show G ≠ b; have := h.hG; have := h.m.hb; omega) _, only_set h.m.only (.inr h.hG) _, ownsRow_setCell_other h.m.own h.hv _, h.m.hb⟩, (h.blk.cellSet i u).is e, h.hG, h.hv⟩
end
theorem elOrd : ElT Tryz.prog 22 57 11 128 := ElT.of (z := .agg #[.string ⟨#[]⟩, .string ⟨#[]⟩, .string ⟨#[]⟩, .string ⟨#[]⟩, .string ⟨#[]⟩, .int .i64 0, .int .i64 0, .int .i64 0, .int .i64 0, .int .i64 0, .bool false]) Tryz.underlying22 (by kernel_rfl) rfl (by decide)
theorem scene_p : Tryz.prog.follows .mixedOrders = true := by kernel_rfl
def CutO (w : World) (B b G : Nat) (v : Value) (L : List OR) (kn : Int) (wc : World) : Prop :=
  ∃ x : OR, MdO x ∧ x.known = kn ∧ OrdX w wc B b G v L x
def FundB (fd : ByteArray) : Prop := fd = ⟨#[97, 108, 112, 104, 97]⟩ ∨ fd = ⟨#[98, 101, 116, 97]⟩
def ClsB (c : ByteArray) : Prop := c = ⟨#[97]⟩ ∨ c = ⟨#[98]⟩
theorem mdo_void {key : ByteArray} {t k : Int} (h : nmB key = true) (h1 : 1 ≤ k) (h2 : k ≤ 1000) (t0 : 0 ≤ t) (t1 : t ≤ 86400) : MdO ⟨key, ⟨#[]⟩, ⟨#[]⟩, ⟨#[]⟩, ⟨#[]⟩, 0, 0, 0, t, k, true⟩ := by
  have hs : (⟨#[]⟩ : ByteArray).size ≤ maxLen := by decide
  refine ⟨?_, small_nm h, hs, hs, hs, hs⟩
  have hb : OR.bare ⟨key, ⟨#[]⟩, ⟨#[]⟩, ⟨#[]⟩, ⟨#[]⟩, 0, 0, 0, t, k, true⟩ = true := by
    have h0 : (⟨#[]⟩ : ByteArray).toList = [] := by decide +kernel
    simp [OR.bare, h0]
  simp only [OR.ok, h, hb, Bool.true_and, if_true]
  simp [knB]
  omega
theorem fund_nm {fd : ByteArray} (h : FundB fd) : nmB fd = true := by
  rcases h with rfl | rfl <;> decide
theorem cls_nm {fd : ByteArray} (h : ClsB fd) : nmB fd = true := by
  rcases h with rfl | rfl <;> decide
theorem mdo_full {key nom hol fund cls : ByteArray} {kind amt units t k : Int} (h : nmB key = true) (hacc : AccB nom hol) (hf : FundB fund) (hc : ClsB cls) (h1 : 1 ≤ k) (h2 : k ≤ 1000) (t0 : 0 ≤ t) (t1 : t ≤ 86400) (ha : OR.asks ⟨key, nom, hol, fund, cls, kind, amt, units, t, k, false⟩ = true) : MdO ⟨key, nom, hol, fund, cls, kind, amt, units, t, k, false⟩ := by
  have hn := fund_nm hf
  have hn2 := cls_nm hc
  refine ⟨?_, small_nm h, hacc.snom, hacc.shol, small_nm hn, small_nm hn2⟩
  have hac : OR.acc ⟨key, nom, hol, fund, cls, kind, amt, units, t, k, false⟩ = true := hacc.acc rfl rfl
  simp only [OR.ok, h, hn, hn2, ha, hac, Bool.true_and, Bool.and_true, Bool.false_eq_true, if_false]
  simp [knB]
  omega
/-- The same again, known later, perhaps given later. -/
theorem mdo_again {x : OR} (h : MdO x) {t k : Int} (h1 : 1 ≤ k) (h2 : k ≤ 1000) (ht : x.t ≤ t) (t1 : t ≤ 105190559) : MdO { x with t := t, known := k } := by
  refine ⟨?_, h.small.key, h.small.nom, h.small.hol, h.small.fund, h.small.cls⟩
  have := h.ok
  simp only [OR.ok, Bool.and_eq_true, decide_eq_true_eq] at this ⊢
  obtain ⟨⟨⟨a1, a2⟩, a3⟩, a4⟩ := this
  refine ⟨⟨⟨a1, by omega, t1⟩, by simp [knB]; omega⟩, a4⟩
theorem mdo_t {x : OR} (h : MdO x) : 0 ≤ x.t ∧ x.t ≤ 105190559 := by
  have := h.ok
  simp only [OR.ok, Bool.and_eq_true, decide_eq_true_eq] at this
  exact this.1.1.2
-- R8 BEGIN
def fundC : Array Value := #[.string ⟨#[97, 108, 112, 104, 97]⟩, .string ⟨#[97, 108, 112, 104, 97]⟩, .string ⟨#[97, 108, 112, 104, 97]⟩, .string ⟨#[98, 101, 116, 97]⟩]
def clsC : Array Value := #[.string ⟨#[97]⟩, .string ⟨#[97]⟩, .string ⟨#[98]⟩]
def LstB (W : World) (b G g : Nat) (cs : Array Value) : Prop := g ≠ b ∧ g ≠ G ∧ BlkAt W g cs 9
theorem fund_at {W : World} {b G g k : Nat} (h : LstB W b G g fundC) (hk : (k : Int) < 4) : ∃ fd, FundB fd ∧ W.cell? ⟨g, k, none⟩ = some (.string fd) := by
  have h4 : k = 0 ∨ k = 1 ∨ k = 2 ∨ k = 3 := by omega
  rcases h4 with rfl | rfl | rfl | rfl
  · exact ⟨_, .inl rfl, h.2.2.cell rfl⟩
  · exact ⟨_, .inl rfl, h.2.2.cell rfl⟩
  · exact ⟨_, .inl rfl, h.2.2.cell rfl⟩
  · exact ⟨_, .inr rfl, h.2.2.cell rfl⟩
theorem cls_at {W : World} {b G g k : Nat} (h : LstB W b G g clsC) (hk : (k : Int) < 3) : ∃ fd, ClsB fd ∧ W.cell? ⟨g, k, none⟩ = some (.string fd) := by
  have h4 : k = 0 ∨ k = 1 ∨ k = 2 := by omega
  rcases h4 with rfl | rfl | rfl
  · exact ⟨_, .inl rfl, h.2.2.cell rfl⟩
  · exact ⟨_, .inl rfl, h.2.2.cell rfl⟩
  · exact ⟨_, .inr rfl, h.2.2.cell rfl⟩
theorem LstB.only {W W' : World} {b G g : Nat} {cs : Array Value} (h : LstB W b G g cs) (ho : Only b W W') : LstB W' b G g cs := ⟨h.1, h.2.1, h.2.2.only ho h.1⟩
theorem LstB.cell {W : World} {b G g : Nat} {cs : Array Value} (h : LstB W b G g cs) (i : Nat) (u : Value) : LstB (W.setCell ⟨G, i, none⟩ u) b G g cs := ⟨h.1, h.2.1, h.2.2.cellFar i u h.2.1⟩
structure R8 (w : World) (B b G : Nat) (v : Value) (L : List OR) (key : ByteArray) (t kn : Int) (l : Array Bool) (s28 s29 s30 s31 s32 s33 s34 s35 s36 s37 s38 s39 s40 s41 s42 : Value) (W : World) : Prop where
  m : ∃ nom hol fd cl, OrdX w W B b G v L ⟨key, nom, hol, fd, cl, 0, 0, 0, t, kn, false⟩ ∧ (l.getD 13 false = true → AccB nom hol) ∧ (l.getD 15 false = true → FundB fd) ∧ (l.getD 17 false = true → ClsB cl)
  h0 : l.getD 0 false = true → s28 = .pointer (some ⟨b, 0, none⟩)
  h1 : l.getD 1 false = true → ∃ nom hol, s29 = .agg #[.string nom, .string hol] ∧ AccB nom hol
  h2 : l.getD 2 false = true → ∃ g, s30 = .slice (some ⟨g, 0, none⟩) 4 4 ∧ LstB W b G g fundC
  h3 : l.getD 3 false = true → s31 = .pointer (some ⟨b, 0, none⟩)
  h4 : l.getD 4 false = true → ∃ k : Nat, (k : Int) < 4 ∧ s32 = .int .i64 k
  h5 : l.getD 5 false = true → ∃ g k : Nat, (k : Int) < 4 ∧ s33 = .pointer (some ⟨g, k, none⟩) ∧ LstB W b G g fundC
  h6 : l.getD 6 false = true → ∃ fd, s34 = .string fd ∧ FundB fd
  h7 : l.getD 7 false = true → ∃ g, s35 = .slice (some ⟨g, 0, none⟩) 3 3 ∧ LstB W b G g clsC
  h8 : l.getD 8 false = true → s36 = .pointer (some ⟨b, 0, none⟩)
  h9 : l.getD 9 false = true → ∃ k : Nat, (k : Int) < 3 ∧ s37 = .int .i64 k
  h10 : l.getD 10 false = true → ∃ g k : Nat, (k : Int) < 3 ∧ s38 = .pointer (some ⟨g, k, none⟩) ∧ LstB W b G g clsC
  h11 : l.getD 11 false = true → ∃ c, s39 = .string c ∧ ClsB c
  h12 : l.getD 12 false = true → s40 = .pointer (some ⟨G, 1, none⟩)
  h14 : l.getD 14 false = true → s41 = .pointer (some ⟨G, 3, none⟩)
  h16 : l.getD 16 false = true → s42 = .pointer (some ⟨G, 4, none⟩)
section
variable {w : World} {B b G : Nat} {v : Value} {L : List OR} {key : ByteArray} {t kn : Int} {l : Array Bool} {s28 s29 s30 s31 s32 s33 s34 s35 s36 s37 s38 s39 s40 s41 s42 : Value} {W W' : World}
theorem R8.world (h : R8 w B b G v L key t kn l s28 s29 s30 s31 s32 s33 s34 s35 s36 s37 s38 s39 s40 s41 s42 W) (hm : ∀ x, OrdX w W B b G v L x → OrdX w W' B b G v L x) (hl : ∀ g cs, LstB W b G g cs → LstB W' b G g cs) : R8 w B b G v L key t kn l s28 s29 s30 s31 s32 s33 s34 s35 s36 s37 s38 s39 s40 s41 s42 W' := by
  obtain ⟨nom, hol, fd, cl, x1, x2, x3, x4⟩ := h.m
  exact ⟨⟨nom, hol, fd, cl, hm _ x1, x2, x3, x4⟩, h.h0, h.h1, fun e => by obtain ⟨g, e1, e2⟩ := h.h2 e; exact ⟨g, e1, hl _ _ e2⟩, h.h3, h.h4, fun e => by obtain ⟨g, k, e0, e1, e2⟩ := h.h5 e; exact ⟨g, k, e0, e1, hl _ _ e2⟩, h.h6, fun e => by obtain ⟨g, e1, e2⟩ := h.h7 e; exact ⟨g, e1, hl _ _ e2⟩, h.h8, h.h9, fun e => by obtain ⟨g, k, e0, e1, e2⟩ := h.h10 e; exact ⟨g, k, e0, e1, hl _ _ e2⟩, h.h11, h.h12, h.h14, h.h16⟩
theorem R8.only (h : R8 w B b G v L key t kn l s28 s29 s30 s31 s32 s33 s34 s35 s36 s37 s38 s39 s40 s41 s42 W) (ho : Only b W W') (ht : TapS W' B b) : R8 w B b G v L key t kn l s28 s29 s30 s31 s32 s33 s34 s35 s36 s37 s38 s39 s40 s41 s42 W' := h.world (fun x hx => hx.only' ho ht) (fun g cs hg => hg.only ho)
theorem R8.set0 (h : R8 w B b G v L key t kn l s28 s29 s30 s31 s32 s33 s34 s35 s36 s37 s38 s39 s40 s41 s42 W) {u : Value} (hu : u = .pointer (some ⟨b, 0, none⟩)) : R8 w B b G v L key t kn (l.setIfInBounds 0 true) u s29 s30 s31 s32 s33 s34 s35 s36 s37 s38 s39 s40 s41 s42 W :=
  ⟨by obtain ⟨nom, hol, fd, cl, x1, x2, x3, x4⟩ := h.m; exact ⟨nom, hol, fd, cl, x1, listed_keep (by decide) x2, listed_keep (by decide) x3, listed_keep (by decide) x4⟩, fun _ => hu, listed_keep (by decide) h.h1, listed_keep (by decide) h.h2, listed_keep (by decide) h.h3, listed_keep (by decide) h.h4, listed_keep (by decide) h.h5, listed_keep (by decide) h.h6, listed_keep (by decide) h.h7, listed_keep (by decide) h.h8, listed_keep (by decide) h.h9, listed_keep (by decide) h.h10, listed_keep (by decide) h.h11, listed_keep (by decide) h.h12, listed_keep (by decide) h.h14, listed_keep (by decide) h.h16⟩
theorem R8.set1 (h : R8 w B b G v L key t kn l s28 s29 s30 s31 s32 s33 s34 s35 s36 s37 s38 s39 s40 s41 s42 W) {u : Value} (hu : ∃ nom hol, u = .agg #[.string nom, .string hol] ∧ AccB nom hol) : R8 w B b G v L key t kn (l.setIfInBounds 1 true) s28 u s30 s31 s32 s33 s34 s35 s36 s37 s38 s39 s40 s41 s42 W :=
  ⟨by obtain ⟨nom, hol, fd, cl, x1, x2, x3, x4⟩ := h.m; exact ⟨nom, hol, fd, cl, x1, listed_keep (by decide) x2, listed_keep (by decide) x3, listed_keep (by decide) x4⟩, listed_keep (by decide) h.h0, fun _ => hu, listed_keep (by decide) h.h2, listed_keep (by decide) h.h3, listed_keep (by decide) h.h4, listed_keep (by decide) h.h5, listed_keep (by decide) h.h6, listed_keep (by decide) h.h7, listed_keep (by decide) h.h8, listed_keep (by decide) h.h9, listed_keep (by decide) h.h10, listed_keep (by decide) h.h11, listed_keep (by decide) h.h12, listed_keep (by decide) h.h14, listed_keep (by decide) h.h16⟩
theorem R8.set2 (h : R8 w B b G v L key t kn l s28 s29 s30 s31 s32 s33 s34 s35 s36 s37 s38 s39 s40 s41 s42 W) {u : Value} (hu : ∃ g, u = .slice (some ⟨g, 0, none⟩) 4 4 ∧ LstB W b G g fundC) : R8 w B b G v L key t kn (l.setIfInBounds 2 true) s28 s29 u s31 s32 s33 s34 s35 s36 s37 s38 s39 s40 s41 s42 W :=
  ⟨by obtain ⟨nom, hol, fd, cl, x1, x2, x3, x4⟩ := h.m; exact ⟨nom, hol, fd, cl, x1, listed_keep (by decide) x2, listed_keep (by decide) x3, listed_keep (by decide) x4⟩, listed_keep (by decide) h.h0, listed_keep (by decide) h.h1, fun _ => hu, listed_keep (by decide) h.h3, listed_keep (by decide) h.h4, listed_keep (by decide) h.h5, listed_keep (by decide) h.h6, listed_keep (by decide) h.h7, listed_keep (by decide) h.h8, listed_keep (by decide) h.h9, listed_keep (by decide) h.h10, listed_keep (by decide) h.h11, listed_keep (by decide) h.h12, listed_keep (by decide) h.h14, listed_keep (by decide) h.h16⟩
theorem R8.set3 (h : R8 w B b G v L key t kn l s28 s29 s30 s31 s32 s33 s34 s35 s36 s37 s38 s39 s40 s41 s42 W) {u : Value} (hu : u = .pointer (some ⟨b, 0, none⟩)) : R8 w B b G v L key t kn (l.setIfInBounds 3 true) s28 s29 s30 u s32 s33 s34 s35 s36 s37 s38 s39 s40 s41 s42 W :=
  ⟨by obtain ⟨nom, hol, fd, cl, x1, x2, x3, x4⟩ := h.m; exact ⟨nom, hol, fd, cl, x1, listed_keep (by decide) x2, listed_keep (by decide) x3, listed_keep (by decide) x4⟩, listed_keep (by decide) h.h0, listed_keep (by decide) h.h1, listed_keep (by decide) h.h2, fun _ => hu, listed_keep (by decide) h.h4, listed_keep (by decide) h.h5, listed_keep (by decide) h.h6, listed_keep (by decide) h.h7, listed_keep (by decide) h.h8, listed_keep (by decide) h.h9, listed_keep (by decide) h.h10, listed_keep (by decide) h.h11, listed_keep (by decide) h.h12, listed_keep (by decide) h.h14, listed_keep (by decide) h.h16⟩
theorem R8.set4 (h : R8 w B b G v L key t kn l s28 s29 s30 s31 s32 s33 s34 s35 s36 s37 s38 s39 s40 s41 s42 W) {u : Value} (hu : ∃ k : Nat, (k : Int) < 4 ∧ u = .int .i64 k) : R8 w B b G v L key t kn (l.setIfInBounds 4 true) s28 s29 s30 s31 u s33 s34 s35 s36 s37 s38 s39 s40 s41 s42 W :=
  ⟨by obtain ⟨nom, hol, fd, cl, x1, x2, x3, x4⟩ := h.m; exact ⟨nom, hol, fd, cl, x1, listed_keep (by decide) x2, listed_keep (by decide) x3, listed_keep (by decide) x4⟩, listed_keep (by decide) h.h0, listed_keep (by decide) h.h1, listed_keep (by decide) h.h2, listed_keep (by decide) h.h3, fun _ => hu, listed_keep (by decide) h.h5, listed_keep (by decide) h.h6, listed_keep (by decide) h.h7, listed_keep (by decide) h.h8, listed_keep (by decide) h.h9, listed_keep (by decide) h.h10, listed_keep (by decide) h.h11, listed_keep (by decide) h.h12, listed_keep (by decide) h.h14, listed_keep (by decide) h.h16⟩
theorem R8.set5 (h : R8 w B b G v L key t kn l s28 s29 s30 s31 s32 s33 s34 s35 s36 s37 s38 s39 s40 s41 s42 W) {u : Value} (hu : ∃ g k : Nat, (k : Int) < 4 ∧ u = .pointer (some ⟨g, k, none⟩) ∧ LstB W b G g fundC) : R8 w B b G v L key t kn (l.setIfInBounds 5 true) s28 s29 s30 s31 s32 u s34 s35 s36 s37 s38 s39 s40 s41 s42 W :=
  ⟨by obtain ⟨nom, hol, fd, cl, x1, x2, x3, x4⟩ := h.m; exact ⟨nom, hol, fd, cl, x1, listed_keep (by decide) x2, listed_keep (by decide) x3, listed_keep (by decide) x4⟩, listed_keep (by decide) h.h0, listed_keep (by decide) h.h1, listed_keep (by decide) h.h2, listed_keep (by decide) h.h3, listed_keep (by decide) h.h4, fun _ => hu, listed_keep (by decide) h.h6, listed_keep (by decide) h.h7, listed_keep (by decide) h.h8, listed_keep (by decide) h.h9, listed_keep (by decide) h.h10, listed_keep (by decide) h.h11, listed_keep (by decide) h.h12, listed_keep (by decide) h.h14, listed_keep (by decide) h.h16⟩
theorem R8.set6 (h : R8 w B b G v L key t kn l s28 s29 s30 s31 s32 s33 s34 s35 s36 s37 s38 s39 s40 s41 s42 W) {u : Value} (hu : ∃ fd, u = .string fd ∧ FundB fd) : R8 w B b G v L key t kn (l.setIfInBounds 6 true) s28 s29 s30 s31 s32 s33 u s35 s36 s37 s38 s39 s40 s41 s42 W :=
  ⟨by obtain ⟨nom, hol, fd, cl, x1, x2, x3, x4⟩ := h.m; exact ⟨nom, hol, fd, cl, x1, listed_keep (by decide) x2, listed_keep (by decide) x3, listed_keep (by decide) x4⟩, listed_keep (by decide) h.h0, listed_keep (by decide) h.h1, listed_keep (by decide) h.h2, listed_keep (by decide) h.h3, listed_keep (by decide) h.h4, listed_keep (by decide) h.h5, fun _ => hu, listed_keep (by decide) h.h7, listed_keep (by decide) h.h8, listed_keep (by decide) h.h9, listed_keep (by decide) h.h10, listed_keep (by decide) h.h11, listed_keep (by decide) h.h12, listed_keep (by decide) h.h14, listed_keep (by decide) h.h16⟩
theorem R8.set7 (h : R8 w B b G v L key t kn l s28 s29 s30 s31 s32 s33 s34 s35 s36 s37 s38 s39 s40 s41 s42 W) {u : Value} (hu : ∃ g, u = .slice (some ⟨g, 0, none⟩) 3 3 ∧ LstB W b G g clsC) : R8 w B b G v L key t kn (l.setIfInBounds 7 true) s28 s29 s30 s31 s32 s33 s34 u s36 s37 s38 s39 s40 s41 s42 W :=
  ⟨by obtain ⟨nom, hol, fd, cl, x1, x2, x3, x4⟩ := h.m; exact ⟨nom, hol, fd, cl, x1, listed_keep (by decide) x2, listed_keep (by decide) x3, listed_keep (by decide) x4⟩, listed_keep (by decide) h.h0, listed_keep (by decide) h.h1, listed_keep (by decide) h.h2, listed_keep (by decide) h.h3, listed_keep (by decide) h.h4, listed_keep (by decide) h.h5, listed_keep (by decide) h.h6, fun _ => hu, listed_keep (by decide) h.h8, listed_keep (by decide) h.h9, listed_keep (by decide) h.h10, listed_keep (by decide) h.h11, listed_keep (by decide) h.h12, listed_keep (by decide) h.h14, listed_keep (by decide) h.h16⟩
theorem R8.set8 (h : R8 w B b G v L key t kn l s28 s29 s30 s31 s32 s33 s34 s35 s36 s37 s38 s39 s40 s41 s42 W) {u : Value} (hu : u = .pointer (some ⟨b, 0, none⟩)) : R8 w B b G v L key t kn (l.setIfInBounds 8 true) s28 s29 s30 s31 s32 s33 s34 s35 u s37 s38 s39 s40 s41 s42 W :=
  ⟨by obtain ⟨nom, hol, fd, cl, x1, x2, x3, x4⟩ := h.m; exact ⟨nom, hol, fd, cl, x1, listed_keep (by decide) x2, listed_keep (by decide) x3, listed_keep (by decide) x4⟩, listed_keep (by decide) h.h0, listed_keep (by decide) h.h1, listed_keep (by decide) h.h2, listed_keep (by decide) h.h3, listed_keep (by decide) h.h4, listed_keep (by decide) h.h5, listed_keep (by decide) h.h6, listed_keep (by decide) h.h7, fun _ => hu, listed_keep (by decide) h.h9, listed_keep (by decide) h.h10, listed_keep (by decide) h.h11, listed_keep (by decide) h.h12, listed_keep (by decide) h.h14, listed_keep (by decide) h.h16⟩
theorem R8.set9 (h : R8 w B b G v L key t kn l s28 s29 s30 s31 s32 s33 s34 s35 s36 s37 s38 s39 s40 s41 s42 W) {u : Value} (hu : ∃ k : Nat, (k : Int) < 3 ∧ u = .int .i64 k) : R8 w B b G v L key t kn (l.setIfInBounds 9 true) s28 s29 s30 s31 s32 s33 s34 s35 s36 u s38 s39 s40 s41 s42 W :=
  ⟨by obtain ⟨nom, hol, fd, cl, x1, x2, x3, x4⟩ := h.m; exact ⟨nom, hol, fd, cl, x1, listed_keep (by decide) x2, listed_keep (by decide) x3, listed_keep (by decide) x4⟩, listed_keep (by decide) h.h0, listed_keep (by decide) h.h1, listed_keep (by decide) h.h2, listed_keep (by decide) h.h3, listed_keep (by decide) h.h4, listed_keep (by decide) h.h5, listed_keep (by decide) h.h6, listed_keep (by decide) h.h7, listed_keep (by decide) h.h8, fun _ => hu, listed_keep (by decide) h.h10, listed_keep (by decide) h.h11, listed_keep (by decide) h.h12, listed_keep (by decide) h.h14, listed_keep (by decide) h.h16⟩
theorem R8.set10 (h : R8 w B b G v L key t kn l s28 s29 s30 s31 s32 s33 s34 s35 s36 s37 s38 s39 s40 s41 s42 W) {u : Value} (hu : ∃ g k : Nat, (k : Int) < 3 ∧ u = .pointer (some ⟨g, k, none⟩) ∧ LstB W b G g clsC) : R8 w B b G v L key t kn (l.setIfInBounds 10 true) s28 s29 s30 s31 s32 s33 s34 s35 s36 s37 u s39 s40 s41 s42 W :=
  ⟨by obtain ⟨nom, hol, fd, cl, x1, x2, x3, x4⟩ := h.m; exact ⟨nom, hol, fd, cl, x1, listed_keep (by decide) x2, listed_keep (by decide) x3, listed_keep (by decide) x4⟩, listed_keep (by decide) h.h0, listed_keep (by decide) h.h1, listed_keep (by decide) h.h2, listed_keep (by decide) h.h3, listed_keep (by decide) h.h4, listed_keep (by decide) h.h5, listed_keep (by decide) h.h6, listed_keep (by decide) h.h7, listed_keep (by decide) h.h8, listed_keep (by decide) h.h9, fun _ => hu, listed_keep (by decide) h.h11, listed_keep (by decide) h.h12, listed_keep (by decide) h.h14, listed_keep (by decide) h.h16⟩
theorem R8.set11 (h : R8 w B b G v L key t kn l s28 s29 s30 s31 s32 s33 s34 s35 s36 s37 s38 s39 s40 s41 s42 W) {u : Value} (hu : ∃ c, u = .string c ∧ ClsB c) : R8 w B b G v L key t kn (l.setIfInBounds 11 true) s28 s29 s30 s31 s32 s33 s34 s35 s36 s37 s38 u s40 s41 s42 W :=
  ⟨by obtain ⟨nom, hol, fd, cl, x1, x2, x3, x4⟩ := h.m; exact ⟨nom, hol, fd, cl, x1, listed_keep (by decide) x2, listed_keep (by decide) x3, listed_keep (by decide) x4⟩, listed_keep (by decide) h.h0, listed_keep (by decide) h.h1, listed_keep (by decide) h.h2, listed_keep (by decide) h.h3, listed_keep (by decide) h.h4, listed_keep (by decide) h.h5, listed_keep (by decide) h.h6, listed_keep (by decide) h.h7, listed_keep (by decide) h.h8, listed_keep (by decide) h.h9, listed_keep (by decide) h.h10, fun _ => hu, listed_keep (by decide) h.h12, listed_keep (by decide) h.h14, listed_keep (by decide) h.h16⟩
theorem R8.set12 (h : R8 w B b G v L key t kn l s28 s29 s30 s31 s32 s33 s34 s35 s36 s37 s38 s39 s40 s41 s42 W) {u : Value} (hu : u = .pointer (some ⟨G, 1, none⟩)) : R8 w B b G v L key t kn (l.setIfInBounds 12 true) s28 s29 s30 s31 s32 s33 s34 s35 s36 s37 s38 s39 u s41 s42 W :=
  ⟨by obtain ⟨nom, hol, fd, cl, x1, x2, x3, x4⟩ := h.m; exact ⟨nom, hol, fd, cl, x1, listed_keep (by decide) x2, listed_keep (by decide) x3, listed_keep (by decide) x4⟩, listed_keep (by decide) h.h0, listed_keep (by decide) h.h1, listed_keep (by decide) h.h2, listed_keep (by decide) h.h3, listed_keep (by decide) h.h4, listed_keep (by decide) h.h5, listed_keep (by decide) h.h6, listed_keep (by decide) h.h7, listed_keep (by decide) h.h8, listed_keep (by decide) h.h9, listed_keep (by decide) h.h10, listed_keep (by decide) h.h11, fun _ => hu, listed_keep (by decide) h.h14, listed_keep (by decide) h.h16⟩
theorem R8.set14 (h : R8 w B b G v L key t kn l s28 s29 s30 s31 s32 s33 s34 s35 s36 s37 s38 s39 s40 s41 s42 W) {u : Value} (hu : u = .pointer (some ⟨G, 3, none⟩)) : R8 w B b G v L key t kn (l.setIfInBounds 14 true) s28 s29 s30 s31 s32 s33 s34 s35 s36 s37 s38 s39 s40 u s42 W :=
  ⟨by obtain ⟨nom, hol, fd, cl, x1, x2, x3, x4⟩ := h.m; exact ⟨nom, hol, fd, cl, x1, listed_keep (by decide) x2, listed_keep (by decide) x3, listed_keep (by decide) x4⟩, listed_keep (by decide) h.h0, listed_keep (by decide) h.h1, listed_keep (by decide) h.h2, listed_keep (by decide) h.h3, listed_keep (by decide) h.h4, listed_keep (by decide) h.h5, listed_keep (by decide) h.h6, listed_keep (by decide) h.h7, listed_keep (by decide) h.h8, listed_keep (by decide) h.h9, listed_keep (by decide) h.h10, listed_keep (by decide) h.h11, listed_keep (by decide) h.h12, fun _ => hu, listed_keep (by decide) h.h16⟩
theorem R8.set16 (h : R8 w B b G v L key t kn l s28 s29 s30 s31 s32 s33 s34 s35 s36 s37 s38 s39 s40 s41 s42 W) {u : Value} (hu : u = .pointer (some ⟨G, 4, none⟩)) : R8 w B b G v L key t kn (l.setIfInBounds 16 true) s28 s29 s30 s31 s32 s33 s34 s35 s36 s37 s38 s39 s40 s41 u W :=
  ⟨by obtain ⟨nom, hol, fd, cl, x1, x2, x3, x4⟩ := h.m; exact ⟨nom, hol, fd, cl, x1, listed_keep (by decide) x2, listed_keep (by decide) x3, listed_keep (by decide) x4⟩, listed_keep (by decide) h.h0, listed_keep (by decide) h.h1, listed_keep (by decide) h.h2, listed_keep (by decide) h.h3, listed_keep (by decide) h.h4, listed_keep (by decide) h.h5, listed_keep (by decide) h.h6, listed_keep (by decide) h.h7, listed_keep (by decide) h.h8, listed_keep (by decide) h.h9, listed_keep (by decide) h.h10, listed_keep (by decide) h.h11, listed_keep (by decide) h.h12, listed_keep (by decide) h.h14, fun _ => hu⟩
theorem R8.store13 (h : R8 w B b G v L key t kn l s28 s29 s30 s31 s32 s33 s34 s35 s36 s37 s38 s39 s40 s41 s42 W) {nom2 hol2 : ByteArray} (hu : AccB nom2 hol2) : R8 w B b G v L key t kn (l.setIfInBounds 13 true) s28 s29 s30 s31 s32 s33 s34 s35 s36 s37 s38 s39 s40 s41 s42 ((W.setCell ⟨G, 1, none⟩ (.string nom2)).setCell ⟨G, 2, none⟩ (.string hol2)) := by
  obtain ⟨nom, hol, fd, cl, x1, x2, x3, x4⟩ := h.m
  exact ⟨⟨nom2, hol2, fd, cl, ((x1.set 1 (.string nom2) (x' := ⟨key, nom2, hol, fd, cl, 0, 0, 0, t, kn, false⟩) rfl).set 2 (.string hol2) (x' := ⟨key, nom2, hol2, fd, cl, 0, 0, 0, t, kn, false⟩) rfl), fun _ => hu, listed_keep (by decide) x3, listed_keep (by decide) x4⟩, listed_keep (by decide) h.h0, listed_keep (by decide) h.h1, listed_keep (by decide) (fun e => by obtain ⟨g, e1, e2⟩ := h.h2 e; exact ⟨g, e1, (e2.cell 1 _).cell 2 _⟩), listed_keep (by decide) h.h3, listed_keep (by decide) h.h4, listed_keep (by decide) (fun e => by obtain ⟨g, k, e0, e1, e2⟩ := h.h5 e; exact ⟨g, k, e0, e1, (e2.cell 1 _).cell 2 _⟩), listed_keep (by decide) h.h6, listed_keep (by decide) (fun e => by obtain ⟨g, e1, e2⟩ := h.h7 e; exact ⟨g, e1, (e2.cell 1 _).cell 2 _⟩), listed_keep (by decide) h.h8, listed_keep (by decide) h.h9, listed_keep (by decide) (fun e => by obtain ⟨g, k, e0, e1, e2⟩ := h.h10 e; exact ⟨g, k, e0, e1, (e2.cell 1 _).cell 2 _⟩), listed_keep (by decide) h.h11, listed_keep (by decide) h.h12, listed_keep (by decide) h.h14, listed_keep (by decide) h.h16⟩
theorem R8.store15 (h : R8 w B b G v L key t kn l s28 s29 s30 s31 s32 s33 s34 s35 s36 s37 s38 s39 s40 s41 s42 W) {fd2 : ByteArray} (hu : FundB fd2) : R8 w B b G v L key t kn (l.setIfInBounds 15 true) s28 s29 s30 s31 s32 s33 s34 s35 s36 s37 s38 s39 s40 s41 s42 (W.setCell ⟨G, 3, none⟩ (.string fd2)) := by
  obtain ⟨nom, hol, fd, cl, x1, x2, x3, x4⟩ := h.m
  exact ⟨⟨nom, hol, fd2, cl, (x1.set 3 (.string fd2) (x' := ⟨key, nom, hol, fd2, cl, 0, 0, 0, t, kn, false⟩) rfl), listed_keep (by decide) x2, fun _ => hu, listed_keep (by decide) x4⟩, listed_keep (by decide) h.h0, listed_keep (by decide) h.h1, listed_keep (by decide) (fun e => by obtain ⟨g, e1, e2⟩ := h.h2 e; exact ⟨g, e1, e2.cell 3 _⟩), listed_keep (by decide) h.h3, listed_keep (by decide) h.h4, listed_keep (by decide) (fun e => by obtain ⟨g, k, e0, e1, e2⟩ := h.h5 e; exact ⟨g, k, e0, e1, e2.cell 3 _⟩), listed_keep (by decide) h.h6, listed_keep (by decide) (fun e => by obtain ⟨g, e1, e2⟩ := h.h7 e; exact ⟨g, e1, e2.cell 3 _⟩), listed_keep (by decide) h.h8, listed_keep (by decide) h.h9, listed_keep (by decide) (fun e => by obtain ⟨g, k, e0, e1, e2⟩ := h.h10 e; exact ⟨g, k, e0, e1, e2.cell 3 _⟩), listed_keep (by decide) h.h11, listed_keep (by decide) h.h12, listed_keep (by decide) h.h14, listed_keep (by decide) h.h16⟩
theorem R8.store17 (h : R8 w B b G v L key t kn l s28 s29 s30 s31 s32 s33 s34 s35 s36 s37 s38 s39 s40 s41 s42 W) {cl2 : ByteArray} (hu : ClsB cl2) : R8 w B b G v L key t kn (l.setIfInBounds 17 true) s28 s29 s30 s31 s32 s33 s34 s35 s36 s37 s38 s39 s40 s41 s42 (W.setCell ⟨G, 4, none⟩ (.string cl2)) := by
  obtain ⟨nom, hol, fd, cl, x1, x2, x3, x4⟩ := h.m
  exact ⟨⟨nom, hol, fd, cl2, (x1.set 4 (.string cl2) (x' := ⟨key, nom, hol, fd, cl2, 0, 0, 0, t, kn, false⟩) rfl), listed_keep (by decide) x2, listed_keep (by decide) x3, fun _ => hu⟩, listed_keep (by decide) h.h0, listed_keep (by decide) h.h1, listed_keep (by decide) (fun e => by obtain ⟨g, e1, e2⟩ := h.h2 e; exact ⟨g, e1, e2.cell 4 _⟩), listed_keep (by decide) h.h3, listed_keep (by decide) h.h4, listed_keep (by decide) (fun e => by obtain ⟨g, k, e0, e1, e2⟩ := h.h5 e; exact ⟨g, k, e0, e1, e2.cell 4 _⟩), listed_keep (by decide) h.h6, listed_keep (by decide) (fun e => by obtain ⟨g, e1, e2⟩ := h.h7 e; exact ⟨g, e1, e2.cell 4 _⟩), listed_keep (by decide) h.h8, listed_keep (by decide) h.h9, listed_keep (by decide) (fun e => by obtain ⟨g, k, e0, e1, e2⟩ := h.h10 e; exact ⟨g, k, e0, e1, e2.cell 4 _⟩), listed_keep (by decide) h.h11, listed_keep (by decide) h.h12, listed_keep (by decide) h.h14, listed_keep (by decide) h.h16⟩
end
-- R8 END
set_option maxRecDepth 1000000 in
theorem sord_any (m : Nat) (hm : m ≤ 12) (B b : Nat) (w : World) (h : TapS w B b) : Calls Tryz.prog 17 #[.pointer (some ⟨b, 0, none⟩), .int .i64 (m : Int)] w (SOrdP B b m w) := by
  have hb := h.lt
  have hB := h.base
  have hpl := scene_p
  go_enter Tryz.func17, Tryz.ntmps17
  go_wp2_with fail
  refine (snext_in (n := (m : Int) + 1) h (by omega) (by omega)).mono ?_
  rintro e w1 ⟨n0, hn0, rfl, ht1, ho1⟩
  have HM := Lib.hid (show OrdM w w1 B b (.slice none 0 0) [] from ⟨ht1, ho1, World.ownsRow_nil .., hb⟩)
  clear h ht1 ho1
  go_wp2_with fail
  go_loopw [5, 6, 7] (fun ov kv nv wr => ∃ (j kn : Int) (L : List OR), 0 ≤ j ∧ nv = .int .i64 j ∧ kv = .int .i64 kn ∧ L.length + j ≤ m ∧ 0 ≤ kn ∧ kn ≤ 3 * L.length ∧ MadeO L kn ∧ OrdM w wr B b ov L) (fun _ _ nv _ => (intOf nv).toNat)
  case atStart => exact ⟨n0, 0, [], by omega, rfl, rfl, by simp; omega, by omega, by simp, MadeO.nil, HM.out⟩
  case round =>
    obtain ⟨j, kn, L, hj, rfl, rfl, hLj, hk0, hk3, hMade, hS⟩ := hrel
    have HS := Lib.hid hS
    have HMade := Lib.hid hMade
    clear hS hMade HM
    by_cases hjp : 0 < j
    · have hl6 : L.length < m := by omega
      go_wp2_with fail
      refine (snext_in (n := 3) HS.out.tape (by omega) (by omega)).mono ?_
      rintro e w2 ⟨d, hd, rfl, ht2, ho2⟩
      have HS2 := Lib.hid (HS.out.only' ho2 ht2)
      clear HS ht2 ho2
      go_wp2_with fail
      refine (skey_any 4 B b _ HS2.out.tape (by omega) (by omega)).mono ?_
      rintro e w3 ⟨key, hkey, rfl, ht3, ho3⟩
      have HS3 := Lib.hid (HS2.out.only' ho3 ht3)
      have HK := Lib.hid hkey
      clear HS2 ht3 ho3 hkey
      go_wp2_with fail
      refine (snext_in (n := 86400) HS3.out.tape (by omega) (by omega)).mono ?_
      rintro e w4 ⟨t, ht, rfl, ht4, ho4⟩
      have HS4 := Lib.hid (HS3.out.only' ho4 ht4)
      have hv : u5.ownBlock ≠ some w4.heap.size := fun e => by have := (HS4.out.own.lt _ e).2; omega
      have HX := Lib.hid (show OrdX w (w4.alloc (.cells #[.string key, .string ⟨#[]⟩, .string ⟨#[]⟩, .string ⟨#[]⟩, .string ⟨#[]⟩, .int .i64 0, .int .i64 0, .int .i64 0, .int .i64 (t : Int), .int .i64 (kn + 1 + (d : Int)), .bool false] 57)) B b w4.heap.size u5 L ⟨key, ⟨#[]⟩, ⟨#[]⟩, ⟨#[]⟩, ⟨#[]⟩, 0, 0, 0, (t : Int), kn + 1 + (d : Int), false⟩ from
        ⟨HS4.out.next (bal0 _ _), BlkAt.new _ _ _, HS4.out.only.size, hv⟩)
      clear HS3 ht4 ho4 HS4 hv
      go_upto_block 2 with (fail)
      generalize w4.alloc _ = wA at *
      generalize hGG : w4.heap.size = G at *
      clear hGG
      go_cut [] from 28 to 75 (fun wc => CutO w B b G u5 L (kn + 1 + (d : Int)) wc)
      case first =>
        go_wp2_with fail
        refine (sbool_any 5 B b _ HX.out.m.tape (by omega) (by omega)).mono ?_
        rintro e w5 ⟨vd, rfl, ht5, ho5⟩
        have HX5 := Lib.hid (HX.out.only' ho5 ht5)
        clear HX ht5 ho5
        cases vd
        · obtain ⟨A, cp, hA, hoa, -⟩ := own_ord HX5.out.m.own (fun x hx => (HMade.out.each x hx).small) (by omega)
          subst hA
          have HOA := Lib.hid hoa
          clear hoa
          go_upto_region 12 with (fail)
          go_cut [50] from 50 to 58 (fun q wd => ∃ bq : Bool, q = .bool bq ∧ (bq = true → 0 < L.length) ∧ OrdX w wd B b G (.slice A L.length cp) L ⟨key, ⟨#[]⟩, ⟨#[]⟩, ⟨#[]⟩, ⟨#[]⟩, 0, 0, 0, (t : Int), kn + 1 + (d : Int), false⟩)
          case first =>
            go_wp2_with fail
            refine (sbool_any 4 B b _ HX5.out.m.tape (by omega) (by omega)).mono ?_
            rintro e w6 ⟨v2, rfl, ht6, ho6⟩
            have HX6 := Lib.hid (HX5.out.only' ho6 ht6)
            clear HX5 ht6 ho6
            cases v2
            · go_wp2_with fail
              go_meet
              exact ⟨false, rfl, (fun h => by cases h), HX6.out⟩
            · by_cases hL : 0 < L.length
              · go_wp2_with fail
                go_meet
                exact ⟨true, rfl, fun _ => hL, HX6.out⟩
              · go_wp2_with fail
                go_meet
                exact ⟨false, rfl, (fun h => by cases h), HX6.out⟩
          case rest =>
            obtain ⟨bq, rfl, hbq, hX7⟩ := hcut
            have HX7 := Lib.hid hX7
            clear hX7 HX5
            cases bq
            · clear hbq
              go_upto_region 8 with (fail)
              go_cut [] from 28 to 43 (fun wd => ∃ nom hol fd cl, (AccB nom hol ∧ FundB fd ∧ ClsB cl) ∧ OrdX w wd B b G (.slice A L.length cp) L ⟨key, nom, hol, fd, cl, 0, 0, 0, (t : Int), kn + 1 + (d : Int), false⟩)
              case first =>
                -- W8 BEGIN
                refine wp_region_mid hpl 28 15 (fun l m W => ∃ s28 s29 s30 s31 s32 s33 s34 s35 s36 s37 s38 s39 s40 s41 s42 : Value, m = [s28, s29, s30, s31, s32, s33, s34, s35, s36, s37, s38, s39, s40, s41, s42] ∧ R8 w B b G (.slice A L.length cp) L key (t : Int) (kn + 1 + (d : Int)) l s28 s29 s30 s31 s32 s33 s34 s35 s36 s37 s38 s39 s40 s41 s42 W) (by kernel_rfl) rfl ?_ ?_ ?_
                · refine ⟨_, _, _, _, _, _, _, _, _, _, _, _, _, _, _, rfl, ⟨⟨_, _, _, _, HX7.out.drew, fun h => absurd h (by decide), fun h => absurd h (by decide), fun h => absurd h (by decide)⟩, fun h => absurd h (by decide), fun h => absurd h (by decide), fun h => absurd h (by decide), fun h => absurd h (by decide), fun h => absurd h (by decide), fun h => absurd h (by decide), fun h => absurd h (by decide), fun h => absurd h (by decide), fun h => absurd h (by decide), fun h => absurd h (by decide), fun h => absurd h (by decide), fun h => absurd h (by decide), fun h => absurd h (by decide), fun h => absurd h (by decide), fun h => absurd h (by decide)⟩⟩
                · rintro listed m w9 i hi ⟨s28, s29, s30, s31, s32, s33, s34, s35, s36, s37, s38, s39, s40, s41, s42, rfl, hR⟩ hd
                  clear HX7
                  have hc : i = 0 ∨ i = 1 ∨ i = 2 ∨ i = 3 ∨ i = 4 ∨ i = 5 ∨ i = 6 ∨ i = 7 ∨ i = 8 ∨ i = 9 ∨ i = 10 ∨ i = 11 ∨ i = 12 ∨ i = 13 ∨ i = 14 ∨ i = 15 ∨ i = 16 ∨ i = 17 := by
                    have hi2 : i < 18 := hi
                    omega
                  clear hi
                  rcases hc with rfl | rfl | rfl | rfl | rfl | rfl | rfl | rfl | rfl | rfl | rfl | rfl | rfl | rfl | rfl | rfl | rfl | rfl
                  · clear hd
                    have HR := Lib.hid hR
                    clear hR
                    refine wpOp_open rfl rfl (fun K hK => ?_)
                    simp only [List.take_succ_cons, List.take_zero, List.drop_succ_cons, List.drop_zero, List.cons_append, List.nil_append]
                    go_simp
                    exact hK _ _ ⟨_, rfl, _, _, _, _, _, _, _, _, _, _, _, _, _, _, _, rfl, HR.out.set0 rfl⟩
                  · have d0 := hR.h0 (hd 0 (by kernel_rfl))
                    clear hd
                    obtain rfl := d0
                    have HR := Lib.hid hR
                    clear hR
                    refine wpOp_open rfl rfl (fun K hK => ?_)
                    simp only [List.take_succ_cons, List.take_zero, List.drop_succ_cons, List.drop_zero, List.cons_append, List.nil_append]
                    obtain ⟨nom0, hol0, fd0, cl0, x1, -⟩ := HR.out.m
                    go_simp
                    go_at_call 34
                    refine (sacc_any B b _ x1.m.tape).mono ?_
                    rintro e w10 ⟨nom, hol, rfl, hacc, ht10, ho10⟩
                    exact hK _ _ ⟨_, rfl, _, _, _, _, _, _, _, _, _, _, _, _, _, _, _, rfl, (HR.out.only ho10 ht10).set1 ⟨nom, hol, rfl, hacc⟩⟩
                  · clear hd
                    have HR := Lib.hid hR
                    clear hR
                    refine wpOp_open rfl rfl (fun K hK => ?_)
                    simp only [List.take_succ_cons, List.take_zero, List.drop_succ_cons, List.drop_zero, List.cons_append, List.nil_append]
                    obtain ⟨nom0, hol0, fd0, cl0, x1, -⟩ := HR.out.m
                    have hbw := x1.m.tape.lt
                    have hGw := x1.blk.lt
                    go_simp
                    exact hK _ _ ⟨_, rfl, _, _, _, _, _, _, _, _, _, _, _, _, _, _, _, rfl, (HR.out.only (only_below (bal0 w9 (.cells fundC 9))) (x1.m.tape.alloc _)).set2 ⟨_, rfl, by omega, by omega, BlkAt.new _ _ _⟩⟩
                  · clear hd
                    have HR := Lib.hid hR
                    clear hR
                    refine wpOp_open rfl rfl (fun K hK => ?_)
                    simp only [List.take_succ_cons, List.take_zero, List.drop_succ_cons, List.drop_zero, List.cons_append, List.nil_append]
                    go_simp
                    exact hK _ _ ⟨_, rfl, _, _, _, _, _, _, _, _, _, _, _, _, _, _, _, rfl, HR.out.set3 rfl⟩
                  · have d3 := hR.h3 (hd 3 (by kernel_rfl))
                    clear hd
                    obtain rfl := d3
                    have HR := Lib.hid hR
                    clear hR
                    refine wpOp_open rfl rfl (fun K hK => ?_)
                    simp only [List.take_succ_cons, List.take_zero, List.drop_succ_cons, List.drop_zero, List.cons_append, List.nil_append]
                    obtain ⟨nom0, hol0, fd0, cl0, x1, -⟩ := HR.out.m
                    go_simp
                    go_at_call 22
                    refine (snext_in (n := 4) x1.m.tape (by omega) (by omega)).mono ?_
                    rintro e w10 ⟨k, hk, rfl, ht10, ho10⟩
                    exact hK _ _ ⟨_, rfl, _, _, _, _, _, _, _, _, _, _, _, _, _, _, _, rfl, (HR.out.only ho10 ht10).set4 ⟨k, hk, rfl⟩⟩
                  · have d2 := hR.h2 (hd 2 (by kernel_rfl))
                    have d4 := hR.h4 (hd 4 (by kernel_rfl))
                    clear hd
                    obtain ⟨g, rfl, hg⟩ := d2
                    obtain ⟨k, hk, rfl⟩ := d4
                    have HR := Lib.hid hR
                    clear hR
                    refine wpOp_open rfl rfl (fun K hK => ?_)
                    simp only [List.take_succ_cons, List.take_zero, List.drop_succ_cons, List.drop_zero, List.cons_append, List.nil_append]
                    have hk0 : (0 : Int) ≤ (k : Int) := by omega
                    go_simp
                    exact hK _ _ ⟨_, rfl, _, _, _, _, _, _, _, _, _, _, _, _, _, _, _, rfl, HR.out.set5 ⟨g, k, hk, rfl, hg⟩⟩
                  · have d5 := hR.h5 (hd 5 (by kernel_rfl))
                    clear hd
                    obtain ⟨g, k, hk, rfl, hg⟩ := d5
                    have HR := Lib.hid hR
                    clear hR
                    refine wpOp_open rfl rfl (fun K hK => ?_)
                    simp only [List.take_succ_cons, List.take_zero, List.drop_succ_cons, List.drop_zero, List.cons_append, List.nil_append]
                    obtain ⟨fd, hfd, hc⟩ := fund_at hg hk
                    have HF := Lib.hid hfd
                    clear hfd
                    go_simp
                    exact hK _ _ ⟨_, rfl, _, _, _, _, _, _, _, _, _, _, _, _, _, _, _, rfl, HR.out.set6 ⟨fd, rfl, HF.out⟩⟩
                  · clear hd
                    have HR := Lib.hid hR
                    clear hR
                    refine wpOp_open rfl rfl (fun K hK => ?_)
                    simp only [List.take_succ_cons, List.take_zero, List.drop_succ_cons, List.drop_zero, List.cons_append, List.nil_append]
                    obtain ⟨nom0, hol0, fd0, cl0, x1, -⟩ := HR.out.m
                    have hbw := x1.m.tape.lt
                    have hGw := x1.blk.lt
                    go_simp
                    exact hK _ _ ⟨_, rfl, _, _, _, _, _, _, _, _, _, _, _, _, _, _, _, rfl, (HR.out.only (only_below (bal0 w9 (.cells clsC 9))) (x1.m.tape.alloc _)).set7 ⟨_, rfl, by omega, by omega, BlkAt.new _ _ _⟩⟩
                  · clear hd
                    have HR := Lib.hid hR
                    clear hR
                    refine wpOp_open rfl rfl (fun K hK => ?_)
                    simp only [List.take_succ_cons, List.take_zero, List.drop_succ_cons, List.drop_zero, List.cons_append, List.nil_append]
                    go_simp
                    exact hK _ _ ⟨_, rfl, _, _, _, _, _, _, _, _, _, _, _, _, _, _, _, rfl, HR.out.set8 rfl⟩
                  · have d8 := hR.h8 (hd 8 (by kernel_rfl))
                    clear hd
                    obtain rfl := d8
                    have HR := Lib.hid hR
                    clear hR
                    refine wpOp_open rfl rfl (fun K hK => ?_)
                    simp only [List.take_succ_cons, List.take_zero, List.drop_succ_cons, List.drop_zero, List.cons_append, List.nil_append]
                    obtain ⟨nom0, hol0, fd0, cl0, x1, -⟩ := HR.out.m
                    go_simp
                    go_at_call 22
                    refine (snext_in (n := 3) x1.m.tape (by omega) (by omega)).mono ?_
                    rintro e w10 ⟨k, hk, rfl, ht10, ho10⟩
                    exact hK _ _ ⟨_, rfl, _, _, _, _, _, _, _, _, _, _, _, _, _, _, _, rfl, (HR.out.only ho10 ht10).set9 ⟨k, hk, rfl⟩⟩
                  · have d7 := hR.h7 (hd 7 (by kernel_rfl))
                    have d9 := hR.h9 (hd 9 (by kernel_rfl))
                    clear hd
                    obtain ⟨g, rfl, hg⟩ := d7
                    obtain ⟨k, hk, rfl⟩ := d9
                    have HR := Lib.hid hR
                    clear hR
                    refine wpOp_open rfl rfl (fun K hK => ?_)
                    simp only [List.take_succ_cons, List.take_zero, List.drop_succ_cons, List.drop_zero, List.cons_append, List.nil_append]
                    have hk0 : (0 : Int) ≤ (k : Int) := by omega
                    go_simp
                    exact hK _ _ ⟨_, rfl, _, _, _, _, _, _, _, _, _, _, _, _, _, _, _, rfl, HR.out.set10 ⟨g, k, hk, rfl, hg⟩⟩
                  · have d10 := hR.h10 (hd 10 (by kernel_rfl))
                    clear hd
                    obtain ⟨g, k, hk, rfl, hg⟩ := d10
                    have HR := Lib.hid hR
                    clear hR
                    refine wpOp_open rfl rfl (fun K hK => ?_)
                    simp only [List.take_succ_cons, List.take_zero, List.drop_succ_cons, List.drop_zero, List.cons_append, List.nil_append]
                    obtain ⟨fd, hfd, hc⟩ := cls_at hg hk
                    have HF := Lib.hid hfd
                    clear hfd
                    go_simp
                    exact hK _ _ ⟨_, rfl, _, _, _, _, _, _, _, _, _, _, _, _, _, _, _, rfl, HR.out.set11 ⟨fd, rfl, HF.out⟩⟩
                  · clear hd
                    have HR := Lib.hid hR
                    clear hR
                    refine wpOp_open rfl rfl (fun K hK => ?_)
                    simp only [List.take_succ_cons, List.take_zero, List.drop_succ_cons, List.drop_zero, List.cons_append, List.nil_append]
                    go_simp
                    exact hK _ _ ⟨_, rfl, _, _, _, _, _, _, _, _, _, _, _, _, _, _, _, rfl, HR.out.set12 rfl⟩
                  · have d1 := hR.h1 (hd 1 (by kernel_rfl))
                    have d12 := hR.h12 (hd 12 (by kernel_rfl))
                    clear hd
                    obtain ⟨nom, hol, rfl, hacc⟩ := d1
                    obtain rfl := d12
                    have HR := Lib.hid hR
                    clear hR
                    refine wpOp_open rfl rfl (fun K hK => ?_)
                    simp only [List.take_succ_cons, List.take_zero, List.drop_succ_cons, List.drop_zero, List.cons_append, List.nil_append]
                    obtain ⟨nom0, hol0, fd0, cl0, x1, -⟩ := HR.out.m
                    have c1 := x1.blk.cell (i := 1) rfl
                    have f1 := x1.blk.fz 1
                    have c2 := x1.blk.cell (i := 2) rfl
                    have f2 := x1.blk.fz 2
                    go_simp
                    exact hK _ _ ⟨_, rfl, _, _, _, _, _, _, _, _, _, _, _, _, _, _, _, rfl, HR.out.store13 hacc⟩
                  · clear hd
                    have HR := Lib.hid hR
                    clear hR
                    refine wpOp_open rfl rfl (fun K hK => ?_)
                    simp only [List.take_succ_cons, List.take_zero, List.drop_succ_cons, List.drop_zero, List.cons_append, List.nil_append]
                    go_simp
                    exact hK _ _ ⟨_, rfl, _, _, _, _, _, _, _, _, _, _, _, _, _, _, _, rfl, HR.out.set14 rfl⟩
                  · have d6 := hR.h6 (hd 6 (by kernel_rfl))
                    have d14 := hR.h14 (hd 14 (by kernel_rfl))
                    clear hd
                    obtain ⟨fd, rfl, hfd⟩ := d6
                    obtain rfl := d14
                    have HR := Lib.hid hR
                    clear hR
                    refine wpOp_open rfl rfl (fun K hK => ?_)
                    simp only [List.take_succ_cons, List.take_zero, List.drop_succ_cons, List.drop_zero, List.cons_append, List.nil_append]
                    obtain ⟨nom0, hol0, fd0, cl0, x1, -⟩ := HR.out.m
                    have c3 := x1.blk.cell (i := 3) rfl
                    have f3 := x1.blk.fz 3
                    go_simp
                    exact hK _ _ ⟨_, rfl, _, _, _, _, _, _, _, _, _, _, _, _, _, _, _, rfl, HR.out.store15 hfd⟩
                  · clear hd
                    have HR := Lib.hid hR
                    clear hR
                    refine wpOp_open rfl rfl (fun K hK => ?_)
                    simp only [List.take_succ_cons, List.take_zero, List.drop_succ_cons, List.drop_zero, List.cons_append, List.nil_append]
                    go_simp
                    exact hK _ _ ⟨_, rfl, _, _, _, _, _, _, _, _, _, _, _, _, _, _, _, rfl, HR.out.set16 rfl⟩
                  · have d11 := hR.h11 (hd 11 (by kernel_rfl))
                    have d16 := hR.h16 (hd 16 (by kernel_rfl))
                    clear hd
                    obtain ⟨fd, rfl, hfd⟩ := d11
                    obtain rfl := d16
                    have HR := Lib.hid hR
                    clear hR
                    refine wpOp_open rfl rfl (fun K hK => ?_)
                    simp only [List.take_succ_cons, List.take_zero, List.drop_succ_cons, List.drop_zero, List.cons_append, List.nil_append]
                    obtain ⟨nom0, hol0, fd0, cl0, x1, -⟩ := HR.out.m
                    have c4 := x1.blk.cell (i := 4) rfl
                    have f4 := x1.blk.fz 4
                    go_simp
                    exact hK _ _ ⟨_, rfl, _, _, _, _, _, _, _, _, _, _, _, _, _, _, _, rfl, HR.out.store17 hfd⟩
                · rintro listed m w9 ⟨s28, s29, s30, s31, s32, s33, s34, s35, s36, s37, s38, s39, s40, s41, s42, rfl, hR⟩ hall
                  obtain ⟨nom, hol, fd, cl, hX8, a1, a2, a3⟩ := hR.m
                  have HA := Lib.hid (And.intro (a1 (hall 13 (by decide))) (And.intro (a2 (hall 15 (by decide))) (a3 (hall 17 (by decide)))))
                  have HX8 := Lib.hid hX8
                  clear hX8 a1 a2 a3 hR hall HX7
                  simp only [List.take_succ_cons, List.take_zero, List.drop_succ_cons, List.drop_zero, List.cons_append, List.nil_append]
                  go_wp2_with fail
                  go_meet
                  exact ⟨nom, hol, fd, cl, HA.out, HX8.out⟩
                -- W8 END
              case rest =>
              obtain ⟨nom, hol, fd, cl, ⟨ha, hf, hc⟩, hX8⟩ := hcut
              have HX8 := Lib.hid hX8
              have HA := Lib.hid (And.intro ha (And.intro hf hc))
              clear ha hf hc hX8 HX7
              go_wp2_with (((with_reducible refine wpl_load rfl 57 _ rfl _ ?_ HX8.out.blk (rowOr _) ?_); exact rfl))
              refine (sask_any _ ⟨rfl, rfl, rfl⟩ B b _ HX8.out.m.tape).mono ?_
              rintro e w8 ⟨kind, amt, units, rfl, hasks, ht8, ho8⟩
              have HX9 := Lib.hid (HX8.out.only' ho8 ht8)
              have HX10 := Lib.hid (HX9.out.row ⟨key, nom, hol, fd, cl, kind, amt, units, (t : Int), kn + 1 + (d : Int), false⟩)
              have HS := Lib.hid hasks
              clear ht8 ho8 hasks HX8
              go_wp2_with (((with_reducible refine wpl_store rfl 57 _ _ rfl _ (orV ⟨key, nom, hol, fd, cl, kind, amt, units, (t : Int), kn + 1 + (d : Int), false⟩) ?_ ?_ HX9.out.blk (rowOr _) ?_ ?_); exact rfl; exact rfl; exact rfl))
              go_meet
              exact ⟨_, mdo_full HK.out HA.out.1 HA.out.2.1 HA.out.2.2 (by omega) (by omega) (by omega) (by omega) HS.out, rfl, HX10.out⟩
            · have hL := hbq rfl
              obtain ⟨i, hi⟩ : ∃ i : Nat, L.length = i + 1 := ⟨L.length - 1, by omega⟩
              obtain ⟨A', cp', hA', hoa, -⟩ := own_ord HX7.out.m.own (fun x hx => (HMade.out.each x hx).small) (by omega)
              injection hA' with hA1 hA2 hA3
              subst hA1 hA3
              obtain ⟨ob, oo, x, rfl, hx, hob, hsm, q0, q1, q2, q3, q4, q5, q6, q7, q8, q9, q10⟩ := hoa.get (i := i) (by omega)
              have HMX := Lib.hid (HMade.out.each x (List.mem_of_getElem? hx))
              have HX8 := Lib.hid (HX7.out.row x)
              have e1 : ((L.length : Int) - 1) = (i : Int) := by omega
              have e2 : i < L.length := by omega
              clear hoa hx hsm HOA hbq hA2 hi
              have HX9 := Lib.hid (HX8.out.set 9 (.int .i64 (kn + 1 + (d : Int))) (x' := { x with known := kn + 1 + (d : Int) }) rfl)
              have c9 : (wc.setRow G (orV x)).cell? ⟨G, 9, none⟩ = some (.int .i64 x.known) := HX8.out.blk.cell rfl
              have f9 := HX8.out.blk.fz 9
              go_wp2_with (first | ((with_reducible refine wpl_store rfl 57 _ _ rfl _ (orV x) ?_ ?_ HX7.out.blk (rowOr _) ?_ ?_); exact rfl; exact rfl; exact rfl))
              refine (sbool_any 2 B b _ HX9.out.m.tape (by omega) (by omega)).mono ?_
              rintro e w7 ⟨vl, rfl, ht7, ho7⟩
              have HX10 := Lib.hid (HX9.out.only' ho7 ht7)
              clear HX9 HX8 HX7 ht7 ho7 c9 f9 q0 q1 q2 q3 q4 q5 q6 q7 q8 q9 q10
              cases vl
              · go_wp2_with fail
                go_meet
                exact ⟨_, mdo_again HMX.out (t := x.t) (by omega) (by omega) (by omega) (mdo_t HMX.out).2, rfl, HX10.out⟩
              · have c8 : w7.cell? ⟨G, 8, none⟩ = some (.int .i64 x.t) := HX10.out.blk.cell rfl
                have ht0 := mdo_t HMX.out
                go_wp2_with fail
                go_region_with ((
                  (go_at_call 22; refine (snext_in (n := 2000) (B := B) (b := b) ?_ (by omega) (by omega)).mono ?_; exact HX10.out.m.tape.drew; rintro e w8 ⟨k3, hk3, rfl, ht8, ho8⟩;
                   have HX11 := Lib.hid (HX10.out.drew.only' ho8 ht8);
                   have c88 : w8.cell? ⟨G, 8, none⟩ = some (.int .i64 x.t) := HX11.out.blk.cell rfl;
                   have f88 := HX11.out.blk.fz 8;
                   clear ht8 ho8)))
                all_goals
                  go_wp2_with fail
                  go_meet
                  have hu : IntKind.i64.wrap (x.t + (k3 : Int)) = x.t + k3 := IntWalk.i64_in _ (by omega)
                  rw [hu]
                  exact ⟨_, mdo_again HMX.out (t := min (x.t + (k3 : Int)) 105190559) (by omega) (by omega) (by omega) (by omega), rfl, HX11.out.set 8 (.int .i64 (min (x.t + (k3 : Int)) 105190559)) rfl⟩
        · have c10 : w5.cell? ⟨G, 10, none⟩ = some (.bool false) := HX5.out.blk.cell rfl
          have f10 := HX5.out.blk.fz 10
          have HX6 := Lib.hid (HX5.out.set 10 (.bool true) (x' := ⟨key, ⟨#[]⟩, ⟨#[]⟩, ⟨#[]⟩, ⟨#[]⟩, 0, 0, 0, (t : Int), kn + 1 + (d : Int), true⟩) rfl)
          go_wp2_with fail
          go_meet
          exact ⟨_, mdo_void HK.out (by omega) (by omega) (by omega) (by omega), rfl, HX6.out⟩
      case rest =>
        obtain ⟨x, hx, hkx, hX⟩ := hcut
        have HM := Lib.hid hX.m
        have HXD := Lib.hid hx
        have HKX := Lib.hid hkx
        obtain ⟨q0, q1, q2, q3, q4, q5, q6, q7, q8, q9, q10⟩ := hX.blk.orq
        have hws := HM.out.only.size
        clear HX hx hkx hX
        go_wp2_with (at_builtin; refine wpl_pushB elOrd rfl _ _ rfl HM.out.own hws rfl #[.string x.key, .string x.nom, .string x.hol, .string x.fund, .string x.cls, .int .i64 x.kind, .int .i64 x.amt, .int .i64 x.units, .int .i64 x.t, .int .i64 x.known, .bool x.void] rfl rfl rfl (by omega) (by decide) ?_; intro v' w9 hO9 hg9)
        have HM9 := Lib.hid (HM.out.pushed hO9 hg9)
        clear hO9 hg9 q0 q1 q2 q3 q4 q5 q6 q7 q8 q9 q10 HM
        go_wp2_with fail
        go_roundw
        case rel => exact ⟨j - 1, kn + 1 + (d : Int), L ++ [x], by omega, rfl, rfl, by rw [List.length_append]; simp; omega, by omega, by rw [List.length_append]; simp; omega, HKX.out ▸ HMade.out.push HXD.out (by rw [HKX.out]; omega), HM9.out⟩
        case measure => simp [intOf]; omega
    · obtain ⟨A, cp, rfl, hsu, hA⟩ := own_ord HS.out.own (fun x hx => (HMade.out.each x hx).small) (by omega)
      have HU := Lib.hid hsu
      have HA := Lib.hid hA
      clear hsu hA
      go_wp2_with fail
      go_ret
      exact ⟨L, A, cp, kn, rfl, by omega, by omega, HMade.out, HU.out, HA.out, HS.out.tape, HS.out.only⟩
end Go.Proofs.YtbfllcfjgpkpaaaGreat
