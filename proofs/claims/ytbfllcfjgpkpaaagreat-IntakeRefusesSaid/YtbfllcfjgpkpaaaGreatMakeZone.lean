/-
  The generator of zones: what it makes is a valid zone.
  The generators of schedules, calendars and places: what they make is valid.
  The generators of calendars and places: what they make is valid.
  The generators of places and of spoilt schedules.
-/
import Derived.Test.YtbfllcfjgpkpaaaGreatMake
import Derived.Test.YtbfllcfjgpkpaaaGreatPlain
import Derived.Deep.RegionHeld3
import Derived.Deep.AppendLies
import Derived.Deep.RegionLaw
import Derived.Deep.DeepCutAuto
import Derived.Test.YtbfllcfjgpkpaaaGreatSchedRow
import Derived.Test.YtbfllcfjgpkpaaaGreatCalWalk
import Derived.Deep.CutBlock
namespace Go.Proofs.YtbfllcfjgpkpaaaGreat
section
open Go.RowKit

theorem infoChange : (Tryz.prog.info? 69).map (fun i => (i.zero, i.size, i.bytes)) = some (some (.agg #[.int .i64 0, .int .i64 0]), 2, 16) := by kernel_rfl

def zcells (cs : List (Int × Int)) : List Value := cs.flatMap fun x => [.int .i64 x.1, .int .i64 x.2]
theorem zcells_snoc (cs : List (Int × Int)) (x : Int × Int) : zcells cs ++ [.int .i64 x.1, .int .i64 x.2] = zcells (cs ++ [x]) := by simp [zcells]
theorem zcells_len (cs : List (Int × Int)) : (zcells cs).length = cs.length * 2 := by
  induction cs with
  | nil => rfl
  | cons x r ih => simp [zcells] at ih ⊢; omega
theorem zcells_get (cs : List (Int × Int)) (k : Nat) (x : Int × Int) (h : cs[k]? = some x) : (zcells cs)[k*2]? = some (.int .i64 x.1) ∧ (zcells cs)[k*2+1]? = some (.int .i64 x.2) := by
  induction cs generalizing k with
  | nil => simp at h
  | cons y r ih =>
    cases k with
    | zero => simp at h; subst h; simp [zcells]
    | succ k =>
      have := ih k (by simpa using h)
      have e1 : (k + 1) * 2 = k * 2 + 2 := by omega
      have e2 : (k + 1) * 2 + 1 = (k * 2 + 1) + 2 := by omega
      rw [e1, show k * 2 + 2 + 1 = k * 2 + 1 + 2 by omega]
      simpa [zcells] using this

/-- The cells of an address may be written. -/
def Free (W : World) (A : Option Addr) : Prop := ∀ ad, A = some ad → ad.block < W.heap.size ∧ ∀ o, W.frozen? ⟨ad.block, o, none⟩ = false
theorem chk_snoc (last : Int) (cs : List (Int × Int)) (a o : Int) (h : chkFrom last cs = true) (h0 : last < a) (ha : ∀ x ∈ cs, x.1 < a) (h1 : a ≤ 105190559) (h2 : offB o = true) : chkFrom last (cs ++ [(a, o)]) = true := by
  induction cs generalizing last with
  | nil => simp [chkFrom, h2]; omega
  | cons y r ih =>
    obtain ⟨p, q⟩ := y
    rw [List.cons_append, chkFrom_cons]
    rw [chkFrom_cons] at h
    split at h
    · cases h
    · rename_i hn
      rw [if_neg hn]
      exact ih p h (ha (p, q) (by simp)) (fun x hx => ha x (by simp [hx]))

theorem only_row {b : Nat} {x y z : World} {v : Value} (h : Only b x y) (hg : y.grownBy z v.ownBlock) (hr : ∀ k, v.ownBlock = some k → x.heap.size ≤ k) : Only b x z :=
  ⟨hg.os.trans h.os, hg.tape.trans h.tape, hg.output.trans h.output, Nat.le_trans h.size hg.size, fun i hi hne => (hg.block i (Nat.lt_of_lt_of_le hi h.size) (fun e => by have := hr i e.symm; omega)).trans (h.block i hi hne)⟩

/-- The state of the making: the result's block R, the zone's block Z, what has been appended. -/
structure ZS (w W : World) (b R Z : Nat) (nm : ByteArray) (off : Int) (v : Value) (cs : List (Int × Int)) : Prop where
  only : Only b w W
  blk : W.heap[Z]? = some (.cells #[.string nm, .int .i64 off, v] 32 (0, 0))
  res : W.heap[R]? = some (.cells #[.string ⟨#[]⟩, .int .i64 0, .slice none 0 0] 32 (0, 0))
  own : W.ownsRow w.heap.size 69 2 v cs.length (zcells cs)
  hb : b < w.heap.size
  hZ : w.heap.size ≤ Z
  hR : w.heap.size ≤ R
  hne : Z ≠ R
section
variable {w W W' : World} {b R Z : Nat} {nm : ByteArray} {off : Int} {v : Value} {cs : List (Int × Int)}
theorem ZS.only' (h : ZS w W b R Z nm off v cs) (ho : Only b W W') : ZS w W' b R Z nm off v cs := by
  have h1 := h.hb
  have h2 := h.hZ
  have h3 := h.hR
  refine ⟨only_trans h.only ho, (ho.block Z (Array.getElem?_eq_some_iff.1 h.blk).1 (by intro e; injection e with e; omega)).trans h.blk, (ho.block R (Array.getElem?_eq_some_iff.1 h.res).1 (by intro e; injection e with e; omega)).trans h.res,
    h.own.kept ho ?_, h1, h2, h3, h.hne⟩
  right
  intro e
  have := h.own.lt b e
  omega
theorem ZS.alloc (h : ZS w W b R Z nm off v cs) (o : Obj) : ZS w (W.alloc o) b R Z nm off v cs := h.only' (only_below (bal0 W o))
theorem ZS.drewN (h : ZS w W b R Z nm off v cs) (n : Nat) : ZS w (W.drewN n) b R Z nm off v cs := h.only' (only_below (below_drewN (Below.refl _ _) n))
theorem ZS.drew (h : ZS w W b R Z nm off v cs) : ZS w W.drew b R Z nm off v cs := h.only' (only_below ((Below.refl _ _).drew))
theorem ZS.far (h : ZS w W b R Z nm off v cs) : v.ownBlock ≠ some Z ∧ v.ownBlock ≠ some R := by
  rcases h.own.2 with ⟨rfl, _⟩ | ⟨g, cap, cur, rfl, _, hh, _⟩
  · exact ⟨by simp [Value.ownBlock], by simp [Value.ownBlock]⟩
  · constructor
    · intro e
      have : g = Z := by simpa [Value.ownBlock] using e
      subst this
      rw [h.blk] at hh
      simp at hh
    · intro e
      have : g = R := by simpa [Value.ownBlock] using e
      subst this
      rw [h.res] at hh
      simp at hh
theorem ZS.c1 (h : ZS w W b R Z nm off v cs) : W.cell? ⟨Z, 1, none⟩ = some (.int .i64 off) := by simp [World.cell?, h.blk]
theorem ZS.c0 (h : ZS w W b R Z nm off v cs) : W.cell? ⟨Z, 0, none⟩ = some (.string nm) := by simp [World.cell?, h.blk]
theorem ZS.c2 (h : ZS w W b R Z nm off v cs) : W.cell? ⟨Z, 2, none⟩ = some v := by simp [World.cell?, h.blk]
theorem ZS.fz (h : ZS w W b R Z nm off v cs) (i : Nat) : W.frozen? ⟨Z, i, none⟩ = false := by simp [World.frozen?, h.blk]
theorem ZS.fr (h : ZS w W b R Z nm off v cs) (i : Nat) : W.frozen? ⟨R, i, none⟩ = false := by simp [World.frozen?, h.res]
theorem ZS.r0 (h : ZS w W b R Z nm off v cs) : W.cell? ⟨R, 0, none⟩ = some (.string ⟨#[]⟩) := by simp [World.cell?, h.res]
theorem ZS.r1 (h : ZS w W b R Z nm off v cs) : W.cell? ⟨R, 1, none⟩ = some (.int .i64 0) := by simp [World.cell?, h.res]
theorem ZS.r2 (h : ZS w W b R Z nm off v cs) : W.cell? ⟨R, 2, none⟩ = some (.slice none 0 0) := by simp [World.cell?, h.res]
/-- Behind the append and the store of the new slice. -/
theorem ZS.pushed {w1 : World} {v' : Value} {x : Int × Int} (h : ZS w W b R Z nm off v cs) (hown : w1.ownsRow w.heap.size 69 2 v' (cs.length + 1) (zcells cs ++ [.int .i64 x.1, .int .i64 x.2])) (hg : W.grownBy w1 v.ownBlock) :
    ZS w (w1.setCell ⟨Z, 2, none⟩ v') b R Z nm off v' (cs ++ [x]) := by
  have h1 := h.hb
  have h2 := h.hZ
  have h3 := h.hR
  have hbz := (hg.block Z (Array.getElem?_eq_some_iff.1 h.blk).1 (fun e => h.far.1 e.symm)).trans h.blk
  have hbr := (hg.block R (Array.getElem?_eq_some_iff.1 h.res).1 (fun e => h.far.2 e.symm)).trans h.res
  have hfar : v'.ownBlock ≠ some Z := by
    rcases hown.2 with ⟨rfl, _⟩ | ⟨g, cap, cur, rfl, _, hh, _⟩
    · simp [Value.ownBlock]
    · intro e
      have : g = Z := by simpa [Value.ownBlock] using e
      subst this
      rw [hbz] at hh
      simp at hh
  refine ⟨only_set (only_row h.only hg (fun k hk => (h.own.lt k hk).1)) (.inr h2) _, ?_, ?_, ?_, h1, h2, h3, h.hne⟩
  · show (w1.heap.modify Z _)[Z]? = _
    rw [Array.getElem?_modify, if_pos rfl, hbz]
    rfl
  · rw [Below.heap_setCell _ _ _ _ (fun e => h.hne e.symm)]
    exact hbr
  · rw [← zcells_snoc, List.length_append]
    exact ownsRow_setCell_other hown hfar _
/-- What has been made lies in memory as a zone. -/
theorem ZS.zone (h : ZS w W b R Z nm off v cs) (hn : nm.size ≤ maxLen) (hl : cs.length ≤ maxLen) : ∃ A c, v = .slice A cs.length c ∧ ZAt W ⟨nm, off, cs⟩ A ∧ (∀ ad, A = some ad → w.heap.size ≤ ad.block) ∧ Free W A := by
  rcases h.own.2 with ⟨rfl, h0⟩ | ⟨g, cap, cur, rfl, hgb, hh, hle, _, hsz, ht⟩
  · have : cs = [] := List.length_eq_zero_iff.1 h0
    subst this
    exact ⟨none, 0, rfl, ⟨hn, by simp [maxLen], fun k x hx => by simp at hx⟩, (fun ad e => by cases e), fun ad e => by cases e⟩
  · refine ⟨some ⟨g, 0, none⟩, cap, rfl, ⟨hn, hl, fun k x hx => ⟨g, 0, rfl, (Array.getElem?_eq_some_iff.1 hh).1, ?_, ?_⟩⟩, (fun ad e => by cases e; exact hgb), fun ad e => by cases e; exact ⟨(Array.getElem?_eq_some_iff.1 hh).1, fun o => by simp [World.frozen?, hh]⟩⟩
    · have := h.own.cells (g := g) rfl (k*2) _ (zcells_get cs k x hx).1
      rw [Go.WideShapes.add_plain] at this
      exact this
    · have := h.own.cells (g := g) rfl (k*2+1) _ (zcells_get cs k x hx).2
      rw [Go.WideShapes.add_plain] at this
      exact this
theorem ZS.ret {A : Option Addr} {n c : Nat} (h : ZS w W b R Z nm off (.slice A n c) cs) (hz : ZAt W ⟨nm, off, cs⟩ A) (u0 u1 u2 : Value) : ZAt (((W.setCell ⟨R, 0, none⟩ u0).setCell ⟨R, 1, none⟩ u1).setCell ⟨R, 2, none⟩ u2) ⟨nm, off, cs⟩ A :=
  ⟨hz.nm, hz.ln, fun k x hx => by
    obtain ⟨g, o, rfl, hlt, e1, e2⟩ := hz.cells k x hx
    have hne : R ≠ g := fun e => h.far.2 (by simp [Value.ownBlock, e])
    exact ⟨g, o, rfl, by simpa using hlt, cell_far (.inl hne) (cell_far (.inl hne) (cell_far (.inl hne) e1)), cell_far (.inl hne) (cell_far (.inl hne) (cell_far (.inl hne) e2))⟩⟩
end

theorem Free.sets {W : World} {A : Option Addr} (hz : Free W A) (p0 p1 p2 : Addr) (u0 u1 u2 : Value) : Free (((W.setCell p0 u0).setCell p1 u1).setCell p2 u2) A :=
  fun ad e => ⟨by simpa using (hz ad e).1, fun o => by simp [(hz ad e).2 o]⟩
theorem ZAt.only {b : Nat} {W W' : World} {z : ZN} {A : Option Addr} (h : ZAt W z A) (hA : ∀ ad, A = some ad → ad.block ≠ b) (ho : Only b W W') : ZAt W' z A :=
  ⟨h.nm, h.ln, fun k x hx => by
    obtain ⟨g, o, rfl, hlt, e1, e2⟩ := h.cells k x hx
    have hne := hA _ rfl
    exact ⟨g, o, rfl, Nat.lt_of_lt_of_le hlt ho.size, only_cell ho hlt hne e1, only_cell ho hlt hne e2⟩⟩
/-- A zone in a box Z, beside a tape in block b. -/
structure ZB (W : World) (b Z : Nat) (z : ZN) (A : Option Addr) (c : Nat) : Prop where
  at_ : ZAt W z A
  far : ∀ ad, A = some ad → ad.block ≠ b
  hZ : Z ≠ b
  c0 : W.cell? ⟨Z, 0, none⟩ = some (.string z.name)
  c1 : W.cell? ⟨Z, 1, none⟩ = some (.int .i64 z.off)
  c2 : W.cell? ⟨Z, 2, none⟩ = some (.slice A z.cs.length c)
theorem ZB.only {b Z c : Nat} {W W' : World} {z : ZN} {A : Option Addr} (h : ZB W b Z z A c) (ho : Only b W W') : ZB W' b Z z A c :=
  ⟨h.at_.only h.far ho, h.far, h.hZ, only_cell ho (blt h.c0) h.hZ h.c0, only_cell ho (blt h.c0) h.hZ h.c1, only_cell ho (blt h.c0) h.hZ h.c2⟩
theorem ZB.below {b Z c : Nat} {W W' : World} {z : ZN} {A : Option Addr} (h : ZB W b Z z A c) (ho : Below W.heap.size W W') : ZB W' b Z z A c := h.only (only_below ho)
theorem below_snoc {cs : List (Int × Int)} {a a' o : Int} (h : ∀ x ∈ cs, x.1 < a) (ha : a < a') : ∀ x ∈ cs ++ [(a, o)], x.1 < a' := by
  intro x hx
  rcases List.mem_append.1 hx with h3 | h3
  · have := h x h3; omega
  · simp at h3; subst h3; exact ha
end
section
section
open Go.RowKit
set_option linter.unusedVariables false
set_option maxHeartbeats 2000000
theorem only_setRow {b : Nat} {x y : World} (h : Only b x y) {g : Nat} (hp : g = b ∨ x.heap.size ≤ g) (cs : Array Value) : Only b x (y.setRow g cs) :=
  ⟨h.os, h.tape, h.output, by rw [setRow_size]; exact h.size, fun i hi hne => (setRow_other y g i cs (by
    rintro rfl
    rcases hp with hp | hp
    · subst hp; exact hne rfl
    · omega)).trans (h.block i hi hne)⟩
theorem BlkAt.only {b g : Nat} {W W' : World} {cs : Array Value} {t : TypeId} (h : BlkAt W g cs t) (ho : Only b W W') (hne : g ≠ b) : BlkAt W' g cs t := ⟨(ho.block g h.lt (by intro e; injection e with e; exact hne e)).trans h.blk⟩
/-- The state of the making of a schedule: its block G, the result's block R. -/
structure SS (w W : World) (b R G : Nat) (s : SC) : Prop where
  only : Only b w W
  gb : BlkAt W G (sV s) 28
  rb : BlkAt W R (sV ⟨0, 0, 0, 0, 0⟩) 28
  hb : b < w.heap.size
  hR : w.heap.size ≤ R
  hG : w.heap.size ≤ G
  ne : G ≠ R
section
variable {w W W' : World} {b R G : Nat} {s s' : SC}
theorem SS.only' (h : SS w W b R G s) (ho : Only b W W') : SS w W' b R G s := by
  have h1 := h.hb
  have h2 := h.hR
  have h3 := h.hG
  exact ⟨only_trans h.only ho, h.gb.only ho (by omega), h.rb.only ho (by omega), h1, h2, h3, h.ne⟩
theorem SS.set (h : SS w W b R G s) (i : Nat) (v : Value) (e : (sV s).setIfInBounds i v = sV s') : SS w (W.setCell ⟨G, i, none⟩ v) b R G s' :=
  ⟨only_set h.only (.inr h.hG) _, (h.gb.cellSet i v).is e, h.rb.cellFar i v (fun e => h.ne e.symm), h.hb, h.hR, h.hG, h.ne⟩
theorem SS.al (h : SS w W b R G s) (o : Obj) : SS w (W.alloc o) b R G s := h.only' (only_below (bal0 W o))
end
theorem mkOk {p n no se cu : Int} (hr : ruleOk p n = true) (a1 : 0 ≤ no) (a2 : no ≤ 60) (a3 : 0 ≤ se) (a4 : se ≤ 60) (a5 : 0 ≤ cu) (a6 : cu ≤ 1439) : SC.ok ⟨p, n, no, se, cu⟩ = true := by
  simp [SC.ok, rangesOk, hr]; omega
end
section
open Go.RowKit
set_option linter.unusedVariables false
set_option maxHeartbeats 4000000
theorem infoInt : (Tryz.prog.info? 3).map (fun i => (i.zero, i.size, i.bytes)) = some (some (.int .i64 0), 1, 8) := by kernel_rfl
/-- The cells of a calendar whose holidays lie in a slice v. -/
def cvV (c : CN) (v : Value) : Array Value := #[.string c.name, .bool c.w0, .bool c.w1, .bool c.w2, .bool c.w3, .bool c.w4, .bool c.w5, .bool c.w6, v]
theorem rowCv (c : CN) (v : Value) (h : v.oneCell' = true) : RowV Tryz.prog 35 (cvV c v) := ⟨rowCal, by
  cases v <;> simp_all [cvV, Value.oneCell']⟩
/-- The state of the making of a calendar: its block Z, the result's block R, what has been appended. -/
structure CS (w W : World) (b R Z : Nat) (c : CN) (v : Value) : Prop where
  only : Only b w W
  blk : BlkAt W Z (cvV c v) 35
  res : BlkAt W R (cvV ⟨⟨#[]⟩, false, false, false, false, false, false, false, []⟩ (.slice none 0 0)) 35
  own : W.ownsRow w.heap.size 3 1 v c.hs.length (c.hs.map (.int .i64))
  hb : b < w.heap.size
  hZ : w.heap.size ≤ Z
  hR : w.heap.size ≤ R
  ne : Z ≠ R
section
variable {w W W' : World} {b R Z : Nat} {c c' : CN} {v : Value}
theorem CS.only' (h : CS w W b R Z c v) (ho : Only b W W') : CS w W' b R Z c v := by
  have h1 := h.hb
  have h2 := h.hZ
  have h3 := h.hR
  refine ⟨only_trans h.only ho, h.blk.only ho (by omega), h.res.only ho (by omega), h.own.kept ho (.inr ?_), h1, h2, h3, h.ne⟩
  intro e
  have := h.own.lt b e
  omega
theorem CS.far (h : CS w W b R Z c v) {g : Nat} {cs : Array Value} {t : TypeId} (hg : BlkAt W g cs t) (ht : t ≠ 3) : v.ownBlock ≠ some g := by
  rcases h.own.2 with ⟨rfl, _⟩ | ⟨k, cap, cur, rfl, _, hh, _⟩
  · simp [Value.ownBlock]
  · intro e
    have : k = g := by simpa [Value.ownBlock] using e
    subst this
    rw [hg.blk] at hh
    simp at hh
    exact ht hh.2
/-- A weekday is made free. -/
theorem CS.free (h : CS w W b R Z c v) (i : Nat) (u : Value) (e : (cvV c v).setIfInBounds i u = cvV c' v) (hh : c'.hs = c.hs) : CS w (W.setCell ⟨Z, i, none⟩ u) b R Z c' v := by
  refine ⟨only_set h.only (.inr h.hZ) _, (h.blk.cellSet i u).is e, h.res.cellFar i u (fun e => h.ne e.symm), ?_, h.hb, h.hZ, h.hR, h.ne⟩
  rw [hh]
  exact ownsRow_setCell_other h.own (h.far h.blk (by decide)) _
/-- Behind the append and the store of the new slice. -/
theorem CS.pushed {w1 : World} {v' : Value} {x : Int} {n : Nat} (h : CS w W b R Z c v) (hl : c.hs.length = n) (hown : w1.ownsRow w.heap.size 3 1 v' (n + 1) (c.hs.map (.int .i64) ++ [.int .i64 x])) (hg : W.grownBy w1 v.ownBlock) :
    CS w (w1.setCell ⟨Z, 8, none⟩ v') b R Z { c with hs := c.hs ++ [x] } v' := by
  subst hl
  have h1 := h.hb
  have h2 := h.hZ
  have h3 := h.hR
  have hbz : BlkAt w1 Z (cvV c v) 35 := ⟨(hg.block Z h.blk.lt (fun e => h.far h.blk (by decide) e.symm)).trans h.blk.blk⟩
  have hbr := BlkAt.mk ((hg.block R h.res.lt (fun e => h.far h.res (by decide) e.symm)).trans h.res.blk)
  have hfar : v'.ownBlock ≠ some Z := by
    rcases hown.2 with ⟨rfl, _⟩ | ⟨g, cap, cur, rfl, _, hh, _⟩
    · simp [Value.ownBlock]
    · intro e
      have : g = Z := by simpa [Value.ownBlock] using e
      subst this
      rw [hbz.blk] at hh
      simp at hh
  refine ⟨only_set (only_row h.only hg (fun k hk => (h.own.lt k hk).1)) (.inr h2) _, (hbz.cellSet 8 v').is rfl, hbr.cellFar 8 v' (fun e => h.ne e.symm), ?_, h1, h2, h3, h.ne⟩
  have := ownsRow_setCell_other hown hfar (a := ⟨Z, 8, none⟩) v'
  simpa using this
/-- What has been made lies in memory as a calendar. -/
theorem CS.cal (h : CS w W b R Z c v) (hn : c.name.size ≤ maxLen) (hl : c.hs.length ≤ 1000) : ∃ A k, v = .slice A c.hs.length k ∧ CAt W c A ∧ (∀ ad, A = some ad → w.heap.size ≤ ad.block ∧ ad.block ≠ R) := by
  rcases h.own.2 with ⟨rfl, h0⟩ | ⟨g, cap, cur, rfl, hgb, hh, hle, _, hsz, ht⟩
  · have : c.hs = [] := List.length_eq_zero_iff.1 h0
    refine ⟨none, 0, by rw [this]; rfl, ⟨hn, by omega, fun k x hx => ?_⟩, (fun ad e => by cases e)⟩
    rw [this] at hx
    simp at hx
  · refine ⟨some ⟨g, 0, none⟩, cap, rfl, ⟨hn, by omega, fun k x hx => ⟨g, 0, rfl, (Array.getElem?_eq_some_iff.1 hh).1, ?_⟩⟩, fun ad e => by
      cases e
      exact ⟨hgb, fun e => h.far h.res (by decide) (by simpa [Value.ownBlock] using e)⟩⟩
    have := h.own.cells (g := g) rfl k (.int .i64 x) (by simp [hx])
    rw [Go.WideShapes.add_plain] at this
    exact this
end
theorem asc_snoc {last : Int} {l : List Int} {x : Int} (h : ascB last l = true) (h0 : last < x) (hl : ∀ y ∈ l, y < x) (hx : 0 ≤ x) (hx2 : x ≤ 73048) : ascB last (l ++ [x]) = true := by
  induction l generalizing last with
  | nil => simp [ascB]; omega
  | cons y r ih =>
    rw [List.cons_append]
    unfold ascB at h ⊢
    simp only [Bool.and_eq_true] at h ⊢
    exact ⟨h.1, h.2.1, ih h.2.2 (hl y (by simp)) (fun z hz => hl z (by simp [hz]))⟩
theorem CAt.setRow {W : World} {c : CN} {A : Option Addr} (h : CAt W c A) {R : Nat} (hA : ∀ ad, A = some ad → ad.block ≠ R) (cs : Array Value) : CAt (W.setRow R cs) c A :=
  ⟨h.nm, h.ints.1, fun k x hx => by
    obtain ⟨bb, o, e, hlt, hc⟩ := h.ints.2 k x hx
    exact ⟨bb, o, e, by rw [setRow_size]; exact hlt, (cell_setRow_other W R cs ⟨bb, o + k, none⟩ (by show bb ≠ R; exact hA _ e)).trans hc⟩⟩
theorem snoc_lt {l : List Int} {a a' : Int} (h : ∀ y ∈ l, y < a) (ha : a < a') : ∀ y ∈ l ++ [a], y < a' := by
  intro y hy
  rcases List.mem_append.1 hy with h3 | h3
  · have := h y h3; omega
  · simp at h3; omega
theorem calOk {c : CN} {nm : ByteArray} (h1 : nameB nm.data.toList = true) (h2 : c.name = nm) (h3 : c.all = false) (h4 : ascB (-1) c.hs = true) (h5 : c.hs.length ≤ 2000) : c.ok = true := by
  subst h2
  simp [CN.ok, h1, h3, h4, h5]
end
section
open Go.RowKit
set_option linter.unusedVariables false
set_option maxHeartbeats 4000000
theorem ZAt.setRow {W : World} {z : ZN} {A : Option Addr} (h : ZAt W z A) {R : Nat} (hA : ∀ ad, A = some ad → ad.block ≠ R) (cs : Array Value) : ZAt (W.setRow R cs) z A :=
  ⟨h.nm, h.ln, fun k x hx => by
    obtain ⟨bb, o, e, hlt, h1, h2⟩ := h.cells k x hx
    exact ⟨bb, o, e, by rw [setRow_size]; exact hlt, (cell_setRow_other W R cs ⟨bb, o + k * 2, none⟩ (by show bb ≠ R; exact hA _ e)).trans h1, (cell_setRow_other W R cs ⟨bb, o + k * 2 + 1, none⟩ (by show bb ≠ R; exact hA _ e)).trans h2⟩⟩
end
end
end Go.Proofs.YtbfllcfjgpkpaaaGreat
