/-
  The generators of schedules, calendars and places: what they make is valid.
  The generators of calendars and places: what they make is valid.
  The generators of places and of spoilt schedules.
-/
import Derived.Test.YtffmmkjoknghoaaGreatSchedRow
import Derived.Test.YtffmmkjoknghoaaGreatMakeZone
import Derived.Test.YtffmmkjoknghoaaGreatCalWalk
import Derived.Deep.DeepCutAuto
import Derived.Deep.CutBlock
import Derived.Deep.RegionHeld3
import Derived.Deep.AppendLies
namespace Go.Proofs.YtffmmkjoknghoaaGreat
section
open Go.RowKit
set_option linter.unusedVariables false
set_option maxHeartbeats 2000000
theorem only_setRow {b : Nat} {x y : World} (h : Only b x y) {g : Nat} (hp : g = b ∨ x.heap.size ≤ g) (cs : Array Value) : Only b x (y.setRow g cs) :=
  ⟨h.os, h.tape, h.output, by rw [setRow_size]; exact h.size, fun i hi hne => (setRow_other y g i cs (by
    rintro rfl
    rcases hp with hp | hp
    · subst hp; exact hne rfl
    · omega)).trans (h.block i hi hne)⟩
theorem BlkAt.only {b g : Nat} {W W' : World} {cs : Array Value} {t : TypeId} (h : BlkAt W g cs t) (ho : Only b W W') (hne : g ≠ b) : BlkAt W' g cs t := ⟨(ho.block g h.lt (by intro e; injection e with e; exact hne e)).trans h.blk⟩
/-- The state of the making of a schedule: its block G, the result's block R. -/
structure SS (w W : World) (b R G : Nat) (s : SC) : Prop where
  only : Only b w W
  gb : BlkAt W G (sV s) 26
  rb : BlkAt W R (sV ⟨0, 0, 0, 0, 0⟩) 26
  hb : b < w.heap.size
  hR : w.heap.size ≤ R
  hG : w.heap.size ≤ G
  ne : G ≠ R
section
variable {w W W' : World} {b R G : Nat} {s s' : SC}
theorem SS.only' (h : SS w W b R G s) (ho : Only b W W') : SS w W' b R G s := by
  have h1 := h.hb
  have h2 := h.hR
  have h3 := h.hG
  exact ⟨only_trans h.only ho, h.gb.only ho (by omega), h.rb.only ho (by omega), h1, h2, h3, h.ne⟩
theorem SS.set (h : SS w W b R G s) (i : Nat) (v : Value) (e : (sV s).setIfInBounds i v = sV s') : SS w (W.setCell ⟨G, i, none⟩ v) b R G s' :=
  ⟨only_set h.only (.inr h.hG) _, (h.gb.cellSet i v).is e, h.rb.cellFar i v (fun e => h.ne e.symm), h.hb, h.hR, h.hG, h.ne⟩
theorem SS.al (h : SS w W b R G s) (o : Obj) : SS w (W.alloc o) b R G s := h.only' (only_below (bal0 W o))
end
theorem mkOk {p n no se cu : Int} (hr : ruleOk p n = true) (a1 : 0 ≤ no) (a2 : no ≤ 60) (a3 : 0 ≤ se) (a4 : se ≤ 60) (a5 : 0 ≤ cu) (a6 : cu ≤ 1439) : SC.ok ⟨p, n, no, se, cu⟩ = true := by
  simp [SC.ok, rangesOk, hr]; omega
end
section
open Go.RowKit
set_option linter.unusedVariables false
set_option maxHeartbeats 4000000
theorem infoInt : (Tryz.prog.info? 3).map (fun i => (i.zero, i.size, i.bytes)) = some (some (.int .i64 0), 1, 8) := by kernel_rfl
/-- The cells of a calendar whose holidays lie in a slice v. -/
def cvV (c : CN) (v : Value) : Array Value := #[.string c.name, .bool c.w0, .bool c.w1, .bool c.w2, .bool c.w3, .bool c.w4, .bool c.w5, .bool c.w6, v]
theorem rowCv (c : CN) (v : Value) (h : v.oneCell' = true) : RowV Tryz.prog 33 (cvV c v) := ⟨rowCal, by
  cases v <;> simp_all [cvV, Value.oneCell']⟩
/-- The state of the making of a calendar: its block Z, the result's block R, what has been appended. -/
structure CS (w W : World) (b R Z : Nat) (c : CN) (v : Value) : Prop where
  only : Only b w W
  blk : BlkAt W Z (cvV c v) 33
  res : BlkAt W R (cvV ⟨⟨#[]⟩, false, false, false, false, false, false, false, []⟩ (.slice none 0 0)) 33
  own : W.ownsRow w.heap.size 3 1 v c.hs.length (c.hs.map (.int .i64))
  hb : b < w.heap.size
  hZ : w.heap.size ≤ Z
  hR : w.heap.size ≤ R
  ne : Z ≠ R
section
variable {w W W' : World} {b R Z : Nat} {c c' : CN} {v : Value}
theorem CS.only' (h : CS w W b R Z c v) (ho : Only b W W') : CS w W' b R Z c v := by
  have h1 := h.hb
  have h2 := h.hZ
  have h3 := h.hR
  refine ⟨only_trans h.only ho, h.blk.only ho (by omega), h.res.only ho (by omega), h.own.kept ho (.inr ?_), h1, h2, h3, h.ne⟩
  intro e
  have := h.own.lt b e
  omega
theorem CS.far (h : CS w W b R Z c v) {g : Nat} {cs : Array Value} {t : TypeId} (hg : BlkAt W g cs t) (ht : t ≠ 3) : v.ownBlock ≠ some g := by
  rcases h.own.2 with ⟨rfl, _⟩ | ⟨k, cap, cur, rfl, _, hh, _⟩
  · simp [Value.ownBlock]
  · intro e
    have : k = g := by simpa [Value.ownBlock] using e
    subst this
    rw [hg.blk] at hh
    simp at hh
    exact ht hh.2
/-- A weekday is made free. -/
theorem CS.free (h : CS w W b R Z c v) (i : Nat) (u : Value) (e : (cvV c v).setIfInBounds i u = cvV c' v) (hh : c'.hs = c.hs) : CS w (W.setCell ⟨Z, i, none⟩ u) b R Z c' v := by
  refine ⟨only_set h.only (.inr h.hZ) _, (h.blk.cellSet i u).is e, h.res.cellFar i u (fun e => h.ne e.symm), ?_, h.hb, h.hZ, h.hR, h.ne⟩
  rw [hh]
  exact ownsRow_setCell_other h.own (h.far h.blk (by decide)) _
/-- Behind the append and the store of the new slice. -/
theorem CS.pushed {w1 : World} {v' : Value} {x : Int} {n : Nat} (h : CS w W b R Z c v) (hl : c.hs.length = n) (hown : w1.ownsRow w.heap.size 3 1 v' (n + 1) (c.hs.map (.int .i64) ++ [.int .i64 x])) (hg : W.grownBy w1 v.ownBlock) :
    CS w (w1.setCell ⟨Z, 8, none⟩ v') b R Z { c with hs := c.hs ++ [x] } v' := by
  subst hl
  have h1 := h.hb
  have h2 := h.hZ
  have h3 := h.hR
  have hbz : BlkAt w1 Z (cvV c v) 33 := ⟨(hg.block Z h.blk.lt (fun e => h.far h.blk (by decide) e.symm)).trans h.blk.blk⟩
  have hbr := BlkAt.mk ((hg.block R h.res.lt (fun e => h.far h.res (by decide) e.symm)).trans h.res.blk)
  have hfar : v'.ownBlock ≠ some Z := by
    rcases hown.2 with ⟨rfl, _⟩ | ⟨g, cap, cur, rfl, _, hh, _⟩
    · simp [Value.ownBlock]
    · intro e
      have : g = Z := by simpa [Value.ownBlock] using e
      subst this
      rw [hbz.blk] at hh
      simp at hh
  refine ⟨only_set (only_row h.only hg (fun k hk => (h.own.lt k hk).1)) (.inr h2) _, (hbz.cellSet 8 v').is rfl, hbr.cellFar 8 v' (fun e => h.ne e.symm), ?_, h1, h2, h3, h.ne⟩
  have := ownsRow_setCell_other hown hfar (a := ⟨Z, 8, none⟩) v'
  simpa using this
/-- What has been made lies in memory as a calendar. -/
theorem CS.cal (h : CS w W b R Z c v) (hn : c.name.size ≤ maxLen) (hl : c.hs.length ≤ 1000) : ∃ A k, v = .slice A c.hs.length k ∧ CAt W c A ∧ (∀ ad, A = some ad → w.heap.size ≤ ad.block ∧ ad.block ≠ R) := by
  rcases h.own.2 with ⟨rfl, h0⟩ | ⟨g, cap, cur, rfl, hgb, hh, hle, _, hsz, ht⟩
  · have : c.hs = [] := List.length_eq_zero_iff.1 h0
    refine ⟨none, 0, by rw [this]; rfl, ⟨hn, by omega, fun k x hx => ?_⟩, (fun ad e => by cases e)⟩
    rw [this] at hx
    simp at hx
  · refine ⟨some ⟨g, 0, none⟩, cap, rfl, ⟨hn, by omega, fun k x hx => ⟨g, 0, rfl, (Array.getElem?_eq_some_iff.1 hh).1, ?_⟩⟩, fun ad e => by
      cases e
      exact ⟨hgb, fun e => h.far h.res (by decide) (by simpa [Value.ownBlock] using e)⟩⟩
    have := h.own.cells (g := g) rfl k (.int .i64 x) (by simp [hx])
    rw [Go.WideShapes.add_plain] at this
    exact this
end
theorem asc_snoc {last : Int} {l : List Int} {x : Int} (h : ascB last l = true) (h0 : last < x) (hl : ∀ y ∈ l, y < x) (hx : 0 ≤ x) (hx2 : x ≤ 73048) : ascB last (l ++ [x]) = true := by
  induction l generalizing last with
  | nil => simp [ascB]; omega
  | cons y r ih =>
    rw [List.cons_append]
    unfold ascB at h ⊢
    simp only [Bool.and_eq_true] at h ⊢
    exact ⟨h.1, h.2.1, ih h.2.2 (hl y (by simp)) (fun z hz => hl z (by simp [hz]))⟩
theorem CAt.setRow {W : World} {c : CN} {A : Option Addr} (h : CAt W c A) {R : Nat} (hA : ∀ ad, A = some ad → ad.block ≠ R) (cs : Array Value) : CAt (W.setRow R cs) c A :=
  ⟨h.nm, h.ints.1, fun k x hx => by
    obtain ⟨bb, o, e, hlt, hc⟩ := h.ints.2 k x hx
    exact ⟨bb, o, e, by rw [setRow_size]; exact hlt, (cell_setRow_other W R cs ⟨bb, o + k, none⟩ (by show bb ≠ R; exact hA _ e)).trans hc⟩⟩
theorem snoc_lt {l : List Int} {a a' : Int} (h : ∀ y ∈ l, y < a) (ha : a < a') : ∀ y ∈ l ++ [a], y < a' := by
  intro y hy
  rcases List.mem_append.1 hy with h3 | h3
  · have := h y h3; omega
  · simp at h3; omega
theorem calOk {c : CN} {nm : ByteArray} (h1 : nameB nm.data.toList = true) (h2 : c.name = nm) (h3 : c.all = false) (h4 : ascB (-1) c.hs = true) (h5 : c.hs.length ≤ 2000) : c.ok = true := by
  subst h2
  simp [CN.ok, h1, h3, h4, h5]
end
section
open Go.RowKit
set_option linter.unusedVariables false
set_option maxHeartbeats 4000000
theorem ZAt.setRow {W : World} {z : ZN} {A : Option Addr} (h : ZAt W z A) {R : Nat} (hA : ∀ ad, A = some ad → ad.block ≠ R) (cs : Array Value) : ZAt (W.setRow R cs) z A :=
  ⟨h.nm, h.ln, fun k x hx => by
    obtain ⟨bb, o, e, hlt, h1, h2⟩ := h.cells k x hx
    exact ⟨bb, o, e, by rw [setRow_size]; exact hlt, (cell_setRow_other W R cs ⟨bb, o + k * 2, none⟩ (by show bb ≠ R; exact hA _ e)).trans h1, (cell_setRow_other W R cs ⟨bb, o + k * 2 + 1, none⟩ (by show bb ≠ R; exact hA _ e)).trans h2⟩⟩
end
end Go.Proofs.YtffmmkjoknghoaaGreat
