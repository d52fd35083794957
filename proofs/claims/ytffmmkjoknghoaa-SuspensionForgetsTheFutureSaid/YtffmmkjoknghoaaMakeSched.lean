/-
  The generators of schedules, calendars and places: what they make is valid.
  The generators of calendars and places: what they make is valid.
  The generators of places and of spoilt schedules.
-/
import Derived.Test.YtffmmkjoknghoaaSchedRow
import Derived.Test.YtffmmkjoknghoaaMakeZone
import Derived.Test.YtffmmkjoknghoaaCalWalk
import Derived.Deep.DeepCutAuto
import Derived.Deep.CutBlock
import Derived.Deep.RegionHeld3
import Derived.Deep.AppendLies
namespace Go.Proofs.Ytffmmkjoknghoaa
section
open Go.RowKit
set_option linter.unusedVariables false
set_option maxHeartbeats 2000000
theorem near_any (day far : Int) (B b N : Nat) (w : World) (h : TapeAt w B b (N + 1)) (h1 : 0 ≤ day) (h2 : day ≤ 73048) (h3 : 0 ≤ far) (h4 : far ≤ 1000) :
    Calls Try.prog 11 #[.pointer (some ⟨b, 0, none⟩), .int .i64 day, .int .i64 far] w (DayP B b N w) := by
  go_enter Try.func11, Try.ntmps11
  go_wp2_with fail
  refine (next_in (n := 2 * far + 1) (N := N) h (by omega) (by omega)).mono ?_
  rintro e w1 ⟨k, hk, rfl, ht, ho⟩
  go_wp2
  all_goals
    go_ret
    exact ⟨_, by omega, by omega, rfl, ht, ho⟩
/-- A valid schedule has been made. -/
def SchedP (B b N : Nat) (w : World) (e : Ending) (w' : World) : Prop :=
  ∃ s : SC, e = .returned (.agg (sV s)) ∧ s.ok = true ∧ TapeAt w' B b N ∧ Only b w w'
theorem TapeAt.setRow {w : World} {B b n : Nat} (h : TapeAt w B b n) {g : Nat} (hB : B ≤ g) (hne : g ≠ b) (cs : Array Value) : TapeAt (w.setRow g cs) B b n :=
  h.keep (fun k hk => setRow_other w g k cs (by omega)) (setRow_other w g b cs (by omega))
theorem only_setRow {b : Nat} {x y : World} (h : Only b x y) {g : Nat} (hp : g = b ∨ x.heap.size ≤ g) (cs : Array Value) : Only b x (y.setRow g cs) :=
  ⟨h.os, h.tape, h.output, by rw [setRow_size]; exact h.size, fun i hi hne => (setRow_other y g i cs (by
    rintro rfl
    rcases hp with hp | hp
    · subst hp; exact hne rfl
    · omega)).trans (h.block i hi hne)⟩
theorem BlkAt.only {b g : Nat} {W W' : World} {cs : Array Value} {t : TypeId} (h : BlkAt W g cs t) (ho : Only b W W') (hne : g ≠ b) : BlkAt W' g cs t := ⟨(ho.block g h.lt (by intro e; injection e with e; exact hne e)).trans h.blk⟩
/-- The state of the making of a schedule: its block G, the result's block R. -/
structure SS (w W : World) (b R G : Nat) (s : SC) : Prop where
  only : Only b w W
  gb : BlkAt W G (sV s) 38
  rb : BlkAt W R (sV ⟨0, 0, 0, 0, 0⟩) 38
  hb : b < w.heap.size
  hR : w.heap.size ≤ R
  hG : w.heap.size ≤ G
  ne : G ≠ R
section
variable {w W W' : World} {b R G : Nat} {s s' : SC}
theorem SS.only' (h : SS w W b R G s) (ho : Only b W W') : SS w W' b R G s := by
  have h1 := h.hb
  have h2 := h.hR
  have h3 := h.hG
  exact ⟨only_trans h.only ho, h.gb.only ho (by omega), h.rb.only ho (by omega), h1, h2, h3, h.ne⟩
theorem SS.set (h : SS w W b R G s) (i : Nat) (v : Value) (e : (sV s).setIfInBounds i v = sV s') : SS w (W.setCell ⟨G, i, none⟩ v) b R G s' :=
  ⟨only_set h.only (.inr h.hG) _, (h.gb.cellSet i v).is e, h.rb.cellFar i v (fun e => h.ne e.symm), h.hb, h.hR, h.hG, h.ne⟩
theorem SS.al (h : SS w W b R G s) (o : Obj) : SS w (W.alloc o) b R G s := h.only' (only_below (bal0 W o))
end
theorem mkOk {p n no se cu : Int} (hr : ruleOk p n = true) (a1 : 0 ≤ no) (a2 : no ≤ 60) (a3 : 0 ≤ se) (a4 : se ≤ 60) (a5 : 0 ≤ cu) (a6 : cu ≤ 1439) : SC.ok ⟨p, n, no, se, cu⟩ = true := by
  simp [SC.ok, rangesOk, hr]; omega
end
section
open Go.RowKit
set_option linter.unusedVariables false
set_option maxHeartbeats 4000000
theorem infoInt : (Try.prog.info? 3).map (fun i => (i.zero, i.size, i.bytes)) = some (some (.int .i64 0), 1, 8) := by kernel_rfl
/-- The cells of a calendar whose holidays lie in a slice v. -/
def cvV (c : CN) (v : Value) : Array Value := #[.string c.name, .bool c.w0, .bool c.w1, .bool c.w2, .bool c.w3, .bool c.w4, .bool c.w5, .bool c.w6, v]
theorem rowCv (c : CN) (v : Value) (h : v.oneCell' = true) : RowV Try.prog 31 (cvV c v) := ⟨rowCal, by
  cases v <;> simp_all [cvV, Value.oneCell']⟩
/-- The state of the making of a calendar: its block Z, the result's block R, what has been appended. -/
structure CS (w W : World) (b R Z : Nat) (c : CN) (v : Value) : Prop where
  only : Only b w W
  blk : BlkAt W Z (cvV c v) 31
  res : BlkAt W R (cvV ⟨⟨#[]⟩, false, false, false, false, false, false, false, []⟩ (.slice none 0 0)) 31
  own : W.ownsRow w.heap.size 3 1 v c.hs.length (c.hs.map (.int .i64))
  hb : b < w.heap.size
  hZ : w.heap.size ≤ Z
  hR : w.heap.size ≤ R
  ne : Z ≠ R
section
variable {w W W' : World} {b R Z : Nat} {c c' : CN} {v : Value}
theorem CS.only' (h : CS w W b R Z c v) (ho : Only b W W') : CS w W' b R Z c v := by
  have h1 := h.hb
  have h2 := h.hZ
  have h3 := h.hR
  refine ⟨only_trans h.only ho, h.blk.only ho (by omega), h.res.only ho (by omega), h.own.kept ho (.inr ?_), h1, h2, h3, h.ne⟩
  intro e
  have := h.own.lt b e
  omega
theorem CS.far (h : CS w W b R Z c v) {g : Nat} {cs : Array Value} {t : TypeId} (hg : BlkAt W g cs t) (ht : t ≠ 3) : v.ownBlock ≠ some g := by
  rcases h.own.2 with ⟨rfl, _⟩ | ⟨k, cap, cur, rfl, _, hh, _⟩
  · simp [Value.ownBlock]
  · intro e
    have : k = g := by simpa [Value.ownBlock] using e
    subst this
    rw [hg.blk] at hh
    simp at hh
    exact ht hh.2
/-- A weekday is made free. -/
theorem CS.free (h : CS w W b R Z c v) (i : Nat) (u : Value) (e : (cvV c v).setIfInBounds i u = cvV c' v) (hh : c'.hs = c.hs) : CS w (W.setCell ⟨Z, i, none⟩ u) b R Z c' v := by
  refine ⟨only_set h.only (.inr h.hZ) _, (h.blk.cellSet i u).is e, h.res.cellFar i u (fun e => h.ne e.symm), ?_, h.hb, h.hZ, h.hR, h.ne⟩
  rw [hh]
  exact ownsRow_setCell_other h.own (h.far h.blk (by decide)) _
/-- Behind the append and the store of the new slice. -/
theorem CS.pushed {w1 : World} {v' : Value} {x : Int} {n : Nat} (h : CS w W b R Z c v) (hl : c.hs.length = n) (hown : w1.ownsRow w.heap.size 3 1 v' (n + 1) (c.hs.map (.int .i64) ++ [.int .i64 x])) (hg : W.grownBy w1 v.ownBlock) :
    CS w (w1.setCell ⟨Z, 8, none⟩ v') b R Z { c with hs := c.hs ++ [x] } v' := by
  subst hl
  have h1 := h.hb
  have h2 := h.hZ
  have h3 := h.hR
  have hbz : BlkAt w1 Z (cvV c v) 31 := ⟨(hg.block Z h.blk.lt (fun e => h.far h.blk (by decide) e.symm)).trans h.blk.blk⟩
  have hbr := BlkAt.mk ((hg.block R h.res.lt (fun e => h.far h.res (by decide) e.symm)).trans h.res.blk)
  have hfar : v'.ownBlock ≠ some Z := by
    rcases hown.2 with ⟨rfl, _⟩ | ⟨g, cap, cur, rfl, _, hh, _⟩
    · simp [Value.ownBlock]
    · intro e
      have : g = Z := by simpa [Value.ownBlock] using e
      subst this
      rw [hbz.blk] at hh
      simp at hh
  refine ⟨only_set (only_row h.only hg (fun k hk => (h.own.lt k hk).1)) (.inr h2) _, (hbz.cellSet 8 v').is rfl, hbr.cellFar 8 v' (fun e => h.ne e.symm), ?_, h1, h2, h3, h.ne⟩
  have := ownsRow_setCell_other hown hfar (a := ⟨Z, 8, none⟩) v'
  simpa using this
/-- What has been made lies in memory as a calendar. -/
theorem CS.cal (h : CS w W b R Z c v) (hn : c.name.size ≤ maxLen) (hl : c.hs.length ≤ 1000) : ∃ A k, v = .slice A c.hs.length k ∧ CAt W c A ∧ (∀ ad, A = some ad → w.heap.size ≤ ad.block ∧ ad.block ≠ R) := by
  rcases h.own.2 with ⟨rfl, h0⟩ | ⟨g, cap, cur, rfl, hgb, hh, hle, _, hsz, ht⟩
  · have : c.hs = [] := List.length_eq_zero_iff.1 h0
    refine ⟨none, 0, by rw [this]; rfl, ⟨hn, by omega, fun k x hx => ?_⟩, (fun ad e => by cases e)⟩
    rw [this] at hx
    simp at hx
  · refine ⟨some ⟨g, 0, none⟩, cap, rfl, ⟨hn, by omega, fun k x hx => ⟨g, 0, rfl, (Array.getElem?_eq_some_iff.1 hh).1, ?_⟩⟩, fun ad e => by
      cases e
      exact ⟨hgb, fun e => h.far h.res (by decide) (by simpa [Value.ownBlock] using e)⟩⟩
    have := h.own.cells (g := g) rfl k (.int .i64 x) (by simp [hx])
    rw [Go.WideShapes.add_plain] at this
    exact this
end
/-- A valid calendar has been made. -/
def CalP (B b N : Nat) (w : World) (e : Ending) (w' : World) : Prop :=
  ∃ (c : CN) (A : Option Addr) (k : Nat), e = .returned (.agg (cV c A k)) ∧ CAt w' c A ∧ (∀ ad, A = some ad → w.heap.size ≤ ad.block) ∧ c.ok = true ∧ c.hs.length ≤ 20 ∧ TapeAt w' B b N ∧ Only b w w'
/-- What the choice of the weekend leaves. -/
def CutW (B b M : Nat) (w : World) (Z : Nat) (nm : ByteArray) (wc : World) : Prop :=
  ∃ c : CN, c.name = nm ∧ c.hs = [] ∧ c.all = false ∧ TapeAt wc B b M ∧ CS w wc b w.heap.size Z c (.slice none 0 0)
theorem asc_snoc {last : Int} {l : List Int} {x : Int} (h : ascB last l = true) (h0 : last < x) (hl : ∀ y ∈ l, y < x) (hx : 0 ≤ x) (hx2 : x ≤ 73048) : ascB last (l ++ [x]) = true := by
  induction l generalizing last with
  | nil => simp [ascB]; omega
  | cons y r ih =>
    rw [List.cons_append]
    unfold ascB at h ⊢
    simp only [Bool.and_eq_true] at h ⊢
    exact ⟨h.1, h.2.1, ih h.2.2 (hl y (by simp)) (fun z hz => hl z (by simp [hz]))⟩
theorem CAt.setRow {W : World} {c : CN} {A : Option Addr} (h : CAt W c A) {R : Nat} (hA : ∀ ad, A = some ad → ad.block ≠ R) (cs : Array Value) : CAt (W.setRow R cs) c A :=
  ⟨h.nm, h.ints.1, fun k x hx => by
    obtain ⟨bb, o, e, hlt, hc⟩ := h.ints.2 k x hx
    exact ⟨bb, o, e, by rw [setRow_size]; exact hlt, (cell_setRow_other W R cs ⟨bb, o + k, none⟩ (by show bb ≠ R; exact hA _ e)).trans hc⟩⟩
theorem snoc_lt {l : List Int} {a a' : Int} (h : ∀ y ∈ l, y < a) (ha : a < a') : ∀ y ∈ l ++ [a], y < a' := by
  intro y hy
  rcases List.mem_append.1 hy with h3 | h3
  · have := h y h3; omega
  · simp at h3; omega
theorem calOk {c : CN} {nm : ByteArray} (h1 : nameB nm.data.toList = true) (h2 : c.name = nm) (h3 : c.all = false) (h4 : ascB (-1) c.hs = true) (h5 : c.hs.length ≤ 2000) : c.ok = true := by
  subst h2
  simp [CN.ok, h1, h3, h4, h5]
set_option maxRecDepth 100000 in
theorem mkCal_any (day : Int) (B b N : Nat) (w : World) (h : TapeAt w B b (N + 200)) (h1 : 0 ≤ day) (h2 : day ≤ 73048) : Calls Try.prog 9 #[.pointer (some ⟨b, 0, none⟩), .int .i64 day] w (CalP B b N w) := by
  obtain ⟨i0, hi0, hz0, hz1, hz2⟩ := info_parts infoInt
  have hb := h.lt
  have hB := h.base
  have hr0 := (BlkAt.new w (cvV ⟨⟨#[]⟩, false, false, false, false, false, false, false, []⟩ (.slice none 0 0)) 31)
  go_enter Try.func9, Try.ntmps9
  go_wp2_with fail
  refine (one_new [⟨#[99]⟩, ⟨#[110, 121, 115, 101]⟩, ⟨#[116, 97, 114, 103, 101, 116]⟩, ⟨#[120, 49]⟩] rfl (N := N + 199) (h.alloc _) (by decide) (by decide) rfl (by simp)).mono ?_
  rintro e w1 ⟨nm, hnm, rfl, ht1, ho1⟩
  have hnok : nameB nm.data.toList = true := by
    simp at hnm
    rcases hnm with rfl | rfl | rfl | rfl <;> decide
  have HN := Lib.hid hnok
  clear hnok hnm
  have hsz1 := ho1.size
  simp at hsz1
  have hS : CS w (w1.alloc (.cells (cvV ⟨nm, false, false, false, false, false, false, false, []⟩ (.slice none 0 0)) 31)) b w.heap.size w1.heap.size ⟨nm, false, false, false, false, false, false, false, []⟩ (.slice none 0 0) :=
    ⟨only_trans (only_trans (only_below (bal0 w _)) ho1) (only_below (bal0 _ _)), BlkAt.new _ _ _, (hr0.only ho1 (by omega)).al _, World.ownsRow_nil _ _ _ _, hb, by omega, by omega, by omega⟩
  have ht1' := ht1.alloc (.cells (cvV ⟨nm, false, false, false, false, false, false, false, []⟩ (.slice none 0 0)) 31)
  have hZb : w1.heap.size ≠ b := by omega
  have HS := Lib.hid hS
  clear ho1 ht1 hr0 h hS
  go_wp2_with fail
  refine (next_in (N := N + 198) ht1' (by omega) (by omega)).mono ?_
  rintro e w3 ⟨k, hk, rfl, ht3, ho3⟩
  have HS3 := Lib.hid (HS.out.only' ho3)
  clear HS ho3 ht1'
  go_upto_block 0 with (fail)
  go_cut [] (fun wc => CutW B b (N + 190) w w1.heap.size nm wc)
  case first =>
    have hk4 : k = 0 ∨ k = 1 ∨ k = 2 ∨ k = 3 := by omega
    clear hk
    rcases hk4 with rfl | rfl | rfl | rfl
    · go_wp2_with fail
      go_meet
      exact ⟨_, rfl, rfl, rfl, ht3.less (by omega), HS3.out⟩
    · go_wp2_with fail
      refine (next_in (n := 7) (N := N + 197) ht3 (by omega) (by omega)).mono ?_
      rintro e w4 ⟨j, hj, rfl, ht4, ho4⟩
      have hS4 := HS3.out.only' ho4
      have hj7 : j = 0 ∨ j = 1 ∨ j = 2 ∨ j = 3 ∨ j = 4 ∨ j = 5 ∨ j = 6 := by omega
      have HS4 := Lib.hid hS4
      clear hj ho4 hS4
      rcases hj7 with rfl | rfl | rfl | rfl | rfl | rfl | rfl
      · have cz := HS4.out.blk.cell (i := 1) rfl
        have fz := HS4.out.blk.fz 1
        go_wp2_with fail
        go_meet
        exact ⟨⟨nm, true, false, false, false, false, false, false, []⟩, rfl, rfl, rfl, (ht4.setCell (by simp; omega) (by simpa using hZb) _).less (by omega), HS4.out.free 1 _ rfl rfl⟩
      · have cz := HS4.out.blk.cell (i := 2) rfl
        have fz := HS4.out.blk.fz 2
        go_wp2_with fail
        go_meet
        exact ⟨⟨nm, false, true, false, false, false, false, false, []⟩, rfl, rfl, rfl, (ht4.setCell (by simp; omega) (by simpa using hZb) _).less (by omega), HS4.out.free 2 _ rfl rfl⟩
      · have cz := HS4.out.blk.cell (i := 3) rfl
        have fz := HS4.out.blk.fz 3
        go_wp2_with fail
        go_meet
        exact ⟨⟨nm, false, false, true, false, false, false, false, []⟩, rfl, rfl, rfl, (ht4.setCell (by simp; omega) (by simpa using hZb) _).less (by omega), HS4.out.free 3 _ rfl rfl⟩
      · have cz := HS4.out.blk.cell (i := 4) rfl
        have fz := HS4.out.blk.fz 4
        go_wp2_with fail
        go_meet
        exact ⟨⟨nm, false, false, false, true, false, false, false, []⟩, rfl, rfl, rfl, (ht4.setCell (by simp; omega) (by simpa using hZb) _).less (by omega), HS4.out.free 4 _ rfl rfl⟩
      · have cz := HS4.out.blk.cell (i := 5) rfl
        have fz := HS4.out.blk.fz 5
        go_wp2_with fail
        go_meet
        exact ⟨⟨nm, false, false, false, false, true, false, false, []⟩, rfl, rfl, rfl, (ht4.setCell (by simp; omega) (by simpa using hZb) _).less (by omega), HS4.out.free 5 _ rfl rfl⟩
      · have cz := HS4.out.blk.cell (i := 6) rfl
        have fz := HS4.out.blk.fz 6
        go_wp2_with fail
        go_meet
        exact ⟨⟨nm, false, false, false, false, false, true, false, []⟩, rfl, rfl, rfl, (ht4.setCell (by simp; omega) (by simpa using hZb) _).less (by omega), HS4.out.free 6 _ rfl rfl⟩
      · have cz := HS4.out.blk.cell (i := 7) rfl
        have fz := HS4.out.blk.fz 7
        go_wp2_with fail
        go_meet
        exact ⟨⟨nm, false, false, false, false, false, false, true, []⟩, rfl, rfl, rfl, (ht4.setCell (by simp; omega) (by simpa using hZb) _).less (by omega), HS4.out.free 7 _ rfl rfl⟩
    · go_wp2_with fail
      go_loopw [6] (fun iv wr => ∃ (i : Nat) (c : CN), i ≤ 6 ∧ iv = .int .i64 i ∧ c.name = nm ∧ c.hs = [] ∧ c.w6 = false ∧ TapeAt wr B b (N + 190 + (6 - i)) ∧ CS w wr b w.heap.size w1.heap.size c (.slice none 0 0)) (fun iv _ => 6 - (intOf iv).toNat)
      case atStart => exact ⟨0, _, by omega, rfl, rfl, rfl, rfl, ht3.less (by omega), HS3.out⟩
      case round =>
        obtain ⟨i, c, hi, rfl, hcn, hch, hc6, ht4, hS4⟩ := hrel
        have HCN := Lib.hid hcn
        have HCH := Lib.hid hch
        have HC6 := Lib.hid hc6
        have HS4 := Lib.hid hS4
        clear HS3 ht3 hcn hch hc6 hS4
        by_cases hi6 : i < 6
        · go_wp2_with fail
          refine (next_in (n := 6) (N := N + 190 + (6 - (i + 1))) (ht4.less (by omega)) (by omega) (by omega)).mono ?_
          rintro e w5 ⟨j, hj, rfl, ht5, ho5⟩
          have HS5 := Lib.hid (HS4.out.only' ho5)
          have hj6 : j = 0 ∨ j = 1 ∨ j = 2 ∨ j = 3 ∨ j = 4 ∨ j = 5 := by omega
          clear hj ho5 HS4 ht4
          rcases hj6 with rfl | rfl | rfl | rfl | rfl | rfl
          · have cz := HS5.out.blk.cell (i := 1) rfl
            have fz := HS5.out.blk.fz 1
            go_wp2_with fail
            go_roundw
            case rel => (repeat apply Exists.intro); exact ⟨⟨i + 1, { c with w0 := true }, by omega, by go_num, HCN.out, HCH.out, HC6.out, (ht5.setCell (by simp; omega) (by simpa using hZb) _).less (by omega), HS5.out.free 1 _ rfl rfl⟩, rfl⟩
            case measure => simp [intOf]; omega
          · have cz := HS5.out.blk.cell (i := 2) rfl
            have fz := HS5.out.blk.fz 2
            go_wp2_with fail
            go_roundw
            case rel => (repeat apply Exists.intro); exact ⟨⟨i + 1, { c with w1 := true }, by omega, by go_num, HCN.out, HCH.out, HC6.out, (ht5.setCell (by simp; omega) (by simpa using hZb) _).less (by omega), HS5.out.free 2 _ rfl rfl⟩, rfl⟩
            case measure => simp [intOf]; omega
          · have cz := HS5.out.blk.cell (i := 3) rfl
            have fz := HS5.out.blk.fz 3
            go_wp2_with fail
            go_roundw
            case rel => (repeat apply Exists.intro); exact ⟨⟨i + 1, { c with w2 := true }, by omega, by go_num, HCN.out, HCH.out, HC6.out, (ht5.setCell (by simp; omega) (by simpa using hZb) _).less (by omega), HS5.out.free 3 _ rfl rfl⟩, rfl⟩
            case measure => simp [intOf]; omega
          · have cz := HS5.out.blk.cell (i := 4) rfl
            have fz := HS5.out.blk.fz 4
            go_wp2_with fail
            go_roundw
            case rel => (repeat apply Exists.intro); exact ⟨⟨i + 1, { c with w3 := true }, by omega, by go_num, HCN.out, HCH.out, HC6.out, (ht5.setCell (by simp; omega) (by simpa using hZb) _).less (by omega), HS5.out.free 4 _ rfl rfl⟩, rfl⟩
            case measure => simp [intOf]; omega
          · have cz := HS5.out.blk.cell (i := 5) rfl
            have fz := HS5.out.blk.fz 5
            go_wp2_with fail
            go_roundw
            case rel => (repeat apply Exists.intro); exact ⟨⟨i + 1, { c with w4 := true }, by omega, by go_num, HCN.out, HCH.out, HC6.out, (ht5.setCell (by simp; omega) (by simpa using hZb) _).less (by omega), HS5.out.free 5 _ rfl rfl⟩, rfl⟩
            case measure => simp [intOf]; omega
          · have cz := HS5.out.blk.cell (i := 6) rfl
            have fz := HS5.out.blk.fz 6
            go_wp2_with fail
            go_roundw
            case rel => (repeat apply Exists.intro); exact ⟨⟨i + 1, { c with w5 := true }, by omega, by go_num, HCN.out, HCH.out, HC6.out, (ht5.setCell (by simp; omega) (by simpa using hZb) _).less (by omega), HS5.out.free 6 _ rfl rfl⟩, rfl⟩
            case measure => simp [intOf]; omega
        · go_wp2_with fail
          go_meet
          exact ⟨c, HCN.out, HCH.out, by simp [CN.all, HC6.out], ht4.less (by omega), HS4.out⟩
    · have cz5 := HS3.out.blk.cell (i := 6) rfl
      have fz5 := HS3.out.blk.fz 6
      have cz6 := HS3.out.blk.cell (i := 7) rfl
      have fz6 := HS3.out.blk.fz 7
      go_wp2_with fail
      go_meet
      exact ⟨⟨nm, false, false, false, false, false, true, true, []⟩, rfl, rfl, rfl, ((ht3.setCell (by simp; omega) (by simpa using hZb) _).setCell (by simp; omega) (by simpa using hZb) _).less (by omega), (HS3.out.free (c' := ⟨nm, false, false, false, false, false, true, false, []⟩) 6 (.bool true) rfl rfl).free 7 (.bool true) rfl rfl⟩
  case rest =>
    obtain ⟨c0, hcn0, hch0, hca0, htc, hSc⟩ := hcut
    have HCN0 := Lib.hid hcn0
    have HCH0 := Lib.hid hch0
    have HCA0 := Lib.hid hca0
    have HSc := Lib.hid hSc
    clear HS3 ht3 hcn0 hch0 hca0 hSc hk
    go_upto_region 12 with (fail)
    go_cut [7] (fun av wc => ∃ a : Int, av = .int .i64 a ∧ 0 ≤ a ∧ a ≤ 73048 ∧ TapeAt wc B b (N + 150) ∧ CS w wc b w.heap.size w1.heap.size c0 (.slice none 0 0))
    case first =>
      go_wp2_with fail
      refine (next_in (n := 30) (N := N + 189) (htc.less (by omega)) (by omega) (by omega)).mono ?_
      rintro e w4 ⟨j, hj, rfl, ht4, ho4⟩
      have HS4 := HSc.out.only' ho4
      clear HSc ho4 htc
      go_wp2_with fail
      all_goals
        go_meet
        exact ⟨_, rfl, by omega, by omega, ht4.less (by omega), HS4⟩
    case rest =>
    obtain ⟨a0, rfl, ha0, ha1, ht4, hS4⟩ := hcut
    have HS4 := Lib.hid hS4
    clear HSc htc hS4
    go_wp2_with fail
    go_loopw [7, 8] (fun av iv wr => ∃ (i : Nat) (a : Int) (v : Value) (c : CN), i ≤ 20 ∧ iv = .int .i64 i ∧ av = .int .i64 a ∧ 0 ≤ a ∧ a ≤ 73100 ∧ c.hs.length = i ∧ c.name = nm ∧ c.all = false ∧ ascB (-1) c.hs = true ∧ (∀ y ∈ c.hs, y < a) ∧
        TapeAt wr B b (N + 2 + 5 * (20 - i)) ∧ CS w wr b w.heap.size w1.heap.size c v) (fun _ iv _ => 20 - (intOf iv).toNat)
    case atStart => exact ⟨0, _, _, c0, by omega, rfl, rfl, by omega, by omega, by rw [HCH0.out]; rfl, HCN0.out, HCA0.out, by rw [HCH0.out]; rfl, (fun y hy => by rw [HCH0.out] at hy; simp at hy), ht4.less (by omega), HS4.out⟩
    case round =>
      obtain ⟨i, a, v, c, hi, rfl, rfl, ha, ha2, hcl, hcn, hca, hasc, hlt, ht, hS⟩ := hrel
      have HCL := Lib.hid hcl
      have HCN := Lib.hid hcn
      have HCA := Lib.hid hca
      have HAS := Lib.hid hasc
      have HLT := Lib.hid hlt
      have HS := Lib.hid hS
      clear HS4 ht4 hcl hcn hca hasc hlt hS HCN0 HCH0 HCA0
      go_wp2_with fail
      refine (pick_new [0, 1, 3, 8, 20] rfl (N := N + 1 + 5 * (20 - i)) (ht.less (by omega)) (by decide) (by decide) rfl (by simp)).mono ?_
      rintro e w5 ⟨u, hu, rfl, ht5, ho5⟩
      have hu20 : u ≤ 20 := by simp at hu; omega
      have HS5 := Lib.hid (HS.out.only' ho5)
      clear hu ho5 HS ht
      by_cases hju : (i : Int) < u
      · by_cases ham : a ≤ 73048
        · have c8 := HS5.out.blk.cell (i := 8) rfl
          have f8 := HS5.out.blk.fz 8
          have hown := HS5.out.own
          rw [HCL.out] at hown
          have hZl := HS5.out.blk.lt
          go_wp2_with (at_builtin; refine wpList_append_lies _ rfl _ _ _ rfl w.heap.size 3 i0 _ 1 8 Try.underlying22 hi0 hz0 hz1 hz2 rfl (by omega) v i (c.hs.map (.int .i64)) rfl (hown.alloc _) ⟨w5.heap.size, 0, none⟩ 1 1 [.int .i64 a] rfl rfl (World.news_of_block (cs := #[.int .i64 a]) (t := 3) (fr := (0, 0)) (heap_alloc_new _ _)) (by simp [Value.oneCell']) (by omega) (by unfold maxLen; omega) (by omega) (by simp; omega) (w5.heap.size + 1) (by simp) ?_; intro gg cap w7 hown7 hgrow7 hat7 hlt7; have c87 := (hgrow7.cell_far ⟨w1.heap.size, 8, none⟩ (by simp; omega) (fun e => HS5.out.far HS5.out.blk (by decide) e.symm)).trans (cell_al _ hZl c8); have f87 := (hgrow7.frozen_far ⟨w1.heap.size, 8, none⟩ (by simp; omega) (fun e => HS5.out.far HS5.out.blk (by decide) e.symm)).trans (frozen_al _ hZl f8))
          have HS7 := Lib.hid ((HS5.out.only' (only_below (bal0 _ (.cells #[.int .i64 a] 3)))).pushed (x := a) HCL.out hown7 hgrow7)
          have ht7 := ((ht5.alloc (.cells #[.int .i64 a] 3)).row hgrow7 (fun k hk => by have := (HS5.out.own.lt k hk).1; omega)).setCell (p := ⟨w1.heap.size, 8, none⟩) (by simp; omega) (by simpa using hZb) (.slice (some ⟨gg, 0, none⟩) (i + 1) cap)
          clear c8 f8 hown hZl ht5 HS5 hgrow7 hown7 hat7
          go_wp2_with fail
          refine (next_in (n := 6) (N := N + 5 * (20 - i)) (ht7.less (by omega)) (by omega) (by omega)).mono ?_
          rintro e w8 ⟨y1, hy1, rfl, ht8, ho8⟩
          go_wp2_with fail
          refine (next_in (n := 30) (N := N + 5 * (20 - i) - 1) (ht8.less (by omega)) (by omega) (by omega)).mono ?_
          rintro e w9 ⟨y2, hy2, rfl, ht9, ho9⟩
          go_wp2_with fail
          refine (pick_new [0, 0, 1, (y1 : Int), (y2 : Int)] rfl (N := N + 5 * (20 - i) - 2) (ht9.less (by omega)) (by simp) (by simp) rfl (by simp)).mono ?_
          rintro e w10 ⟨y, hy, rfl, ht10, ho10⟩
          have hy0 : 0 ≤ y ∧ y ≤ 30 := by simp at hy; omega
          obtain ⟨hya, hyb⟩ := hy0
          have HS10 := Lib.hid ((HS7.out.only' ho8).only' (only_trans ho9 ho10))
          clear hy HS7 ho8 ho9 ho10 ht7 ht8 ht9
          go_wp2_with fail
          go_roundw
          case rel => exact ⟨i + 1, a + (1 + y), _, { c with hs := c.hs ++ [a] }, by omega, by go_num, rfl, by omega, by omega, by rw [List.length_append, HCL.out]; rfl, HCN.out, HCA.out, asc_snoc HAS.out (by omega) HLT.out ha ham, snoc_lt HLT.out (by omega), ht10.less (by omega), HS10.out⟩
          case measure => simp [intOf]; omega
        · obtain ⟨A, kk, rfl, hcat, hAf⟩ := HS5.out.cal (by rw [maxLen, HCN.out]; have := HN.out; unfold nameB at this; simp at this; have := this.1.1.2; omega) (by have := HCL.out; omega)
          go_wp2_with (first | ((with_reducible refine wpl_load rfl 31 _ rfl _ ?_ HS5.out.blk (rowCv _ _ rfl) ?_); exact rfl) | ((with_reducible refine wpl_store rfl 31 _ _ rfl _ (cV c A kk) ?_ ?_ HS5.out.res (rowC ..) ?_ ?_); exact rfl; exact rfl; exact rfl))
          exact bodyPost_ret (v := .agg (cV c A kk)) (res_c rfl rfl (HS5.out.res.set _) (rowC ..)) rfl ⟨c, A, kk, rfl, hcat.setRow (fun ad e => (hAf ad e).2) _, fun ad e => (hAf ad e).1, calOk HN.out HCN.out HCA.out HAS.out (by have := HCL.out; omega), by have := HCL.out; omega, (ht5.less (by omega)).setRow (by omega) (by omega) _, only_setRow HS5.out.only (.inr (by omega)) _⟩
      · obtain ⟨A, kk, rfl, hcat, hAf⟩ := HS5.out.cal (by rw [maxLen, HCN.out]; have := HN.out; unfold nameB at this; simp at this; have := this.1.1.2; omega) (by have := HCL.out; omega)
        go_wp2_with (first | ((with_reducible refine wpl_load rfl 31 _ rfl _ ?_ HS5.out.blk (rowCv _ _ rfl) ?_); exact rfl) | ((with_reducible refine wpl_store rfl 31 _ _ rfl _ (cV c A kk) ?_ ?_ HS5.out.res (rowC ..) ?_ ?_); exact rfl; exact rfl; exact rfl))
        exact bodyPost_ret (v := .agg (cV c A kk)) (res_c rfl rfl (HS5.out.res.set _) (rowC ..)) rfl ⟨c, A, kk, rfl, hcat.setRow (fun ad e => (hAf ad e).2) _, fun ad e => (hAf ad e).1, calOk HN.out HCN.out HCA.out HAS.out (by have := HCL.out; omega), by have := HCL.out; omega, (ht5.less (by omega)).setRow (by omega) (by omega) _, only_setRow HS5.out.only (.inr (by omega)) _⟩
end
section
open Go.RowKit
set_option linter.unusedVariables false
set_option maxHeartbeats 4000000
theorem ZAt.setRow {W : World} {z : ZN} {A : Option Addr} (h : ZAt W z A) {R : Nat} (hA : ∀ ad, A = some ad → ad.block ≠ R) (cs : Array Value) : ZAt (W.setRow R cs) z A :=
  ⟨h.nm, h.ln, fun k x hx => by
    obtain ⟨bb, o, e, hlt, h1, h2⟩ := h.cells k x hx
    exact ⟨bb, o, e, by rw [setRow_size]; exact hlt, (cell_setRow_other W R cs ⟨bb, o + k * 2, none⟩ (by show bb ≠ R; exact hA _ e)).trans h1, (cell_setRow_other W R cs ⟨bb, o + k * 2 + 1, none⟩ (by show bb ≠ R; exact hA _ e)).trans h2⟩⟩
/-- A valid place has been made. -/
def PlaceP (B b N : Nat) (w : World) (e : Ending) (w' : World) : Prop :=
  ∃ (z : ZN) (A : Option Addr) (k : Nat) (c : CN) (Ac : Option Addr) (kc : Nat), e = .returned (.agg (pV z A k c Ac kc)) ∧ ZAt w' z A ∧ CAt w' c Ac ∧ (∀ ad, A = some ad → w.heap.size ≤ ad.block) ∧ (∀ ad, Ac = some ad → w.heap.size ≤ ad.block) ∧ z.ok = true ∧ c.ok = true ∧ c.hs.length ≤ 20 ∧ TapeAt w' B b N ∧ Only b w w'
/-- A schedule has been made. -/
def AnySP (B b N : Nat) (w : World) (e : Ending) (w' : World) : Prop :=
  ∃ s : SC, e = .returned (.agg (sV s)) ∧ TapeAt w' B b N ∧ Only b w w'
end
end Go.Proofs.Ytffmmkjoknghoaa
