/-
  The scenes: places.
-/
import Derived.Test.YtbfllcfjgpkpaaaGreatScene
import Derived.Test.YtbfllcfjgpkpaaaGreatMarks
import Derived.Deep.DeepCutAuto
import Derived.Deep.CutBlock
import Derived.Deep.RegionHeld3
import Derived.Deep.RegionWith
namespace Go.Proofs.YtbfllcfjgpkpaaaGreat
open Go.RowKit
set_option linter.unusedVariables false
set_option maxHeartbeats 4000000
def homeB : ByteArray := ⟨#[104, 111, 109, 101]⟩
def daysB : ByteArray := ⟨#[100, 97, 121, 115]⟩
def z00 : ZN := ⟨⟨#[]⟩, 0, []⟩
def c00 : CN := ⟨⟨#[]⟩, false, false, false, false, false, false, false, []⟩
theorem ZAt.keepB {W W' : World} {z : ZN} {A : Option Addr} (h : ZAt W z A) (hs : W.heap.size ≤ W'.heap.size) (hA : ∀ ad, A = some ad → W'.heap[ad.block]? = W.heap[ad.block]?) : ZAt W' z A :=
  ⟨h.nm, h.ln, fun k x hx => by
    obtain ⟨g, o, e, hlt, e1, e2⟩ := h.cells k x hx
    have hb := hA _ e
    exact ⟨g, o, e, Nat.lt_of_lt_of_le hlt hs, (World.cell?_of_block (w := W) (a := ⟨g, o + k * 2, none⟩) hb).trans e1, (World.cell?_of_block (w := W) (a := ⟨g, o + k * 2 + 1, none⟩) hb).trans e2⟩⟩
/-- The zone of a place in the making: its block Z, the result's block R. -/
structure PZ (w W : World) (B b R Z : Nat) (z : ZN) (A : Option Addr) (kz : Nat) : Prop where
  tape : TapS W B b
  only : Only b w W
  zb : BlkAt W Z (zV z A kz) 32
  za : ZAt W z A
  rb : BlkAt W R (pV z00 none 0 c00 none 0) 37
  hb : b < w.heap.size
  hR : w.heap.size ≤ R
  hZ : w.heap.size ≤ Z
  hA : ∀ ad, A = some ad → w.heap.size ≤ ad.block ∧ ad.block ≠ R ∧ ad.block < W.heap.size
  ne : Z ≠ R
section
variable {w W W' : World} {B b R Z : Nat} {z : ZN} {A : Option Addr} {kz : Nat} {off : Int}
theorem PZ.only' (h : PZ w W B b R Z z A kz) (ho : Only b W W') (ht : TapS W' B b) : PZ w W' B b R Z z A kz := by
  have h1 := h.hb
  have h2 := h.hR
  have h3 := h.hZ
  have hs := ho.size
  exact ⟨ht, only_trans h.only ho, h.zb.only ho (by omega), h.za.keepB ho.size (fun ad e => ho.block _ (h.hA ad e).2.2 (fun e2 => by injection e2 with e2; have := (h.hA ad e).1; omega)), h.rb.only ho (by omega), h1, h2, h3, fun ad e => by have := h.hA ad e; omega, h.ne⟩
theorem PZ.next (h : PZ w W B b R Z z A kz) (hb : Below W.heap.size W W') : PZ w W' B b R Z z A kz := h.only' (only_below hb) (h.tape.below hb)
theorem PZ.c1 (h : PZ w W B b R Z z A kz) : W.cell? ⟨Z, 1, none⟩ = some (.int .i64 z.off) := h.zb.cell rfl
theorem PZ.q (h : PZ w W B b R Z ⟨homeB, off, []⟩ none 0) : W.cell? ⟨Z, 1, none⟩ = some (.int .i64 off) ∧ W.cell? ⟨Z, 2, none⟩ = some (.slice none 0 0) ∧ W.frozen? ⟨Z, 2, none⟩ = false ∧ PZ w W B b R Z ⟨homeB, off, []⟩ none 0 :=
  ⟨h.zb.cell rfl, h.zb.cell rfl, h.zb.fz 2, h⟩
theorem PZ.drew (h : PZ w W B b R Z z A kz) : PZ w W.drew B b R Z z A kz := h.next ((Below.refl _ _).drew)
theorem spick_drew (xs : List Int) {vs : List Value} (hvs : vs = xs.map (Value.int .i64)) {B b : Nat} {w : World} (h : TapS w B b) (hx : 0 < xs.length) (hx2 : xs.length ≤ 1000) {n c g : Nat} (hn : xs.length = n) (hg : w.heap.size = g) :
    Calls Tryz.prog 23 #[.pointer (some ⟨b, 0, none⟩), .slice (some ⟨g, 0, none⟩) n c] ((w.alloc (.cells vs.toArray 3)).drew) (SPickP xs B b w) := by
  subst hg
  have hlt := h.lt
  have hc := spick_any xs w.heap.size B b ((w.alloc (.cells vs.toArray 3)).drew) (h.alloc _).drew hx hx2 (by simp) (by omega) c (fun k x hk => cells_new w vs _ k _ (by rw [hvs, List.getElem?_map, hk]; rfl))
  rw [hn] at hc
  refine hc.mono ?_
  rintro e w' ⟨v, hv, he, ht, ho⟩
  exact ⟨v, hv, he, ht, only_trans (only_below ((bal0 w _).trans ((Below.refl _ _).drew))) ho⟩
/-- The changes have been laid. -/
theorem PZ.laid (h : PZ w W B b R Z ⟨homeB, off, []⟩ none 0) (t x : Int) :
    PZ w ((W.alloc (.cells #[.int .i64 t, .int .i64 (off + x), .int .i64 (t + 28800), .int .i64 off] 69)).setCell ⟨Z, 2, none⟩ (.slice (some ⟨W.heap.size, 0, none⟩) 2 2)) B b R Z ⟨homeB, off, [(t, off + x), (t + 28800, off)]⟩ (some ⟨W.heap.size, 0, none⟩) 2 := by
  have h1 := h.hb
  have h2 := h.hZ
  have h3 := h.hR
  have h4 := h.zb.lt
  have h5 := h.rb.lt
  have h6 := h.only.size
  have h7 := h.tape.base
  have hn := h.next (bal0 W (.cells #[.int .i64 t, .int .i64 (off + x), .int .i64 (t + 28800), .int .i64 off] 69))
  have hc : BlkAt (W.alloc (.cells #[.int .i64 t, .int .i64 (off + x), .int .i64 (t + 28800), .int .i64 off] 69)) W.heap.size #[.int .i64 t, .int .i64 (off + x), .int .i64 (t + 28800), .int .i64 off] 69 := BlkAt.new _ _ _
  have hc2 := hc.cellFar (g := Z) 2 (.slice (some ⟨W.heap.size, 0, none⟩) 2 2) (by omega)
  refine ⟨hn.tape.setCell (by show B ≤ Z; omega) (by show Z ≠ b; omega) _, only_set hn.only (.inr h2) _, (hn.zb.cellSet 2 _).is rfl, ⟨h.za.nm, (show 2 ≤ maxLen by decide), fun k y hk => ?_⟩, hn.rb.cellFar 2 _ (fun e => h.ne e.symm), h1, h3, h2, fun ad e => by cases e; simp; omega, h.ne⟩
  match k, hk with
  | 0, hk =>
    simp at hk
    subst hk
    exact ⟨_, _, rfl, hc2.lt, hc2.cell rfl, hc2.cell rfl⟩
  | 1, hk =>
    simp at hk
    subst hk
    exact ⟨_, _, rfl, hc2.lt, hc2.cell rfl, hc2.cell rfl⟩
  | k + 2, hk => simp at hk
end
theorem zok0 {off : Int} (h : offB off = true) : ZN.ok ⟨homeB, off, []⟩ = true := by
  simp only [ZN.ok, Bool.and_eq_true]
  exact ⟨⟨⟨by decide, by simp⟩, h⟩, rfl⟩
theorem zok2 {off x t : Int} (h : offB off = true) (hx : offB (off + x) = true) (h0 : 0 ≤ t) (h1 : t < 86400) : ZN.ok ⟨homeB, off, [(t, off + x), (t + 28800, off)]⟩ = true := by
  simp only [ZN.ok, Bool.and_eq_true]
  refine ⟨⟨⟨by decide, by simp⟩, h⟩, ?_⟩
  rw [chkFrom_cons, if_neg (by simp [hx]; omega), chkFrom_cons, if_neg (by simp [h]; omega)]
  rfl
/-- A valid place has been made. -/
def SPlaceP (B b : Nat) (w : World) (e : Ending) (w' : World) : Prop :=
  ∃ (z : ZN) (A : Option Addr) (k : Nat) (c : CN) (Ac : Option Addr) (kc : Nat), e = .returned (.agg (pV z A k c Ac kc)) ∧ ZAt w' z A ∧ CAt w' c Ac ∧ (∀ ad, A = some ad → w.heap.size ≤ ad.block) ∧ (∀ ad, Ac = some ad → w.heap.size ≤ ad.block) ∧ z.ok = true ∧ c.ok = true ∧ c.all = false ∧ c.hs.length ≤ 3 ∧ TapS w' B b ∧ Only b w w'
/-- The calendar of a place, with its holidays. -/
def cW (hs : List Int) : CN := ⟨daysB, false, false, false, false, false, true, true, hs⟩
theorem cW_ok {hs : List Int} (h : ascB (-1) hs = true) (hl : hs.length ≤ 2000) : (cW hs).ok = true := calOk (nm := daysB) (by decide) rfl rfl h hl
theorem own_ints {W : World} {B : Nat} {v : Value} {L : List Int} (h : W.ownsRow B 3 1 v L.length (L.map (.int .i64))) (hl : L.length ≤ 1000) : ∃ A k, v = .slice A L.length k ∧ IntsAt W A L ∧ ∀ ad, A = some ad → B ≤ ad.block ∧ ad.block < W.heap.size := by
  rcases h.2 with ⟨rfl, h0⟩ | ⟨g, cap, cur, rfl, hgb, hh, hle, _, hsz, ht⟩
  · have : L = [] := List.length_eq_zero_iff.1 h0
    subst this
    exact ⟨none, 0, rfl, ⟨by simp, fun k x hx => by simp at hx⟩, (fun ad e => by cases e)⟩
  · have hg := (Array.getElem?_eq_some_iff.1 hh).1
    refine ⟨some ⟨g, 0, none⟩, cap, rfl, ⟨by omega, fun k x hx => ⟨g, 0, rfl, hg, ?_⟩⟩, fun ad e => by cases e; exact ⟨hgb, hg⟩⟩
    have := h.cells (g := g) rfl k (.int .i64 x) (by simp [hx])
    rw [Go.WideShapes.add_plain] at this
    exact this
theorem own_shape {W : World} {B : Nat} {e : TypeId} {sz n : Nat} {v : Value} {xs : List Value} (h : W.ownsRow B e sz v (n + 1) xs) : ∃ g cap, v = .slice (some ⟨g, 0, none⟩) (n + 1) cap := by
  rcases h.2 with ⟨rfl, h0⟩ | ⟨g, cap, cur, rfl, _⟩
  · cases h0
  · exact ⟨g, cap, rfl⟩
/-- A place in the making, with its calendar in block C; the holidays lie behind C. -/
structure PC (w W : World) (B b R Z C : Nat) (z : ZN) (A : Option Addr) (kz : Nat) (hs : List Int) (v : Value) : Prop where
  tape : TapS W B b
  only : Only b w W
  zb : BlkAt W Z (zV z A kz) 32
  za : ZAt W z A
  rb : BlkAt W R (pV z00 none 0 c00 none 0) 37
  cb : BlkAt W C (cvV (cW hs) v) 35
  own : W.ownsRow (C + 1) 3 1 v hs.length (hs.map (.int .i64))
  hb : b < w.heap.size
  hR : w.heap.size ≤ R
  hZ : w.heap.size ≤ Z
  hC : w.heap.size ≤ C
  hA : ∀ ad, A = some ad → w.heap.size ≤ ad.block ∧ ad.block < C ∧ ad.block ≠ R
  hRH : R < C
  hZH : Z < C
  ne : Z ≠ R
section
variable {w W W' : World} {B b R Z C : Nat} {z : ZN} {A : Option Addr} {kz : Nat} {hs : List Int} {v v' : Value}
theorem PC.hH (h : PC w W B b R Z C z A kz hs v) : C + 1 ≤ W.heap.size := h.cb.lt
theorem PC.start (h : PZ w W B b R Z z A kz) : PC w (W.alloc (.cells #[.string ⟨#[100, 97, 121, 115]⟩, .bool false, .bool false, .bool false, .bool false, .bool false, .bool true, .bool true, .slice none 0 0] 35)) B b R Z W.heap.size z A kz [] (.slice none 0 0) := by
  have hn := h.next (bal0 W (.cells #[.string ⟨#[100, 97, 121, 115]⟩, .bool false, .bool false, .bool false, .bool false, .bool false, .bool true, .bool true, .slice none 0 0] 35))
  exact ⟨hn.tape, hn.only, hn.zb, hn.za, hn.rb, BlkAt.new _ _ _, World.ownsRow_nil _ _ _ _, h.hb, h.hR, h.hZ, h.only.size, fun ad e => by have := h.hA ad e; omega, h.rb.lt, h.zb.lt, h.ne⟩
theorem PC.only' (h : PC w W B b R Z C z A kz hs v) (ho : Only b W W') (ht : TapS W' B b) : PC w W' B b R Z C z A kz hs v := by
  have h1 := h.hb
  have h2 := h.hR
  have h3 := h.hZ
  have h4 := h.hC
  refine ⟨ht, only_trans h.only ho, h.zb.only ho (by omega), h.za.only (fun ad e => by have := (h.hA ad e).1; omega) ho, h.rb.only ho (by omega), h.cb.only ho (by omega), h.own.kept ho (.inr ?_), h1, h2, h3, h4, h.hA, h.hRH, h.hZH, h.ne⟩
  intro e
  have := (h.own.lt b e).1
  omega
theorem PC.c8 (h : PC w W B b R Z C z A kz hs v) : W.cell? ⟨C, 8, none⟩ = some v := h.cb.cell rfl
/-- A block up to C, behind the append. -/
theorem PC.blk9 (h : PC w W B b R Z C z A kz hs v) {o : Obj} (hg : (W.alloc o).grownBy W' v.ownBlock) {g : Nat} (hl : g ≤ C) : W'.heap[g]? = W.heap[g]? := by
  have hH := h.hH
  rw [hg.block g (by simp; omega) (fun e => by have := (h.own.lt g e.symm).1; omega)]
  exact Below.heap_alloc _ _ _ (by omega)
theorem PC.cb9 (h : PC w W B b R Z C z A kz hs v) {o : Obj} (hg : (W.alloc o).grownBy W' v.ownBlock) : BlkAt W' C (cvV (cW hs) v) 35 := ⟨(h.blk9 hg (Nat.le_refl _)).trans h.cb.blk⟩
theorem PC.c89 (h : PC w W B b R Z C z A kz hs v) {o : Obj} (hg : (W.alloc o).grownBy W' v.ownBlock) : W'.cell? ⟨C, 8, none⟩ = some v := (h.cb9 hg).cell rfl
theorem PC.f89 (h : PC w W B b R Z C z A kz hs v) {o : Obj} (hg : (W.alloc o).grownBy W' v.ownBlock) : W'.frozen? ⟨C, 8, none⟩ = false := (h.cb9 hg).fz 8
/-- Behind the append and the store of the new slice. -/
theorem PC.pushed {x : Int} {E : TypeId} (h : PC w W B b R Z C z A kz hs v) (ho : W'.ownsRow (C + 1) 3 1 v' (hs.length + 1) (hs.map (.int .i64) ++ [.int .i64 x])) (hg : (W.alloc (.cells #[.int .i64 x] E)).grownBy W' v.ownBlock) :
    PC w (W'.setCell ⟨C, 8, none⟩ v') B b R Z C z A kz (hs ++ [x]) v' := by
  have h1 := h.hb
  have h2 := h.hR
  have h3 := h.hZ
  have h4 := h.hC
  have h5 := h.tape.base
  have h6 := h.hRH
  have h7 := h.hZH
  have hfar : v'.ownBlock ≠ some C := fun e => by have := (ho.lt C e).1; omega
  have hz9 : BlkAt W' Z (zV z A kz) 32 := ⟨(h.blk9 hg (by omega)).trans h.zb.blk⟩
  have hr9 : BlkAt W' R (pV z00 none 0 c00 none 0) 37 := ⟨(h.blk9 hg (by omega)).trans h.rb.blk⟩
  refine ⟨((h.tape.alloc _).row hg (fun k hk => by have := (h.own.lt k hk).1; omega)).setCell (by show B ≤ C; omega) (by show C ≠ b; omega) _, only_set (only_row (only_al h.only _) hg (fun k hk => by have := (h.own.lt k hk).1; omega)) (.inr h4) _, hz9.cellFar 8 _ (by omega), ?_, hr9.cellFar 8 _ (by omega), ((h.cb9 hg).cellSet 8 v').is rfl, ?_, h1, h2, h3, h4, h.hA, h6, h7, h.ne⟩
  · refine h.za.keepB (by have := hg.size; simp at this ⊢; omega) (fun ad e => ?_)
    have := h.hA ad e
    rw [Below.heap_setCell _ _ _ _ (by show ad.block ≠ C; omega)]
    exact h.blk9 hg (by omega)
  · have := ownsRow_setCell_other ho hfar (a := ⟨C, 8, none⟩) v'
    simpa using this
theorem PC.cal (h : PC w W B b R Z C z A kz hs v) (hl : hs.length ≤ 1000) : ∃ Ac k, v = .slice Ac hs.length k ∧ CAt W (cW hs) Ac ∧ ∀ ad, Ac = some ad → C < ad.block := by
  obtain ⟨Ac, k, rfl, hi, hA⟩ := own_ints h.own hl
  exact ⟨Ac, k, rfl, ⟨(show daysB.size ≤ maxLen by decide), hi⟩, fun ad e => (hA ad e).1⟩
end
theorem cW_all (hs : List Int) : (cW hs).all = false := rfl
theorem PC.fin {w W : World} {B b R Z C : Nat} {z : ZN} {A : Option Addr} {kz : Nat} {hs : List Int} {Ac : Option Addr} {kc : Nat} (h : PC w W B b R Z C z A kz hs (.slice Ac hs.length kc)) (hca : CAt W (cW hs) Ac) (hAc : ∀ ad, Ac = some ad → C < ad.block) (hz : z.ok = true) (ha : ascB (-1) hs = true) (hl : hs.length ≤ 3) :
    SPlaceP B b w (.returned (.agg (pV z A kz (cW hs) Ac kc))) (W.setRow R (pV z A kz (cW hs) Ac kc)) := by
  have h1 := h.hZ
  have h2 := h.hR
  have h3 := h.hb
  have h4 := h.tape.base
  have h5 := h.hRH
  have h6 := h.hC
  refine ⟨z, A, kz, cW hs, Ac, kc, rfl, h.za.setRow (fun ad e => (h.hA ad e).2.2) _, hca.setRow (fun ad e => ?_) _, fun ad e => (h.hA ad e).1, fun ad e => ?_, hz, cW_ok ha (by omega), cW_all hs, hl, h.tape.setRow (by omega) (by omega) _, only_setRow h.only (.inr (by omega)) _⟩
  · have := hAc ad e; omega
  · have := hAc ad e; omega
/-- Behind the changes of the zone. -/
def CutP (w : World) (B b R Z : Nat) (wc : World) : Prop := ∃ (z : ZN) (A : Option Addr) (k : Nat), z.ok = true ∧ PZ w wc B b R Z z A k
set_option maxRecDepth 100000 in
theorem splace_any (B b : Nat) (w : World) (h : TapS w B b) : Calls Tryz.prog 10 #[.pointer (some ⟨b, 0, none⟩)] w (SPlaceP B b w) := by
  obtain ⟨i0, hi0, hz0, hz1, hz2⟩ := info_parts infoInt
  have hb := h.lt
  have hB := h.base
  have hr0 := BlkAt.new w (pV z00 none 0 c00 none 0) 37
  go_enter Tryz.func10, Tryz.ntmps10
  go_wp2_with fail
  refine (spick_new [0, 60, -300, 540] rfl (h.alloc _) (by decide) (by decide) rfl (by simp)).mono ?_
  rintro e w1 ⟨off, hoff, rfl, ht1, ho1⟩
  have hoff2 : offB off = true ∧ ∀ x : Int, x = 60 ∨ x = -60 ∨ x = 30 → offB (off + x) = true := by
    simp at hoff
    refine ⟨?_, fun x hx => ?_⟩
    · rcases hoff with rfl | rfl | rfl | rfl <;> decide
    · rcases hoff with rfl | rfl | rfl | rfl <;> rcases hx with rfl | rfl | rfl <;> decide
  have HOF := Lib.hid hoff2
  have hofb : -300 ≤ off ∧ off ≤ 540 := by simp at hoff; omega
  have hsz := ho1.size
  simp at hsz
  have HP := Lib.hid (show PZ w (w1.alloc (.cells #[.string ⟨#[104, 111, 109, 101]⟩, .int .i64 off, .slice none 0 0] 32)) B b w.heap.size w1.heap.size ⟨homeB, off, []⟩ none 0 from
    ⟨ht1.alloc _, only_al (only_trans (only_below (bal0 w _)) ho1) _, BlkAt.new _ _ _, ⟨(show homeB.size ≤ maxLen by decide), by simp, fun k x hx => by simp at hx⟩, (hr0.only ho1 (by omega)).al _, hb, by omega, by omega, (fun ad e => by cases e), by omega⟩)
  clear hoff hoff2 ho1 ht1 hr0 h
  go_wp2_with fail
  refine (sbool_any 2 B b _ HP.out.tape (by omega) (by omega)).mono ?_
  rintro e w2 ⟨q, rfl, ht2, ho2⟩
  have HP2 := Lib.hid (HP.out.only' ho2 ht2)
  clear HP ht2 ho2
  go_upto_if 13 with (fail)
  go_cut [] from 14 to 30 (fun wc => CutP w B b w.heap.size w1.heap.size wc)
  case first =>
    cases q
    · go_wp2_with fail
      go_meet
      exact ⟨_, _, _, zok0 HOF.out.1, HP2.out⟩
    · go_wp2_with fail
      refine (snext_in (n := 86400) HP2.out.tape (by omega) (by omega)).mono ?_
      rintro e w3 ⟨t, ht, rfl, ht3, ho3⟩
      have HP3 := Lib.hid (HP2.out.only' ho3 ht3)
      have HD := Lib.hid HP3.out.drew
      clear HP2 ht3 ho3
      generalize w1.heap.size = Z at *
      go_wp2_with fail
      go_region_held3 (fun W => W.cell? ⟨Z, 1, none⟩ = some (.int .i64 off))
        ((first
          | (with_reducible exact HP4.out.c1)
          | (with_reducible exact (HP4.out.next (bal0 _ _)).c1)
          | (with_reducible exact HD.out.c1)
          | (with_reducible exact (HP3.out.next (bal0 _ _)).drew.c1)
          | (with_reducible exact cell_far (.inr (by omega)) (HP4.out.next (bal0 _ _)).c1)))
        ((go_at_call 23; refine (spick_drew [60, -60, 30] rfl HP3.out.tape (by decide) (by decide) rfl rfl).mono ?_; rintro e w4 ⟨x, hx, rfl, ht4, ho4⟩; have HP4 := Lib.hid (HP3.out.only' ho4 ht4); have HX := Lib.hid hx; have c2 := fun o => (HP4.out.next (bal0 _ o)).q.2.1; have f2 := fun o => (HP4.out.next (bal0 _ o)).q.2.2.1; clear hx ht4 ho4))
      go_wp2_with fail
      go_meet
      have hx : x = 60 ∨ x = -60 ∨ x = 30 := by simpa using HX.out
      rw [show IntKind.i64.wrap (off + x) = off + x from IntWalk.i64_in _ (by omega), show IntKind.i64.wrap ((t : Int) + 28800) = (t : Int) + 28800 from IntWalk.i64_in _ (by omega)]
      exact ⟨_, _, _, zok2 HOF.out.1 (HOF.out.2 x hx) (by omega) (by omega), HP4.out.laid t x⟩
  case rest =>
    obtain ⟨z, A, kz, hzok, hPZ⟩ := hcut
    have HZO := Lib.hid hzok
    have hC0 := PC.start hPZ
    have HC0 := Lib.hid hC0
    have hZ0 := hPZ.hZ
    have hs0 := hPZ.only.size
    clear hzok hPZ hC0 HP2 HOF hofb
    go_wp2_with fail
    refine (snext_in (n := 4) HC0.out.tape (by omega) (by omega)).mono ?_
    rintro e w3 ⟨n0, hn0, rfl, ht3, ho3⟩
    have HC3 := Lib.hid (HC0.out.only' ho3 ht3)
    clear HC0 ht3 ho3
    go_wp2_with fail
    go_loopw [6, 7] (fun dv nv wr => ∃ (dy j : Int) (hs : List Int) (v : Value), 0 ≤ dy ∧ dv = .int .i64 dy ∧ 0 ≤ j ∧ nv = .int .i64 j ∧ hs.length + j ≤ 3 ∧ dy ≤ 20 * hs.length ∧ ascB (-1) hs = true ∧ (∀ y ∈ hs, y < dy + 1) ∧ PC w wr B b w.heap.size w1.heap.size wc.heap.size z A kz hs v) (fun _ nv _ => (intOf nv).toNat)
    case atStart => exact ⟨0, n0, [], _, by omega, rfl, by omega, rfl, by simp; omega, by simp, rfl, by simp, HC3.out⟩
    case round =>
      obtain ⟨dy, j, hs, v, hdy, rfl, hj, rfl, hhj, hdy2, hasc, hlt, hPC⟩ := hrel
      have HA := Lib.hid hasc
      have HL := Lib.hid hlt
      have HC := Lib.hid hPC
      clear HC3 hasc hlt hPC
      by_cases hjp : 0 < j
      · have hl2 : hs.length ≤ 2 := by omega
        go_wp2_with fail
        refine (snext_in (n := 20) HC.out.tape (by omega) (by omega)).mono ?_
        rintro e w5 ⟨k, hk, rfl, ht5, ho5⟩
        have HC5 := Lib.hid (HC.out.only' ho5 ht5)
        clear HC ht5 ho5
        have c8 := HC5.out.c8
        have hH := HC5.out.hH
        go_wp2_with (at_builtin; refine wpl_pushB elInt rfl _ _ rfl HC5.out.own hH rfl #[.int .i64 (dy + 1 + (k : Int))] rfl rfl rfl (by omega) (by decide) ?_; intro v' w9 hO9 hg9; have c89 := HC5.out.c89 hg9; have f89 := HC5.out.f89 hg9; have HC9 := Lib.hid (HC5.out.pushed hO9 hg9); obtain ⟨g9, cap9, rfl⟩ := own_shape hO9; clear hO9 hg9)

        clear c8 c89 f89 HC5
        go_roundw
        case rel => exact ⟨dy + 1 + (k : Int), j - 1, hs ++ [dy + 1 + (k : Int)], _, by omega, rfl, by omega, rfl, by rw [List.length_append]; simp; omega, by rw [List.length_append]; simp; omega, asc_snoc HA.out (by omega) (fun y hy => by have := HL.out y hy; omega) (by omega) (by omega), snoc_lt (fun y hy => by have := HL.out y hy; omega) (by omega), HC9.out⟩
        case measure => simp [intOf]; omega
      · obtain ⟨Ac, kc, rfl, hca, hAc⟩ := HC.out.cal (by omega)
        have HCA := Lib.hid hca
        have HAC := Lib.hid hAc
        have hj3 : hs.length ≤ 3 := by omega
        have HCB := Lib.hid (show BlkAt wr wc.heap.size (cV (cW hs) Ac kc) 35 from HC.out.cb)
        clear hca hAc
        have zc0 : wr.cell? ⟨w1.heap.size, 0, none⟩ = some (.string z.name) := HC.out.zb.cell rfl
        have zc1 : wr.cell? ⟨w1.heap.size, 1, none⟩ = some (.int .i64 z.off) := HC.out.zb.cell rfl
        have zc2 : wr.cell? ⟨w1.heap.size, 2, none⟩ = some (.slice A z.cs.length kz) := HC.out.zb.cell rfl
        have cc0 : wr.cell? ⟨wc.heap.size, 0, none⟩ = some (.string daysB) := HCB.out.cell rfl
        have cc1 : wr.cell? ⟨wc.heap.size, 1, none⟩ = some (.bool false) := HCB.out.cell rfl
        have cc2 : wr.cell? ⟨wc.heap.size, 2, none⟩ = some (.bool false) := HCB.out.cell rfl
        have cc3 : wr.cell? ⟨wc.heap.size, 3, none⟩ = some (.bool false) := HCB.out.cell rfl
        have cc4 : wr.cell? ⟨wc.heap.size, 4, none⟩ = some (.bool false) := HCB.out.cell rfl
        have cc5 : wr.cell? ⟨wc.heap.size, 5, none⟩ = some (.bool false) := HCB.out.cell rfl
        have cc6 : wr.cell? ⟨wc.heap.size, 6, none⟩ = some (.bool true) := HCB.out.cell rfl
        have cc7 : wr.cell? ⟨wc.heap.size, 7, none⟩ = some (.bool true) := HCB.out.cell rfl
        have cc8 : wr.cell? ⟨wc.heap.size, 8, none⟩ = some (.slice Ac hs.length kc) := HCB.out.cell rfl
        go_wp2_with (((with_reducible refine wpl_store rfl 37 _ _ rfl _ (pV z A kz (cW hs) Ac kc) ?_ ?_ HC.out.rb (rowP ..) ?_ ?_); exact rfl; exact rfl; exact rfl))
        exact bodyPost_ret (v := .agg (pV z A kz (cW hs) Ac kc)) (res_c rfl rfl (HC.out.rb.set _) (rowP ..)) rfl (HC.out.fin HCA.out HAC.out HZO.out HA.out hj3)
end Go.Proofs.YtbfllcfjgpkpaaaGreat
