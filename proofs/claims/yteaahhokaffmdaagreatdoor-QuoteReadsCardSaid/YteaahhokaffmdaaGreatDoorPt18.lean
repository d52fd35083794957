/- What the laws lean on. -/
import Derived.Test.YteaahhokaffmdaaGreatDoorPt16
import Derived.Deep.DeepAppendRoom
namespace Go.Proofs.YteaahhokaffmdaaGreatDoor
set_option linter.unusedVariables false
set_option linter.unusedSimpArgs false
section
section
open Go.ChangeShapes Go.WideShapes Go.ChangeAt Go.RowKit
theorem cell_al {w : World} (o : Obj) {b off : Nat} {r : Option Value} (h : b < w.heap.size) (hc : w.cell? ⟨b, off, none⟩ = r) : (w.alloc o).cell? ⟨b, off, none⟩ = r := (World.cell?_alloc_lt w o ⟨b, off, none⟩ h).trans hc
theorem blt {w : World} {b off : Nat} {v : Value} (h : w.cell? ⟨b, off, none⟩ = some v) : b < w.heap.size := World.block_lt_of_cell? _ _ h
end
section
open Go.RowKit
theorem cell_far {w : World} {b o b' o' : Nat} {v : Value} {r : Option Value} (h : b ≠ b' ∨ o ≠ o') (hc : w.cell? ⟨b', o', none⟩ = r) : (w.setCell ⟨b, o, none⟩ v).cell? ⟨b', o', none⟩ = r :=
 (World.cell?_setCell_other _ _ _ _ (by intro e; injection e with h1 h2; rcases h with h | h <;> contradiction)).trans hc
end
end
section
section
open Go.RowKit
structure CN where
 name : ByteArray
 w0 : Bool
 w1 : Bool
 w2 : Bool
 w3 : Bool
 w4 : Bool
 w5 : Bool
 w6 : Bool
 hs : List Int
def CN.wk (c : CN) : Nat → Bool
 | 0 => c.w0
 | 1 => c.w1
 | 2 => c.w2
 | 3 => c.w3
 | 4 => c.w4
 | 5 => c.w5
 | 6 => c.w6
 | _ => false
def CN.off (c : CN) (d : Int) : Bool := c.wk ((d + 5) % 7).toNat
end
end
section
open Go.RowKit
theorem dr_c19 {i : Nat} (h : i < 19) : i = 0 ∨ i = 1 ∨ i = 2 ∨ i = 3 ∨ i = 4 ∨ i = 5 ∨ i = 6 ∨ i = 7 ∨ i = 8 ∨ i = 9 ∨ i = 10 ∨ i = 11 ∨ i = 12 ∨ i = 13 ∨ i = 14 ∨ i = 15 ∨ i = 16 ∨ i = 17 ∨ i = 18 := by omega
end
section
section
open Go.RowKit
def foldI (x n : Int) : Int := if n ≤ 1 then 0 else x % n
theorem fold_lt (x n : Int) : 0 ≤ foldI x n ∧ foldI x n < max n 1 := by
 unfold foldI
 split
 ·omega
 ·have h1 := Int.emod_nonneg x (b := n) (by omega)
  have h2 := Int.emod_lt_of_pos x (b := n) (by omega)
  omega
theorem tmod_neg {x n : Int} (hn : 1 < n) (hN : n ≤ 9223372036854775807) (h : x.tmod n < 0) : RowKit.wrap64 (x.tmod n + n) = x % n := by
 have h1 : x.tmod n = x % n - n := by
  rw [Int.tmod_eq_emod] at h ⊢
  split at h
  ·have := Int.emod_nonneg x (b := n) (by omega); omega
  ·rename_i hx
   rw [if_neg hx, Int.natAbs_of_nonneg (by omega)]
 have h2 := Int.emod_nonneg x (b := n) (by omega)
 have h3 := Int.emod_lt_of_pos x (b := n) (by omega)
 rw [h1]
 unfold RowKit.wrap64
 omega
theorem tmod_pos {x n : Int} (hn : 1 < n) (h : 0 ≤ x.tmod n) : x.tmod n = x % n := by
 rw [Int.tmod_eq_emod] at h ⊢
 split
 ·omega
 ·rename_i hx
  rw [if_neg hx, Int.natAbs_of_nonneg (by omega)] at h
  have := Int.emod_lt_of_pos x (b := n) (by omega)
  omega
theorem fold_any (x n : Int) (w : World) (hN : n ≤ 9223372036854775807) : Calls Tryz.prog 42 #[.int .i64 x, .int .i64 n] w (RetW (.int .i64 (foldI x n)) w) := by
 by_cases h : n ≤ 1
 ·go_enter Tryz.func42, Tryz.ntmps42
  go_wp2
  go_ret
  exact ⟨ret_int (by unfold foldI; rw [if_pos h]), rfl⟩
 ·have h1 : 1 < n := by omega
  have hf : foldI x n = x % n := by unfold foldI; rw [if_neg h]
  have HF := Lib.hid hf
  clear hf h
  by_cases ht : x.tmod n < 0
  ·have hw := Lib.hid (tmod_neg h1 hN ht)
   clear hN
   go_enter Tryz.func42, Tryz.ntmps42
   go_wp2
   go_ret
   exact ⟨ret_int (hw.out.trans HF.out.symm), rfl⟩
  ·have hw := Lib.hid (tmod_pos (x := x) h1 (by omega))
   have ht' : 0 ≤ x.tmod n := by omega
   clear hN ht
   go_enter Tryz.func42, Tryz.ntmps42
   go_wp2
   go_ret
   exact ⟨ret_int (hw.out.trans HF.out.symm), rfl⟩
theorem TapeAt.less {w : World} {B b n m : Nat} (h : TapeAt w B b n) (hm : m ≤ n) : TapeAt w B b m := by
 obtain ⟨hb, A, L, cap, p, hl, hp, hc, he⟩ := h
 exact ⟨hb, A, L, cap, p, hl, by omega, hc, he⟩
theorem TapeAt.drewN {w : World} {B b n : Nat} (h : TapeAt w B b n) (k : Nat) : TapeAt (w.drewN k) B b n := h.below (below_drewN (Below.refl _ _) k)
theorem only_set {b : Nat} {x y : World} (h : Only b x y) {p : Addr} (hp : p.block = b ∨ x.heap.size ≤ p.block) (v : Value) : Only b x (y.setCell p v) :=
 ⟨h.os, h.tape, h.output, by simpa [World.setCell] using h.size, fun i hi hne => (Below.heap_setCell y p v i (by
  rintro rfl
  rcases hp with hp | hp
  ·exact hne (by rw [hp])
  ·omega)).trans (h.block i hi hne)⟩
theorem only_drewN {b : Nat} {x y : World} (h : Only b x y) (n : Nat) : Only b x (y.drewN n) := only_trans h (only_below (below_drewN (Below.refl _ _) n))
theorem only_cell {b : Nat} {x y : World} (h : Only b x y) {g o : Nat} {r : Option Value} (hl : g < x.heap.size) (hne : g ≠ b) (hc : x.cell? ⟨g, o, none⟩ = r) : y.cell? ⟨g, o, none⟩ = r :=
 (World.cell?_of_block (w := x) (h.block g hl (by intro e; injection e with e; exact hne e))).trans hc
theorem only_to_below {b B : Nat} {x y : World} (h : Only b x y) (hB : B ≤ b) (hx : B ≤ x.heap.size) : Below B x y :=
 ⟨h.os, h.tape, h.output, h.size, fun i hi => h.block i (by omega) (by intro e; injection e with e; omega)⟩
def NextP (n : Int) (B b N : Nat) (w : World) (e : Ending) (w' : World) : Prop :=
 ∃ k : Nat, (k : Int) < max n 1 ∧ e = .returned (.int .i64 k) ∧ TapeAt w' B b N ∧ Only b w w'
set_option maxHeartbeats 1000000 in
theorem next_any (n : Int) (B b N : Nat) (w : World) (h : TapeAt w B b (N + 1)) (hn : n ≤ 9223372036854775807) :
  Calls Tryz.prog 19 #[.pointer (some ⟨b, 0, none⟩), .int .i64 n] w (NextP n B b N w) := by
 have hlt := h.lt
 obtain ⟨hB, A, L, cap, p, hl, hp, hblk, he⟩ := h
 have q0 : w.cell? ⟨b, 0, none⟩ = some (.slice A L.length cap) := by simp [World.cell?, hblk]
 have q1 : w.cell? ⟨b, 1, none⟩ = some (.int .i64 p) := by simp [World.cell?, hblk]
 have q2 : w.frozen? ⟨b, 1, none⟩ = false := by simp [World.frozen?, hblk]
 have HB := Lib.hid hblk
 have HE := Lib.hid he
 clear hblk he
 have fin : ∀ (x : Int) (nq : Nat), NextP n B b N w (.returned (.int .i64 (foldI x n))) ((w.drewN nq).setCell ⟨b, 1, none⟩ (.int .i64 (p + 1))) := by
  intro x nq
  obtain ⟨f1, f2⟩ := fold_lt x n
  refine ⟨(foldI x n).toNat, by omega, ret_int (by omega), ⟨hB, A, L, cap, p + 1, hl, by omega, ?_, fun k x hx => ?_⟩, only_set (only_drewN (only_refl _ _) _) (.inl rfl) _⟩
  ·have := HB.out
   show ((w.drewN nq).heap.modify b _)[b]? = _
   rw [Array.getElem?_modify, if_pos rfl]
   show (w.heap[b]?).map _ = _
   rw [this]
   rfl
  ·obtain ⟨bb, o, hA, hlt', hc⟩ := HE.out k x hx
   exact ⟨bb, o, hA, hlt', cell_far (by omega) hc⟩
 have FIN := Lib.hid fin
 clear fin
 by_cases hpl : p < L.length
 ·obtain ⟨bb, o, rfl, hbb, hc⟩ := HE.out p L[p] (List.getElem?_eq_getElem hpl)
  generalize L[p] = x at hc
  go_enter Tryz.func19, Tryz.ntmps19
  go_wp2
  go_quiet (fail)
  go_wp2
  go_quiet (fail)
  go_wp2_with (go_at_call 42; refine (fold_any _ _ _ hn).mono ?_; rintro e w' ⟨rfl, rfl⟩)
  go_ret
  exact FIN.out _ _
 ·go_enter Tryz.func19, Tryz.ntmps19
  go_wp2
  go_quiet (fail)
  go_wp2_with (go_at_call 42; refine (fold_any _ _ _ hn).mono ?_; rintro e w' ⟨rfl, rfl⟩)
  go_ret
  exact FIN.out _ _
theorem next_in {n : Int} {B b N : Nat} {w : World} (h : TapeAt w B b (N + 1)) (hn : 1 ≤ n) (hn2 : n ≤ 9223372036854775807) :
  Calls Tryz.prog 19 #[.pointer (some ⟨b, 0, none⟩), .int .i64 n] w fun e w' => ∃ k : Nat, (k : Int) < n ∧ e = .returned (.int .i64 k) ∧ TapeAt w' B b N ∧ Only b w w' :=
 (next_any n B b N w h hn2).mono fun _ _ ⟨k, hk, he, ht, ho⟩ => ⟨k, by omega, he, ht, ho⟩
def PickP (xs : List Int) (B b N : Nat) (w : World) (e : Ending) (w' : World) : Prop :=
 ∃ v : Int, v ∈ xs ∧ e = .returned (.int .i64 v) ∧ TapeAt w' B b N ∧ Only b w w'
theorem pick_any (xs : List Int) (g : Nat) (B b N : Nat) (w : World) (h : TapeAt w B b (N + 1)) (hx : 0 < xs.length) (hx2 : xs.length ≤ 1000) (hg : g < w.heap.size) (hgb : g ≠ b) (c : Nat)
  (hc : ∀ k x, xs[k]? = some x → w.cell? ⟨g, k, none⟩ = some (.int .i64 x)) :
  Calls Tryz.prog 30 #[.pointer (some ⟨b, 0, none⟩), .slice (some ⟨g, 0, none⟩) xs.length c] w (PickP xs B b N w) := by
 have hne : ((xs.length : Int) == 0) = false := beq_eq_false_iff_ne.2 (by omega)
 have HC := Lib.hid hc
 clear hc
 go_enter Tryz.func30, Tryz.ntmps30
 go_wp2_with fail
 refine (next_in h (by omega) (by omega)).mono ?_
 rintro e w1 ⟨k, hk, rfl, ht, ho⟩
 have hkl : k < xs.length := by omega
 have hcell := only_cell ho hg hgb (HC.out k xs[k] (List.getElem?_eq_getElem hkl))
 have hmem : xs[k] ∈ xs := List.getElem_mem hkl
 have HM := Lib.hid hmem
 clear hmem
 generalize xs[k] = x at *
 go_wp2
 go_ret
 exact ⟨x, HM.out, rfl, ht, ho⟩
def OneP (xs : List ByteArray) (B b N : Nat) (w : World) (e : Ending) (w' : World) : Prop :=
 ∃ v : ByteArray, v ∈ xs ∧ e = .returned (.string v) ∧ TapeAt w' B b N ∧ Only b w w'
theorem one_any (xs : List ByteArray) (g : Nat) (B b N : Nat) (w : World) (h : TapeAt w B b (N + 1)) (hx : 0 < xs.length) (hx2 : xs.length ≤ 1000) (hg : g < w.heap.size) (hgb : g ≠ b) (c : Nat)
  (hc : ∀ k x, xs[k]? = some x → w.cell? ⟨g, k, none⟩ = some (.string x)) :
  Calls Tryz.prog 29 #[.pointer (some ⟨b, 0, none⟩), .slice (some ⟨g, 0, none⟩) xs.length c] w (OneP xs B b N w) := by
 have hne : ((xs.length : Int) == 0) = false := beq_eq_false_iff_ne.2 (by omega)
 have HC := Lib.hid hc
 clear hc
 go_enter Tryz.func29, Tryz.ntmps29
 go_wp2_with fail
 refine (next_in h (by omega) (by omega)).mono ?_
 rintro e w1 ⟨k, hk, rfl, ht, ho⟩
 have hkl : k < xs.length := by omega
 have hcell := only_cell ho hg hgb (HC.out k xs[k] (List.getElem?_eq_getElem hkl))
 have hmem : xs[k] ∈ xs := List.getElem_mem hkl
 have HM := Lib.hid hmem
 clear hmem
 generalize xs[k] = x at *
 go_wp2
 go_ret
 exact ⟨x, HM.out, rfl, ht, ho⟩
def ChanceP (B b N : Nat) (w : World) (e : Ending) (w' : World) : Prop :=
 ∃ v : Bool, e = .returned (.bool v) ∧ TapeAt w' B b N ∧ Only b w w'
theorem chance_any (m n : Int) (B b N : Nat) (w : World) (h : TapeAt w B b (N + 1)) (hn : 1 ≤ n) (hn2 : n ≤ 1000000) :
  Calls Tryz.prog 44 #[.pointer (some ⟨b, 0, none⟩), .int .i64 m, .int .i64 n] w (ChanceP B b N w) := by
 go_enter Tryz.func44, Tryz.ntmps44
 go_wp2_with fail
 refine (next_in h (by omega) (by omega)).mono ?_
 rintro e w1 ⟨k, hk, rfl, ht, ho⟩
 go_wp2
 go_ret
 exact ⟨_, rfl, ht, ho⟩
def DayP (B b N : Nat) (w : World) (e : Ending) (w' : World) : Prop :=
 ∃ v : Int, 0 ≤ v ∧ v ≤ 73048 ∧ e = .returned (.int .i64 v) ∧ TapeAt w' B b N ∧ Only b w w'
end
section
open Go.RowKit
theorem cells_new (w : World) (vs : List Value) (t : TypeId) : ∀ (k : Nat) (v : Value), vs[k]? = some v → (w.alloc (.cells vs.toArray t)).cell? ⟨w.heap.size, k, none⟩ = some v := by
 intro k v h
 rw [World.cell?_alloc_new]
 simpa using h
theorem pick_new (xs : List Int) {vs : List Value} (hvs : vs = xs.map (Value.int .i64)) {B b N : Nat} {w : World} (h : TapeAt w B b (N + 1)) (hx : 0 < xs.length) (hx2 : xs.length ≤ 1000) {n c g : Nat} (hn : xs.length = n) (hg : w.heap.size = g) :
  Calls Tryz.prog 30 #[.pointer (some ⟨b, 0, none⟩), .slice (some ⟨g, 0, none⟩) n c] (w.alloc (.cells vs.toArray 3)) (PickP xs B b N w) := by
 subst hg
 have hlt := h.lt
 have hc := pick_any xs w.heap.size B b N (w.alloc (.cells vs.toArray 3)) (h.alloc _) hx hx2 (by simp) (by omega) c (fun k x hk => cells_new w vs _ k _ (by rw [hvs, List.getElem?_map, hk]; rfl))
 rw [hn] at hc
 refine hc.mono ?_
 rintro e w' ⟨v, hv, he, ht, ho⟩
 exact ⟨v, hv, he, ht, only_trans (only_below (bal0 w _)) ho⟩
set_option maxHeartbeats 1000000 in
theorem day_any (B b N : Nat) (w : World) (h : TapeAt w B b (N + 2)) : Calls Tryz.prog 17 #[.pointer (some ⟨b, 0, none⟩)] w (DayP B b N w) := by
 go_enter Tryz.func17, Tryz.ntmps17
 go_wp2_with fail
 refine (next_in (N := N + 1) h (by omega) (by omega)).mono ?_
 rintro e w1 ⟨k, hk, rfl, ht, ho⟩
 by_cases k0 : k = 0
 ·subst k0
  go_wp2_with fail
  refine (next_in (N := N) ht (by omega) (by omega)).mono ?_
  rintro e w2 ⟨j, hj, rfl, ht2, ho2⟩
  go_wp2
  go_ret
  exact ⟨j, by omega, by omega, rfl, ht2, only_trans ho ho2⟩
 ·have b0 : ((k : Int) == 0) = false := beq_eq_false_iff_ne.2 (by omega)
  by_cases k1 : k = 1
  ·subst k1
   clear k0
   go_wp2_with fail
   refine (next_in (N := N) ht (by omega) (by omega)).mono ?_
   rintro e w2 ⟨j, hj, rfl, ht2, ho2⟩
   go_wp2
   go_ret
   exact ⟨73048 - j, by omega, by omega, rfl, ht2, only_trans ho ho2⟩
  ·have b1 : ((k : Int) == 1) = false := beq_eq_false_iff_ne.2 (by omega)
   by_cases k2 : k = 2
   ·subst k2
    clear k0 k1
    go_wp2_with fail
    refine (next_in (N := N) ht (by omega) (by omega)).mono ?_
    rintro e w2 ⟨j, hj, rfl, ht2, ho2⟩
    go_wp2
    go_ret
    exact ⟨j, by omega, by omega, rfl, ht2, only_trans ho ho2⟩
   ·have b2 : ((k : Int) == 2) = false := beq_eq_false_iff_ne.2 (by omega)
    by_cases k3 : k = 3
    ·subst k3
     clear k0 k1 k2
     go_wp2_with fail
     refine (pick_new [59, 60, 365, 366, 1520, 8825, 36584, 36583, 36525, 9861, 9862] rfl (N := N) ht (by decide) (by decide) rfl (by simp)).mono ?_
     rintro e w2 ⟨v, hv, rfl, ht2, ho2⟩
     have hv2 : 0 ≤ v ∧ v ≤ 73048 := by simp at hv; omega
     have HV := Lib.hid hv2
     clear hv hv2
     go_wp2
     go_ret
     exact ⟨v, HV.out.1, HV.out.2, rfl, ht2, only_trans ho ho2⟩
    ·have b3 : ((k : Int) == 3) = false := beq_eq_false_iff_ne.2 (by omega)
     go_wp2_with fail
     refine (next_in (N := N) ht (by omega) (by omega)).mono ?_
     rintro e w2 ⟨j, hj, rfl, ht2, ho2⟩
     go_wp2
     go_ret
     exact ⟨9487 + j, by omega, by omega, rfl, ht2, only_trans ho ho2⟩
end
end
section
open Go.RowKit
def TapP (R : Value → Prop) (B b N : Nat) (w : World) (e : Ending) (w' : World) : Prop := ∃ v, R v ∧ e = .returned v ∧ TapeAt w' B b N ∧ Only b w w'
section
variable {w0 u W W' : World} {L : List Ent} {B b N : Nat}
theorem Tp.less (h : Tp w0 u B b N) {M : Nat} (hm : M ≤ N) : Tp w0 u B b M := ⟨h.only, h.tape.less hm⟩
theorem fr_tap {P : Program} {f : FuncId} {args : Array Value} {R : Value → Prop} {M : Nat} {post : Ending → World → Prop} (F : Fr u W L) (T : Tp w0 u B b M) (hc : Calls P f args W (TapP R B b N W))
  (hk : ∀ v u' W', R v → Tp w0 u' B b N → Fr u' W' L → post (.returned v) W') : Calls P f args W post := by
 refine hc.mono ?_
 rintro e W' ⟨v, hv, rfl, hT, ho⟩
 obtain ⟨u', h1, h2, h3⟩ := F.tape T.tape hT ho
 exact hk v u' W' hv ⟨only_trans T.only h1, h2⟩ h3
theorem tap_end {R : Value → Prop} {v : Value} (T : Tp w0 u B b N) (F : Fr u W L) (hv : R v) : TapP R B b N w0 (.returned v) W := ⟨v, hv, rfl, T.at F, T.out F⟩
theorem tnext (n : Int) (hn : 1 ≤ n) (hn2 : n ≤ 9223372036854775807) (h : TapeAt W B b (N + 1)) : Calls Tryz.prog 19 #[.pointer (some ⟨b, 0, none⟩), .int .i64 n] W (TapP (fun v => ∃ k : Nat, v = .int .i64 k ∧ (k : Int) < n) B b N W) :=
 (next_in h hn hn2).mono fun _ _ ⟨k, hk, he, ht, ho⟩ => ⟨_, ⟨k, rfl, hk⟩, he, ht, ho⟩
theorem tchance (m n : Int) (hn : 1 ≤ n) (hn2 : n ≤ 1000000) (h : TapeAt W B b (N + 1)) : Calls Tryz.prog 44 #[.pointer (some ⟨b, 0, none⟩), .int .i64 m, .int .i64 n] W (TapP (fun v => ∃ c, v = .bool c) B b N W) :=
 (chance_any m n B b N W h hn hn2).mono fun _ _ ⟨k, he, ht, ho⟩ => ⟨_, ⟨k, rfl⟩, he, ht, ho⟩
theorem tpick (xs : List Int) {g c n : Nat} {t : TypeId} (hn : xs.length = n) (hx : 0 < xs.length) (hx2 : xs.length ≤ 1000) (hg : BlkAt W g (xs.map (Value.int .i64)).toArray t) (hgb : g ≠ b) (h : TapeAt W B b (N + 1)) :
  Calls Tryz.prog 30 #[.pointer (some ⟨b, 0, none⟩), .slice (some ⟨g, 0, none⟩) n c] W (TapP (fun v => ∃ k : Int, v = .int .i64 k ∧ k ∈ xs) B b N W) := by
 subst hn
 exact (pick_any xs g B b N W h hx hx2 hg.lt hgb c (fun k x hk => hg.cell (by simp [hk]))).mono fun _ _ ⟨k, hk, he, ht, ho⟩ => ⟨_, ⟨k, rfl, hk⟩, he, ht, ho⟩
theorem tone (xs : List ByteArray) {g c n : Nat} {t : TypeId} (hn : xs.length = n) (hx : 0 < xs.length) (hx2 : xs.length ≤ 1000) (hg : BlkAt W g (xs.map Value.string).toArray t) (hgb : g ≠ b) (h : TapeAt W B b (N + 1)) :
  Calls Tryz.prog 29 #[.pointer (some ⟨b, 0, none⟩), .slice (some ⟨g, 0, none⟩) n c] W (TapP (fun v => ∃ k : ByteArray, v = .string k ∧ k ∈ xs) B b N W) := by
 subst hn
 exact (one_any xs g B b N W h hx hx2 hg.lt hgb c (fun k x hk => hg.cell (by simp [hk]))).mono fun _ _ ⟨k, hk, he, ht, ho⟩ => ⟨_, ⟨k, rfl, hk⟩, he, ht, ho⟩
end
end
section
open Go.RowKit
theorem flatC_ints (k : IntKind) (l : List Int) : flatC (l.map (Value.int k)) = (l.map (Value.int k)).toArray := by
 unfold flatC
 congr 1
 induction l with
 | nil => rfl
 | cons x l ih => rw [List.map_cons, List.flatMap_cons, ih]; rfl
section
variable {P : Program} {o : Oper} {a : Act} {w W : World} {F : List Ent} {K : Act → World → Prop} {Q : Exit → Act → World → Prop} {t e : TypeId} {s : Nat} {parts : Array (Nat × Operand)} {len : Nat} {vs : List Value} {ops : Array Oper} {rest : List Oper} {dst : Option Tmp} {ty : TypeId} {pos : String} {af : Array Edge} {gd : Option (Nat × Bool)}
theorem gSli (h : Fr w W F) (hT : SlT P t e s) (hix : parts.toList.map (·.1) = List.range' 0 parts.toList.length) (hl : parts.toList.length = len) (hs : 0 < len * s) (hs2 : len * s ≤ 2 ^ 24) (hv : (parts.toList.map fun x => a.eval x.2) = vs) (h1 : vs.all (fun v => v.cells.size == s) = true)
  (hk : Hold (∀ b W', Fr w W' ((b, flatC vs, e) :: F) → K (a.put dst (.slice (some ⟨b, 0, none⟩) len len)) W')) : OpW P ⟨dst, .buildSlice t len parts, ty, pos, af, gd⟩ a W K Q := op_bslice h hT rfl hix hl hs hs2 hv h1 hk
end
def RetP (R : Value → Prop) (w : World) (e : Ending) (w' : World) : Prop := ∃ v, R v ∧ e = .returned v ∧ Below w.heap.size w w'
theorem fr_callP {P : Program} {f : FuncId} {args : Array Value} {R : Value → Prop} {post : Ending → World → Prop} {w W : World} {F : List Ent} (h : Fr w W F) (hc : Calls P f args W (RetP R W)) (hk : ∀ v W', R v → Fr w W' F → post (.returned v) W') : Calls P f args W post := by
 refine hc.mono ?_
 rintro e W' ⟨v, hv, rfl, hb⟩
 exact hk v W' hv (h.next hb)
theorem Calls.retP {P : Program} {f : FuncId} {args : Array Value} {R : Value → Prop} {v : Value} {w : World} (h : Calls P f args w (RetB v w)) (hv : R v) : Calls P f args w (RetP R w) :=
 h.mono fun e W ⟨he, hb⟩ => ⟨v, hv, he, hb⟩
end
section
open Go.RowKit
section
variable {P : Program} {a : Act} {w W : World} {K : Act → World → Prop} {Q : Exit → Act → World → Prop} {F A L : List Ent} {b k : Nat} {cs cs' : Array Value} {t T : TypeId} {x y : Operand} {ops : Array Oper} {rest : List Oper} {dst : Option Tmp} {ty : TypeId} {pos : String} {af : Array Edge} {gd : Option (Nat × Bool)} {v v0 : Value}
theorem fSc (h : Fr w W F) (hw : Region.wanted ⟨none, .store T x y, ty, pos, af, gd⟩ (yielded ops a.tmps) = true) (hx : a.eval x = .pointer (some ⟨b, k, none⟩)) (hy : a.eval y = v) (hl : Lies F A b cs t L) (hT : ScT P T) (h1 : v.oneCell' = true) (hc : cs[k]? = some v0) (he : cs.setIfInBounds k v = cs') (hk : ∀ W', Fr w W' (A ++ (b, cs', t) :: L) → wpList P ops Q rest a W') : wpList P ops Q (⟨none, .store T x y, ty, pos, af, gd⟩ :: rest) a W :=
 wpList_want hw fun K hK => (gSc h hx hy hl hT h1 hc he (fun W' F' => hK _ _ (hk W' F'))).out
end
end
section
section
section
open Go.RowKit
set_option maxHeartbeats 2000000
theorem CV.last {n y m d : Int} (h : CV n y m d) : CV (n + lenM y m - d) y m (lenM y m) :=
 ⟨h.y1, h.y2, h.m1, h.m2, by have := len_bd y m; omega, by omega, by have := h.eq; omega⟩
end
end
end
section
section
section
open Go.RowKit
set_option maxHeartbeats 4000000
theorem bdN {B : Nat} {a w : World} (h : Below B a w) (q : Nat) : Below B a (w.drewN q) := ⟨h.os, h.tape, h.output, h.size, h.block⟩
end
end
end
section
open Go.RowKit
set_option maxHeartbeats 4000000
set_option maxRecDepth 100000 in
theorem rMChk_any (l : List MK) (A : Option Addr) (cp : Nat) (w : World) (h : MkAt w A l) {v : Int} (hv : mkErr l = v) : Calls Tryz.prog 41 #[.slice A l.length cp] w (RetB (.int .i64 v) w) := by
 have hln := h.ln
 have HV := Lib.hid hv
 clear hv
 by_cases hl : l.length ≤ 4096
 ·go_enter Tryz.func41, Tryz.ntmps41
  go_wp2
  go_loopw [3] (fun iv wr => ∃ i : Nat, i ≤ l.length ∧ iv = .int .i64 i ∧ (0 ≤ prevM l i ∧ mksFrom 0 l = mksFrom (prevM l i) (l.drop i)) ∧ MkAt wr A l ∧ Below w.heap.size w wr) (fun iv _ => l.length - (intOf iv).toNat)
  case atStart => exact ⟨0, by omega, rfl, ⟨Int.le_refl _, rfl⟩, h, Below.refl _ _⟩
  case round =>
   obtain ⟨i, hi, rfl, ⟨hp0, hE⟩, hS, hB⟩ := hrel
   have HE := Lib.hid hE
   clear h hE
   by_cases hlt : i < l.length
   ·obtain ⟨b, o, x, rfl, hx, hbl, hsm, q0, q1, q2⟩ := hS.get hlt
    unfold maxLen at hsm
    have HX := Lib.hid hx
    obtain ⟨pm, hpm⟩ : ∃ pm, prevM l i = pm := ⟨_, rfl⟩
    rw [hpm] at hp0
    have HPM := Lib.hid hpm
    obtain ⟨t1, ht1⟩ : ∃ t, decide (x.key.size < 1) = t := ⟨_, rfl⟩
    obtain ⟨t2, ht2⟩ : ∃ t, decide (64 < x.key.size) = t := ⟨_, rfl⟩
    obtain ⟨t3, ht3⟩ : ∃ t, decide (x.known < 1) = t := ⟨_, rfl⟩
    obtain ⟨t4, ht4⟩ : ∃ t, decide (2147483647 < x.known) = t := ⟨_, rfl⟩
    obtain ⟨t5, ht5⟩ : ∃ t, decide (x.known ≤ pm) = t := ⟨_, rfl⟩
    have hc : (x.ok && decide (pm < x.known)) = !(t1 || t2 || t3 || t4 || t5) := by
     rw [← ht1, ← ht2, ← ht3, ← ht4, ← ht5, Bool.eq_iff_iff, Bool.and_eq_true, MK.ok_iff]
     simp only [Bool.not_eq_true', Bool.or_eq_false_iff, decide_eq_false_iff_not, decide_eq_true_eq]
     omega
    have HC := Lib.hid hc
    have HT := Lib.hid (And.intro ht3 (And.intro ht4 ht5))
    have u1 : decide ((x.key.size : Int) < 1) = t1 := by rw [← ht1, decide_eq_decide]; omega
    have u2 : decide ((64 : Int) < x.key.size) = t2 := by rw [← ht2, decide_eq_decide]; omega
    clear hc hpm
    have key : (t1 || t2 || t3 || t4 || t5) = true → v = 130 := fun h => by rw [← HV.out]; exact mk_bad hl HX.out HE.out (by rw [HPM.out, HC.out, h]; rfl)
    have key2 : (t1 || t2 || t3 || t4 || t5) = false → mksFrom 0 l = mksFrom (prevM l (i + 1)) (l.drop (i + 1)) ∧ 0 ≤ prevM l (i + 1) := fun h => ⟨mk_next HX.out HE.out (by rw [HPM.out, HC.out, h]; rfl), by
     rw [prevM_succ HX.out]
     have h5 : t5 = false := by revert h; cases t5 <;> simp
     have := ht5
     rw [h5, decide_eq_false_iff_not] at this
     omega⟩
    have HK := Lib.hid key
    have HK2 := Lib.hid key2
    clear key key2
    rcases Nat.eq_zero_or_pos i with hi0 | hi0
    ·have d0 : decide (0 < i) = false := by simpa using hi0
     have h5 : t5 = true → t3 = true := by
      intro h
      rw [h, decide_eq_true_eq] at ht5
      have h0 : pm = 0 := by rw [← HPM.out, hi0]; rfl
      rw [← ht3, decide_eq_true_eq]
      omega
     have H5 := Lib.hid h5
     have HS := Lib.hid hS
     clear hi0 hx hS h5 ht5
     cases t1
     ·cases t2
      ·cases t3
       ·cases t4
        ·have h5 : t5 = false := by
          cases h : t5
          ·rfl
          ·exact absurd (H5.out h) (by decide)
         subst h5
         go_wp2
         go_quiet (fail)
         go_wp2
         go_roundw
         case rel => exact ⟨i + 1, by omega, by go_num, ⟨(HK2.out rfl).2, (HK2.out rfl).1⟩, HS.out.below ⟨rfl, rfl, rfl, Nat.le_refl _, fun _ _ => rfl⟩, bdN hB _⟩
         case measure => simp [intOf]; omega
        ·obtain rfl := HK.out (by simp)
         go_wp2
         go_quiet (fail)
         go_wp2
         go_ret
         exact ⟨rfl, bdN hB _⟩
       ·obtain rfl := HK.out (by simp)
        go_wp2
        go_quiet (fail)
        go_wp2
        go_ret
        exact ⟨rfl, bdN hB _⟩
      ·obtain rfl := HK.out (by simp)
       go_wp2
       go_quiet (fail)
       go_wp2
       go_ret
       exact ⟨rfl, bdN hB _⟩
     ·obtain rfl := HK.out (by simp)
      go_wp2
      go_quiet (fail)
      go_wp2
      go_ret
      exact ⟨rfl, bdN hB _⟩
    ·have d0 : decide (0 < i) = true := by simpa using hi0
     obtain ⟨b2, o2, y, e, hy, -, -, -, p1, -⟩ := hS.get (i := i - 1) (by omega)
     injection e with e
     injection e with e1 e2
     subst e1 e2
     have hpy : pm = y.known := by
      rw [← HPM.out]
      unfold prevM
      rw [if_neg (by omega), hy]
     subst hpy
     have z0 : IntKind.i64.wrap ((i : Int) - 1) = (i : Int) - 1 := IntWalk.i64_in _ (by omega)
     have z1 : (0 : Int) ≤ (i : Int) - 1 := by omega
     have z4 : (1 : Int) ≤ (i : Int) := by omega
     have z5 : 1 ≤ i := by omega
     have z2 : (i : Int) - 1 < (l.length : Int) := by omega
     have z3 : ((i : Int) - 1).toNat = i - 1 := by omega
     have HS := Lib.hid hS
     clear hi0 hx hS hy
     cases t1
     ·cases t2
      ·cases t3
       ·cases t4
        ·cases t5
         ·go_wp2
          go_quiet (fail)
          go_wp2
          go_roundw
          case rel => exact ⟨i + 1, by omega, by go_num, ⟨(HK2.out rfl).2, (HK2.out rfl).1⟩, HS.out.below ⟨rfl, rfl, rfl, Nat.le_refl _, fun _ _ => rfl⟩, bdN hB _⟩
          case measure => simp [intOf]; omega
         ·obtain rfl := HK.out (by simp)
          go_wp2
          go_quiet (fail)
          go_wp2
          go_ret
          exact ⟨rfl, bdN hB _⟩
        ·obtain rfl := HK.out (by simp)
         go_wp2
         go_quiet (fail)
         go_wp2
         go_ret
         exact ⟨rfl, bdN hB _⟩
       ·obtain rfl := HK.out (by simp)
        go_wp2
        go_quiet (fail)
        go_wp2
        go_ret
        exact ⟨rfl, bdN hB _⟩
      ·obtain rfl := HK.out (by simp)
       go_wp2
       go_quiet (fail)
       go_wp2
       go_ret
       exact ⟨rfl, bdN hB _⟩
     ·obtain rfl := HK.out (by simp)
      go_wp2
      go_quiet (fail)
      go_wp2
      go_ret
      exact ⟨rfl, bdN hB _⟩
   ·go_wp2
    go_ret
    obtain rfl : i = l.length := by omega
    exact ⟨ret_int (by rw [← HV.out, mk_end hl HE.out]), hB⟩
 ·have hres : v = 130 := by rw [← HV.out]; exact mkErr_long hl
  subst hres
  go_enter Tryz.func41, Tryz.ntmps41
  go_wp2
  go_ret
  exact ⟨rfl, Below.refl _ _⟩
end
section
open Go.RowKit
set_option maxHeartbeats 4000000
section
variable {w0 u W : World} {L : List Ent} {B b N : Nat}
theorem Fr.off (F : Fr u W L) {M : Nat} (T : Tp w0 u B b M) {A L' : List Ent} {g : Nat} {cs : Array Value} {t : TypeId} (hl : Lies L A g cs t L') : g ≠ b := by
 have h1 := T.tape.lt
 have h2 := F.own (g, cs, t) (by rw [hl.eq]; simp)
 have h2 : u.heap.size ≤ g := h2
 omega
theorem tpickF (xs : List Int) {vs : List Value} {n c g : Nat} {t : TypeId} {A L' : List Ent} (F : Fr u W L) (T : Tp w0 u B b (N + 1)) (hl : Lies L A g (flatC vs) t L') (hv : vs = xs.map (Value.int .i64)) (hn : xs.length = n) (hx : 0 < xs.length) (hx2 : xs.length ≤ 1000) :
  Calls Tryz.prog 30 #[.pointer (some ⟨b, 0, none⟩), .slice (some ⟨g, 0, none⟩) n c] W (TapP (fun v => ∃ k : Int, v = .int .i64 k ∧ k ∈ xs) B b N W) :=
 tpick xs hn hx hx2 (by have := F.get hl; rw [hv, flatC_ints] at this; exact this) (F.off T hl) (T.at F)
theorem toneF (xs : List ByteArray) {vs : List Value} {n c g : Nat} {t : TypeId} {A L' : List Ent} (F : Fr u W L) (T : Tp w0 u B b (N + 1)) (hl : Lies L A g (flatC vs) t L') (hv : vs = xs.map Value.string) (hn : xs.length = n) (hx : 0 < xs.length) (hx2 : xs.length ≤ 1000) :
  Calls Tryz.prog 29 #[.pointer (some ⟨b, 0, none⟩), .slice (some ⟨g, 0, none⟩) n c] W (TapP (fun v => ∃ k : ByteArray, v = .string k ∧ k ∈ xs) B b N W) :=
 tone xs hn hx hx2 (by have := F.get hl; rw [hv, flatC_strs] at this; exact this) (F.off T hl) (T.at F)
end
end
section
open Go.RowKit
set_option maxHeartbeats 4000000
section
variable {P : Program} {a : Act} {w u W : World} {K : Act → World → Prop} {Q : Exit → Act → World → Prop} {e : TypeId} {sz n k bytes : Nat} {v : Value} {xs : List Value} {X : List Ent} {cs : Array Value} {t T : TypeId} {x s : Operand} {ops : Array Oper} {rest : List Oper} {dst : Option Tmp} {ty : TypeId} {pos : String} {af : Array Edge} {gd : Option (Nat × Bool)} {news : Array Value} {o : Oper} {E : Prop} {y : Ent}
theorem sPush (hgd : o.guard = none) (s x : Operand) (hop : o.op = .call { callee := .builtin .append, args := #[s, x], argTypes := #[T, T] }) (hel : ElT P T e sz bytes) (hm : n + 1 ≤ maxLen) (hb : (n + 1) * bytes ≤ 140737488355328) (S : SlG e sz v n xs X) (h : Fr u W ((k, news, e) :: X)) (hs : a.eval s = v) (hx : a.eval x = .slice (some ⟨k, 0, none⟩) 1 1) (hl : news.size = sz) (h1 : news.toList.all (·.oneCell') = true)
  (hk : ∀ v' X' W', SlG e sz v' (n + 1) (xs ++ news.toList) X' → Fr u W' X' → K (a.put o.dst v') W') : if Region.wanted o (yielded ops a.tmps) = true then o.wp P a W K Q else E := by
 rw [if_pos (by simp [Region.wanted, hgd])]
 exact wPush hop hel hm hb S h hs hx hl h1 hk
end
abbrev Q5 (W : World) (b o i : Nat) (q : QT) : Prop := W.cell? ⟨b, o + i * 72, none⟩ = some (.string (bs q.src)) ∧ W.cell? ⟨b, o + i * 72 + 1, none⟩ = some (.string (bs q.ins)) ∧ W.cell? ⟨b, o + i * 72 + 3, none⟩ = some (.int .i64 q.day) ∧ W.cell? ⟨b, o + i * 72 + 70, none⟩ = some (.int .i64 q.known) ∧ W.cell? ⟨b, o + i * 72 + 71, none⟩ = some (.bool q.void)
theorem QuAt.q5 {w W : World} {b o i : Nat} {L : List QT} {q : QT} {X : List Ent} (h : QuAt w (some ⟨b, o, none⟩) L) (hq : L[i]? = some q) (F : Fr w W X) : Q5 W b o i q := by
 have h2 := h.below F.below
 exact ⟨h2.cell hq (q_src q), h2.cell hq (q_ins q), h2.cell hq (q_day q), h2.cell hq (q_known q), h2.cell hq (q_void q)⟩
set_option maxRecDepth 100000 in
theorem rmarks_any {L : List QT} {A : Option Addr} {cp : Nat} {w : World} (hL : L.length ≤ 1000000000000) (hsh : ∀ q ∈ L, q.short) (h : QuAt w A L) : Calls Tryz.prog 36 #[.slice A L.length cp] w (MksP L w) := by
 have F := Fr.start w
 have HA := Lib.hid h
 have HSH := Lib.hid hsh
 clear h hsh
 go_enter Tryz.func36, Tryz.ntmps36
 go_wp2_with (first | go_skip | refine aYQ ?_ | (refine aTQ ?_; clear F; intro W F) | refine aNQ ?_)
 go_loopw [3, 4] (fun ov iv wr => ∃ (i : Nat) (X : List Ent), i ≤ L.length ∧ iv = .int .i64 i ∧ SlG 94 3 ov i (mkCs (L.take i)) X ∧ Fr w wr X) (fun _ iv _ => L.length - (intOf iv).toNat)
 case atStart => exact ⟨0, [], by omega, rfl, SlG.nil _ _, F⟩
 case round =>
  clear F
  obtain ⟨i, X, hi, rfl, S, F⟩ := hrel
  by_cases hlt : i < L.length
  ·obtain ⟨b, o, q, rfl, hq, hr, hm, hbl⟩ := HA.out.get hlt
   have HQ := Lib.hid hq
   have HS := Lib.hid S
   have hsh := HSH.out q hm
   obtain ⟨e, he⟩ := dayL_is q.day
   have g1 := fun w => rfmt_is he w
   have hd := dayL_len q.day
   have HE := Lib.hid (key_cat q.src q.ins (dayL q.day))
   have hC := fun (W : World) (X : List Ent) (F : Fr w W X) => HA.out.q5 hq F
   unfold Q5 at hC
   obtain ⟨h1, h2⟩ := hsh
   rw [← bs_size] at h1 h2 hd
   obtain ⟨K, hK⟩ : ∃ K, bs (q.src ++ 44 :: (q.ins ++ 44 :: dayL q.day)) = K := ⟨_, rfl⟩
   have HK := Lib.hid hK
   rw [hK] at HE
   clear hr hq hm S he hK
   generalize hqs : bs q.src = A1 at *
   generalize hqi : bs q.ins = I1 at *
   generalize hqd : bs (dayL q.day) = T1 at *
   have k1 := no63 (n := A1.size + 1) (by omega)
   have k2 := no63 (n := A1.size + 1 + I1.size) (by omega)
   have k3 := no63 (n := A1.size + 1 + I1.size + 1) (by omega)
   have k4 := no63 (n := A1.size + 1 + I1.size + 1 + T1.size) (by omega)
   clear h1 h2 hd hqs hqi hqd
   have hc0 := hC _ _ F
   have HC := Lib.hid hC
   clear hC
   obtain ⟨c0, c1, c3, c70, c71⟩ := hc0
   go_upto_region 6 with (first | go_skip | ((go_at_call 28); (with_reducible refine fr_call F (g1 _) ?_); (clear F; intro W F); (try dsimp only)) | refine aYQ ?_ | (refine aTQ ?_; clear F; intro W F) | refine aNQ ?_)
   clear c0 c1 c3 c70 c71
   have HF := Lib.hid F
   have HD := Lib.hid (HC.out _ _ F.drew)
   have HD5 := Lib.hid (fun o t => HC.out _ _ (HF.out.alloc o t).drew)
   clear F
   go_region_held3 (fun W => W.cell? ⟨b, o + i * 72, none⟩ = some (.string A1) ∧ W.cell? ⟨b, o + i * 72 + 1, none⟩ = some (.string I1) ∧ W.cell? ⟨b, o + i * 72 + 3, none⟩ = some (.int .i64 q.day) ∧ W.cell? ⟨b, o + i * 72 + 70, none⟩ = some (.int .i64 q.known) ∧ W.cell? ⟨b, o + i * 72 + 71, none⟩ = some (.bool q.void))
    ((first | (with_reducible exact HD.out) | (with_reducible exact HD5.out _ _) | (with_reducible exact HC.out _ _ F')))
    (first
    | (refine sPush (by rfl) _ _ (by rfl) elMk (by unfold maxLen; omega) (by omega) HS.out (HF.out.alloc _ _).drew (by rfl) (by rfl) (by rfl) (by rfl) ?_; intro v' X' W' S' F'))
   all_goals
    go_wp2_with fail
    go_roundw
    case rel => exact ⟨i + 1, X', by omega, by go_num, by rw [mkCs_snoc HQ.out]; rw [show (mkV q.mark).toList = [.string K, .int .i64 q.known, .bool q.void] by rw [← HK.out]; rfl]; rw [← HE.out]; exact S', F'⟩
    case measure => simp [intOf]; omega
  ·obtain rfl : i = L.length := by omega
   rw [List.take_length] at S
   go_wp2_with (first | go_skip | refine aYQ ?_ | (refine aTQ ?_; clear F; intro W F) | refine aNQ ?_)
   go_ret
   exact ⟨_, rfl, S.ownL F⟩
end
section
open Go.RowKit
set_option maxHeartbeats 4000000
set_option maxRecDepth 100000 in
theorem rcheck_any {L : List QT} {A : Option Addr} {cp : Nat} {w : World} (hL : L.length ≤ 1000000000000) (h : QuAt w A L) {v : Int} (hv : bkErr L = v) : Calls Tryz.prog 15 #[.slice A L.length cp] w (RetB (.int .i64 v) w) := by
 have F := Fr.start w
 have HA := Lib.hid h
 have HV := Lib.hid hv
 clear h hv
 go_enter Tryz.func15, Tryz.ntmps15
 go_wp2_with (first | go_skip | refine aYQ ?_ | (refine aTQ ?_; clear F; intro W F) | refine aNQ ?_)
 go_loopw [3] (fun iv wr => ∃ i : Nat, i ≤ L.length ∧ iv = .int .i64 i ∧ (L.take i).all QT.ok = true ∧ Fr w wr []) (fun iv _ => L.length - (intOf iv).toNat)
 case atStart => exact ⟨0, by omega, rfl, by simp, F⟩
 case round =>
  clear F
  obtain ⟨i, hi, rfl, ha, F⟩ := hrel
  have HP := Lib.hid ha
  clear ha
  by_cases hlt : i < L.length
  ·obtain ⟨b, o, q, rfl, hq, hr, hm, hbl⟩ := HA.out.get hlt
   have HR := Lib.hid hr
   have HQ := Lib.hid hq
   have hwf := HA.out.wf hm
   obtain ⟨c1, h1⟩ : ∃ c, q.ok = c := ⟨_, rfl⟩
   have g1 := fun w => qvalid_any hwf h1 w
   have HO := Lib.hid h1
   clear hr hq hm hwf h1
   cases c1
   ·have hres : v = 141 := by rw [← HV.out]; exact bk_bad HQ.out HO.out
    subst hres
    go_wp2_with (first | go_skip | ((with_reducible apply fLo F (hr := HA.out.recs) (hi := HR.out)); exact rfl; (rw [qC_size]; decide); exact rfl; exact rowQ _) | ((go_at_call 40); (with_reducible refine fr_call F (g1 _) ?_); (clear F; intro W F); (try dsimp only)) | refine aYQ ?_ | (refine aTQ ?_; clear F; intro W F) | refine aNQ ?_)
    go_ret
    exact ⟨rfl, F.below⟩
   go_wp2_with (first | go_skip | ((with_reducible apply fLo F (hr := HA.out.recs) (hi := HR.out)); exact rfl; (rw [qC_size]; decide); exact rfl; exact rowQ _) | ((go_at_call 40); (with_reducible refine fr_call F (g1 _) ?_); (clear F; intro W F); (try dsimp only)) | refine aYQ ?_ | (refine aTQ ?_; clear F; intro W F) | refine aNQ ?_)
   go_roundw
   case rel => exact ⟨i + 1, by omega, by go_num, all_snoc HQ.out HO.out HP.out, Fr.nil F.below⟩
   case measure => simp [intOf]; omega
  ·obtain rfl : i = L.length := by omega
   have hall := HP.out
   rw [List.take_length] at hall
   have hsh : ∀ q ∈ L, q.short := fun q hq => ok_short (List.all_eq_true.1 hall q hq)
   have hmv : mkErr (L.map QT.mark) = v := by rw [← HV.out]; unfold bkErr; rw [if_pos hall]
   have HS := Lib.hid hsh
   have HM := Lib.hid hmv
   clear hall hsh hmv
   go_wp2_with (first | go_skip | (go_at_call 36; refine (rmarks_any hL HS.out (HA.out.below F.below)).mono ?_; rintro e W2 ⟨mv, rfl, hO⟩; have F2 := F.next hO.below; clear F; obtain ⟨A2, cp2, rfl, hMk⟩ := MksP.at hO hL HS.out; have GK := rMChk_any _ A2 cp2 _ hMk HM.out; rw [List.length_map] at GK; clear hO hMk; have F := F2; clear F2) | (go_at_call 41; (with_reducible refine fr_call F GK ?_); (clear F; intro W F); (try dsimp only)) | refine aYQ ?_ | (refine aTQ ?_; clear F; intro W F) | refine aNQ ?_)
   go_ret
   exact ⟨rfl, F.below⟩
end
section
open Go.RowKit
section
variable {P : Program} {md : Region.Mode} {ops : Array Oper} {Q : Exit → Act → World → Prop} {n m fuel : Nat} {a : Act} {w : World} {ds : List Deferred}
theorem dg_m3 {α0 α1 α2 : Type} (f' m' : Nat) {ts1 : α0 → α1 → α2 → List Value} (H : α0 → α1 → α2 → World → Prop) (h : (∀ (x0 : α0) (x1 : α1) (x2 : α2) (W : World), H x0 x1 x2 W → wpAny P md ops Q f' (bm n m') ⟨⟨ts1 x0 x1 x2⟩, ds⟩ W) → wpAny P md ops Q fuel (bm n m) a w) (hr : (∀ (x0 : α0) (x1 : α1) (x2 : α2) (W : World), H x0 x1 x2 W → wpAny P md ops Q f' (bm n m') ⟨⟨ts1 x0 x1 x2⟩, ds⟩ W)) : wpAny P md ops Q fuel (bm n m) a w := h hr
theorem dg_m4 {α0 α1 α2 α3 : Type} (f' m' : Nat) {ts1 : α0 → α1 → α2 → α3 → List Value} (H : α0 → α1 → α2 → α3 → World → Prop) (h : (∀ (x0 : α0) (x1 : α1) (x2 : α2) (x3 : α3) (W : World), H x0 x1 x2 x3 W → wpAny P md ops Q f' (bm n m') ⟨⟨ts1 x0 x1 x2 x3⟩, ds⟩ W) → wpAny P md ops Q fuel (bm n m) a w) (hr : (∀ (x0 : α0) (x1 : α1) (x2 : α2) (x3 : α3) (W : World), H x0 x1 x2 x3 W → wpAny P md ops Q f' (bm n m') ⟨⟨ts1 x0 x1 x2 x3⟩, ds⟩ W)) : wpAny P md ops Q fuel (bm n m) a w := h hr
end
end
section
open Go.RowKit
set_option maxHeartbeats 4000000
def RatV (B : Nat) (v : Value) : Prop := ∃ n d : Int, v = .agg (RC n d) ∧ okZ n d ∧ n.natAbs ≤ B ∧ d.natAbs ≤ B
theorem RatV.le {A B : Nat} {v : Value} (h : RatV A v) (hB : A ≤ B) : RatV B v := by
 obtain ⟨n, d, h1, h2, h3, h4⟩ := h
 exact ⟨n, d, h1, h2, by omega, by omega⟩
def OfP (n d : Int) (v : Value) : Prop := ∃ a b : Int, v = .agg (RC a b) ∧ okZ a b ∧ a * d = n * b ∧ a.natAbs ≤ n.natAbs ∧ b.natAbs ≤ d.natAbs ∧ b ∣ d
theorem makeOf_ok {n d : Int} (hn : n.natAbs ≤ 10 ^ 15) (hd : 0 < d) (hd2 : d ≤ 10 ^ 15) (w : World) : Calls Tryz.prog 32 #[.int .i64 n, .int .i64 d] w (RetP (OfP n d) w) := by
 have hb := bp15_big
 obtain ⟨h1, h2⟩ := mkR_ok (n := n) hd (by omega) (by omega)
 obtain ⟨e1, e2⟩ := low_mul (n := n) hd
 refine Calls.retP (makeOf_any (by omega) (by omega) (by omega) (by omega) h1 w) ⟨_, _, rfl, h2, ?_, lowN_abs n d, lowD_abs n d, ⟨_, e2.symm⟩⟩
 show lowN n d * d = n * lowD n d
 generalize lowN n d = A at *
 generalize lowD n d = D at *
 generalize (Int.gcd n d : Int) = g at *
 rw [← e1, ← e2, Int.mul_assoc, Int.mul_comm g D]
end
section
open Go.RowKit
def due (l : Array Bool) : List (Nat × Nat) → Nat
 | [] => 0
 | p :: L => (if l.getD p.1 false = true then 0 else p.2) + due l L
section
variable {l : Array Bool} {L : List (Nat × Nat)} {i c n N B b M : Nat} {w u : World}
theorem due_set : due (l.setIfInBounds i true) L ≤ due l L := by
 induction L with
 | nil => exact Nat.le_refl _
 | cons p L ih =>
  unfold due
  by_cases h : l.getD p.1 false = true
  ·rw [if_pos h, if_pos (getD_still h)]
   omega
  ·rw [if_neg h]
   split <;> omega
theorem due_run (hs : i < l.size) (hoff : l.getD i false = false) (hm : (i, c) ∈ L) : due (l.setIfInBounds i true) L + c ≤ due l L := by
 induction L with
 | nil => cases hm
 | cons p L ih =>
  unfold due
  rcases List.mem_cons.1 hm with rfl | hm
  ·rw [if_pos (getD_on hs), if_neg (by rw [hoff]; decide)]
   have := due_set (l := l) (L := L) (i := i)
   omega
  ·have := ih hm
   by_cases h : l.getD p.1 false = true
   ·rw [if_pos h, if_pos (getD_still h)]
    omega
   ·rw [if_neg h]
    split <;> omega
theorem due_none (k : Nat) : due (Array.replicate k false) L ≤ (L.map (·.2)).sum := by
 induction L with
 | nil => exact Nat.le_refl _
 | cons p L ih =>
  unfold due
  rw [List.map_cons, List.sum_cons]
  split <;> omega
theorem hdw (j k : Nat) (hw : Wt l L) (hj : l.getD j false = true) (hm : L.contains (j, k) = true := by decide) : l.getD k false = true := hw (j, k) (by simpa using hm) hj
structure TpL (w u : World) (B b N : Nat) (l : Array Bool) (L : List (Nat × Nat)) : Prop where
 tp : Tp w u B b (N + due l L)
theorem tpI (k : Nat) (T : Tp w u B b M) (hc : (L.map (·.2)).sum = c) (hM : N + c ≤ M) : TpL w u B b N (Array.replicate k false) L := by
 have := due_none (L := L) k
 exact ⟨T.less (by omega)⟩
theorem tpS (T : TpL w u B b N l L) : TpL w u B b N (l.setIfInBounds i true) L := by
 have := due_set (l := l) (L := L) (i := i)
 exact ⟨T.tp.less (by omega)⟩
theorem tpC (c : Nat) (T : TpL w u B b N l L) (hoff : l.getD i false = false) (hs : l.size = n) (hi : Nat.ble (i + 1) n = true := by kernel_rfl) (hm : L.contains (i, c) = true := by decide) : Tp w u B b ((N + due (l.setIfInBounds i true) L) + c) := by
 have := due_run (L := L) (c := c) (by rw [hs]; exact Nat.le_of_ble_eq_true hi) hoff (by simpa using hm)
 exact T.tp.less (by omega)
theorem tpE (T : TpL w u B b N l L) : Tp w u B b N := T.tp.less (by omega)
end
theorem dKt {p : Prop} (h : p := by
  (apply Exists.intro; refine And.intro ?dE ?_; rotate_left; (repeat apply Exists.intro); refine And.intro rfl ?_
   case dE => exact dE
   refine And.intro dF ?_
   refine And.intro (tpS HT) ?_
   refine And.intro (onS hH ?_ rfl) ?_
   · first | exact rfl | exact ⟨rfl, hq⟩
   · exact dTt)) : p := h
theorem oRt {p : Prop} (h : p := by (go_simp; exact hK _ _ dKt)) : p := h
theorem oQt {p : Prop} (h : p := by (refine ⟨?_⟩; go_simp; exact hK _ _ dKt)) : p := h
theorem oPt {p : Prop} (h : p := by (refine ow rfl rfl fun K hK => ?_; refine ⟨?_⟩; go_simp; exact hK _ _ dKt)) : p := h
end
section
open Go.RowKit
set_option maxHeartbeats 4000000
theorem price_top {m : Int} (h : m ∈ [9, 2000, 200000]) : 1 ≤ m ∧ m ≤ 200000 := by
 simp only [List.mem_cons, List.not_mem_nil, or_false] at h
 omega
theorem price_den {e : Int} (h : e ∈ [1, 2, 4, 10, 100, 1000, 1000000]) : 1 ≤ e ∧ e ≤ 1000000 ∧ 1000000 % e = 0 := by
 simp only [List.mem_cons, List.not_mem_nil, or_false] at h
 rcases h with rfl | rfl | rfl | rfl | rfl | rfl | rfl <;> decide
structure PrG (n d : Int) : Prop where
 ok : okZ n d
 pr : priceB (okZ n d) n d = true
 ex : n * ((10 ^ 6 : Nat) : Int) % d = 0
 lt : (n * ((10 ^ 6 : Nat) : Int) / d).natAbs < 10 ^ 15
 pos : 0 < n
def PriceV (v : Value) : Prop := ∃ n d : Int, v = .agg (RC n d) ∧ PrG n d
theorem priceV_of {n d k e : Int} (h : OfP k e (.agg (RC n d))) (ok : okZ n d) (h1 : n * e = k * d) (h2 : d ∣ e) (hk : 1 ≤ k) (hk2 : k ≤ 200000) (he : 1 ≤ e) (he2 : 1000000 % e = 0) : PriceV (.agg (RC n d)) := by
 obtain ⟨-, hd, -⟩ := okZ_iff.1 ok
 have hn : 0 < n := by
  by_cases hn : 0 < n
  ·exact hn
  ·have := Int.mul_nonpos_of_nonpos_of_nonneg (show n ≤ 0 by omega) (show (0 : Int) ≤ e by omega)
   have := Int.mul_pos (show 0 < k by omega) hd
   omega
 obtain ⟨q, hq⟩ := Int.dvd_trans h2 (Int.dvd_of_emod_eq_zero he2)
 have hq0 : 0 < q := by
  by_cases h : 0 < q
  ·exact h
  ·have := Int.mul_nonpos_of_nonneg_of_nonpos (show 0 ≤ d by omega) (show q ≤ 0 by omega)
   omega
 have hq1 : q ≤ 1000000 := by
  have := Int.mul_le_mul_of_nonneg_right (show 1 ≤ d by omega) (show 0 ≤ q by omega)
  omega
 have hnd : n ≤ 200000 * d := by
  have e1 : n ≤ n * e := by
   have := Int.mul_le_mul_of_nonneg_left (show 1 ≤ e by omega) (show 0 ≤ n by omega)
   omega
  have e2 : k * d ≤ 200000 * d := Int.mul_le_mul_of_nonneg_right hk2 (by omega)
  omega
 have hx : n * ((10 ^ 6 : Nat) : Int) = n * q * d := by
  rw [show ((10 ^ 6 : Nat) : Int) = 1000000 from rfl, hq, Int.mul_comm d q, Int.mul_assoc]
 have hz : n * ((10 ^ 6 : Nat) : Int) / d = n * q := by rw [hx, Int.mul_ediv_cancel _ (by omega)]
 have hb : (n * q).natAbs < 10 ^ 15 := by
  have h3 : n * q * e = k * 1000000 := by
   calc n * q * e = n * e * q := by rw [Int.mul_assoc, Int.mul_comm q e, ← Int.mul_assoc]
    _ = k * d * q := by rw [h1]
    _ = k * 1000000 := by rw [Int.mul_assoc, ← hq]
  have h4 : n * q ≤ n * q * e := by
   have := Int.mul_le_mul_of_nonneg_left (show 1 ≤ e by omega) (Int.mul_nonneg (show 0 ≤ n by omega) (show 0 ≤ q by omega))
   omega
  have h5 : 0 ≤ n * q := Int.mul_nonneg (by omega) (by omega)
  omega
 have h7 : n * ((10 ^ 6 : Nat) : Int) % d = 0 := by rw [hx]; exact Int.mul_emod_left _ _
 have h8 : (n * ((10 ^ 6 : Nat) : Int) / d).natAbs < 10 ^ 15 := by rw [hz]; exact hb
 obtain ⟨s, h6, -⟩ := txt_back (p := 6) ok (by decide) h7 h8
 refine ⟨n, d, rfl, ok, ?_, h7, h8, hn⟩
 unfold priceB
 rw [show ((6 : Int)) = ((6 : Nat) : Int) from rfl, h6, decide_eq_true rfl, decide_eq_true hn, decide_eq_true (show n ≤ 1000000000 * d by omega)]
 rfl
set_option maxRecDepth 100000 in
theorem tprice {B b N : Nat} {w : World} (h : TapeAt w B b (N + 3)) : Calls Tryz.prog 43 #[.pointer (some ⟨b, 0, none⟩)] w (TapP PriceV B b N w) := by
 have F := Fr.start w
 have T := Tp.start h
 clear h
 go_enter Tryz.func43, Tryz.ntmps43
 go_wp2_with (first | go_skip | refine aYQ ?_ | ((with_reducible apply fSli F slInt); exact rfl; exact rfl; exact rfl; decide; decide; (go_simp; exact rfl); exact rfl) | ((with_reducible apply fSli F slStr); exact rfl; exact rfl; exact rfl; decide; decide; (go_simp; exact rfl); exact rfl) | (refine aTQ ?_; clear F; intro W F) | refine aNQ ?_)
 (clear F; intro b2 W F; try simp only [Act.put, z6, z1, z2])
 go_wp2_with (first | go_skip | refine aYQ ?_ | ((with_reducible apply fSli F slInt); exact rfl; exact rfl; exact rfl; decide; decide; (go_simp; exact rfl); exact rfl) | ((with_reducible apply fSli F slStr); exact rfl; exact rfl; exact rfl; decide; decide; (go_simp; exact rfl); exact rfl) | (refine aTQ ?_; clear F; intro W F) | refine aNQ ?_)
 (clear F; intro b5 W F; try simp only [Act.put, z6, z1, z2])
 go_wp2_with (first | go_skip | ((go_at_call 30); (with_reducible refine fr_tap F T (tpickF [9, 2000, 200000] F T tL (by with_unfolding_all rfl) (by with_unfolding_all rfl) (by simp) (by simp)) ?_); (try clear F T); (rintro _ u W ⟨m, rfl, hm⟩ T F); (have hm2 := price_top hm); (clear hm); (try dsimp only)) | ((go_at_call 19); (with_reducible refine fr_tap F T (tnext _ (by omega) (by omega) (T.at F)) ?_); (try clear F T); (rintro _ u W ⟨k, rfl, hk⟩ T F); (try dsimp only)) | refine aYQ ?_ | ((with_reducible apply fSli F slInt); exact rfl; exact rfl; exact rfl; decide; decide; (go_simp; exact rfl); exact rfl) | ((with_reducible apply fSli F slStr); exact rfl; exact rfl; exact rfl; decide; decide; (go_simp; exact rfl); exact rfl) | (refine aTQ ?_; clear F; intro W F) | refine aNQ ?_)
 (clear F; intro b10 W F; try simp only [Act.put, z6, z1, z2])
 go_wp2_with (first | go_skip | ((go_at_call 30); (with_reducible refine fr_tap F T (tpickF [1, 2, 4, 10, 100, 1000, 1000000] F T tL (by with_unfolding_all rfl) (by with_unfolding_all rfl) (by simp) (by simp)) ?_); (try clear F T); (rintro _ u W ⟨e, rfl, he⟩ T F); (have he2 := price_den he); (clear he); (try dsimp only)) | ((go_at_call 32); (with_reducible refine fr_callP F (makeOf_ok (by omega) (by omega) (by omega) _) ?_); (try clear F); (rintro _ W ⟨n, d, rfl, ho⟩ F); (try dsimp only)) | refine aYQ ?_ | ((with_reducible apply fSli F slInt); exact rfl; exact rfl; exact rfl; decide; decide; (go_simp; exact rfl); exact rfl) | ((with_reducible apply fSli F slStr); exact rfl; exact rfl; exact rfl; decide; decide; (go_simp; exact rfl); exact rfl) | (refine aTQ ?_; clear F; intro W F) | refine aNQ ?_)
 exact bodyPost_ret (res_c rfl rfl (Fr.get F tL) (rowRC _ _)) rfl (tap_end (T.less (by omega)) F (priceV_of ⟨n, d, rfl, ho⟩ ho.1 ho.2.1 ho.2.2.2.2 (by omega) (by omega) (by omega) he2.2.2))
abbrev pAcme : List UInt8 := [65, 67, 77, 69]
abbrev pUsdgbp : List UInt8 := [85, 83, 68, 71, 66, 80]
abbrev pEurusd : List UInt8 := [69, 85, 82, 85, 83, 68]
abbrev cUsd : List UInt8 := [85, 83, 68]
abbrev cGbp : List UInt8 := [71, 66, 80]
def papersL : List (List UInt8) := [pAcme, [66, 79, 78, 68], [71, 79, 76, 68], [88, 49], pEurusd, pUsdgbp]
def codesL : List (List UInt8) := [cUsd, cUsd, [69, 85, 82], cGbp]
def srcsL : List (List UInt8) := [[97], [98], [99], [100, 52]]
theorem one_bs {xs : List ByteArray} {l : List (List UInt8)} (hx : xs = l.map bs) {s : ByteArray} (h : s ∈ xs) : ∃ p, s = bs p ∧ p ∈ l := by
 subst hx
 obtain ⟨p, hp, rfl⟩ := List.mem_map.1 h
 exact ⟨p, rfl, hp⟩
def OneV (l : List (List UInt8)) (v : Value) : Prop := ∃ s : List UInt8, v = .string (bs s) ∧ s ∈ l
theorem tpaper {B b N : Nat} {w : World} (h : TapeAt w B b (N + 1)) : Calls Tryz.prog 22 #[.pointer (some ⟨b, 0, none⟩)] w (TapP (OneV papersL) B b N w) := by
 have F := Fr.start w
 have T := Tp.start h
 clear h
 go_enter Tryz.func22, Tryz.ntmps22
 go_wp2_with (first | go_skip | refine aYQ ?_ | ((with_reducible apply fSli F slInt); exact rfl; exact rfl; exact rfl; decide; decide; (go_simp; exact rfl); exact rfl) | ((with_reducible apply fSli F slStr); exact rfl; exact rfl; exact rfl; decide; decide; (go_simp; exact rfl); exact rfl) | (refine aTQ ?_; clear F; intro W F) | refine aNQ ?_)
 (clear F; intro b4 W F; try simp only [Act.put, z6, z1, z2])
 go_wp2_with (first | go_skip | ((go_at_call 29); (with_reducible refine fr_tap F T (toneF (papersL.map bs) F T tL (by with_unfolding_all rfl) (by with_unfolding_all rfl) (by simp [papersL]) (by simp [papersL])) ?_); (try clear F T); (rintro _ u W ⟨s, rfl, hs⟩ T F); (try dsimp only)) | refine aYQ ?_ | ((with_reducible apply fSli F slInt); exact rfl; exact rfl; exact rfl; decide; decide; (go_simp; exact rfl); exact rfl) | ((with_reducible apply fSli F slStr); exact rfl; exact rfl; exact rfl; decide; decide; (go_simp; exact rfl); exact rfl) | (refine aTQ ?_; clear F; intro W F) | refine aNQ ?_)
 go_ret
 obtain ⟨p, rfl, hp⟩ := one_bs rfl hs
 exact tap_end T F ⟨p, rfl, hp⟩
theorem tcode {B b N : Nat} {w : World} (h : TapeAt w B b (N + 1)) : Calls Tryz.prog 45 #[.pointer (some ⟨b, 0, none⟩)] w (TapP (OneV codesL) B b N w) := by
 have F := Fr.start w
 have T := Tp.start h
 clear h
 go_enter Tryz.func45, Tryz.ntmps45
 go_wp2_with (first | go_skip | refine aYQ ?_ | ((with_reducible apply fSli F slInt); exact rfl; exact rfl; exact rfl; decide; decide; (go_simp; exact rfl); exact rfl) | ((with_reducible apply fSli F slStr); exact rfl; exact rfl; exact rfl; decide; decide; (go_simp; exact rfl); exact rfl) | (refine aTQ ?_; clear F; intro W F) | refine aNQ ?_)
 (clear F; intro b4 W F; try simp only [Act.put, z6, z1, z2])
 go_wp2_with (first | go_skip | ((go_at_call 29); (with_reducible refine fr_tap F T (toneF (codesL.map bs) F T tL (by with_unfolding_all rfl) (by with_unfolding_all rfl) (by simp [codesL]) (by simp [codesL])) ?_); (try clear F T); (rintro _ u W ⟨s, rfl, hs⟩ T F); (try dsimp only)) | refine aYQ ?_ | ((with_reducible apply fSli F slInt); exact rfl; exact rfl; exact rfl; decide; decide; (go_simp; exact rfl); exact rfl) | ((with_reducible apply fSli F slStr); exact rfl; exact rfl; exact rfl; decide; decide; (go_simp; exact rfl); exact rfl) | (refine aTQ ?_; clear F; intro W F) | refine aNQ ?_)
 go_ret
 obtain ⟨p, rfl, hp⟩ := one_bs rfl hs
 exact tap_end T F ⟨p, rfl, hp⟩
def srcC : Array Value := flatC (srcsL.map fun s => .string (bs s))
def SrcP (w : World) (e : Ending) (w' : World) : Prop := ∃ g, e = .returned (.slice (some ⟨g, 0, none⟩) 4 4) ∧ Below w.heap.size w w' ∧ w.heap.size ≤ g ∧ BlkAt w' g srcC 9
theorem sources_any (w : World) : Calls Tryz.prog 21 #[] w (SrcP w) := by
 have F := Fr.start w
 go_enter Tryz.func21, Tryz.ntmps21
 go_wp2_with (first | go_skip | refine aYQ ?_ | ((with_reducible apply fSli F slInt); exact rfl; exact rfl; exact rfl; decide; decide; (go_simp; exact rfl); exact rfl) | ((with_reducible apply fSli F slStr); exact rfl; exact rfl; exact rfl; decide; decide; (go_simp; exact rfl); exact rfl) | (refine aTQ ?_; clear F; intro W F) | refine aNQ ?_)
 (clear F; intro b1 W F; try simp only [Act.put, z6, z1, z2])
 go_wp2_with (first | go_skip | refine aYQ ?_ | ((with_reducible apply fSli F slInt); exact rfl; exact rfl; exact rfl; decide; decide; (go_simp; exact rfl); exact rfl) | ((with_reducible apply fSli F slStr); exact rfl; exact rfl; exact rfl; decide; decide; (go_simp; exact rfl); exact rfl) | (refine aTQ ?_; clear F; intro W F) | refine aNQ ?_)
 go_ret
 exact ⟨b1, rfl, F.below, F.ge, F.here⟩
abbrev Bs := List UInt8
def srcAt (k : Nat) : Bs := srcsL.getD k []
theorem src_at {k : Nat} (h : k < 4) : srcC[k]? = some (.string (bs (srcAt k))) := by
 match k, h with
 | 0, _ => rfl
 | 1, _ => rfl
 | 2, _ => rfl
 | 3, _ => rfl
theorem src_nm {k : Nat} (h : k < 4) : nameB (srcAt k) = true ∧ srcAt k ∈ srcsL := by
 match k, h with
 | 0, _ => decide
 | 1, _ => decide
 | 2, _ => decide
 | 3, _ => decide
theorem built_quo7 (s t u : List UInt8) (d : Int) (n e : Int) (k : Int) : Tryz.prog.built 33 [(0, .string (bs s)), (1, .string (bs t)), (2, .string (bs u)), (3, .int .i64 d), (4, .agg (RC n e)), (5, .int .i64 k)] = some (qC ⟨s, t, u, d, decide (n < 0), n.natAbs, decide (e < 0), e.natAbs, k, false⟩) := by kernel_rfl
section
variable {a : Act} {W : World} {K : Act → World → Prop} {Q : Exit → Act → World → Prop} {dst : Option Tmp} {ty : TypeId} {pos : String} {af : Array Edge} {gd : Option (Nat × Bool)} {x0 x1 x2 x3 x4 x5 : Operand} {s0 s1 s2 : List UInt8} {d n e k : Int}
theorem gB_quo7 (h0 : a.eval x0 = .string (bs s0)) (h1 : a.eval x1 = .string (bs s1)) (h2 : a.eval x2 = .string (bs s2)) (h3 : a.eval x3 = .int .i64 d) (h4 : a.eval x4 = .agg (RC n e)) (h5 : a.eval x5 = .int .i64 k)
  (hk : K (a.put dst (.agg (qC ⟨s0, s1, s2, d, decide (n < 0), n.natAbs, decide (e < 0), e.natAbs, k, false⟩))) W) : OpW Tryz.prog ⟨dst, .build 33 #[(0, x0), (1, x1), (2, x2), (3, x3), (4, x4), (5, x5)], ty, pos, af, gd⟩ a W K Q :=
 op_build _ _ rfl (by simp only [List.map_toArray, List.map_cons, List.map_nil, h0, h1, h2, h3, h4, h5]; exact built_quo7 s0 s1 s2 d n e k) hk
end
theorem q_gbp (q : QT) : (qC q).setIfInBounds 2 (.string ⟨#[71, 66, 80]⟩) = qC { q with cur := cGbp } := q_set2 q cGbp
structure QuoV (known : Int) (q : QT) : Prop where
 right : q.right = true
 a : q.a < bp 15
 b : q.b < bp 15
 known : q.known = known
 price : q.void = false → ∃ n d : Int, (q.x = decide (n < 0) ∧ q.a = n.natAbs ∧ q.y = decide (d < 0) ∧ q.b = d.natAbs) ∧ PrG n d
theorem paper_ok {i : Bs} (h : i ∈ papersL) : paperB i = true := by
 simp only [papersL, List.mem_cons, List.not_mem_nil, or_false] at h
 rcases h with rfl | rfl | rfl | rfl | rfl | rfl <;> decide
theorem code_ok {i : Bs} (h : i ∈ codesL) : codeB i = true := by
 simp only [codesL, List.mem_cons, List.not_mem_nil, or_false] at h
 rcases h with rfl | rfl | rfl | rfl <;> decide
theorem right_made {s i c : Bs} {day n d k : Int} (hs : nameB s = true) (hi : paperB i = true) (hc : codeB c = true) (hd : 0 ≤ day ∧ day ≤ 73048) (hn : PrG n d) : QuoV k ⟨s, i, c, day, decide (n < 0), n.natAbs, decide (d < 0), d.natAbs, k, false⟩ := by
 obtain ⟨⟨h1, h2⟩, -⟩ := okZ_iff.1 hn.ok
 refine ⟨?_, h1, h2, rfl, fun _ => ⟨n, d, ⟨rfl, rfl, rfl, rfl⟩, hn⟩⟩
 unfold QT.right QT.price
 dsimp only
 rw [sZ_z, sZ_z, hs, hi, hc, decide_eq_true hd]
 exact hn.pr
theorem void_made {s i c : Bs} {day k : Int} (hs : nameB s = true) (hi : paperB i = true) (hc : codeB c = true) (hd : 0 ≤ day ∧ day ≤ 73048) : QuoV k ⟨s, i, c, day, decide ((0 : Int) < 0), (0 : Int).natAbs, decide ((0 : Int) < 0), (0 : Int).natAbs, k, true⟩ := by
 refine ⟨?_, bp_pos 15, bp_pos 15, rfl, fun h => by cases h⟩
 unfold QT.right
 rw [hs, hi, hc, decide_eq_true hd]
 rfl
def QuoR (known : Int) (v : Value) : Prop := ∃ q : QT, v = .agg (qC q) ∧ QuoV known q
set_option maxRecDepth 100000 in
theorem tquote {B b N : Nat} {w : World} {day known : Int} (hd : 0 ≤ day ∧ day ≤ 73048) (h : TapeAt w B b (N + 9)) : Calls Tryz.prog 23 #[.pointer (some ⟨b, 0, none⟩), .int .i64 day, .int .i64 known] w (TapP (QuoR known) B b N w) := by
 have F := Fr.start w
 have T := Tp.start h
 clear h
 go_enter Tryz.func23, Tryz.ntmps23
 go_wp2_with (first | go_skip | refine aYQ ?_ | ((with_reducible apply fSli F slInt); exact rfl; exact rfl; exact rfl; decide; decide; (go_simp; exact rfl); exact rfl) | ((with_reducible apply fSli F slStr); exact rfl; exact rfl; exact rfl; decide; decide; (go_simp; exact rfl); exact rfl) | (refine aTQ ?_; clear F; intro W F) | refine aNQ ?_)
 (clear F; intro b6 W F; try simp only [Act.put, z6, z1, z2])
 go_upto_region 1 with (first | go_skip | refine aYQ ?_ | ((with_reducible apply fSli F slInt); exact rfl; exact rfl; exact rfl; decide; decide; (go_simp; exact rfl); exact rfl) | ((with_reducible apply fSli F slStr); exact rfl; exact rfl; exact rfl; decide; decide; (go_simp; exact rfl); exact rfl) | (refine aTQ ?_; clear F; intro W F) | refine aNQ ?_)
 try simp only [Act.put, z6, z1, z2]
 refine wp_region_slots mixP [7, 8, 9, 10, 11, 12, 13, 14, 15, 16, 17, 18, 19, 20, 21, 22, 23, 24] (fun l mm W => ∃ (s7 s8 s9 s10 s11 s12 s13 s14 s15 s16 s17 s18 s19 s20 s21 s22 s23 s24 : Value) (c_b7 : Array Value) (b8 b17 b7 : Nat) (u : World) (k : Nat) (i : Bs) (j : Int) (n : Int) (d : Int), mm = [s7, s8, s9, s10, s11, s12, s13, s14, s15, s16, s17, s18, s19, s20, s21, s22, s23, s24] ∧ Fr u W ((b6, qC q0, 33) :: (onl (l.getD 0 false) (b8, srcC, 9) ++ (onl (l.getD 9 false) (b17, flatC [.int .i64 0, .int .i64 0, .int .i64 0, .int .i64 1, .int .i64 2, .int .i64 5], 3) ++ (onl (l.getD 17 false) (b7, c_b7, 33))))) ∧ TpL w u B b (N+3) l [(2, 1), (6, 1), (10, 1), (14, 3)] ∧ On l 0 [s8 = .slice (some ⟨b8, 0, none⟩) 4 4, s9 = .pointer (some ⟨b, 0, none⟩), s10 = .int .i64 (k : Int) ∧ (k : Int) < 4, s11 = .pointer (some ⟨b8, k, none⟩) ∧ k < 4, s12 = .string (bs (srcAt k)) ∧ k < 4, s13 = .pointer (some ⟨b, 0, none⟩), s14 = .string (bs i) ∧ i ∈ papersL, s15 = .int .i64 day, s16 = .pointer (some ⟨b, 0, none⟩), s17 = .slice (some ⟨b17, 0, none⟩) 6 6, s18 = .int .i64 j ∧ j ∈ [0, 0, 0, 1, 2, 5], s19 = .int .i64 (IntKind.i64.wrap (day - j)), s20 = .int .i64 (max 0 (IntKind.i64.wrap (day - j))), s21 = .pointer (some ⟨b, 0, none⟩), s22 = .agg (RC n d) ∧ PrG n d, s23 = .int .i64 known, s24 = .agg (qC ⟨srcAt k, i, cUsd, max 0 (IntKind.i64.wrap (day - j)), decide (n < 0), n.natAbs, decide (d < 0), d.natAbs, known, false⟩), s7 = .pointer (some ⟨b7, 0, none⟩), c_b7 = qC ⟨srcAt k, i, cUsd, max 0 (IntKind.i64.wrap (day - j)), decide (n < 0), n.natAbs, decide (d < 0), d.natAbs, known, false⟩] ∧ Wt l [(3, 2), (4, 2), (16, 2), (18, 2), (16, 6), (18, 6), (11, 10), (12, 10), (16, 10), (18, 10), (16, 14), (18, 14), (3, 0), (18, 17)] ∧ c_b7.size = 72 ∧ True) (by kernel_rfl) (putAll_self _ _) ?_ ?_ ?_
 ·exact ⟨_, _, _, _, _, _, _, _, _, _, _, _, _, _, _, _, _, _, (qC q0), 0, 0, 0, _, 0, [], 0, 0, 0, rfl, F.drew, tpI 19 (c := 6) T (by decide) (by omega), On.none _ _ _, Wt.none _ _, qC_size _, trivial⟩
 ·rintro listed mm W ii hi hsz hoff ⟨s7, s8, s9, s10, s11, s12, s13, s14, s15, s16, s17, s18, s19, s20, s21, s22, s23, s24, c_b7, b8, b17, b7, u, k, i, j, n, d, rfl, HF, HT, hH, hw, hz0, -⟩ hd
  simp only [putAll, z1, z2]
  obtain rfl | rfl | rfl | rfl | rfl | rfl | rfl | rfl | rfl | rfl | rfl | rfl | rfl | rfl | rfl | rfl | rfl | rfl | rfl := dr_c19 hi
  ·refine ow rfl rfl fun K hK => ?_
   rw [show listed.getD 0 false = false from hoff] at HF
   refine ⟨?_⟩
   go_simp
   refine (sources_any _).mono ?_
   rintro e W2 ⟨bN, rfl, hb1, hb2, hb3⟩
   replace HF := Fr.push HF hb1 hb2 hb3
   (try dsimp only)
   exact hK _ _ ⟨_, dE, _, _, _, _, _, _, _, _, _, _, _, _, _, _, _, _, _, _, c_b7, bN, b17, b7, u, k, i, j, n, d, rfl, by rw [getD_on (show 0 < listed.size by rw [hsz]; decide), getD_keep (show 0 ≠ 9 by decide), getD_keep (show 0 ≠ 17 by decide)]; exact Fr.mids [[(b6, qC q0, 33)]] HF, tpS HT, onS (onV 3 hH (wtF hw hoff)) rfl rfl, wtS2 hw hd, hz0, trivial⟩
  ·exact oPt
  ·obtain rfl : s9 = _ := dh 1 hH hd
   refine ow rfl rfl fun K hK => ?_
   have T := tpC 1 HT hoff hsz
   have F := HF
   refine ⟨?_⟩
   go_simp
   with_reducible refine fr_tap F T (tnext _ (by omega) (by omega) (T.at F)) ?_
   clear HF HT F T
   rintro _ u W ⟨k, rfl, hq⟩ HT HF
   (try dsimp only)
   exact hK _ _ ⟨_, dE, _, _, _, _, _, _, _, _, _, _, _, _, _, _, _, _, _, _, c_b7, b8, b17, b7, u, k, i, j, n, d, rfl, dF, ⟨HT⟩, onS (onV 18 (onV 16 (onV 4 (onV 3 hH (wtF hw hoff)) (wtF hw hoff)) (wtF hw hoff)) (wtF hw hoff)) ⟨rfl, hq⟩ rfl, wtS2 hw hd, hz0, trivial⟩
  ·obtain rfl : s8 = _ := dh 0 hH hd
   obtain ⟨rfl, q10⟩ : s10 = _ ∧ _ := dh 2 hH hd
   have hq : k < 4 := by have := q10; omega
   refine ow rfl rfl fun K hK => ?_
   have HG := hd 0 (by kernel_rfl)
   rw [HG] at HF
   simp only [onl, if_true, z7, z8] at HF
   exact oQt
  ·obtain ⟨rfl, q11⟩ : s11 = _ ∧ _ := dh 3 hH hd
   have hq : k < 4 := q11
   refine ow rfl rfl fun K hK => ?_
   have HG := hdw 3 0 hw (hd 3 (by kernel_rfl))
   rw [HG] at HF
   simp only [onl, if_true, z7, z8] at HF
   have cF := BlkAt.cell (Fr.get HF (b := b8) (cs := srcC) tL) (src_at hq)
   exact oQt
  ·exact oPt
  ·obtain rfl : s13 = _ := dh 5 hH hd
   refine ow rfl rfl fun K hK => ?_
   have T := tpC 1 HT hoff hsz
   have F := HF
   refine ⟨?_⟩
   go_simp
   with_reducible refine fr_tap F T (tpaper (T.at F)) ?_
   clear HF HT F T
   rintro _ u W ⟨i, rfl, hq⟩ HT HF
   (try dsimp only)
   exact hK _ _ ⟨_, dE, _, _, _, _, _, _, _, _, _, _, _, _, _, _, _, _, _, _, c_b7, b8, b17, b7, u, k, i, j, n, d, rfl, dF, ⟨HT⟩, onS (onV 18 (onV 16 hH (wtF hw hoff)) (wtF hw hoff)) ⟨rfl, hq⟩ rfl, wtS2 hw hd, hz0, trivial⟩
  ·exact oPt
  ·exact oPt
  ·refine ow rfl rfl fun K hK => ?_
   rw [show listed.getD 9 false = false from hoff] at HF
   with_reducible apply gSli HF slInt
   ·exact rfl
   ·exact rfl
   ·decide
   ·decide
   ·(go_simp; exact rfl)
   ·exact rfl
   intro bN W HF
   go_simp
   exact hK _ _ ⟨_, dE, _, _, _, _, _, _, _, _, _, _, _, _, _, _, _, _, _, _, c_b7, b8, bN, b7, u, k, i, j, n, d, rfl, by rw [getD_on (show 9 < listed.size by rw [hsz]; decide), getD_keep (show 9 ≠ 0 by decide), getD_keep (show 9 ≠ 17 by decide)]; exact Fr.mids [[(b6, qC q0, 33)], onl (listed.getD 0 false) (b8, srcC, 9)] HF, tpS HT, onS hH rfl rfl, wtS2 hw hd, hz0, trivial⟩
  ·obtain rfl : s16 = _ := dh 8 hH hd
   obtain rfl : s17 = _ := dh 9 hH hd
   refine ow rfl rfl fun K hK => ?_
   have HG := hd 9 (by kernel_rfl)
   rw [HG] at HF
   simp only [onl, if_true, z7, z8] at HF
   have T := tpC 1 HT hoff hsz
   have F := HF
   refine ⟨?_⟩
   go_simp
   with_reducible refine fr_tap F T (tpickF [0, 0, 0, 1, 2, 5] F T tL (by with_unfolding_all rfl) (by with_unfolding_all rfl) (by simp) (by simp)) ?_
   clear HF HT F T
   rintro _ u W ⟨j, rfl, hq⟩ HT HF
   (try dsimp only)
   exact hK _ _ ⟨_, dE, _, _, _, _, _, _, _, _, _, _, _, _, _, _, _, _, _, _, c_b7, b8, b17, b7, u, k, i, j, n, d, rfl, dF, ⟨HT⟩, onS (onV 18 (onV 16 (onV 12 (onV 11 hH (wtF hw hoff)) (wtF hw hoff)) (wtF hw hoff)) (wtF hw hoff)) ⟨rfl, hq⟩ rfl, wtS2 hw hd, hz0, trivial⟩
  ·obtain rfl : s15 = _ := dh 7 hH hd
   obtain ⟨rfl, q18⟩ : s18 = _ ∧ _ := dh 10 hH hd
   exact oPt
  ·obtain rfl : s19 = _ := dh 11 hH hd
   exact oPt
  ·exact oPt
  ·obtain rfl : s21 = _ := dh 13 hH hd
   refine ow rfl rfl fun K hK => ?_
   have T := tpC 3 HT hoff hsz
   have F := HF
   refine ⟨?_⟩
   go_simp
   with_reducible refine fr_tap F T (tprice (T.at F)) ?_
   clear HF HT F T
   rintro _ u W ⟨n, d, rfl, hq⟩ HT HF
   (try dsimp only)
   exact hK _ _ ⟨_, dE, _, _, _, _, _, _, _, _, _, _, _, _, _, _, _, _, _, _, c_b7, b8, b17, b7, u, k, i, j, n, d, rfl, dF, ⟨HT⟩, onS (onV 18 (onV 16 hH (wtF hw hoff)) (wtF hw hoff)) ⟨rfl, hq⟩ rfl, wtS2 hw hd, hz0, trivial⟩
  ·exact oPt
  ·obtain ⟨rfl, q12⟩ : s12 = _ ∧ _ := dh 4 hH hd
   obtain ⟨rfl, q14⟩ : s14 = _ ∧ _ := dh 6 hH hd
   obtain rfl : s20 = _ := dh 12 hH hd
   obtain ⟨rfl, q22⟩ : s22 = _ ∧ _ := dh 14 hH hd
   obtain rfl : s23 = _ := dh 15 hH hd
   refine ow rfl rfl fun K hK => ?_
   with_reducible apply gB_quo7
   ·exact rfl
   ·exact rfl
   ·exact rfl
   ·exact rfl
   ·exact rfl
   ·exact rfl
   exact oRt
  ·refine ow rfl rfl fun K hK => ?_
   rw [show listed.getD 17 false = false from hoff] at HF
   with_reducible apply gA_quo HF
   intro bN W HF
   go_simp
   exact hK _ _ ⟨_, dE, _, _, _, _, _, _, _, _, _, _, _, _, _, _, _, _, _, _, (qC q0), b8, b17, bN, u, k, i, j, n, d, rfl, by rw [getD_on (show 17 < listed.size by rw [hsz]; decide), getD_keep (show 17 ≠ 0 by decide), getD_keep (show 17 ≠ 9 by decide)]; exact Fr.mids [[(b6, qC q0, 33)], onl (listed.getD 0 false) (b8, srcC, 9), onl (listed.getD 9 false) (b17, flatC [.int .i64 0, .int .i64 0, .int .i64 0, .int .i64 1, .int .i64 2, .int .i64 5], 3)] HF, tpS HT, onS (onV 18 hH (wtF hw hoff)) rfl rfl, wtS2 hw hd, qC_size _, trivial⟩
  ·obtain rfl : s24 = _ := dh 16 hH hd
   obtain rfl : s7 = _ := dh 17 hH hd
   refine ow rfl rfl fun K hK => ?_
   have HG := hd 17 (by kernel_rfl)
   rw [HG] at HF
   simp only [onl, if_true, z7, z8] at HF
   with_reducible apply gS HF
   ·exact rfl
   ·exact rfl
   ·exact tL
   ·with_reducible exact rowQ _
   ·with_reducible exact hz0.trans (qC_size _).symm
   clear HF
   intro W HF
   simp only [z7, z8, List.append_assoc, List.append_nil] at HF
   go_simp
   exact hK _ _ ⟨_, dE, _, _, _, _, _, _, _, _, _, _, _, _, _, _, _, _, _, _, (qC ⟨srcAt k, i, cUsd, max 0 (IntKind.i64.wrap (day - j)), decide (n < 0), n.natAbs, decide (d < 0), d.natAbs, known, false⟩), b8, b17, b7, u, k, i, j, n, d, rfl, dF, tpS HT, onS hH rfl rfl, wtS2 hw hd, qC_size _, trivial⟩
 rintro listed mm W ⟨s7, s8, s9, s10, s11, s12, s13, s14, s15, s16, s17, s18, s19, s20, s21, s22, s23, s24, c_b7, b8, b17, b7, u, k, i, j, n, d, rfl, HF, HT, hH, hw, hz0, -⟩ hall
 obtain ⟨rfl, rfl, ⟨rfl, q10⟩, ⟨rfl, q11⟩, ⟨rfl, q12⟩, rfl, ⟨rfl, q14⟩, rfl, rfl, rfl, ⟨rfl, q18⟩, rfl, rfl, rfl, ⟨rfl, q22⟩, rfl, rfl, rfl, e18⟩ := onA hH hall
 rw [hall 0 (by decide)] at HF
 rw [hall 9 (by decide)] at HF
 rw [hall 17 (by decide)] at HF
 simp only [onl, if_true, z7, z8] at HF
 rw [e18] at HF
 replace T := tpE HT
 clear hall hH HT e18 hw hz0 F
 have F := HF
 clear HF
 simp only [putAll, z1, z2]
 replace F := F.sub (L' := [(b6, qC q0, 33), (b7, qC ⟨srcAt k, i, cUsd, max 0 (IntKind.i64.wrap (day - j)), decide (n < 0), n.natAbs, decide (d < 0), d.natAbs, known, false⟩, 33)]) (by repeat (first | exact List.Sublist.slnil | apply List.Sublist.cons_cons | apply List.Sublist.cons))
 obtain ⟨s0, hs0⟩ : ∃ s0, srcAt k = s0 := ⟨_, rfl⟩
 obtain ⟨dy, hdy⟩ : ∃ dy, max 0 (IntKind.i64.wrap (day - j)) = dy := ⟨_, rfl⟩
 have hn0 : nameB s0 = true := by rw [← hs0]; exact (src_nm q11).1
 have hd0 : 0 ≤ dy ∧ dy ≤ 73048 := by
  rw [← hdy, IntWalk.i64_in _ (by simp only [List.mem_cons, List.not_mem_nil, or_false] at q18; omega)]
  simp only [List.mem_cons, List.not_mem_nil, or_false] at q18
  omega
 have hp0 := paper_ok q14
 rw [hs0, hdy] at F
 clear q10 q11 q12 q14 q18 hs0 hdy hd
 go_wp2_with (first | go_skip | ((with_reducible apply fSc F); exact rfl; exact rfl; (go_simp; exact rfl); (exact tL); (with_reducible exact scStr); exact rfl; (with_reducible exact q_cur _); (with_reducible exact q_gbp _); clear F; intro W F; simp only [z7, z8] at F) | ((go_at_call 44); (with_reducible refine fr_tap F T (tchance _ _ (by decide) (by decide) (T.at F)) ?_); (try clear F T); (rintro _ u W ⟨(_ | _), rfl⟩ T F); (try dsimp only)) | ((go_at_call 45); (with_reducible refine fr_tap F T (tcode (T.at F)) ?_); (try clear F T); (rintro _ u W ⟨c, rfl, hc⟩ T F); (try dsimp only)) | refine aYQ ?_ | ((with_reducible apply fSli F slInt); exact rfl; exact rfl; exact rfl; decide; decide; (go_simp; exact rfl); exact rfl) | ((with_reducible apply fSli F slStr); exact rfl; exact rfl; exact rfl; decide; decide; (go_simp; exact rfl); exact rfl) | (refine aTQ ?_; clear F; intro W F) | refine aNQ ?_)
 all_goals refine bodyPost_ret (res_c rfl rfl (Fr.get F tL) (rowQ _)) rfl (tap_end (T.less (by omega)) F ⟨_, rfl, ?_⟩)
 all_goals first
  | with_reducible exact right_made hn0 hp0 (code_ok (by decide)) hd0 q22
  | with_reducible exact void_made hn0 hp0 (code_ok (by decide)) hd0
  | with_reducible exact right_made hn0 hp0 (code_ok hc) hd0 q22
  | with_reducible exact void_made hn0 hp0 (code_ok hc) hd0
end
section
section
open Go.ChangeShapes Go.WideShapes Go.ChangeAt Go.RowKit Go.Deep
def IntsAt (W : World) (A : Option Addr) (L : List Int) : Prop :=
 L.length ≤ 9223372036854775807 ∧ ∀ k x, L[k]? = some x → ∃ bb o, A = some ⟨bb, o, none⟩ ∧ bb < W.heap.size ∧ W.cell? ⟨bb, o + k, none⟩ = some (.int .i64 x)
theorem IntsAt.below {W W' : World} {A : Option Addr} {L : List Int} (h : IntsAt W A L) (hb : Below W.heap.size W W') : IntsAt W' A L :=
 ⟨h.1, fun k x hx => by
  obtain ⟨bb, o, hA, hlt, hc⟩ := h.2 k x hx
  exact ⟨bb, o, hA, Nat.lt_of_lt_of_le hlt hb.size, (hb.cell (p := ⟨bb, _, none⟩) hlt).trans hc⟩⟩
section
variable {H : Type} {enc : TypeId × Value → H}
theorem open_ints1 {W : World} {A : Option Addr} {len cap : Nat} {d : DataW H} {p : List MemPlace} (h : DataW.Trod enc Tryz.prog W 0 (fun _ => true) true 40 (.slice A len cap) d p) :
  ∃ L : List Int, len = L.length ∧ IntsAt W A L := by
 obtain ⟨fuel, hf⟩ := h
 rcases open_ints Tryz.underlying40 Tryz.underlying3 (by kernel_rfl) hf with ⟨hcs, _⟩ | ⟨x, l, c, zs, hcs, _, hl, hm, hz, _, hcell, hwz⟩
 ·simp [Value.cells] at hcs
  obtain ⟨rfl, rfl, rfl⟩ := hcs
  exact ⟨[], rfl, by simp, fun k x hx => by simp at hx⟩
 ·simp [Value.cells] at hcs
  obtain ⟨rfl, rfl, rfl⟩ := hcs
  have hzl : zs.length = cap := by simpa using hz
  unfold maxLen at hm
  refine ⟨zs.take len, by simp; omega, by simp; omega, fun k y hk => ?_⟩
  have hk1 : k < len := by
   have := (List.getElem?_eq_some_iff.1 hk).1
   simp at this
   omega
  obtain ⟨b, off, rfl, hc⟩ := ints_at hcell (by omega)
  have hck := hc k (by omega)
  have hy : zs.getD k 0 = y := by
   rw [List.getElem?_take_of_lt hk1] at hk
   simp [List.getD, hk]
  rw [hy] at hck
  exact ⟨b, off, rfl, blt hck, hck⟩
end
theorem tape_start {w : World} {A : Option Addr} {L : List Int} {cap : Nat} (h : IntsAt w A L) :
  TapeAt (w.alloc (.cells #[.slice A L.length cap, .int .i64 0] 43)) w.heap.size w.heap.size 1000000000 :=
 ⟨Nat.le_refl _, A, L, cap, 0, h.1, by omega, heap_alloc_new w _, fun k x hx => by
  obtain ⟨bb, o, hA, hlt, hc⟩ := h.2 k x hx
  exact ⟨bb, o, hA, hlt, cell_al _ hlt hc⟩⟩
end
end
section
open Go.ChangeShapes Go.WideShapes Go.ChangeAt Go.RowKit Go.Deep
theorem gP10 : Tryz.prog.globalNamed "internal/strconv.uint64pow10" = some 6 := by kernel_rfl
theorem tab7 {W : World} (h : laidMetH Tryz.prog laid7 W) : Tab W := by
 rw [MakeChecks.laidMetH_plain _ _ _ (by kernel_rfl)] at h
 obtain ⟨ps, ⟨g0, t0, cs0, f0, p0, q0, hg0, ht0, hv0, hd0, ⟨g1, t1, cs1, f1, p1, q1, hg1, ht1, hv1, hd1, ⟨g2, t2, cs2, f2, p2, q2, hg2, ht2, hv2, hd2, _, _⟩, _⟩, _⟩, _, _⟩ := h
 obtain rfl := Option.some.inj (gP10.symm.trans hg2)
 obtain ⟨t, e, n, hty, hu, he, hce, hct⟩ : ∃ t e n, (Tryz.prog.globals[6]?).map (·.type) = some t ∧ Tryz.prog.underlying t = some (.array n e) ∧ Tryz.prog.underlying e = some (.int .u64) ∧ Tryz.prog.cellsOf e = 1 ∧ Tryz.prog.cellsOf t = n := ⟨_, _, _, by kernel_rfl, Tryz.underlying261, Tryz.underlying171, by kernel_rfl, by kernel_rfl⟩
 obtain rfl := Option.some.inj (hty.symm.trans ht2)
 unfold Tab Lib.TabIs
 rw [hv2, ← Lib.cells_of_tab hu he hce hct hd2]
end
section
open Go.RowKit
set_option maxHeartbeats 4000000
theorem VisP.at {W0 W : World} {V : List QT} {v : Value} (h : OwnL W0 W 33 72 v V.length (qCs V)) (hl : V.length ≤ 9223372036854775807) : ∃ A c, v = .slice A V.length c ∧ RecsAt W A 72 (V.map fun q => (qC q).toList) := by
 obtain ⟨hn, A, cap, hv, hr, -⟩ := h.recs (fun x hx => by
  obtain ⟨y, -, rfl⟩ := List.mem_map.1 hx
  rw [Array.length_toList, qC_size]) (by decide) (by simpa using hl)
 exact ⟨A, cap, hv, hr⟩
theorem mksFrom_snoc {x : MK} : ∀ {l : List MK} {last : Int}, mksFrom last l = true → x.ok = true → (∀ y ∈ l, y.known < x.known) → last < x.known → mksFrom last (l ++ [x]) = true
 | [], last, _, h1, _, h2 => by
   show (x.ok && decide (last < x.known) && true) = true
   rw [h1, decide_eq_true h2]
   rfl
 | y :: l, last, h, h1, h2, h3 => by
   have h' : (y.ok && decide (last < y.known) && mksFrom y.known l) = true := h
   rw [Bool.and_eq_true] at h'
   show (y.ok && decide (last < y.known) && mksFrom y.known (l ++ [x])) = true
   rw [h'.1, mksFrom_snoc h'.2 h1 (fun z hz => h2 z (List.mem_cons_of_mem _ hz)) (h2 y (List.mem_cons_self ..))]
   rfl
theorem mark_ok {q : QT} (h : q.right = true) (hk : q.known ≤ 2147483647) : q.mark.ok = true := by
 have hd := dayL_len q.day
 unfold QT.right at h
 simp only [Bool.and_eq_true, decide_eq_true_eq] at h
 obtain ⟨h1, h2, -⟩ := h
 unfold nameB at h1
 unfold paperB at h2
 simp only [Bool.and_eq_true, decide_eq_true_eq] at h1 h2
 refine MK.ok_iff.2 ⟨?_, hk⟩
 unfold QT.mark QT.key
 dsimp only
 rw [bs_size]
 simp only [List.length_append, List.length_cons]
 omega
structure MB (L : List QT) (k : Int) : Prop where
 ok : L.all QT.ok = true
 ms : mksFrom 0 (L.map QT.mark) = true
 le : ∀ q ∈ L, q.known ≤ k
 pos : 0 ≤ k
 mem : ∀ q ∈ L, QuoV q.known q
theorem MB.nil : MB [] 0 := ⟨rfl, rfl, by simp, Int.le_refl 0, by simp⟩
theorem MB.le_trans {L : List QT} {k m : Int} (h : MB L k) (hm : k ≤ m) : MB L m := ⟨h.ok, h.ms, fun q hq => Int.le_trans (h.le q hq) hm, Int.le_trans h.pos hm, h.mem⟩
theorem MB.snoc {L : List QT} {k m : Int} {q : QT} (h : MB L k) (hq : QuoV m q) (hk : k < m) (hm : m ≤ 2147483647) : MB (L ++ [q]) m := by
 have hp := h.pos
 have e := hq.known
 refine ⟨?_, ?_, fun x hx => ?_, by omega, fun x hx => ?_⟩
 ·rw [List.all_append, h.ok]
  simp only [List.all_cons, List.all_nil, Bool.and_true, Bool.true_and]
  unfold QT.ok
  rw [hq.right, e, Bool.true_and]
  exact (knB_iff m).2 ⟨by omega, hm⟩
 ·rw [List.map_append]
  refine mksFrom_snoc h.ms (mark_ok hq.right (by omega)) (fun y hy => ?_) ?_
  ·obtain ⟨x, hx, rfl⟩ := List.mem_map.1 hy
   have := h.le x hx
   show x.known < q.known
   omega
  ·show 0 < q.known
   omega
 ·rcases List.mem_append.1 hx with hx | hx
  ·have := h.le x hx
   omega
  ·rw [List.mem_singleton.1 hx]
   omega
 ·rcases List.mem_append.1 hx with hx | hx
  ·exact h.mem x hx
  ·rw [List.mem_singleton.1 hx, e]
   exact hq
theorem lt32' {x : Nat} (h : x < bp 15) : x < bp 32 := Nat.lt_of_lt_of_le h (bp_le (by decide))
theorem right_lens {q : QT} (h : q.right = true) : q.src.length ≤ 9223372036854775807 ∧ q.ins.length ≤ 9223372036854775807 ∧ q.cur.length ≤ 9223372036854775807 := by
 unfold QT.right at h
 simp only [Bool.and_eq_true, decide_eq_true_eq] at h
 obtain ⟨h1, h2, h3, -⟩ := h
 unfold nameB at h1
 unfold paperB at h2
 unfold codeB at h3
 simp only [Bool.and_eq_true, decide_eq_true_eq] at h1 h2 h3
 omega
theorem MB.at {L : List QT} {k : Int} (h : MB L k) {W0 W : World} {v : Value} (hO : OwnL W0 W 33 72 v L.length (qCs L)) (hl : L.length ≤ 9223372036854775807) : ∃ A c, v = .slice A L.length c ∧ QuAt W A L := by
 obtain ⟨hn, A, cap, hv, hr, -⟩ := hO.recs (fun x hx => by
  obtain ⟨y, -, rfl⟩ := List.mem_map.1 hx
  rw [Array.length_toList, qC_size]) (by decide) (by simpa using hl)
 exact ⟨A, cap, hv, hr, fun q hq => lt32' (h.mem q hq).a, fun q hq => lt32' (h.mem q hq).b, fun q hq => (right_lens (h.mem q hq).right).1, fun q hq => (right_lens (h.mem q hq).right).2.1, fun q hq => (right_lens (h.mem q hq).right).2.2⟩
def QuosP (n : Nat) (B b N : Nat) (w : World) (e : Ending) (w' : World) : Prop :=
 ∃ (L : List QT) (v : Value) (X : List Ent) (u : World), e = .returned v ∧ L.length = n ∧ MB L ((6 * n : Nat) : Int) ∧ SlG 33 72 v n (qCs L) X ∧ Tp w u B b N ∧ Fr u w' X
theorem pick_gap {r : Int} (h : r ∈ [0, 0, 1, 5]) : 0 ≤ r ∧ r ≤ 5 := by
 simp only [List.mem_cons, List.not_mem_nil, or_false] at h
 omega
theorem pick_day {r : Int} (h : r ∈ [0, 0, 0, 1]) : 0 ≤ r ∧ r ≤ 1 := by
 simp only [List.mem_cons, List.not_mem_nil, or_false] at h
 omega
set_option maxRecDepth 100000 in
theorem tquotes {B b N n : Nat} {w : World} {day : Int} (hn : n ≤ 100) (hd : 0 ≤ day ∧ day ≤ 73048) (h : TapeAt w B b (N + 11 * n)) : Calls Tryz.prog 18 #[.pointer (some ⟨b, 0, none⟩), .int .i64 n, .int .i64 day] w (QuosP n B b N w) := by
 have F := Fr.start w
 have T := Tp.start h
 clear h
 go_enter Tryz.func18, Tryz.ntmps18
 go_wp2_with (first | go_skip | refine aYQ ?_ | ((with_reducible apply fSli F slInt); exact rfl; exact rfl; exact rfl; decide; decide; (go_simp; exact rfl); exact rfl) | ((with_reducible apply fSli F slStr); exact rfl; exact rfl; exact rfl; decide; decide; (go_simp; exact rfl); exact rfl) | (refine aTQ ?_; clear F; intro W F) | refine aNQ ?_)
 go_loopw [7, 8, 9] (fun lv kv iv wr => ∃ (i : Nat) (kn : Int) (L : List QT) (X : List Ent) (u : World), i ≤ n ∧ kv = .int .i64 kn ∧ iv = .int .i64 i ∧ L.length = i ∧ kn ≤ ((6 * i : Nat) : Int) ∧ MB L kn ∧ SlG 33 72 lv i (qCs L) X ∧ Tp w u B b (N + 11 * (n - i)) ∧ Fr u wr X) (fun _ _ iv _ => n - (intOf iv).toNat)
 case atStart => exact ⟨0, 0, [], [], _, by omega, rfl, rfl, rfl, by omega, MB.nil, SlG.nil _ _, T, F⟩
 case round =>
  clear F T
  obtain ⟨i, kn, L, X, u, hi, rfl, rfl, hLi, hk, hM, S, T, F⟩ := hrel
  have HS := Lib.hid S
  have HM := Lib.hid hM
  have HL := Lib.hid hLi
  have hk0 := hM.pos
  clear S hM hLi
  by_cases hlt : i < n
  ·obtain ⟨M, hM1⟩ : ∃ M, N + 11 * (n - i) = M + 11 ∧ M = N + 11 * (n - (i + 1)) := ⟨N + 11 * (n - (i + 1)), by omega, rfl⟩
   rw [hM1.1] at T
   have HMM := Lib.hid hM1.2
   clear hM1
   go_wp2_with (first | go_skip | refine aYQ ?_ | ((with_reducible apply fSli F slInt); exact rfl; exact rfl; exact rfl; decide; decide; (go_simp; exact rfl); exact rfl) | ((with_reducible apply fSli F slStr); exact rfl; exact rfl; exact rfl; decide; decide; (go_simp; exact rfl); exact rfl) | (refine aTQ ?_; clear F; intro W F) | refine aNQ ?_)
   (clear F; intro b17 W F; try simp only [Act.put, z6, z1, z2])
   go_wp2_with (first | go_skip | ((go_at_call 30); (with_reducible refine fr_tap F T (tpickF [0, 0, 1, 5] F T tL (by with_unfolding_all rfl) (by with_unfolding_all rfl) (by simp) (by simp)) ?_); (try clear F T); (rintro _ u W ⟨r, rfl, hr⟩ T F); (replace hr := pick_gap hr); (try dsimp only)) | refine aYQ ?_ | ((with_reducible apply fSli F slInt); exact rfl; exact rfl; exact rfl; decide; decide; (go_simp; exact rfl); exact rfl) | ((with_reducible apply fSli F slStr); exact rfl; exact rfl; exact rfl; decide; decide; (go_simp; exact rfl); exact rfl) | (refine aTQ ?_; clear F; intro W F) | refine aNQ ?_)
   (clear F; intro b25 W F; try simp only [Act.put, z6, z1, z2])
   go_wp2_with (first | go_skip | ((go_at_call 30); (with_reducible refine fr_tap F T (tpickF [0, 0, 0, 1] F T tL (by with_unfolding_all rfl) (by with_unfolding_all rfl) (by simp) (by simp)) ?_); (try clear F T); (rintro _ u W ⟨s, rfl, hs⟩ T F); (replace hs := pick_day hs); (try dsimp only)) | refine aYQ ?_ | ((with_reducible apply fSli F slInt); exact rfl; exact rfl; exact rfl; decide; decide; (go_simp; exact rfl); exact rfl) | ((with_reducible apply fSli F slStr); exact rfl; exact rfl; exact rfl; decide; decide; (go_simp; exact rfl); exact rfl) | (refine aTQ ?_; clear F; intro W F) | refine aNQ ?_)
   go_wp2_with (first | go_skip | ((go_at_call 23); (with_reducible refine fr_tap F T (tquote (N := M) (by omega) (T.at F)) ?_); (try clear F T); (rintro _ u W ⟨q, rfl, hq⟩ T F); (try dsimp only)) | ((with_reducible apply fSli F slQuo); exact rfl; exact rfl; exact rfl; decide; decide; (go_simp; exact rfl); (exact q_all _)) | refine aYQ ?_ | ((with_reducible apply fSli F slInt); exact rfl; exact rfl; exact rfl; decide; decide; (go_simp; exact rfl); exact rfl) | ((with_reducible apply fSli F slStr); exact rfl; exact rfl; exact rfl; decide; decide; (go_simp; exact rfl); exact rfl) | (refine aTQ ?_; clear F; intro W F) | refine aNQ ?_)
   (clear F; intro b31 W F; try simp only [Act.put, z6, z1, z2])
   replace F := F.sub (L' := (b31, flatC [.agg (qC q)], 33) :: X) (List.Sublist.cons_cons _ (List.Sublist.cons _ (List.Sublist.cons _ (List.Sublist.refl _))))
   have hk2 : kn + (1 + r) ≤ 2147483647 := by omega
   have HM2 := Lib.hid (HM.out.snoc hq (by omega) hk2)
   clear hq hk2 HM
   go_wp2_with (first | go_skip | ((with_reducible apply fPushB elQuo (n := i) (by unfold maxLen; omega) (by omega) HS.out F); exact rfl; exact rfl; exact rfl; exact q_flat q; exact q_one q; (clear F HS); (intro v' X' W' S' F')) | refine aYQ ?_ | ((with_reducible apply fSli F slInt); exact rfl; exact rfl; exact rfl; decide; decide; (go_simp; exact rfl); exact rfl) | ((with_reducible apply fSli F slStr); exact rfl; exact rfl; exact rfl; decide; decide; (go_simp; exact rfl); exact rfl) | (refine aTQ ?_; clear F; intro W F) | refine aNQ ?_)
   go_roundw
   case rel => exact ⟨i + 1, kn + (1 + r), L ++ [q], X', u, by omega, rfl, by go_num, by rw [List.length_append, HL.out]; rfl, by omega, HM2.out, by rw [qCs_snoc, ← flatC_q]; exact S', by rw [← HMM.out]; exact T, F'⟩
   case measure => simp [intOf]; omega
  ·obtain rfl : i = n := by omega
   go_wp2_with (first | go_skip | refine aYQ ?_ | ((with_reducible apply fSli F slInt); exact rfl; exact rfl; exact rfl; decide; decide; (go_simp; exact rfl); exact rfl) | ((with_reducible apply fSli F slStr); exact rfl; exact rfl; exact rfl; decide; decide; (go_simp; exact rfl); exact rfl) | (refine aTQ ?_; clear F; intro W F) | refine aNQ ?_)
   go_ret
   refine ⟨L, _, X, u, rfl, HL.out, HM.out.le_trans hk, HS.out, ?_, F⟩
   exact T.less (by omega)
theorem qtape_out {w u W : World} {o : Obj} {N : Nat} {L : List Ent} (T : Tp (w.alloc o) u w.heap.size w.heap.size N) (F : Fr u W L) : Below w.heap.size w W := by
 exact (bal0 w o).trans (only_to_below (T.out F) (Nat.le_refl _) (by simp))
theorem quos_tp {w u u2 W : World} {B b M N : Nat} {L : List Ent} (F : Fr u W L) (T : Tp w u B b M) (h : Tp W u2 B b N) : Tp w u2 B b N := ⟨only_trans (T.out F) h.only, h.tape⟩
theorem tday {W : World} {B b N : Nat} (h : TapeAt W B b (N + 2)) : Calls Tryz.prog 17 #[.pointer (some ⟨b, 0, none⟩)] W (TapP (fun v => ∃ k : Int, v = .int .i64 k ∧ 0 ≤ k ∧ k ≤ 73048) B b N W) := by
 refine (day_any B b N W h).mono ?_
 rintro e W' ⟨k, hk, hk2, he, ht, ho⟩
 exact ⟨_, ⟨k, rfl, hk, hk2⟩, he, ht, ho⟩
theorem Fr.last {w W : World} {X : List Ent} {x : Ent} (F : Fr w W (x :: X)) : Fr w W X := F.sub (List.Sublist.cons _ (List.Sublist.refl _))
theorem QuoV.wf {k : Int} {q : QT} (h : QuoV k q) : q.wf := ⟨lt32' h.a, lt32' h.b, (right_lens h.right).1, (right_lens h.right).2.1, (right_lens h.right).2.2⟩
end
section
open Go.RowKit
abbrev Ents := List Ent
end
section
open Go.RowKit
section
variable {a : Act} {u w W : World} {A X Y F : List Ent} {K : Act → World → Prop} {Q : Exit → Act → World → Prop} {dst : Option Tmp} {ty : TypeId} {pos : String} {af : Array Edge} {gd : Option (Nat × Bool)} {s x : Operand} {n : Nat} {v : Value} {xs : List Value} {b : Nat} {t : TypeId} {q : QT} {T : TypeId} {ds : Array Value}
theorem gLW (hb : BlkAt W b ds t) (hx : a.eval x = .pointer (some ⟨b, 0, none⟩)) (hv : RowV Tryz.prog T ds) (hk : K (a.put dst (.agg ds)) W) : OpW Tryz.prog ⟨dst, .load T x, ty, pos, af, gd⟩ a W K Q := by
 obtain ⟨d, hu, hd2⟩ := hv.row.row
 exact ⟨wp_load_mid T x rfl b 0 hx ds.toList d (fun j v hj => by
  rw [Nat.zero_add]
  exact hb.cell (by rw [← Array.getElem?_toList]; exact hj)) hu (by cases d <;> simp_all [TypeDesc.isRow]) (by simpa using hv.row.size) hk⟩
theorem gPushK (S : SlG 33 72 v n xs Y) (h : Fr u W (A ++ Y)) (hn0 : 0 < n) (hn : n ≤ 1000) (B : BlkAt W b (flatC [.agg (qC q)]) t) (hs : a.eval s = v) (hx : a.eval x = .slice (some ⟨b, 0, none⟩) 1 1)
  (hk : ∀ v' X' W' Y' Z, SlG 33 72 v' (n + 1) (xs ++ (qC q).toList) X' → X'.Sublist Z → SlG 33 72 v n xs Y' → Y'.Sublist Z → Fr u W' (A ++ Z) → K (a.put dst v') W') :
  OpW Tryz.prog ⟨dst, .call { callee := .builtin .append, args := #[s, x], argTypes := #[22, 22] }, ty, pos, af, gd⟩ a W K Q := by
 rw [flatC_q] at B
 obtain ⟨i, z, hi, hz, hsz, hby, hzs⟩ := elQuo.info
 have hYs : Fr u W Y := h.sub (List.sublist_append_right _ _)
 have hown := S.owned hYs
 have hl : (qC q).toList.length = 1 * 72 := by rw [Array.length_toList, qC_size]
 have hnews : ∀ (j : Nat) y, (qC q).toList[j]? = some y → W.cell? ((⟨b, 0, none⟩ : Addr).add j) = some y := fun j y hj => by
  rw [Go.WideShapes.add_plain, Nat.zero_add]
  exact B.cell (by rw [← Array.getElem?_toList]; exact hj)
 have h1 : ∀ y ∈ (qC q).toList, y.oneCell' = true := fun y hy => List.all_eq_true.1 (by simpa using (rowQ q).one) y hy
 rcases S.is with ⟨-, h0, -⟩ | ⟨g, cap, cur, rfl, rfl, h3, h4, h5, h6⟩
 ·omega
 ·have hB : BlkAt W g cur 33 := h.atA
  by_cases hroom : n + 1 ≤ cap
  ·refine ⟨wp_append_own_spare W s x 22 rfl u.heap.size 33 i 72 elQuo.sl hi hsz g n cap xs hs hown ⟨b, 0, none⟩ 1 1 (qC q).toList hx hl hnews h1 hroom ?_⟩
   intro w' hown' hg
   rcases hown'.2 with ⟨hv, -⟩ | ⟨g', cap', cur', hv', hb', hblk', h3', h4', h5', h6'⟩
   ·cases hv
   ·cases hv'
    have hgg := h.geA
    have hbl : Below u.heap.size u w' := by
     refine ⟨hg.os.trans h.below.os, hg.tape.trans h.below.tape, hg.output.trans h.below.output, Nat.le_trans h.below.size hg.size, fun k hk' => ?_⟩
     refine (hg.block k (Nat.lt_of_lt_of_le hk' h.below.size) (fun e2 => ?_)).trans (h.below.block k hk')
     injection e2 with e2
     omega
    have hF : Fr u w' (A ++ [(g, cur', 33)]) := h.change (cs' := cur') ⟨hblk'⟩ (fun k ds t hne hb => ⟨(hg.block k hb.lt (fun e2 => hne (by injection e2))).trans hb.blk⟩) hbl
    refine hk _ [(g, cur', 33)] w' [(g, cur', 33)] _ ⟨hown'.1, .inr ⟨g, cap, cur', rfl, rfl, h3', h4', h5', h6'⟩⟩ (List.Sublist.refl _) ⟨S.len, .inr ⟨g, cap, cur', rfl, rfl, h3, h4, h5', ?_⟩⟩ (List.Sublist.refl _) hF
    have e := congrArg (List.take (n * 72)) h6'
    rw [List.take_take, Nat.min_eq_left (by omega), List.take_left' S.len] at e
    exact e
  ·have holds : ∀ (j : Nat) y, xs[j]? = some y → W.cell? ((⟨g, 0, none⟩ : Addr).add j) = some y := hown.cells (g := g) rfl
   have hbytes : (n + 1) * 336 ≤ 140737488355328 := by omega
   obtain ⟨v', w', hr, h2, h3x, h4x⟩ := run_append_own (P := Tryz.prog) W u.heap.size 22 ty 33 i z 72 336 elQuo.sl hi hz hsz hby hzs (by decide) _ n xs hown ⟨b, 0, none⟩ 1 1 (qC q).toList hl hnews h1 (by unfold maxLen; omega) hbytes h.below.size
   have hr2 := run_append_grow (P := Tryz.prog) W 22 ty 33 i z elQuo.sl hi hz ⟨g, 0, none⟩ n cap xs (by rw [hsz]; exact S.len) holds ⟨b, 0, none⟩ 1 1 (qC q).toList (by rw [hsz]; exact hl) hnews (by omega) (by omega) (by rw [hby]; exact growslice_fits (by omega) hbytes)
   have hr3 := hr.symm.trans hr2
   injection hr3 with e1 e2
   have hF := h.drew.alloc (xs.toArray ++ (qC q).toList.toArray ++ Builtin.zeroCells z.cells (grownCap W (n + 1) cap 33 - (n + 1))) 33
   rw [← e2] at hF
   refine ⟨?_⟩
   unfold Oper.wp execOp
   simp only [resolve, invoke, builtin, Sem.run_bind, Sem.run_pure, Result.andThen_ok, List.map_toArray, List.map_cons, List.map_nil, hs, hx, hr]
   rcases h2.2 with ⟨-, hz0⟩ | ⟨g2, cap2, cur2, hv2, hb2, hblk2, k3, k4, k5, k6⟩
   ·omega
   ·rw [e1] at hv2
    injection hv2 with hv3 hv4 hv5
    have hg2 : W.heap.size = g2 := congrArg Addr.block (Option.some.inj hv3)
    have hhere : BlkAt w' W.heap.size _ _ := hF.here
    have hcc : cur2 = xs.toArray ++ (qC q).toList.toArray ++ Builtin.zeroCells z.cells (grownCap W (n + 1) cap 33 - (n + 1)) := by
     have h := hhere.blk
     rw [hg2, hblk2] at h
     exact (Obj.cells.inj (Option.some.inj h)).1
    have hF2 : Fr u w' ((g2, cur2, 33) :: (A ++ [(g, cur, 33)])) := by rw [hcc, ← hg2]; exact hF
    exact hk v' [(g2, cur2, 33)] w' [(g, cur, 33)] [(g2, cur2, 33), (g, cur, 33)] ⟨h2.1, .inr ⟨g2, cap2, cur2, by rw [e1]; simp [hg2, hv4, hv5], rfl, k3, k4, k5, k6⟩⟩ (List.Sublist.cons_cons _ (List.Sublist.cons _ List.Sublist.slnil)) ⟨S.len, .inr ⟨g, cap, cur, rfl, rfl, h3, h4, h5, h6⟩⟩ (List.Sublist.cons _ (List.Sublist.refl _)) (Fr.mid hF2)
end
theorem chk_more {L : List QT} {q : QT} {u W : World} {v : Value} {X : List Ent} (S : SlG 33 72 v (L.length + 1) (qCs L ++ (qC q).toList) X) (F : Fr u W X) (hL : L.length ≤ 100) (hw : ∀ x ∈ L, x.wf) (hq : q.wf) :
  ∃ A c, v = .slice A (L ++ [q]).length c ∧ QuAt W A (L ++ [q]) := by
 have hl2 : (L ++ [q]).length = L.length + 1 := by simp
 rw [← hl2, ← qCs_snoc] at S
 obtain ⟨hn, A, cap, hv, hr, -⟩ := (S.ownL F).recs (fun x hx => by
  obtain ⟨y, -, rfl⟩ := List.mem_map.1 hx
  rw [Array.length_toList, qC_size]) (by decide) (by simp; omega)
 have hall : ∀ x ∈ L ++ [q], x.wf := by
  intro x hx
  rcases List.mem_append.1 hx with hx | hx
  ·exact hw x hx
  ·rw [List.mem_singleton.1 hx]
   exact hq
 exact ⟨A, cap, hv, hr, fun x hx => (hall x hx).a, fun x hx => (hall x hx).b, fun x hx => (hall x hx).s1, fun x hx => (hall x hx).s2, fun x hx => (hall x hx).s3⟩
end
section
open Go.RowKit
set_option maxHeartbeats 4000000
theorem Tp.keep {w1 u W : World} {B b N g : Nat} {cs : Array Value} {t : TypeId} {L : List Ent} (T : Tp w1 u B b N) (F : Fr u W L) (h : BlkAt w1 g cs t) (hne : g ≠ b) : BlkAt W g cs t := ⟨((T.out F).block g h.lt (by intro e; injection e with e; exact hne e)).trans h.blk⟩
structure RT where
 x : Bool
 a : Nat
 y : Bool
 b : Nat
abbrev RT.cells (r : RT) : Array Value := ratC r.x r.a r.y r.b
theorem RT.size (r : RT) : r.cells.size = 66 := ratC_size _ _ _ _
theorem slRat : SlT Tryz.prog 86 31 66 := ⟨Tryz.underlying86, by kernel_rfl⟩
theorem flatC_rats (l : List RT) : (flatC (l.map fun r => .agg r.cells)).toList = (l.map fun r => r.cells.toList).flatten := by
 unfold flatC
 induction l with
 | nil => rfl
 | cons r l ih => simpa [Value.cells] using ih
section
variable {a : Act} {W : World} {Q : Exit → Act → World → Prop} {ops : Array Oper} {rest : List Oper} {dst : Option Tmp} {ty : TypeId} {pos : String} {af : Array Edge} {gd : Option (Nat × Bool)} {x : Operand} {g off : Nat} {ds : Array Value} {T : TypeId}
theorem fLWm (hw : Region.wanted ⟨dst, .load T x, ty, pos, af, gd⟩ (yielded ops a.tmps) = true) (hx : a.eval x = .pointer (some ⟨g, off, none⟩)) (hc : ∀ (j : Nat) v, ds.toList[j]? = some v → W.cell? ⟨g, off + j, none⟩ = some v) (hv : RowV Tryz.prog T ds) (hk : wpList Tryz.prog ops Q rest (a.put dst (.agg ds)) W) : wpList Tryz.prog ops Q (⟨dst, .load T x, ty, pos, af, gd⟩ :: rest) a W := by
 obtain ⟨d, hu, hd2⟩ := hv.row.row
 exact wpList_want hw fun K hK => wp_load_mid T x rfl g off hx ds.toList d hc hu (by cases d <;> simp_all [TypeDesc.isRow]) (by simpa using hv.row.size) (hK _ _ hk)
end
theorem rt_cell {xs : List RT} {W : World} {g k : Nat} {t : TypeId} {r : RT} (hg : BlkAt W g (flatC (xs.map fun r => .agg r.cells)) t) (hr : xs[k]? = some r) : ∀ (j : Nat) v, r.cells.toList[j]? = some v → W.cell? ⟨g, k * 66 + j, none⟩ = some v := by
 intro j v hj
 refine hg.cell ?_
 rw [← Array.getElem?_toList, flatC_rats]
 exact flat_get _ k r.cells.toList (fun x hx => by
  obtain ⟨y, -, rfl⟩ := List.mem_map.1 hx
  rw [Array.length_toList, RT.size]) (by rw [List.getElem?_map, hr, Option.map_some]) j v hj
set_option maxRecDepth 100000 in
theorem trpick (xs : List RT) {B b N g c n : Nat} {W : World} {t : TypeId} (hn : xs.length = n) (hx : 0 < xs.length) (hx2 : xs.length ≤ 1000) (hg : BlkAt W g (flatC (xs.map fun r => .agg r.cells)) t) (hgb : g ≠ b) (h : TapeAt W B b (N + 1)) :
  Calls Tryz.prog 31 #[.pointer (some ⟨b, 0, none⟩), .slice (some ⟨g, 0, none⟩) n c] W (TapP (fun v => ∃ r : RT, v = .agg r.cells ∧ r ∈ xs) B b N W) := by
 subst hn
 have F := Fr.start W
 have T := Tp.start h
 have HG := Lib.hid (fun u W' N L (T' : Tp W u B b N) (G : Fr u W' L) => Tp.keep T' G hg hgb)
 clear h hg hgb
 have hne : ((xs.length : Int) == 0) = false := beq_eq_false_iff_ne.2 (by omega)
 go_enter Tryz.func31, Tryz.ntmps31
 go_wp2_with (first | go_skip | refine aYQ ?_ | ((with_reducible apply fSli F slInt); exact rfl; exact rfl; exact rfl; decide; decide; (go_simp; exact rfl); exact rfl) | ((with_reducible apply fSli F slStr); exact rfl; exact rfl; exact rfl; decide; decide; (go_simp; exact rfl); exact rfl) | (refine aTQ ?_; clear F; intro W F) | refine aNQ ?_)
 (clear F; intro b4 W F; try simp only [Act.put, z6, z1, z2])
 go_upto_region 3 with (first | go_skip | refine aYQ ?_ | ((with_reducible apply fSli F slInt); exact rfl; exact rfl; exact rfl; decide; decide; (go_simp; exact rfl); exact rfl) | ((with_reducible apply fSli F slStr); exact rfl; exact rfl; exact rfl; decide; decide; (go_simp; exact rfl); exact rfl) | (refine aTQ ?_; clear F; intro W F) | refine aNQ ?_)
 go_wp2_with (first | go_skip | ((go_at_call 19); (with_reducible refine fr_tap F T (tnext _ (by omega) (by omega) (T.at F)) ?_); (try clear F T); (rintro _ u W ⟨k, rfl, hk⟩ T F); (have hkl : k < xs.length := by omega); (obtain ⟨r, hr⟩ : ∃ r, xs[k]? = some r := ⟨_, List.getElem?_eq_getElem hkl⟩); (have hc0 : ∀ (j : Nat) v, r.cells.toList[j]? = some v → W.cell? ⟨g, k * 66 + j, none⟩ = some v := rt_cell (HG.out _ _ _ _ T F) hr); (have HC0 := Lib.hid hc0); (have HR0 := Lib.hid (List.mem_of_getElem? hr)); (clear hc0 hr); (try dsimp only)) | ((with_reducible apply fLWm); exact rfl; exact rfl; (exact HC0.out); (with_reducible exact rowRat _ _ _ _)) | refine aYQ ?_ | ((with_reducible apply fSli F slInt); exact rfl; exact rfl; exact rfl; decide; decide; (go_simp; exact rfl); exact rfl) | ((with_reducible apply fSli F slStr); exact rfl; exact rfl; exact rfl; decide; decide; (go_simp; exact rfl); exact rfl) | (refine aTQ ?_; clear F; intro W F) | refine aNQ ?_)
 exact bodyPost_ret (res_c rfl rfl (Fr.get F tL) (rowRat _ _ _ _)) rfl (tap_end T F ⟨r, rfl, HR0.out⟩)
theorem gSm {a : Act} {w W : World} {F A L : List Ent} {K : Act → World → Prop} {Q : Exit → Act → World → Prop} {ty : TypeId} {pos : String} {af : Array Edge} {gd : Option (Nat × Bool)} {x y : Operand} {b k : Nat} {cs ds cs' : Array Value} {t T : TypeId} (h : Fr w W F) (hx : a.eval x = .pointer (some ⟨b, k, none⟩)) (hy : a.eval y = .agg ds) (hl : Lies F A b cs t L) (hr : RowV Tryz.prog T ds) (hs : k + ds.size ≤ cs.size) (he : spl cs k ds.toList = cs') (hk : ∀ W', Fr w W' (A ++ (b, cs', t) :: L) → K a W') : OpW Tryz.prog ⟨none, .store T x y, ty, pos, af, gd⟩ a W K Q :=
 wpS_mid (o := ⟨none, .store T x y, ty, pos, af, gd⟩) h T rfl hx hy hl hr hs he hk
def rtZ (n d : Int) : RT := ⟨decide (n < 0), n.natAbs, decide (d < 0), d.natAbs⟩
def rdXS (r0 : RT) : List RT := [r0, rtZ 0 1, rtZ 1 3, rtZ 1 10000000, rtZ 2000000000 1, rtZ 0 0]
theorem rats_blk {W : World} {g : Nat} {t : TypeId} {x : Bool} {a : Nat} {y : Bool} {b : Nat} (h : BlkAt W g (flatC [.agg (ratC x a y b), .agg (RC 0 1), .agg (RC 1 3), .agg (RC 1 10000000), .agg (RC 2000000000 1), .agg (RC 0 0)]) t) : BlkAt W g (flatC ((rdXS ⟨x, a, y, b⟩).map fun r => .agg r.cells)) t := h
theorem rats_all (x : Bool) (a : Nat) (y : Bool) (b : Nat) : [Value.agg (ratC x a y b), .agg (RC 0 1), .agg (RC 1 3), .agg (RC 1 10000000), .agg (RC 2000000000 1), .agg (RC 0 0)].all (fun v => v.cells.size == 66) = true := by
 simp [Value.cells, ratC_size, RC_size]
theorem rats_b {x : Bool} {a : Nat} {y : Bool} {b : Nat} (ha : a < bp 32) (hb : b < bp 32) {r : RT} (hr : r ∈ rdXS ⟨x, a, y, b⟩) : r.a < bp 32 ∧ r.b < bp 32 := by
 have h : ∀ n : Nat, n ≤ 10 ^ 15 → n < bp 32 := fun n hn => lt32' (Nat.lt_of_le_of_lt hn (by have := bp15_big; omega))
 simp only [rdXS, List.mem_cons, List.not_mem_nil, or_false] at hr
 rcases hr with rfl | rfl | rfl | rfl | rfl | rfl
 ·exact ⟨ha, hb⟩
 all_goals exact ⟨h _ (by decide), h _ (by decide)⟩
theorem k01 : mkR 0 1 = (0, 1, 0) := by decide +kernel
theorem k13 : mkR 1 3 = (1, 3, 0) := by decide +kernel
theorem k17 : mkR 1 10000000 = (1, 10000000, 0) := by decide +kernel
theorem k29 : mkR 2000000000 1 = (2000000000, 1, 0) := by decide +kernel
end
end Go.Proofs.YteaahhokaffmdaaGreatDoor
