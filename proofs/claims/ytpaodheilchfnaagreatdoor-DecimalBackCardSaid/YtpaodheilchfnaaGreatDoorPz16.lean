/- What the laws lean on. -/
import Derived.Test.YtpaodheilchfnaaGreatDoorPz11
import Derived.Test.YtpaodheilchfnaaGreatDoorPz12
namespace Go.Proofs.YtpaodheilchfnaaGreatDoor
set_option linter.unusedVariables false
set_option linter.unusedSimpArgs false
section
section
open Go.ChangeShapes Go.WideShapes Go.ChangeAt Go.RowKit
theorem cell_al {w : World} (o : Obj) {b off : Nat} {r : Option Value} (h : b < w.heap.size) (hc : w.cell? ⟨b, off, none⟩ = r) : (w.alloc o).cell? ⟨b, off, none⟩ = r := (World.cell?_alloc_lt w o ⟨b, off, none⟩ h).trans hc
theorem blt {w : World} {b off : Nat} {v : Value} (h : w.cell? ⟨b, off, none⟩ = some v) : b < w.heap.size := World.block_lt_of_cell? _ _ h
end
section
open Go.RowKit
theorem cell_far {w : World} {b o b' o' : Nat} {v : Value} {r : Option Value} (h : b ≠ b' ∨ o ≠ o') (hc : w.cell? ⟨b', o', none⟩ = r) : (w.setCell ⟨b, o, none⟩ v).cell? ⟨b', o', none⟩ = r :=
  (World.cell?_setCell_other _ _ _ _ (by intro e; injection e with h1 h2; rcases h with h | h <;> contradiction)).trans hc
end
end
section
section
open Go.RowKit
structure CN where
  name : ByteArray
  w0 : Bool
  w1 : Bool
  w2 : Bool
  w3 : Bool
  w4 : Bool
  w5 : Bool
  w6 : Bool
  hs : List Int
def CN.wk (c : CN) : Nat → Bool
  | 0 => c.w0
  | 1 => c.w1
  | 2 => c.w2
  | 3 => c.w3
  | 4 => c.w4
  | 5 => c.w5
  | 6 => c.w6
  | _ => false
def CN.off (c : CN) (d : Int) : Bool := c.wk ((d + 5) % 7).toNat
end
end
section
section
open Go.RowKit
def foldI (x n : Int) : Int := if n ≤ 1 then 0 else x % n
theorem fold_lt (x n : Int) : 0 ≤ foldI x n ∧ foldI x n < max n 1 := by
  unfold foldI
  split
  · omega
  · have h1 := Int.emod_nonneg x (b := n) (by omega)
    have h2 := Int.emod_lt_of_pos x (b := n) (by omega)
    omega
theorem tmod_neg {x n : Int} (hn : 1 < n) (hN : n ≤ 9223372036854775807) (h : x.tmod n < 0) : RowKit.wrap64 (x.tmod n + n) = x % n := by
  have h1 : x.tmod n = x % n - n := by
    rw [Int.tmod_eq_emod] at h ⊢
    split at h
    · have := Int.emod_nonneg x (b := n) (by omega); omega
    · rename_i hx
      rw [if_neg hx, Int.natAbs_of_nonneg (by omega)]
  have h2 := Int.emod_nonneg x (b := n) (by omega)
  have h3 := Int.emod_lt_of_pos x (b := n) (by omega)
  rw [h1]
  unfold RowKit.wrap64
  omega
theorem tmod_pos {x n : Int} (hn : 1 < n) (h : 0 ≤ x.tmod n) : x.tmod n = x % n := by
  rw [Int.tmod_eq_emod] at h ⊢
  split
  · omega
  · rename_i hx
    rw [if_neg hx, Int.natAbs_of_nonneg (by omega)] at h
    have := Int.emod_lt_of_pos x (b := n) (by omega)
    omega
theorem fold_any (x n : Int) (w : World) (hN : n ≤ 9223372036854775807) : Calls Tryz.prog 53 #[.int .i64 x, .int .i64 n] w (RetW (.int .i64 (foldI x n)) w) := by
  by_cases h : n ≤ 1
  · go_enter Tryz.func53, Tryz.ntmps53
    go_wp2
    go_ret
    exact ⟨ret_int (by unfold foldI; rw [if_pos h]), rfl⟩
  · have h1 : 1 < n := by omega
    have hf : foldI x n = x % n := by unfold foldI; rw [if_neg h]
    have HF := Lib.hid hf
    clear hf h
    by_cases ht : x.tmod n < 0
    · have hw := Lib.hid (tmod_neg h1 hN ht)
      clear hN
      go_enter Tryz.func53, Tryz.ntmps53
      go_wp2
      go_ret
      exact ⟨ret_int (hw.out.trans HF.out.symm), rfl⟩
    · have hw := Lib.hid (tmod_pos (x := x) h1 (by omega))
      have ht' : 0 ≤ x.tmod n := by omega
      clear hN ht
      go_enter Tryz.func53, Tryz.ntmps53
      go_wp2
      go_ret
      exact ⟨ret_int (hw.out.trans HF.out.symm), rfl⟩
theorem TapeAt.alloc {w : World} {B b n : Nat} (h : TapeAt w B b n) (o : Obj) : TapeAt (w.alloc o) B b n := h.below (bal0 w o)
theorem TapeAt.drewN {w : World} {B b n : Nat} (h : TapeAt w B b n) (k : Nat) : TapeAt (w.drewN k) B b n := h.below (below_drewN (Below.refl _ _) k)
theorem TapeAt.setCell {w : World} {B b n : Nat} (h : TapeAt w B b n) {p : Addr} (hB : B ≤ p.block) (hne : p.block ≠ b) (v : Value) : TapeAt (w.setCell p v) B b n :=
  h.keep (fun k hk => Below.heap_setCell w p v k (by omega)) (Below.heap_setCell w p v b (by omega))
theorem only_set {b : Nat} {x y : World} (h : Only b x y) {p : Addr} (hp : p.block = b ∨ x.heap.size ≤ p.block) (v : Value) : Only b x (y.setCell p v) :=
  ⟨h.os, h.tape, h.output, by simpa [World.setCell] using h.size, fun i hi hne => (Below.heap_setCell y p v i (by
    rintro rfl
    rcases hp with hp | hp
    · exact hne (by rw [hp])
    · omega)).trans (h.block i hi hne)⟩
theorem only_drewN {b : Nat} {x y : World} (h : Only b x y) (n : Nat) : Only b x (y.drewN n) := only_trans h (only_below (below_drewN (Below.refl _ _) n))
theorem only_cell {b : Nat} {x y : World} (h : Only b x y) {g o : Nat} {r : Option Value} (hl : g < x.heap.size) (hne : g ≠ b) (hc : x.cell? ⟨g, o, none⟩ = r) : y.cell? ⟨g, o, none⟩ = r :=
  (World.cell?_of_block (w := x) (h.block g hl (by intro e; injection e with e; exact hne e))).trans hc
theorem only_to_below {b B : Nat} {x y : World} (h : Only b x y) (hB : B ≤ b) (hx : B ≤ x.heap.size) : Below B x y :=
  ⟨h.os, h.tape, h.output, h.size, fun i hi => h.block i (by omega) (by intro e; injection e with e; omega)⟩
def NextP (n : Int) (B b N : Nat) (w : World) (e : Ending) (w' : World) : Prop :=
  ∃ k : Nat, (k : Int) < max n 1 ∧ e = .returned (.int .i64 k) ∧ TapeAt w' B b N ∧ Only b w w'
set_option maxHeartbeats 1000000 in
theorem next_any (n : Int) (B b N : Nat) (w : World) (h : TapeAt w B b (N + 1)) (hn : n ≤ 9223372036854775807) :
    Calls Tryz.prog 16 #[.pointer (some ⟨b, 0, none⟩), .int .i64 n] w (NextP n B b N w) := by
  have hlt := h.lt
  obtain ⟨hB, A, L, cap, p, hl, hp, hblk, he⟩ := h
  have q0 : w.cell? ⟨b, 0, none⟩ = some (.slice A L.length cap) := by simp [World.cell?, hblk]
  have q1 : w.cell? ⟨b, 1, none⟩ = some (.int .i64 p) := by simp [World.cell?, hblk]
  have q2 : w.frozen? ⟨b, 1, none⟩ = false := by simp [World.frozen?, hblk]
  have HB := Lib.hid hblk
  have HE := Lib.hid he
  clear hblk he
  have fin : ∀ (x : Int) (nq : Nat), NextP n B b N w (.returned (.int .i64 (foldI x n))) ((w.drewN nq).setCell ⟨b, 1, none⟩ (.int .i64 (p + 1))) := by
    intro x nq
    obtain ⟨f1, f2⟩ := fold_lt x n
    refine ⟨(foldI x n).toNat, by omega, ret_int (by omega), ⟨hB, A, L, cap, p + 1, hl, by omega, ?_, fun k x hx => ?_⟩, only_set (only_drewN (only_refl _ _) _) (.inl rfl) _⟩
    · have := HB.out
      show ((w.drewN nq).heap.modify b _)[b]? = _
      rw [Array.getElem?_modify, if_pos rfl]
      show (w.heap[b]?).map _ = _
      rw [this]
      rfl
    · obtain ⟨bb, o, hA, hlt', hc⟩ := HE.out k x hx
      exact ⟨bb, o, hA, hlt', cell_far (by omega) hc⟩
  have FIN := Lib.hid fin
  clear fin
  by_cases hpl : p < L.length
  · obtain ⟨bb, o, rfl, hbb, hc⟩ := HE.out p L[p] (List.getElem?_eq_getElem hpl)
    generalize L[p] = x at hc
    go_enter Tryz.func16, Tryz.ntmps16
    go_wp2
    go_quiet (fail)
    go_wp2
    go_quiet (fail)
    go_wp2_with (go_at_call 53; refine (fold_any _ _ _ hn).mono ?_; rintro e w' ⟨rfl, rfl⟩)
    go_ret
    exact FIN.out _ _
  · go_enter Tryz.func16, Tryz.ntmps16
    go_wp2
    go_quiet (fail)
    go_wp2_with (go_at_call 53; refine (fold_any _ _ _ hn).mono ?_; rintro e w' ⟨rfl, rfl⟩)
    go_ret
    exact FIN.out _ _
theorem next_in {n : Int} {B b N : Nat} {w : World} (h : TapeAt w B b (N + 1)) (hn : 1 ≤ n) (hn2 : n ≤ 9223372036854775807) :
    Calls Tryz.prog 16 #[.pointer (some ⟨b, 0, none⟩), .int .i64 n] w fun e w' => ∃ k : Nat, (k : Int) < n ∧ e = .returned (.int .i64 k) ∧ TapeAt w' B b N ∧ Only b w w' :=
  (next_any n B b N w h hn2).mono fun _ _ ⟨k, hk, he, ht, ho⟩ => ⟨k, by omega, he, ht, ho⟩
def PickP (xs : List Int) (B b N : Nat) (w : World) (e : Ending) (w' : World) : Prop :=
  ∃ v : Int, v ∈ xs ∧ e = .returned (.int .i64 v) ∧ TapeAt w' B b N ∧ Only b w w'
theorem pick_any (xs : List Int) (g : Nat) (B b N : Nat) (w : World) (h : TapeAt w B b (N + 1)) (hx : 0 < xs.length) (hx2 : xs.length ≤ 1000) (hg : g < w.heap.size) (hgb : g ≠ b) (c : Nat)
    (hc : ∀ k x, xs[k]? = some x → w.cell? ⟨g, k, none⟩ = some (.int .i64 x)) :
    Calls Tryz.prog 13 #[.pointer (some ⟨b, 0, none⟩), .slice (some ⟨g, 0, none⟩) xs.length c] w (PickP xs B b N w) := by
  have hne : ((xs.length : Int) == 0) = false := beq_eq_false_iff_ne.2 (by omega)
  have HC := Lib.hid hc
  clear hc
  go_enter Tryz.func13, Tryz.ntmps13
  go_wp2_with fail
  refine (next_in h (by omega) (by omega)).mono ?_
  rintro e w1 ⟨k, hk, rfl, ht, ho⟩
  have hkl : k < xs.length := by omega
  have hcell := only_cell ho hg hgb (HC.out k xs[k] (List.getElem?_eq_getElem hkl))
  have hmem : xs[k] ∈ xs := List.getElem_mem hkl
  have HM := Lib.hid hmem
  clear hmem
  generalize xs[k] = x at *
  go_wp2
  go_ret
  exact ⟨x, HM.out, rfl, ht, ho⟩
end
end
section
open Go.RowKit
def TapP (R : Value → Prop) (B b N : Nat) (w : World) (e : Ending) (w' : World) : Prop := ∃ v, R v ∧ e = .returned v ∧ TapeAt w' B b N ∧ Only b w w'
section
variable {w0 u W W' : World} {L : List Ent} {B b N : Nat}
theorem Tp.at (h : Tp w0 u B b N) (F : Fr u W L) : TapeAt W B b N := h.tape.below F.below
theorem Fr.tape (F : Fr u W L) {n : Nat} (hT : TapeAt u B b n) (hT' : TapeAt W' B b N) (ho : Only b W W') : ∃ u', Only b u u' ∧ TapeAt u' B b N ∧ Fr u' W' L := by
  have hb := hT.lt
  have hB := hT.base
  have hsz := F.below.size
  obtain ⟨x, hx⟩ : ∃ x, W'.heap[b]? = some x := ⟨_, Array.getElem?_eq_getElem hT'.lt⟩
  let u' : World := { u with heap := u.heap.setIfInBounds b x }
  have hs : u'.heap.size = u.heap.size := by simp [u']
  have hblk : ∀ k, k < u.heap.size → W'.heap[k]? = u'.heap[k]? := by
    intro k hk
    by_cases e : k = b
    · subst e
      rw [hx]
      simp [u', hk]
    · have h1 : u'.heap[k]? = u.heap[k]? := by simp [u', Ne.symm e]
      rw [h1, ← F.below.block k hk]
      exact ho.block k (by omega) (by intro e2; injection e2 with e2; exact e e2)
  have hbl : Below u'.heap.size u' W' := ⟨ho.os.trans F.below.os, ho.tape.trans F.below.tape, ho.output.trans F.below.output, by have := ho.size; omega, fun k hk => hblk k (by omega)⟩
  refine ⟨u', ⟨rfl, rfl, rfl, by omega, fun k hk hne => ?_⟩, ?_, hbl, fun y hy => ?_, fun y hy => by rw [hs]; exact F.own y hy, F.dis⟩
  · have hk2 : k ≠ b := fun e => hne (by rw [e])
    simp [u', Ne.symm hk2]
  · exact hT'.keep (fun k hk => (hblk k (by omega)).symm) (hblk b hb).symm
  · have h1 := F.blk y hy
    have h2 := F.own y hy
    exact ⟨(ho.block _ h1.lt (by intro e; injection e with e; omega)).trans h1.blk⟩
theorem fr_tap {P : Program} {f : FuncId} {args : Array Value} {R : Value → Prop} {M : Nat} {post : Ending → World → Prop} (F : Fr u W L) (T : Tp w0 u B b M) (hc : Calls P f args W (TapP R B b N W))
    (hk : ∀ v u' W', R v → Tp w0 u' B b N → Fr u' W' L → post (.returned v) W') : Calls P f args W post := by
  refine hc.mono ?_
  rintro e W' ⟨v, hv, rfl, hT, ho⟩
  obtain ⟨u', h1, h2, h3⟩ := F.tape T.tape hT ho
  exact hk v u' W' hv ⟨only_trans T.only h1, h2⟩ h3
theorem tnext (n : Int) (hn : 1 ≤ n) (hn2 : n ≤ 9223372036854775807) (h : TapeAt W B b (N + 1)) : Calls Tryz.prog 16 #[.pointer (some ⟨b, 0, none⟩), .int .i64 n] W (TapP (fun v => ∃ k : Nat, v = .int .i64 k ∧ (k : Int) < n) B b N W) :=
  (next_in h hn hn2).mono fun _ _ ⟨k, hk, he, ht, ho⟩ => ⟨_, ⟨k, rfl, hk⟩, he, ht, ho⟩
theorem tpick (xs : List Int) {g c n : Nat} {t : TypeId} (hn : xs.length = n) (hx : 0 < xs.length) (hx2 : xs.length ≤ 1000) (hg : BlkAt W g (xs.map (Value.int .i64)).toArray t) (hgb : g ≠ b) (h : TapeAt W B b (N + 1)) :
    Calls Tryz.prog 13 #[.pointer (some ⟨b, 0, none⟩), .slice (some ⟨g, 0, none⟩) n c] W (TapP (fun v => ∃ k : Int, v = .int .i64 k ∧ k ∈ xs) B b N W) := by
  subst hn
  exact (pick_any xs g B b N W h hx hx2 hg.lt hgb c (fun k x hk => hg.cell (by simp [hk]))).mono fun _ _ ⟨k, hk, he, ht, ho⟩ => ⟨_, ⟨k, rfl, hk⟩, he, ht, ho⟩
end
end
section
open Go.RowKit
structure SlT (P : Program) (t e : TypeId) (s : Nat) : Prop where
  sl : P.underlying t = some (.slice e)
  info : ((P.info? e).map fun i => (i.size, i.zero.isSome)) = some (s, true)
def flatC (vs : List Value) : Array Value := (vs.flatMap fun v => v.cells.toList).toArray
theorem flatC_ints (k : IntKind) (l : List Int) : flatC (l.map (Value.int k)) = (l.map (Value.int k)).toArray := by
  unfold flatC
  congr 1
  induction l with
  | nil => rfl
  | cons x l ih => rw [List.map_cons, List.flatMap_cons, ih]; rfl
section
variable {P : Program} {o : Oper} {a : Act} {w W : World} {F : List Ent} {K : Act → World → Prop} {Q : Exit → Act → World → Prop} {t e : TypeId} {s : Nat} {parts : Array (Nat × Operand)} {len : Nat} {vs : List Value} {ops : Array Oper} {rest : List Oper} {dst : Option Tmp} {ty : TypeId} {pos : String} {af : Array Edge} {gd : Option (Nat × Bool)}
theorem zip_parts : ∀ (l : List (Nat × Operand)) (k : Nat), l.map (·.1) = List.range' k l.length → (l.map fun x => (x.1, a.eval x.2)) = ((l.map fun x => a.eval x.2).zipIdx k).map fun x => (x.2, x.1)
  | [], k, _ => rfl
  | (i, x) :: l, k, h => by
    rw [List.length_cons, List.range'_succ, List.map_cons] at h
    injection h with h1 h2
    have h1 : i = k := h1
    subst h1
    simp only [List.map_cons, List.zipIdx_cons]
    rw [zip_parts l (i + 1) h2]
theorem op_bslice (h : Fr w W F) (hT : SlT P t e s) (ho : o.op = .buildSlice t len parts) (hix : parts.toList.map (·.1) = List.range' 0 parts.toList.length) (hl : parts.toList.length = len) (hs : 0 < len * s) (hs2 : len * s ≤ 2 ^ 24)
    (hv : (parts.toList.map fun x => a.eval x.2) = vs) (h1 : vs.all (fun v => v.cells.size == s) = true)
    (hk : Hold (∀ b W', Fr w W' ((b, flatC vs, e) :: F) → K (a.put o.dst (.slice (some ⟨b, 0, none⟩) len len)) W')) : OpW P o a W K Q := by
  subst hv
  have hi := hT.info
  cases hie : P.info? e with
  | none => rw [hie] at hi; cases hi
  | some ie =>
    rw [hie] at hi
    simp only [Option.map_some, Option.some.injEq, Prod.mk.injEq] at hi
    obtain ⟨hsz, hz⟩ := hi
    obtain ⟨z, hzz⟩ := Option.isSome_iff_exists.1 hz
    refine ⟨wp_buildSlice t e len parts ho (flatC _) ie z hT.sl hie hzz (by rw [hsz]; omega) (by rw [hsz]; omega) ?_ (hk _ _ (h.alloc _ _))⟩
    rw [Array.toList_map]
    have e1 := zip_parts (a := a) parts.toList 0 hix
    rw [e1, hsz]
    refine Great.fill_whole (by rcases Nat.eq_zero_or_pos s with h0 | h0; · subst h0; simp at hs
                                · exact h0) _ _ (fun v hv => ?_) (by simp [hl])
    have := List.all_eq_true.1 h1 v hv
    simpa using this
theorem fSli (h : Fr w W F) (hT : SlT P t e s) (hw : Region.wanted ⟨dst, .buildSlice t len parts, ty, pos, af, gd⟩ (yielded ops a.tmps) = true) (hix : parts.toList.map (·.1) = List.range' 0 parts.toList.length) (hl : parts.toList.length = len) (hs : 0 < len * s) (hs2 : len * s ≤ 2 ^ 24) (hv : (parts.toList.map fun x => a.eval x.2) = vs) (h1 : vs.all (fun v => v.cells.size == s) = true)
    (hk : Hold (∀ b W', Fr w W' ((b, flatC vs, e) :: F) → wpList P ops Q rest (a.put dst (.slice (some ⟨b, 0, none⟩) len len)) W')) : wpList P ops Q (⟨dst, .buildSlice t len parts, ty, pos, af, gd⟩ :: rest) a W :=
  wpList_want hw fun K hK => (op_bslice h hT rfl hix hl hs hs2 hv h1 (fun b W' F => hK _ _ (hk b W' F))).out
end
theorem slInt : SlT Tryz.prog 22 3 1 := ⟨Tryz.underlying22, by kernel_rfl⟩
end
section
open Go.RowKit
set_option maxHeartbeats 4000000
section
variable {w0 u W : World} {L : List Ent} {B b N : Nat}
theorem Fr.off (F : Fr u W L) {M : Nat} (T : Tp w0 u B b M) {A L' : List Ent} {g : Nat} {cs : Array Value} {t : TypeId} (hl : Lies L A g cs t L') : g ≠ b := by
  have h1 := T.tape.lt
  have h2 := F.own (g, cs, t) (by rw [hl.eq]; simp)
  have h2 : u.heap.size ≤ g := h2
  omega
theorem tpickF (xs : List Int) {vs : List Value} {n c g : Nat} {t : TypeId} {A L' : List Ent} (F : Fr u W L) (T : Tp w0 u B b (N + 1)) (hl : Lies L A g (flatC vs) t L') (hv : vs = xs.map (Value.int .i64)) (hn : xs.length = n) (hx : 0 < xs.length) (hx2 : xs.length ≤ 1000) :
    Calls Tryz.prog 13 #[.pointer (some ⟨b, 0, none⟩), .slice (some ⟨g, 0, none⟩) n c] W (TapP (fun v => ∃ k : Int, v = .int .i64 k ∧ k ∈ xs) B b N W) :=
  tpick xs hn hx hx2 (by have := F.get hl; rw [hv, flatC_ints] at this; exact this) (F.off T hl) (T.at F)
end
end
section
section
open Go.ChangeShapes Go.WideShapes Go.ChangeAt Go.RowKit Go.Deep
def IntsAt (W : World) (A : Option Addr) (L : List Int) : Prop :=
  L.length ≤ 9223372036854775807 ∧ ∀ k x, L[k]? = some x → ∃ bb o, A = some ⟨bb, o, none⟩ ∧ bb < W.heap.size ∧ W.cell? ⟨bb, o + k, none⟩ = some (.int .i64 x)
section
variable {H : Type} {enc : TypeId × Value → H}
theorem open_ints1 {W : World} {A : Option Addr} {len cap : Nat} {d : DataW H} {p : List MemPlace} (h : DataW.Trod enc Tryz.prog W 0 (fun _ => true) true 22 (.slice A len cap) d p) :
    ∃ L : List Int, len = L.length ∧ IntsAt W A L := by
  obtain ⟨fuel, hf⟩ := h
  rcases open_ints Tryz.underlying22 Tryz.underlying3 (by kernel_rfl) hf with ⟨hcs, _⟩ | ⟨x, l, c, zs, hcs, _, hl, hm, hz, _, hcell, hwz⟩
  · simp [Value.cells] at hcs
    obtain ⟨rfl, rfl, rfl⟩ := hcs
    exact ⟨[], rfl, by simp, fun k x hx => by simp at hx⟩
  · simp [Value.cells] at hcs
    obtain ⟨rfl, rfl, rfl⟩ := hcs
    have hzl : zs.length = cap := by simpa using hz
    unfold maxLen at hm
    refine ⟨zs.take len, by simp; omega, by simp; omega, fun k y hk => ?_⟩
    have hk1 : k < len := by
      have := (List.getElem?_eq_some_iff.1 hk).1
      simp at this
      omega
    obtain ⟨b, off, rfl, hc⟩ := ints_at hcell (by omega)
    have hck := hc k (by omega)
    have hy : zs.getD k 0 = y := by
      rw [List.getElem?_take_of_lt hk1] at hk
      simp [List.getD, hk]
    rw [hy] at hck
    exact ⟨b, off, rfl, blt hck, hck⟩
end
theorem tape_start {w : World} {A : Option Addr} {L : List Int} {cap : Nat} (h : IntsAt w A L) :
    TapeAt (w.alloc (.cells #[.slice A L.length cap, .int .i64 0] 25)) w.heap.size w.heap.size 1000000000 :=
  ⟨Nat.le_refl _, A, L, cap, 0, h.1, by omega, heap_alloc_new w _, fun k x hx => by
    obtain ⟨bb, o, hA, hlt, hc⟩ := h.2 k x hx
    exact ⟨bb, o, hA, hlt, cell_al _ hlt hc⟩⟩
end
end
section
open Go.RowKit
set_option maxHeartbeats 4000000
theorem tape_out {w u W : World} {o : Obj} {N : Nat} {L : List Ent} (T : Tp (w.alloc o) u w.heap.size w.heap.size N) (F : Fr u W L) : Below w.heap.size w W := by
  exact (bal0 w o).trans (only_to_below (T.out F) (Nat.le_refl _) (by simp))
end
end Go.Proofs.YtpaodheilchfnaaGreatDoor
