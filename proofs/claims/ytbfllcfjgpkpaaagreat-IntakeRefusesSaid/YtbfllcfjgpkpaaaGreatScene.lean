/-
  The tape of the scenes: drawing numbers, keys and schedules from it. What is made is valid, whatever the tape holds.
  The scenes: picks, chances, keys, schedules.
-/
import Derived.Test.YtbfllcfjgpkpaaaGreatMakeZone
import Derived.Test.YtbfllcfjgpkpaaaGreatRow
import Derived.Test.YtbfllcfjgpkpaaaGreatPlain
import Derived.Lib.SlBytesRow
namespace Go.Proofs.YtbfllcfjgpkpaaaGreat
section
open Go.RowKit
set_option linter.unusedVariables false
set_option maxHeartbeats 2000000
def modI (x n : Int) : Int := if n < 1 then 0 else x % n
theorem modI_bd (x n : Int) : 0 ≤ modI x n ∧ modI x n < max n 1 := by
  unfold modI
  split
  · omega
  · have h1 := Int.emod_nonneg x (b := n) (by omega)
    have h2 := Int.emod_lt_of_pos x (b := n) (by omega)
    omega
theorem smod_neg {x n : Int} (hn : 0 < n) (hN : n ≤ 9223372036854775807) (h : x.tmod n < 0) : wrap64 (x.tmod n + n) = x % n := by
  by_cases h1 : n = 1
  · subst h1
    rw [Int.tmod_one] at h
    omega
  · exact tmod_neg (by omega) hN h
theorem smod_pos {x n : Int} (hn : 0 < n) (h : 0 ≤ x.tmod n) : x.tmod n = x % n := by
  by_cases h1 : n = 1
  · subst h1
    rw [Int.tmod_one, Int.emod_one]
  · exact tmod_pos (by omega) h
theorem smod_any (x n : Int) (w : World) (hN : n ≤ 9223372036854775807) : Calls Tryz.prog 18 #[.int .i64 x, .int .i64 n] w (RetW (.int .i64 (modI x n)) w) := by
  by_cases h : n < 1
  · go_enter Tryz.func18, Tryz.ntmps18
    go_wp2
    go_ret
    exact ⟨ret_int (by unfold modI; rw [if_pos h]), rfl⟩
  · have h1 : 0 < n := by omega
    have hf : modI x n = x % n := by unfold modI; rw [if_neg h]
    have HF := Lib.hid hf
    clear hf h
    by_cases ht : x.tmod n < 0
    · have hw := Lib.hid (smod_neg h1 hN ht)
      clear hN
      go_enter Tryz.func18, Tryz.ntmps18
      go_wp2
      go_ret
      exact ⟨ret_int (hw.out.trans HF.out.symm), rfl⟩
    · have hw := Lib.hid (smod_pos (x := x) h1 (by omega))
      have ht' : 0 ≤ x.tmod n := by omega
      clear hN ht
      go_enter Tryz.func18, Tryz.ntmps18
      go_wp2
      go_ret
      exact ⟨ret_int (hw.out.trans HF.out.symm), rfl⟩
/-- A tape of the scenes in block b, over a list that lies below block B. -/
structure TapS (w : World) (B b : Nat) : Prop where
  base : B ≤ b
  ex : ∃ (A : Option Addr) (L : List Int) (cap p : Nat), L.length ≤ 9223372036854775807 ∧ p ≤ L.length ∧
    w.heap[b]? = some (.cells #[.slice A L.length cap, .int .i64 p] 64 (0, 0)) ∧
    ∀ k x, L[k]? = some x → ∃ bb o, A = some ⟨bb, o, none⟩ ∧ bb < B ∧ w.cell? ⟨bb, o + k, none⟩ = some (.int .i64 x)
section
variable {w w' : World} {B b : Nat}
theorem TapS.lt (h : TapS w B b) : b < w.heap.size := by
  obtain ⟨_, A, L, cap, p, _, _, h, _⟩ := h
  exact (Array.getElem?_eq_some_iff.1 h).1
theorem TapS.keep (h : TapS w B b) (h1 : ∀ k, k < B → w'.heap[k]? = w.heap[k]?) (h2 : w'.heap[b]? = w.heap[b]?) : TapS w' B b := by
  obtain ⟨hb, A, L, cap, p, hl, hp, hc, he⟩ := h
  refine ⟨hb, A, L, cap, p, hl, hp, h2.trans hc, fun k x hx => ?_⟩
  obtain ⟨bb, o, hA, hlt, hcell⟩ := he k x hx
  exact ⟨bb, o, hA, hlt, (World.cell?_of_block (w := w) (h1 bb hlt)).trans hcell⟩
theorem TapS.below (h : TapS w B b) (hb : Below w.heap.size w w') : TapS w' B b :=
  h.keep (fun k hk => hb.block k (by have := h.lt; have := h.base; omega)) (hb.block b h.lt)
theorem TapS.alloc (h : TapS w B b) (o : Obj) : TapS (w.alloc o) B b := h.below (bal0 w o)
theorem TapS.drew (h : TapS w B b) : TapS w.drew B b := h.below ((Below.refl _ _).drew)
theorem TapS.drewN (h : TapS w B b) (k : Nat) : TapS (w.drewN k) B b := h.below (below_drewN (Below.refl _ _) k)
theorem TapS.setCell (h : TapS w B b) {p : Addr} (hB : B ≤ p.block) (hne : p.block ≠ b) (v : Value) : TapS (w.setCell p v) B b :=
  h.keep (fun k hk => Below.heap_setCell w p v k (by omega)) (Below.heap_setCell w p v b (by omega))
theorem TapS.setRow (h : TapS w B b) {g : Nat} (hB : B ≤ g) (hne : g ≠ b) (cs : Array Value) : TapS (w.setRow g cs) B b :=
  h.keep (fun k hk => setRow_other w g k cs (by omega)) (setRow_other w g b cs (by omega))
theorem TapS.row {row : Option Nat} (h : TapS w B b) (hg : w.grownBy w' row) (hr : ∀ k, row = some k → b < k) : TapS w' B b :=
  h.keep (fun k hk => hg.block k (by have := h.lt; have := h.base; omega) (fun e => by have := hr k e.symm; have := h.base; omega)) (hg.block b h.lt (fun e => by have := hr b e.symm; omega))
end
/-- The tape over the list, as a law lays it. -/
theorem taps_start {w : World} {A : Option Addr} {L : List Int} {cap : Nat} (h : IntsAt w A L) :
    TapS (w.alloc (.cells #[.slice A L.length cap, .int .i64 0] 64)) w.heap.size w.heap.size :=
  ⟨Nat.le_refl _, A, L, cap, 0, h.1, by omega, heap_alloc_new w _, fun k x hx => by
    obtain ⟨bb, o, hA, hlt, hc⟩ := h.2 k x hx
    exact ⟨bb, o, hA, hlt, cell_al _ hlt hc⟩⟩
/-- A new tape. -/
def NewP (w : World) (e : Ending) (w' : World) : Prop := e = .returned (.pointer (some ⟨w.heap.size, 0, none⟩)) ∧ TapS w' w.heap.size w.heap.size ∧ Below w.heap.size w w'
theorem snew_any (A : Option Addr) (L : List Int) (cap : Nat) (w : World) (hL : IntsAt w A L) : Calls Tryz.prog 8 #[.slice A L.length cap] w (NewP w) := by
  have ht := taps_start (cap := cap) hL
  have hb := bal0 w (.cells #[.slice A L.length cap, .int .i64 0] 64)
  have HT := Lib.hid ht
  have HB := Lib.hid hb
  clear hL ht hb
  go_enter Tryz.func8, Tryz.ntmps8
  go_wp2
  go_ret
  exact ⟨rfl, HT.out, HB.out⟩
/-- A number below n (0 where n is at most 1) has been drawn. -/
def SNextP (n : Int) (B b : Nat) (w : World) (e : Ending) (w' : World) : Prop :=
  ∃ k : Nat, (k : Int) < max n 1 ∧ e = .returned (.int .i64 k) ∧ TapS w' B b ∧ Only b w w'
theorem snext_any (n : Int) (B b : Nat) (w : World) (h : TapS w B b) (hn : n ≤ 9223372036854775807) :
    Calls Tryz.prog 22 #[.pointer (some ⟨b, 0, none⟩), .int .i64 n] w (SNextP n B b w) := by
  have hT := Lib.hid h
  have hlt := h.lt
  obtain ⟨hB, A, L, cap, p, hl, hp, hblk, he⟩ := h
  have q0 : w.cell? ⟨b, 0, none⟩ = some (.slice A L.length cap) := by simp [World.cell?, hblk]
  have q1 : w.cell? ⟨b, 1, none⟩ = some (.int .i64 p) := by simp [World.cell?, hblk]
  have q2 : w.frozen? ⟨b, 1, none⟩ = false := by simp [World.frozen?, hblk]
  have HB := Lib.hid hblk
  have HE := Lib.hid he
  clear hblk he
  by_cases hpl : p < L.length
  · have fin : ∀ (x : Int) (nq m : Nat), SNextP n B b w (.returned (.int .i64 (modI x n))) (((w.drewN nq).setCell ⟨b, 1, none⟩ (.int .i64 (p + 1))).drewN m) := by
      intro x nq m
      obtain ⟨f1, f2⟩ := modI_bd x n
      refine ⟨(modI x n).toNat, by omega, ret_int (by omega), TapS.drewN ⟨hB, A, L, cap, p + 1, hl, by omega, ?_, fun k x hx => ?_⟩ m, only_drewN (only_set (only_drewN (only_refl _ _) _) (.inl rfl) _) m⟩
      · have := HB.out
        show ((w.drewN nq).heap.modify b _)[b]? = _
        rw [Array.getElem?_modify, if_pos rfl]
        show (w.heap[b]?).map _ = _
        rw [this]
        rfl
      · obtain ⟨bb, o, hA, hlt', hc⟩ := HE.out k x hx
        exact ⟨bb, o, hA, hlt', cell_far (by omega) hc⟩
    have FIN := Lib.hid fin
    clear fin
    obtain ⟨bb, o, rfl, hbb, hc⟩ := HE.out p L[p] (List.getElem?_eq_getElem hpl)
    generalize L[p] = x at hc
    have hnb : bb ≠ b := by omega
    have z0 : IntKind.i64.wrap ((p : Int) + 1) = (p : Int) + 1 := IntWalk.i64_in _ (by omega)
    have z1 : IntKind.i64.wrap ((p : Int) + 1 - 1) = (p : Int) := by rw [show (p : Int) + 1 - 1 = (p : Int) by omega]; exact IntWalk.i64_in _ (by omega)
    go_enter Tryz.func22, Tryz.ntmps22
    go_wp2_with fail
    go_quiet (fail)
    go_wp2_with fail
    go_quiet ((go_at_call 18; exact quietW (smod_any _ _ _ hn)))
    go_wp2_with fail
    go_ret
    exact FIN.out _ _ _
  · have fin : ∀ (nq : Nat), SNextP n B b w (.returned (.int .i64 0)) (w.drewN nq) := fun nq => ⟨0, by omega, rfl, hT.out.drewN nq, only_drewN (only_refl _ _) nq⟩
    have FIN := Lib.hid fin
    clear fin
    go_enter Tryz.func22, Tryz.ntmps22
    go_wp2_with fail
    go_quiet (fail)
    go_wp2_with fail
    go_ret
    exact FIN.out _
end
section
open Go.RowKit
set_option linter.unusedVariables false
set_option maxHeartbeats 2000000
theorem snext_in {n : Int} {B b : Nat} {w : World} (h : TapS w B b) (hn : 1 ≤ n) (hn2 : n ≤ 9223372036854775807) :
    Calls Tryz.prog 22 #[.pointer (some ⟨b, 0, none⟩), .int .i64 n] w fun e w' => ∃ k : Nat, (k : Int) < n ∧ e = .returned (.int .i64 k) ∧ TapS w' B b ∧ Only b w w' :=
  (snext_any n B b w h hn2).mono fun _ _ ⟨k, hk, he, ht, ho⟩ => ⟨k, by omega, he, ht, ho⟩
/-- One of the numbers of a list. -/
def SPickP (xs : List Int) (B b : Nat) (w : World) (e : Ending) (w' : World) : Prop :=
  ∃ v : Int, v ∈ xs ∧ e = .returned (.int .i64 v) ∧ TapS w' B b ∧ Only b w w'
theorem spick_any (xs : List Int) (g : Nat) (B b : Nat) (w : World) (h : TapS w B b) (hx : 0 < xs.length) (hx2 : xs.length ≤ 1000) (hg : g < w.heap.size) (hgb : g ≠ b) (c : Nat)
    (hc : ∀ k x, xs[k]? = some x → w.cell? ⟨g, k, none⟩ = some (.int .i64 x)) :
    Calls Tryz.prog 23 #[.pointer (some ⟨b, 0, none⟩), .slice (some ⟨g, 0, none⟩) xs.length c] w (SPickP xs B b w) := by
  have HC := Lib.hid hc
  clear hc
  go_enter Tryz.func23, Tryz.ntmps23
  go_wp2_with fail
  refine (snext_in h (by omega) (by omega)).mono ?_
  rintro e w1 ⟨k, hk, rfl, ht, ho⟩
  have hkl : k < xs.length := by omega
  have hcell := only_cell ho hg hgb (HC.out k xs[k] (List.getElem?_eq_getElem hkl))
  have hmem : xs[k] ∈ xs := List.getElem_mem hkl
  have HM := Lib.hid hmem
  clear hmem
  generalize xs[k] = x at *
  go_wp2
  go_ret
  exact ⟨x, HM.out, rfl, ht, ho⟩
theorem spick_new (xs : List Int) {vs : List Value} (hvs : vs = xs.map (Value.int .i64)) {B b : Nat} {w : World} (h : TapS w B b) (hx : 0 < xs.length) (hx2 : xs.length ≤ 1000) {n c g : Nat} (hn : xs.length = n) (hg : w.heap.size = g) :
    Calls Tryz.prog 23 #[.pointer (some ⟨b, 0, none⟩), .slice (some ⟨g, 0, none⟩) n c] (w.alloc (.cells vs.toArray 3)) (SPickP xs B b w) := by
  subst hg
  have hlt := h.lt
  have hc := spick_any xs w.heap.size B b (w.alloc (.cells vs.toArray 3)) (h.alloc _) hx hx2 (by simp) (by omega) c (fun k x hk => cells_new w vs _ k _ (by rw [hvs, List.getElem?_map, hk]; rfl))
  rw [hn] at hc
  refine hc.mono ?_
  rintro e w' ⟨v, hv, he, ht, ho⟩
  exact ⟨v, hv, he, ht, only_trans (only_below (bal0 w _)) ho⟩
/-- True or false. -/
def SBoolP (B b : Nat) (w : World) (e : Ending) (w' : World) : Prop :=
  ∃ v : Bool, e = .returned (.bool v) ∧ TapS w' B b ∧ Only b w w'
theorem sbool_any (n : Int) (B b : Nat) (w : World) (h : TapS w B b) (hn : 1 ≤ n) (hn2 : n ≤ 1000000) :
    Calls Tryz.prog 24 #[.pointer (some ⟨b, 0, none⟩), .int .i64 n] w (SBoolP B b w) := by
  go_enter Tryz.func24, Tryz.ntmps24
  go_wp2_with fail
  refine (snext_in h (by omega) (by omega)).mono ?_
  rintro e w1 ⟨k, hk, rfl, ht, ho⟩
  go_wp2
  go_ret
  exact ⟨_, rfl, ht, ho⟩
/-- A key. -/
def SKeyP (B b : Nat) (w : World) (e : Ending) (w' : World) : Prop :=
  ∃ s : ByteArray, nmB s = true ∧ e = .returned (.string s) ∧ TapS w' B b ∧ Only b w w'
theorem key_nm : ∀ k : Nat, k < 9 → nmB (⟨#[111]⟩ ++ ⟨#[UInt8.ofNat (49 + k)]⟩) = true := by decide
set_option maxRecDepth 100000 in
theorem skey_any (n : Int) (B b : Nat) (w : World) (h : TapS w B b) (hn : 1 ≤ n) (hn2 : n ≤ 9) :
    Calls Tryz.prog 33 #[.pointer (some ⟨b, 0, none⟩), .int .i64 n] w (SKeyP B b w) := by
  go_enter Tryz.func33, Tryz.ntmps33
  go_wp2_with fail
  rw [show min n 9 = n by omega]
  refine (snext_in h (by omega) (by omega)).mono ?_
  rintro e w1 ⟨k, hk, rfl, ht, ho⟩
  obtain ⟨c, hc1, hc2⟩ : ∃ c : UInt8, (c.toNat : Int) = 49 + (k : Int) ∧ nmB (⟨#[111]⟩ ++ ⟨#[c]⟩) = true := ⟨UInt8.ofNat (49 + k), by rw [UInt8.toNat_ofNat']; omega, key_nm k (by omega)⟩
  have kb := Lib.run_convert_whole (P := Tryz.prog) (w1.alloc (.cells #[.int .u8 (49 + (k : Int))] 5)) 102 5 9 Tryz.underlying102 Tryz.underlying5 Tryz.underlying9 w1.heap.size 0 ⟨#[c]⟩ (by
    intro i hi
    have hi1 : i < 1 := hi
    obtain rfl : i = 0 := by omega
    rw [World.cell?_alloc_new]
    show some (Value.int .u8 (49 + (k : Int))) = some (Value.int .u8 (c.toNat : Int))
    rw [hc1]) 1
  rw [show (⟨#[c]⟩ : ByteArray).size = 1 from rfl] at kb
  have HK := Lib.hid hc2
  have hb := ht.alloc (.cells #[.int .u8 (49 + (k : Int))] 5)
  have ho2 := only_al ho (.cells #[.int .u8 (49 + (k : Int))] 5)
  have HT := Lib.hid hb
  have HO := Lib.hid ho2
  clear h ht ho hb ho2 hc1 hc2
  go_wp2_with fail
  go_ret
  exact ⟨_, HK.out, rfl, HT.out, HO.out⟩
/-- A valid schedule has been made. -/
def SSchedP (B b : Nat) (w : World) (e : Ending) (w' : World) : Prop :=
  ∃ s : SC, e = .returned (.agg (sV s)) ∧ s.ok = true ∧ TapS w' B b ∧ Only b w w'
set_option maxRecDepth 100000 in
theorem ssched_any (B b : Nat) (w : World) (h : TapS w B b) : Calls Tryz.prog 9 #[.pointer (some ⟨b, 0, none⟩)] w (SSchedP B b w) := by
  have hb := h.lt
  have hB := h.base
  have hr0 := (BlkAt.new w (sV ⟨0, 0, 0, 0, 0⟩) 28)
  go_enter Tryz.func9, Tryz.ntmps9
  go_wp2_with fail
  refine (snext_in (n := 3) (h.alloc _) (by omega) (by omega)).mono ?_
  rintro e w1 ⟨p, hp1, rfl, ht1, ho1⟩
  go_wp2_with fail
  refine (spick_new [0, 0, 1, 3] rfl ht1 (by decide) (by decide) rfl (by simp)).mono ?_
  rintro e w2 ⟨no, hno, rfl, ht2, ho2⟩
  go_wp2_with fail
  refine (spick_new [0, 2, 3] rfl ht2 (by decide) (by decide) rfl (by simp)).mono ?_
  rintro e w3 ⟨se, hse, rfl, ht3, ho3⟩
  go_wp2_with fail
  refine (spick_new [0, 600, 1020, 1439] rfl ht3 (by simp) (by simp) rfl (by simp)).mono ?_
  rintro e w5 ⟨cu, hcu, rfl, ht5, ho5⟩
  have hno2 : 0 ≤ no ∧ no ≤ 60 := by simp at hno; omega
  have hse2 : 0 ≤ se ∧ se ≤ 60 := by simp at hse; omega
  have hcu2 : 0 ≤ cu ∧ cu ≤ 1439 := by simp at hcu; omega
  have ho25 : Only b (w.alloc (.cells (sV ⟨0, 0, 0, 0, 0⟩) 28)) w5 := only_trans (only_trans (only_trans ho1 ho2) ho3) ho5
  have hsz5 := ho25.size
  simp at hsz5
  obtain ⟨q, hq⟩ : ∃ q : Int, q = 1 + (p : Int) := ⟨_, rfl⟩
  have hp : q = 1 ∨ q = 2 ∨ q = 3 := by omega
  rw [← hq]
  have hS : SS w (w5.alloc (.cells #[.int .i64 q, .int .i64 0, .int .i64 no, .int .i64 se, .int .i64 cu] 28)) b w.heap.size w5.heap.size ⟨q, 0, no, se, cu⟩ :=
    ⟨only_trans (only_trans (only_below (bal0 w _)) ho25) (only_below (bal0 _ _)), BlkAt.new _ _ _, (hr0.only ho25 (by omega)).al _, hb, by omega, by omega, by omega⟩
  have ht5' := ht5.alloc (.cells #[.int .i64 q, .int .i64 0, .int .i64 no, .int .i64 se, .int .i64 cu] 28)
  have hgb : w5.heap.size ≠ b := by omega
  clear hno hse hcu ho1 ho2 ho3 ho5 ho25 ht1 ht2 ht3 ht5 hr0 h hq hp1
  rcases hp with rfl | rfl | rfl
  · go_wp2_with (first | ((with_reducible refine wpl_load rfl 28 _ rfl _ ?_ hS.gb (rowS _) ?_); exact rfl) | ((with_reducible refine wpl_store rfl 28 _ _ rfl _ (sV ⟨1, 0, no, se, cu⟩) ?_ ?_ hS.rb (rowS _) ?_ ?_); exact rfl; exact rfl; exact rfl))
    exact bodyPost_ret (v := .agg (sV ⟨1, 0, no, se, cu⟩)) (res_c rfl rfl (hS.rb.set _) (rowS _)) rfl ⟨_, rfl, mkOk rfl hno2.1 hno2.2 hse2.1 hse2.2 hcu2.1 hcu2.2, ht5'.setRow (by omega) (by omega) _, only_setRow hS.only (.inr (by omega)) _⟩
  · go_wp2_with fail
    refine (snext_in (n := 5) ht5' (by omega) (by omega)).mono ?_
    rintro e w6 ⟨n, hn, rfl, ht6, ho6⟩
    have HR := Lib.hid (show ruleOk 2 (n : Int) = true by simp [ruleOk]; omega)
    have hS6 := hS.only' ho6
    have c1 := hS6.gb.cell (i := 1) rfl
    have f1 := hS6.gb.fz 1
    have hT := hS6.set 1 (.int .i64 (n : Int)) (s' := ⟨2, (n : Int), no, se, cu⟩) rfl
    have hU := ht6.setCell (p := ⟨w5.heap.size, 1, none⟩) (by simp; omega) (by simpa using hgb) (.int .i64 (n : Int))
    clear hS ht5' ho6 ht6 hn
    go_wp2_with (first | ((with_reducible refine wpl_load rfl 28 _ rfl _ ?_ hT.gb (rowS _) ?_); exact rfl) | ((with_reducible refine wpl_store rfl 28 _ _ rfl _ (sV ⟨2, (n : Int), no, se, cu⟩) ?_ ?_ hT.rb (rowS _) ?_ ?_); exact rfl; exact rfl; exact rfl))
    exact bodyPost_ret (v := .agg (sV ⟨2, (n : Int), no, se, cu⟩)) (res_c rfl rfl (hT.rb.set _) (rowS _)) rfl ⟨_, rfl, mkOk HR.out hno2.1 hno2.2 hse2.1 hse2.2 hcu2.1 hcu2.2, hU.setRow (by omega) (by omega) _, only_setRow hT.only (.inr (by omega)) _⟩
  · go_wp2_with fail
    refine (spick_new [1, 3, -1, -2] rfl ht5' (by decide) (by decide) rfl (by simp)).mono ?_
    rintro e w6 ⟨n, hn, rfl, ht6, ho6⟩
    have HR := Lib.hid (show ruleOk 3 n = true by simp at hn; simp [ruleOk]; omega)
    have hS6 := hS.only' ho6
    have c1 := hS6.gb.cell (i := 1) rfl
    have f1 := hS6.gb.fz 1
    have hT := hS6.set 1 (.int .i64 n) (s' := ⟨3, n, no, se, cu⟩) rfl
    have hU := ht6.setCell (p := ⟨w5.heap.size, 1, none⟩) (by simp; omega) (by simpa using hgb) (.int .i64 n)
    clear hS ht5' ho6 ht6 hn
    go_wp2_with (first | ((with_reducible refine wpl_load rfl 28 _ rfl _ ?_ hT.gb (rowS _) ?_); exact rfl) | ((with_reducible refine wpl_store rfl 28 _ _ rfl _ (sV ⟨3, n, no, se, cu⟩) ?_ ?_ hT.rb (rowS _) ?_ ?_); exact rfl; exact rfl; exact rfl))
    exact bodyPost_ret (v := .agg (sV ⟨3, n, no, se, cu⟩)) (res_c rfl rfl (hT.rb.set _) (rowS _)) rfl ⟨_, rfl, mkOk HR.out hno2.1 hno2.2 hse2.1 hse2.2 hcu2.1 hcu2.2, hU.setRow (by omega) (by omega) _, only_setRow hT.only (.inr (by omega)) _⟩
end
end Go.Proofs.YtbfllcfjgpkpaaaGreat
