/- What the laws lean on. -/
import Derived.Test.YteaahhokaffmdaaGreatDoorPt8
import Derived.Test.YteaahhokaffmdaaGreatDoorShelf3
import Derived.Lib.SmallJoins
import Derived.Lib.SlBytesRow
import Derived.Lib.IndexLaws
namespace Go.Proofs.YteaahhokaffmdaaGreatDoor
set_option linter.unusedVariables false
set_option linter.unusedSimpArgs false
section
open Go.RowKit
set_option maxHeartbeats 2000000
def Tab (w : World) : Prop := Lib.TabIs Tryz.prog w "internal/strconv.uint64pow10" .u64 Lib.pow10Tab
theorem Tab.next {w W : World} (h : Tab w) (hb : Below w.heap.size w W) : Tab W := by
 unfold Tab Lib.TabIs at h ⊢
 have hg : Tryz.prog.globalNamed "internal/strconv.uint64pow10" = some 6 := by kernel_rfl
 exact Joins.var_stays hg h hb (Nat.le_refl _)
theorem repeat_zeros (c : Nat) (hc : c ≤ 1000) (w : World) : Calls Tryz.prog 143 #[.string ⟨#[48]⟩, .int .i64 c] w (RetB (.string (bs (List.replicate c 48))) w) := by
 refine (Tryz.strings_Repeat ⟨#[48]⟩ c w (by omega) (by rw [show (⟨#[48]⟩ : ByteArray).size = 1 from rfl]; omega)).mono ?_
 rintro e W ⟨rfl, h⟩
 refine ⟨?_, h⟩
 have e : ∀ c, Lib.repeatL ([48] : List UInt8) c = List.replicate c 48 := by
  intro c
  induction c with
  | zero => rfl
  | succ c ih => rw [Lib.repeatL, ih, List.replicate_succ]; rfl
 rw [show (⟨#[48]⟩ : ByteArray).data.toList = [48] from rfl, e]
 rfl
def pointL (s : List UInt8) (p : Nat) : List UInt8 × List UInt8 :=
 let t := if s.length ≤ p then List.replicate (p + 1 - s.length) 48 ++ s else s
 (t.take (t.length - p), t.drop (t.length - p))
set_option maxRecDepth 100000 in
theorem point_any (s : List UInt8) {p : Nat} (hp : p ≤ 9) (hs : s.length ≤ 1000) {r : List UInt8 × List UInt8} (hr : pointL s p = r) (w : World) : Calls Tryz.prog 95 #[.string (bs s), .int .i64 p] w (RetB (.tuple #[.string (bs r.1), .string (bs r.2)]) w) := by
 have F := Fr.start w
 unfold pointL at hr
 obtain ⟨t, ht⟩ : ∃ t, (if s.length ≤ p then List.replicate (p + 1 - s.length) 48 ++ s else s) = t := ⟨_, rfl⟩
 rw [ht] at hr
 dsimp only at hr
 subst hr
 have hl1 : p ≤ t.length ∧ t.length ≤ 2000 := by
  rw [← ht]
  split
  ·rw [List.length_append, List.length_replicate]; omega
  ·omega
 obtain ⟨len, hlen⟩ : ∃ len, t.length = len := ⟨_, rfl⟩
 obtain ⟨x, hx⟩ : ∃ x, len - p = x := ⟨_, rfl⟩
 have s2 := bs_size t
 have x1 := bs_extract t 0 x
 have x2 := bs_extract t x len
 rw [Nat.sub_zero, List.drop_zero] at x1
 rw [List.take_of_length_le (by rw [List.length_drop, hlen]; omega)] at x2
 rw [hlen] at s2 hl1
 rw [hlen, hx]
 have y1 : (len : Int) - (p : Int) = (x : Int) := by omega
 have y2 : x ≤ len := by omega
 have y3 : (x : Int) ≤ (len : Int) := by omega
 have y4 : (0 : Int) ≤ (x : Int) := by omega
 have y5 : IntKind.i64.wrap (x : Int) = (x : Int) := IntWalk.i64_in _ (by omega)
 dsimp only
 obtain ⟨k, hk⟩ : ∃ k, s.length = k := ⟨_, rfl⟩
 by_cases h : s.length ≤ p
 ·rw [if_pos h] at ht
  obtain ⟨c, hc⟩ : ∃ c, p + 1 - s.length = c := ⟨_, rfl⟩
  have g1 := fun w => repeat_zeros c (by omega) w
  have e1 := bs_append (List.replicate c 48) s
  rw [hc] at ht
  rw [ht] at e1
  have s1 := bs_size s
  have s3 := bs_size (List.replicate c (48 : UInt8))
  rw [List.length_replicate] at s3
  rw [hk] at s1 h hc hs
  have hcc : (p : Int) + 1 - (k : Int) = (c : Int) := by omega
  have k1 : (9223372036854775807 < c + k) = False := by rw [eq_iff_iff, iff_false]; omega
  clear ht hlen hs hc hk hx hl1
  go_enter Tryz.func95, Tryz.ntmps95
  go_wp2_with ((go_at_call 143); (with_reducible refine fr_call F (g1 _) ?_); (clear F; intro W F); (try dsimp only))
  go_quiet (fail)
  go_wp2_with fail
  go_ret2
  exact ⟨rfl, bnext F.below (bdn _ _)⟩
 ·rw [if_neg h] at ht
  subst ht
  rw [hk] at h
  obtain rfl : k = len := by omega
  clear hlen hs hk hx hl1
  go_enter Tryz.func95, Tryz.ntmps95
  go_wp2_with fail
  go_quiet (fail)
  go_wp2_with fail
  go_ret2
  exact ⟨rfl, bnext F.below (bdn _ _)⟩
theorem dec_len (k : Nat) : ∀ u : Nat, u < 10 ^ (k + 1) → (Lib.decDigits u).length ≤ k + 1 := by
 induction k with
 | zero =>
  intro u h
  rw [Lib.decDigits, dif_pos (by omega)]
  exact Nat.le_refl _
 | succ k ih =>
  intro u h
  rw [Lib.decDigits]
  split
  ·simp
  ·rw [List.length_append, List.length_singleton]
   have := ih (u / 10) (by rw [Nat.pow_succ] at h; omega)
   omega
theorem dec_ne (u : Nat) : Lib.decDigits u ≠ [] := by
 rw [Lib.decDigits]
 split <;> simp
def fmtL (n : Nat) (neg : Bool) (p : Nat) : List UInt8 :=
 let q := pointL (Lib.decDigits n) p
 (if neg = true then [45] else []) ++ (if q.2 = [] then q.1 else q.1 ++ 46 :: q.2)
theorem point_len {s : List UInt8} {p : Nat} (hs : s.length ≤ 400) (hp : p ≤ 9) : (pointL s p).1.length ≤ 500 ∧ (pointL s p).2.length ≤ 500 := by
 unfold pointL
 dsimp only
 rw [List.length_take, List.length_drop]
 split
 ·rw [List.length_append, List.length_replicate]
  omega
 ·omega
end
section
open Go.RowKit
set_option maxHeartbeats 4000000
def leD (n : Nat) : List UInt8 := if h : n = 0 then [] else UInt8.ofNat (48 + n % 10) :: leD (n / 10)
termination_by n
decreasing_by omega
theorem leD_zero : leD 0 = [] := by rw [leD, dif_pos rfl]
theorem leD_pos {n : Nat} (h : n ≠ 0) : leD n = UInt8.ofNat (48 + n % 10) :: leD (n / 10) := by rw [leD, dif_neg h]
theorem dec_leD (n : Nat) (h0 : n ≠ 0) : Lib.decDigits n = (leD n).reverse := by
 induction n using Nat.strongRecOn with
 | _ n ih =>
  rw [Lib.decDigits, leD_pos h0, List.reverse_cons]
  split
  ·rename_i h1
   rw [Nat.mod_eq_of_lt h1, Nat.div_eq_of_lt h1, leD_zero]
   rfl
  ·rename_i h1
   rw [ih (n / 10) (by omega) (by omega)]
theorem leD_step (n : Nat) : (leD n).length ≤ 1 + (leD (n / 10)).length := by
 by_cases h0 : n = 0
 ·subst h0; rw [leD_zero]; exact Nat.zero_le _
 ·rw [leD_pos h0, List.length_cons]; omega
theorem leD_steps (k : Nat) : ∀ n : Nat, (leD n).length ≤ k + (leD (n / 10 ^ k)).length := by
 induction k with
 | zero => intro n; simp
 | succ k ih =>
  intro n
  have h1 := leD_step n
  have h2 := ih (n / 10)
  rw [Nat.div_div_eq_div_mul, Nat.mul_comm, ← Nat.pow_succ, Nat.succ_eq_add_one] at h2
  omega
theorem leD_len (k : Nat) : ∀ n : Nat, n < bp k → (leD n).length ≤ 10 * k := by
  induction k with
  | zero => intro n h; rw [bp_zero] at h; obtain rfl : n = 0 := by omega
            rw [leD_zero]; exact Nat.zero_le _
  | succ k ih =>
    intro n h
    rw [bp_succ] at h
    have h1 := leD_steps 10 n
    have h2 := ih (n / 10 ^ 10) (by
      have h3 : 4294967296 ≤ 10 ^ 10 := by decide
      have h4 : 0 < 10 ^ 10 := by decide
      generalize 10 ^ 10 = t at *
      rw [Nat.div_lt_iff_lt_mul h4]
      exact Nat.lt_of_lt_of_le h (Nat.mul_le_mul_left (bp k) h3))
    rw [Nat.mul_succ]
    exact Nat.le_trans h1 (by rw [Nat.add_comm]; exact Nat.add_le_add_right h2 10)
theorem elByte : ElT Tryz.prog 74 5 1 1 := ElT.of (z := .int .u8 0) Tryz.underlying74 (by kernel_rfl) rfl (by decide)
theorem Fr.grown {w W W' : World} {L : List Ent} {row : Option Nat} (h : Fr w W L) (hg : W.grownBy W' row) (hr : ∀ x ∈ L, row ≠ some x.1) (hb : Below w.heap.size w W') : Fr w W' L :=
 ⟨hb, fun x hx => ⟨(hg.block x.1 (h.blk x hx).lt (fun e => hr x hx e.symm)).trans (h.blk x hx).blk⟩, h.own, h.dis⟩
theorem own_ne {w0 W : World} {e t : TypeId} {sz n b : Nat} {v : Value} {xs : List Value} {cs : Array Value} (h : OwnL w0 W e sz v n xs) (hb : BlkAt W b cs t) (hne : t ≠ e) : v.ownBlock ≠ some b := by
 rcases h.own.2 with ⟨rfl, -⟩ | ⟨g, cap, cur, rfl, -, hh, -⟩
 ·intro h
  cases h
 ·intro h
  injection h with h
  subst h
  have := hh.symm.trans hb.blk
  injection this with this
  injection this with h1 h2
  exact hne h2.symm
theorem OwnL.other {w0 W W' : World} {e : TypeId} {sz n g : Nat} {v : Value} {xs : List Value} (h : OwnL w0 W e sz v n xs) (ho : Own g W W') (hg : w0.heap.size ≤ g) (hne : v.ownBlock ≠ some g) : OwnL w0 W' e sz v n xs :=
 ⟨h.below.trans (ho.below hg h.below.size), h.own.kept (row := some g) ⟨ho.os, ho.tape, ho.output, ho.size, fun i hi hne => ho.block i hi (fun e => hne (by rw [e]))⟩ (.inr hne)⟩
theorem u8_digit {r : Nat} : ((UInt8.ofNat (48 + r % 10)).toNat : Int) = 48 + (r : Int) % 10 := by
 rw [UInt8.toNat_ofNat_of_lt' (by have := Nat.mod_lt r (show 0 < 10 by decide); have e : UInt8.size = 256 := rfl; omega)]
 omega
def u8s (l : List UInt8) : List Value := l.map fun b => .int .u8 b.toNat
theorem mk_bytes : ∃ C : Array Value, C.size = 310 ∧ ∀ W, (Instr.makeSlice 74 (.int .i64 0) (.int .i64 310)).run Tryz.prog W = .ok (.slice (some ⟨W.heap.size, 0, none⟩) 0 310) (W.alloc (.cells C 5)) := by
 obtain ⟨i, z, hi, hz, hsz, hby, hzs⟩ := elByte.info
 refine ⟨madeCells z.cells 310, size_madeCells _ _, fun W => ?_⟩
 have h := run_makeSlice (P := Tryz.prog) (w := W) 74 5 i z elByte.sl hi hz .i64 .i64 0 310 (by decide) (by decide) (by rw [hsz]; decide) (by rw [hby]; decide) (by decide)
 rw [hsz] at h
 exact h
theorem Fr.turn {w W W' : World} {b : Nat} {cs cs' : Array Value} {t : TypeId} (h : Fr w W [(b, cs, t)]) (ho : Own b W W') (hb : BlkAt W' b cs' t) : Fr w W' [(b, cs', t)] :=
 Fr.change (A := []) h hb (fun k ds u hk hB => ho.blk hB hk) (h.below.trans (ho.below h.ge h.below.size))
theorem Fr.pushed {w W W' : World} {b : Nat} {cs : Array Value} {t e : TypeId} {sz n n' : Nat} {v v' : Value} {xs xs' : List Value} (h : Fr w W [(b, cs, t)]) (hO : OwnL w W e sz v n xs) (ho : Obj) (hg : (W.alloc ho).grownBy W' v.ownBlock) (hO' : OwnL w W' e sz v' n' xs') (hne : t ≠ e) : Fr w W' [(b, cs, t)] :=
 (h.next (bal0 W ho)).grown hg (fun x hx => by rw [List.mem_singleton.1 hx]; exact own_ne hO h.here hne) hO'.below
theorem rev_at {E L : List UInt8} {n : Nat} (h : E.reverse = L) (hn : E.length = n + 1) {k : Nat} (hk : k < n + 1) (hs : k < (bs L).size) : (bs L)[k] = E.getD (n - k) 0 := by
 subst h
 refine (bs_at hs (by rw [List.length_reverse]; omega)).trans ?_
 rw [List.getElem_reverse]
 have e : E.length - 1 - k = n - k := by omega
 have hi : n - k < E.length := by omega
 simp only [e]
 simp [List.getD, hi]
theorem rev_bytes {W : World} {G : Nat} {cs : Array Value} {t : TypeId} {E L : List UInt8} {n i j : Nat} (hb : BlkAt W G cs t) (hL : E.reverse = L) (hn : E.length = n + 1) (hij : i + j = n) (hle : j ≤ i) (hcs : ∀ k, k < n + 1 → cs[k]? = some (.int .u8 (if k < i ∨ j < k then E.getD (n - k) 0 else E.getD k 0).toNat)) : Lib.Bytes W G 0 (bs L) := by
 intro k hk
 have hk2 : k < n + 1 := by rw [bs_size, ← hL, List.length_reverse] at hk; omega
 rw [Nat.zero_add, hb.cell (hcs k hk2), rev_at hL hn hk2 hk]
 congr 4
 split
 ·rfl
 ·congr 1
  omega
theorem meas_swap {i j : Nat} (h : i < j) {a b : Int} (ha : a = ((j - 1 : Nat) : Int)) (hb : b = ((i + 1 : Nat) : Int)) : (intOf (Value.int .i64 a) + 1 - intOf (Value.int .i64 b)).toNat < (intOf (Value.int .i64 (j : Int)) + 1 - intOf (Value.int .i64 (i : Int))).toNat := by
 subst ha
 subst hb
 simp only [intOf]
 omega
set_option maxRecDepth 100000 in
theorem bformat_any {z : Int} (hz : z.natAbs < bp 32) (w : World) : Calls Tryz.prog 94 #[.agg (IC z)] w (RetB (.string (bs (Lib.itoa z))) w) := by
 have F := Fr.start w
 have g1 := fun w => splitZ hz w
 obtain ⟨m, hm⟩ : ∃ m, z.natAbs = m := ⟨_, rfl⟩
 rw [hm] at g1 hz
 obtain ⟨g, hg⟩ : ∃ g, decide (z < 0) = g := ⟨_, rfl⟩
 rw [hg] at g1
 obtain ⟨C, hC, mk⟩ := mk_bytes
 have HC := Lib.hid hC
 have HR := Lib.hid (And.intro hm (And.intro hg hz))
 clear hm hg hz hC
 go_enter Tryz.func94, Tryz.ntmps94
 go_wp2_with (first | go_skip | refine aY2 ?_ | (refine aT2 ?_; clear F; intro W F) | refine aN2 ?_)
 (clear F; intro b1 W F; try simp only [Act.put, z6, z1, z2])
 go_wp2_with (first | go_skip | ((go_at_call 141); (with_reducible refine fr_call F (g1 _) ?_); (clear F; intro W F); (try dsimp only)) | refine aY2 ?_ | (refine aT2 ?_; clear F; intro W F) | refine aN2 ?_)
 (clear F; intro b4 W F; try simp only [Act.put, z6, z1, z2])
 go_wp2_with (first | go_skip | refine aY2 ?_ | (refine aT2 ?_; clear F; intro W F) | refine aN2 ?_)
 replace F := F.sub (L' := [(b4, limA 32 m, 155)]) (by repeat (first | exact List.Sublist.slnil | apply List.Sublist.cons_cons | apply List.Sublist.cons))
 have hO : OwnL w (W.alloc (.cells C 5)) 5 1 (.slice (some ⟨W.heap.size, 0, none⟩) 0 310) 0 [] := ⟨bnext F.below (bal0 _ _), World.ownsRow_made W C 310 F.below.size (by unfold maxLen; decide) (by rw [HC.out])⟩
 replace F := F.next (bal0 W (.cells C 5))
 have HO := Lib.hid hO
 clear hO mk HC
 generalize W.alloc _ = W1 at *
 generalize W.heap.size = S at *
 go_loopw [5] (fun vv wr => ∃ c D, c < bp 32 ∧ leD m = D ++ leD c ∧ OwnL w wr 5 1 vv D.length (u8s D) ∧ Fr w wr [(b4, limA 32 c, 155)]) (fun _ wr => magOf wr b4)
 case atStart => exact ⟨m, [], HR.out.2.2, rfl, HO.out, F⟩
 case round =>
  obtain ⟨c, D, hc, hle, hO, F⟩ := hrel
  have HO := Lib.hid hO
  have HL := Lib.hid hle
  have HM := Lib.hid (magOf_is hc F.here)
  clear hle hO
  have ez := eqz c hc
  rw [← magZ] at ez
  by_cases h0 : c = 0
  ·have hd0 : decide (c = 0) = true := decide_eq_true h0
   rw [hd0] at ez
   subst h0
   clear hd0
   have hle : leD m = D := by have h := HL.out; rwa [leD_zero, List.append_nil] at h
   subst hle
   clear HL
   by_cases hm0 : m = 0
   ·have hlen : (leD m).length = 0 := by rw [hm0, leD_zero]; rfl
    have hz0 : Lib.itoa z = [48] := by
     have h := HR.out.1
     rw [hm0] at h
     obtain rfl : z = 0 := by omega
     unfold Lib.itoa
     rw [if_neg (by decide), Int.toNat_zero, Lib.decDigits, dif_pos (by decide)]
     rfl
    obtain ⟨G, cap, hv⟩ : ∃ A cap, u5 = .slice A 0 cap := by
     obtain ⟨A, cap, h, -⟩ := HO.out.read
     rw [hlen] at h
     exact ⟨A, cap, h⟩
    subst hv
    have HZ0 := Lib.hid hz0
    clear HR hlen hz0 HO hm0
    go_wp2_with (first | go_skip | refine aY2 ?_ | (refine aT2 ?_; clear F; intro W F) | refine aN2 ?_)
    go_ret
    exact ⟨by rw [HZ0.out]; rfl, F.below⟩
   have hdec := dec_leD m hm0
   have hl0 : (leD m).length ≠ 0 := by
    rw [leD_pos hm0]
    simp
   have hl1 := leD_len 32 m HR.out.2.2
   have hzE : ((leD m) ++ (if g = true then [45] else [])).reverse = Lib.itoa z := by
    obtain ⟨h1, h2, -⟩ := HR.out
    unfold Lib.itoa
    by_cases hz : z < 0
    ·rw [if_pos hz, if_pos (by rw [← h2]; exact decide_eq_true hz), List.reverse_append, h1, hdec]
     rfl
    ·rw [if_neg hz, if_neg (by rw [← h2]; simpa using hz), List.append_nil, show z.toNat = m by omega, hdec]
   obtain ⟨n, hn⟩ : ∃ n, (leD m).length = n := ⟨_, rfl⟩
   have hn0 : ((n : Int) == 0) = false := by rw [beq_eq_false_iff_ne]; omega
   obtain ⟨A, cap, hv⟩ : ∃ A cap, u5 = .slice A n cap := by
    obtain ⟨A, cap, h, -⟩ := HO.out.read
    rw [hn] at h
    exact ⟨A, cap, h⟩
   subst hv
   rw [hn] at HO hl0 hl1
   have HZ := Lib.hid (And.intro hzE hn)
   have hB := F.below
   clear hdec hm0 HR g1 hzE
   have HG := Lib.hid (And.intro hl0 hl1)
   clear hl0 hl1 hn hc
   go_upto_if 45 with (first | go_skip | refine aY2 ?_ | (refine aT2 ?_; clear F; intro W F) | refine aN2 ?_)
   clear ez F
   go_cut [5] from 45 to 48 (fun v5 wc => ∃ (E : List UInt8) (N1 : Nat), (E.length = N1 + 1 ∧ E.reverse = Lib.itoa z ∧ N1 ≤ 400) ∧ OwnL w wc 5 1 v5 (N1 + 1) (u8s E))
   case first =>
    cases g
    ·go_wp2_with fail
     go_meet
     refine ⟨leD m, n - 1, ⟨by have := HZ.out.2; have := HG.out.1; omega, by have h := HZ.out.1; rwa [if_neg (by decide), List.append_nil] at h, by have := HG.out.2; omega⟩, ?_⟩
     rw [show n - 1 + 1 = n by have := HG.out.1; omega]
     exact HO.out
    ·have hn9 : n ≤ 100000 := by have := HG.out.2; omega
     go_wp2_with (at_builtin; refine wpl_push elByte rfl _ _ rfl HO.out rfl #[.int .u8 45] rfl rfl rfl hn9 (by decide) ?_; intro v' w' hO' hg)
     go_meet
     refine ⟨leD m ++ [45], n, ⟨by rw [List.length_append, HZ.out.2]; rfl, by have h := HZ.out.1; simpa using h, by have := HG.out.2; omega⟩, ?_⟩
     rw [show u8s (leD m ++ [45]) = u8s (leD m) ++ #[Value.int .u8 45].toList by unfold u8s; rw [List.map_append]; rfl]
     exact hO'
   case rest =>
    obtain ⟨E, N1, ⟨hEN, hEz, hN4⟩, hO5⟩ := hcut
    obtain ⟨G, cap, cur, hv5, hG, hh, hle5, -, hsz, htk⟩ := hO5.own.2.resolve_left (by rintro ⟨-, h⟩; omega)
    subst hv5
    obtain ⟨N, hN⟩ : ∃ N : Nat, N1 + 1 = N := ⟨_, rfl⟩
    have hB := hO5.below
    rw [hN] at hEN htk hle5
    have HC0 := Lib.hid (show ∀ k, k < N → cur[k]? = some (.int .u8 (if k < 0 ∨ N1 < k then E.getD (N1 - k) 0 else E.getD k 0).toNat) from fun k hk => by
     rw [if_neg (by omega)]
     have h : (cur.toList.take (N * 1))[k]? = (u8s E)[k]? := by rw [htk]
     rw [List.getElem?_take_of_lt (by omega), Array.getElem?_toList] at h
     rw [h]
     unfold u8s
     rw [List.getElem?_map, List.getElem?_eq_getElem (by omega)]
     simp [List.getD, hEN, hk])
    have HB0 := Lib.hid (show BlkAt _ G cur 5 from ⟨hh⟩)
    have HEE := Lib.hid (And.intro hEN (And.intro hEz (And.intro (show N = N1 + 1 by omega) (show N ≤ 401 by omega))))
    rw [hN]
    have e1 : (N : Int) - 1 = (N1 : Int) := by omega
    have E2 := Lib.hid (show RowKit.wrap64 (N1 : Int) = (N1 : Int) by rw [RowKit.wrap64]; omega)
    clear HZ hh htk hsz hle5 HO HM hn0 hEN hEz hO5 hN hN4 HG
    go_wp2_with fail
    go_loopw [8, 9] (fun iv jv wq => ∃ (i j : Nat) (cs : Array Value), i + j = N1 ∧ iv = .int .i64 i ∧ jv = .int .i64 j ∧ BlkAt wq G cs 5 ∧ Below w.heap.size w wq ∧ ∀ k, k < N → cs[k]? = some (.int .u8 (if k < i ∨ j < k then E.getD (N1 - k) 0 else E.getD k 0).toNat)) (fun iv jv _ => (intOf jv + 1 - intOf iv).toNat)
    case atStart => exact ⟨0, N1, cur, by omega, rfl, congrArg (Value.int .i64) E2.out, HB0.out, hB, HC0.out⟩
    case round =>
     obtain ⟨i, j, cs, hij, rfl, rfl, hb, hbl, hcs⟩ := hrel
     have HCS := Lib.hid hcs
     have HBS := Lib.hid hb
     clear hcs hb HC0 HB0 hB
     by_cases hlt : i < j
     ·have ci := HBS.out.cell (HCS.out i (by omega))
      have cj := HBS.out.cell (HCS.out j (by omega))
      rw [if_neg (by omega)] at ci cj
      obtain ⟨x, hx⟩ : ∃ x : Nat, (E.getD i 0).toNat = x := ⟨_, rfl⟩
      obtain ⟨y, hy⟩ : ∃ y : Nat, (E.getD j 0).toNat = y := ⟨_, rfl⟩
      rw [hx] at ci
      rw [hy] at cj
      have HXY := Lib.hid (And.intro hx hy)
      have i0 : (0 : Int) ≤ (i : Int) := by omega
      have hNN := HEE.out.2.2.1
      have i1 : (i : Int) < (N : Int) := by omega
      have j0 : (0 : Int) ≤ (j : Int) := by omega
      have j1 : (j : Int) < (N : Int) := by omega
      have i2 : i < N := by omega
      have j2 : j < N := by omega
      have ij : (i : Int) < (j : Int) := by omega
      have fzi := BlkAt.fz HBS.out i
      have fzj := BlkAt.fz HBS.out j
      clear hx hy hNN
      go_wp2_with fail
      go_region_law (first | fail)
      all_goals
       have hb2 : BlkAt ((wr.setCell ⟨G, i, none⟩ (.int .u8 y)).setCell ⟨G, j, none⟩ (.int .u8 x)).drew G ((cs.setIfInBounds i (.int .u8 y)).setIfInBounds j (.int .u8 x)) 5 := (BlkAt.cellSet (BlkAt.cellSet HBS.out i _) j _).next (Below.refl _ _).drew
       have hbl2 : Below w.heap.size w ((wr.setCell ⟨G, i, none⟩ (.int .u8 y)).setCell ⟨G, j, none⟩ (.int .u8 x)).drew := bnext ((hbl.setCell hG _).setCell hG _) (Below.refl _ _).drew
       have HN := Lib.hid (And.intro hb2 hbl2)
       clear hb2 hbl2 ci cj fzi fzj
       have hij4 := HEE.out.2.2
       have HWI := Lib.hid (show RowKit.wrap64 ((i : Int) + 1) = ((i + 1 : Nat) : Int) by rw [RowKit.wrap64]; omega)
       have HWJ := Lib.hid (show RowKit.wrap64 ((j : Int) - 1) = ((j - 1 : Nat) : Int) by rw [RowKit.wrap64]; omega)
       clear hij4
       go_simp
       go_wp2_with fail
       go_roundw
       case rel =>
        refine ⟨i + 1, j - 1, _, by omega, by first | exact congrArg (Value.int .i64) HWI.out | go_num, by first | exact congrArg (Value.int .i64) HWJ.out | (rw [show ((j - 1 : Nat) : Int) = (j : Int) - 1 by omega]; go_num), HN.out.1, HN.out.2, ?_⟩
        intro k hk
        have h := HCS.out k hk
        have hks : k < cs.size := (Array.getElem?_eq_some_iff.1 h).1
        have hNN := HEE.out.2.2.1
        rw [Array.getElem?_setIfInBounds, Array.getElem?_setIfInBounds]
        by_cases hkj : j = k
        ·rw [if_pos hkj, Array.size_setIfInBounds, if_pos (by omega), if_pos (by omega), show N1 - k = i by omega, HXY.out.1]
        ·rw [if_neg hkj]
         by_cases hki : i = k
         ·rw [if_pos hki, if_pos (by omega), if_pos (by omega), show N1 - k = j by omega, HXY.out.2]
         ·rw [if_neg hki, h]
          have e : (k < i + 1 ∨ j - 1 < k) ↔ (k < i ∨ j < k) := by omega
          by_cases q : k < i ∨ j < k
          ·rw [if_pos q, if_pos (e.2 q)]
          ·rw [if_neg q, if_neg (fun h => q (e.1 h))]
       case measure =>
        exact meas_swap hlt HWJ.out HWI.out
     ·have hsz := bs_size (Lib.itoa z)
      rw [← HEE.out.2.1, List.length_reverse, HEE.out.1] at hsz
      have kb := Lib.run_convert_whole (P := Tryz.prog) wr 74 5 9 Tryz.underlying74 Tryz.underlying5 Tryz.underlying9 G 0 (bs (Lib.itoa z)) (rev_bytes (i := i) (j := j) (n := N1) HBS.out HEE.out.2.1 (HEE.out.1.trans HEE.out.2.2.1) hij (by omega) (by rw [← HEE.out.2.2.1]; exact HCS.out))
      rw [HEE.out.2.1] at hsz
      rw [hsz] at kb
      clear hsz
      go_wp2_with fail
      go_ret
      exact ⟨rfl, hbl⟩
  ·have hd0 : decide (c = 0) = false := decide_eq_false h0
   rw [hd0] at ez
   clear hd0
   have gs := fun W (h : Fr w W [(b4, limA 32 c, 155)]) => short_any (m := c) (g := b4) (x := 1000000000) (w := W) h.here hc (by omega) (by omega)
   go_wp2_with (first | go_skip | refine aY2 ?_ | (refine aT2 ?_; clear F; intro W F) | refine aN2 ?_)
   refine (gs _ F).mono ?_
   rintro e W2 ⟨rfl, hq5, ho5⟩
   clear gs
   have HO2 := Lib.hid (HO.out.other ho5 F.ge (own_ne HO.out F.here (by decide)))
   replace F := F.turn ho5 hq5.blk
   clear ez ho5 hq5 HO
   obtain ⟨c', hc'⟩ : ∃ c', c / 1000000000 = c' := ⟨_, rfl⟩
   obtain ⟨r, hr⟩ : ∃ r, c % 1000000000 = r := ⟨_, rfl⟩
   rw [hc'] at F
   rw [hr]
   have hcc : c' < bp 32 ∧ c' < c := by omega
   have he : c = c' * 1000000000 + r := by omega
   have HL2 := Lib.hid (show leD m = D ++ leD (c' * 10 ^ 9 + r) by rw [show (10 : Nat) ^ 9 = 1000000000 from rfl, ← he]; exact HL.out)
   have hr1 : r < 10 ^ 9 := by rw [show (10 : Nat) ^ 9 = 1000000000 from rfl, ← hr]; exact Nat.mod_lt _ (by omega)
   clear he
   have HC := Lib.hid hcc
   clear HL hc' hr h0 hc hcc
   go_wp2_with fail
   go_loopw [5, 6, 7] (fun vv rv iv wr => ∃ i r D, i ≤ 9 ∧ r < 10 ^ (9 - i) ∧ rv = .int .u32 (r : Nat) ∧ iv = .int .i64 (i : Nat) ∧ leD m = D ++ leD (c' * 10 ^ (9 - i) + r) ∧ OwnL w wr 5 1 vv D.length (u8s D) ∧ Fr w wr [(b4, limA 32 c', 155)]) (fun _ _ iv _ => 9 - (intOf iv).toNat)
   case atStart => exact ⟨0, r, D, by omega, hr1, rfl, rfl, HL2.out, HO2.out, F⟩
   case round =>
    clear HL2 HO2 hr1 F
    obtain ⟨i, r, D, hi, hr, rfl, rfl, hle, hO, F⟩ := hrel
    have HO := Lib.hid hO
    have HL := Lib.hid hle
    clear hle hO
    have ez := eqz c' HC.out.1
    rw [← magZ] at ez
    by_cases hi9 : i = 9
    ·subst hi9
     have h00 : r = 0 := by simpa using hr
     have HL2 := Lib.hid (show leD m = D ++ leD c' by have h := HL.out; rwa [Nat.sub_self, Nat.pow_zero, Nat.mul_one, h00, Nat.add_zero] at h)
     clear HL hr ez h00
     go_wp2_with fail
     go_roundw
     case rel => exact ⟨c', D, HC.out.1, HL2.out, HO.out, F⟩
     case measure => rw [HM.out, magOf_is HC.out.1 F.here]; exact HC.out.2
    obtain ⟨t, ht⟩ : ∃ t, 10 ^ (9 - (i + 1)) = t := ⟨_, rfl⟩
    have ht2 : 10 ^ (9 - i) = t * 10 := by rw [show 9 - i = 9 - (i + 1) + 1 by omega, Nat.pow_succ, ht]
    have ht0 : 0 < t := by rw [← ht]; exact Nat.pow_pos (by decide)
    rw [ht2] at HL hr
    have tl : decide ((i : Int) < 9) = true := decide_eq_true (by omega)
    by_cases hcur : r = 0 ∧ c' = 0
    ·obtain ⟨rfl, rfl⟩ := hcur
     have hd0 : decide ((0 : Nat) = 0) = true := rfl
     rw [hd0] at ez
     have HL2 := Lib.hid (show leD m = D ++ leD 0 by have h := HL.out; rwa [Nat.zero_mul] at h)
     clear HL hr hd0 ht ht2 ht0
     go_wp2_with (first | go_skip | refine aY2 ?_ | (refine aT2 ?_; clear F; intro W F) | refine aN2 ?_)
     go_roundw
     case rel => exact ⟨0, D, HC.out.1, HL2.out, HO.out, F⟩
     case measure => rw [HM.out, magOf_is HC.out.1 F.here]; exact HC.out.2
    have hcr : c' * (t * 10) + r ≠ 0 := by
     intro h
     have h1 := Nat.eq_zero_of_add_eq_zero h
     rcases Nat.mul_eq_zero.1 h1.1 with h2 | h2
     ·exact hcur ⟨h1.2, h2⟩
     ·omega
    have HL2 := Lib.hid (show leD m = (D ++ [UInt8.ofNat (48 + r % 10)]) ++ leD (c' * t + r / 10) by
     have h := HL.out
     rw [leD_pos hcr] at h
     rw [h, List.append_assoc, List.singleton_append]
     have e1 : (c' * (t * 10) + r) % 10 = r % 10 := by rw [← Nat.mul_assoc, Nat.mul_comm _ 10, Nat.mul_add_mod]
     have e2 : (c' * (t * 10) + r) / 10 = c' * t + r / 10 := by rw [← Nat.mul_assoc, Nat.mul_comm _ 10, Nat.mul_add_div (by omega)]
     rw [e1, e2])
    have hr2 : r / 10 < t := by omega
    have hrt : r < 4294967296 := by
     have h1 : t ≤ 10 ^ 8 := by rw [← ht]; exact Nat.pow_le_pow_right (by decide) (by omega)
     have h2 : (10 : Nat) ^ 8 = 100000000 := rfl
     omega
    have hD : D.length ≤ 100000 := by
     have h1 := leD_len 32 m HR.out.2.2
     rw [HL.out, List.length_append] at h1
     omega
    have hdig := u8_digit (r := r)
    obtain ⟨d, hd⟩ : ∃ d, UInt8.ofNat (48 + r % 10) = d := ⟨_, rfl⟩
    rw [hd] at HL2 hdig
    have HE := Lib.hid (And.intro ht (And.intro hr2 hdig))
    have hu8 : u8s (D ++ [d]) = u8s D ++ [.int .u8 (48 + (r : Int) % 10)] := by
     unfold u8s
     rw [List.map_append, List.map_singleton, hdig]
    have HU := Lib.hid hu8
    clear hu8
    rcases Nat.eq_zero_or_pos r with h0 | h0
    ·have t2 : decide ((0 : Int) < (r : Int)) = false := decide_eq_false (by omega)
     have hd0 : decide (c' = 0) = false := decide_eq_false (fun h => hcur ⟨h0, h⟩)
     rw [hd0] at ez
     subst h0
     have HU := Lib.hid (show u8s (D ++ [d]) = u8s D ++ [.int .u8 48] from HU.out)
     clear HL hr ht ht2 ht0 hcur hcr hr2 hd hdig hd0 t2
     go_wp2_with (first | (at_builtin; refine wpl_push elByte rfl _ _ rfl HO.out rfl #[.int .u8 48] rfl rfl rfl hD (by decide) ?_; intro v' w' hO' hg) | (first | go_skip | refine aY2 ?_ | (refine aT2 ?_; clear F; intro W F) | refine aN2 ?_))
     have HX := Lib.hid (show OwnL w w' 5 1 v' (D.length + [d].length) (u8s (D ++ [d])) by rw [HU.out]; exact hO')
     go_roundw
     case rel => exact ⟨i + 1, 0, D ++ [d], by omega, by rw [HE.out.1]; exact HE.out.2.1, rfl, by go_num, by rw [HE.out.1]; exact HL2.out, by rw [List.length_append]; exact HX.out, F.pushed HO.out _ hg hO' (by decide)⟩
     case measure => simp [intOf]; omega
    ·have t2 : decide ((0 : Int) < (r : Int)) = true := decide_eq_true (by omega)
     clear HL hr ht ht2 ht0 hcur hcr hr2 hd ez hdig
     go_wp2_with (first | (at_builtin; refine wpl_push elByte rfl _ _ rfl HO.out rfl #[.int .u8 (48 + (r : Int) % 10)] rfl rfl rfl hD (by decide) ?_; intro v' w' hO' hg) | (first | go_skip | refine aY2 ?_ | (refine aT2 ?_; clear F; intro W F) | refine aN2 ?_))
     have HX := Lib.hid (show OwnL w w' 5 1 v' (D.length + [d].length) (u8s (D ++ [d])) by rw [HU.out]; exact hO')
     go_roundw
     case rel => exact ⟨i + 1, r / 10, D ++ [d], by omega, by rw [HE.out.1]; exact HE.out.2.1, by go_num, by go_num, by rw [HE.out.1]; exact HL2.out, by rw [List.length_append]; exact HX.out, F.pushed HO.out _ hg hO' (by decide)⟩
     case measure => simp [intOf]; omega
end
section
open Go.RowKit
theorem okZ_b {n d : Int} (h : okZ n d) : n.natAbs < bp 32 ∧ d.natAbs < bp 32 := ⟨b15 (okZ_iff.1 h).1.1, b15 (okZ_iff.1 h).1.2⟩
section
variable {n d m e : Int} {r : Int × Int × Int}
theorem addZR (h : okZ n d) (k : okZ m e) (hr : mkR (n * e + m * d) (d * e) = r) (w : World) : Calls Tryz.prog 83 #[.agg (RC n d), .agg (RC m e)] w (RetB (.tuple #[.agg (RC r.1 r.2.1), .int .i64 r.2.2]) w) :=
 addR (okZ_b h).1 (okZ_b h).2 (okZ_b k).1 (okZ_b k).2 w (by rw [if_pos ⟨h, k⟩, sZ_z, sZ_z, sZ_z, sZ_z]; exact hr)
theorem negZR (h : okZ n d) (w : World) : Calls Tryz.prog 85 #[.agg (RC n d)] w (RetB (.tuple #[.agg (RC (-n) d), .int .i64 0]) w) := negR h w
end
theorem okZ_one {n : Int} (h : n.natAbs < bp 15) : okZ n 1 := okZ_iff.2 ⟨⟨h, by unfold bp; decide⟩, by decide, Int.gcd_one⟩
theorem bp15_big : 10 ^ 30 < bp 15 := by unfold bp; decide
theorem sum_low {n m t : Int} (ht : 0 < t) : mkR (n * lowD m t + lowN m t * 1) (1 * lowD m t) = mkR (n * t + m) t := by
 obtain ⟨h1, h2⟩ := low_mul (n := m) ht
 have h3 := gcd_pos (n := m) ht
 rw [← mkR_scale (n := n * lowD m t + lowN m t * 1) (c := (Int.gcd m t : Int)) (by rw [Int.one_mul]; exact lowD_pos ht) (by omega)]
 rw [Int.one_mul, Int.mul_one, Int.add_mul, Int.mul_assoc, h1, h2]
end
section
open Go.RowKit
set_option maxHeartbeats 2000000
theorem bp1_ten {v k : Nat} (hv : v < 10 ^ 24) (hk : k ≤ 9) : (v : Int).natAbs < bp 15 ∧ ((10 ^ k : Nat) : Int).natAbs < bp 15 := by
 have h1 := ten_le hk
 have h2 : (10 : Nat) ^ 24 < bp 15 := by unfold bp; decide
 rw [Int.natAbs_natCast, Int.natAbs_natCast]
 omega
set_option maxRecDepth 100000 in
theorem parse_any (s : List UInt8) (p : Int) (hs : s.length ≤ 9223372036854775807) {r : Int × Int × Int} (hr : prsR s p = r) (w : World) : Calls Tryz.prog 48 #[.string (bs s), .int .i64 p] w (RetB (.tuple #[.agg (RC r.1 r.2.1), .int .i64 r.2.2]) w) := by
 have F := Fr.start w
 unfold prsR at hr
 have HR := Lib.hid hr
 clear hr
 go_enter Tryz.func48, Tryz.ntmps48
 go_wp2_with (first | go_skip | refine aY2 ?_ | (refine aT2 ?_; clear F; intro W F) | refine aN2 ?_)
 (clear F; intro b4 W F; try simp only [Act.put, z6, z1, z2])
 by_cases hp : p < 0 ∨ 9 < p
 ·have hr := HR.out
  rw [if_pos hp] at hr
  subst hr
  clear HR
  by_cases hp1 : p < 0
  ·clear hp
   go_wp2_with (first | go_skip | refine aY2 ?_ | (refine aT2 ?_; clear F; intro W F) | refine aN2 ?_)
   exact bodyPost_ret (res_cs rfl rfl rfl (Fr.get F tL) (rowRC _ _)) rfl ⟨rfl, F.below⟩
  ·have hp2 : 9 < p := by omega
   clear hp
   go_wp2_with (first | go_skip | refine aY2 ?_ | (refine aT2 ?_; clear F; intro W F) | refine aN2 ?_)
   exact bodyPost_ret (res_cs rfl rfl rfl (Fr.get F tL) (rowRC _ _)) rfl ⟨rfl, F.below⟩
 have hr := HR.out
 rw [if_neg hp] at hr
 have t1 : decide (p < 0) = false := decide_eq_false (by omega)
 have t2 : decide (9 < p) = false := decide_eq_false (by omega)
 have hp9 : p ≤ 9 := by omega
 have g1 := fun w => cutPrefix_any s 45 w
 have hl := trim_len s [45]
 obtain ⟨t, ht⟩ : ∃ t, Lib.trimPrefix s [45] = t := ⟨_, rfl⟩
 obtain ⟨neg, hneg⟩ : ∃ neg, Lib.hasPrefix s [45] = neg := ⟨_, rfl⟩
 rw [ht] at g1 hr hl
 rw [hneg] at g1 hr
 have g2 := fun w => cut_any t 46 (by omega) rfl w
 have hl2 := cut1_len t 46
 have hno := cut1_no (l := t) (c := 46)
 obtain ⟨c, hc⟩ : ∃ c, cut1 t 46 = c := ⟨_, rfl⟩
 rw [hc] at g2 hr hl2 hno
 obtain ⟨a, b, pt⟩ := c
 dsimp only at g2 hr hl2 hno
 have g3 := fun w => digits_any a (lo := 1) (hi := 15) (by omega) (show _ = dgs a 1 15 from rfl) w
 have g4 := fun w => digits_any b (lo := 1) (hi := p) (by omega) (show _ = dgs b 1 p from rfl) w
 have d1i := dgs_iff (l := a) (lo := 1) (hi := 15)
 have d2i := dgs_iff (l := b) (lo := 1) (hi := p)
 obtain ⟨d1, hd1⟩ : ∃ d, dgs a 1 15 = d := ⟨_, rfl⟩
 obtain ⟨d2, hd2⟩ : ∃ d, dgs b 1 p = d := ⟨_, rfl⟩
 rw [hd1] at g3 hr d1i
 rw [hd2] at g4 hr d2i
 have HR := Lib.hid hr
 have H1 := Lib.hid d1i
 have H2 := Lib.hid (And.intro d2i hno)
 have sa := bs_size a
 have sb := bs_size b
 clear hr hp ht hneg hc hd1 hd2 d1i d2i hl hl2 hs hno
 cases d1
 ·have hr := HR.out
  rw [if_pos (.inl rfl)] at hr
  subst hr
  clear HR H1 H2 g4 hp9
  go_wp2_with (first | go_skip | ((go_at_call 77); (with_reducible refine fr_call F (g1 _) ?_); (clear F; intro W F); (try dsimp only)) | ((go_at_call 78); (with_reducible refine fr_call F (g2 _) ?_); (clear F; intro W F); (try dsimp only)) | ((go_at_call 79); (with_reducible refine fr_call F (g3 _) ?_); (clear F; intro W F); (try dsimp only)) | refine aY2 ?_ | (refine aT2 ?_; clear F; intro W F) | refine aN2 ?_)
  exact bodyPost_ret (res_cs rfl rfl rfl (Fr.get F tL) (rowRC _ _)) rfl ⟨rfl, F.below⟩
 obtain ⟨a1, a2, a3⟩ := H1.out.1 rfl
 cases a with
 | nil => exact absurd a1 (by decide)
 | cons x a =>
 have e1 := bs_at (l := x :: a) (i := 0) (by rw [bs_size]; simp) (by simp)
 obtain ⟨y, hy⟩ : ∃ y : Nat, x.toNat = y := ⟨_, rfl⟩
 have e2 : ((bs (x :: a))[0]'(by rw [bs_size]; simp)).toNat = y := (congrArg UInt8.toNat e1).trans hy
 have hx : x = 48 ↔ y = 48 := by rw [← hy]; exact ⟨fun h => by rw [h]; rfl, fun h => UInt8.toNat_inj.1 h⟩
 have hlead : (1 < (x :: a).length ∧ (x :: a).head? = some 48) ↔ (1 < (x :: a).length ∧ y = 48) := by
  rw [List.head?_cons, Option.some_inj, hx]
 have HL := Lib.hid hlead
 have H1 := Lib.hid (And.intro a2 a3)
 obtain ⟨la, hla⟩ : ∃ la, (x :: a).length = la := ⟨_, rfl⟩
 have HLA := Lib.hid hla
 rw [hla] at sa a1
 have l0 : 0 < la := by omega
 have l0i : (0 : Int) < (la : Int) := by omega
 have l0n : ((la : Int) ≤ 0) = False := by rw [eq_iff_iff, iff_false]; omega
 have hA0 : x :: a ≠ [] := by simp
 clear hlead hx hy hla a2 a3 e1
 by_cases lead : 1 < la ∧ y = 48
 ·have hr := HR.out
  rw [if_pos (.inr (.inl (HL.out.2 (by rw [HLA.out]; exact lead))))] at hr
  subst hr
  have tl : decide ((1 : Int) < (la : Int)) = true := decide_eq_true (by omega)
  have ty : ((y : Int) == 48) = true := by rw [beq_iff_eq]; omega
  clear HR H1 H2 HL g4 hp9 lead
  go_wp2_with (first | go_skip | ((go_at_call 77); (with_reducible refine fr_call F (g1 _) ?_); (clear F; intro W F); (try dsimp only)) | ((go_at_call 78); (with_reducible refine fr_call F (g2 _) ?_); (clear F; intro W F); (try dsimp only)) | ((go_at_call 79); (first | (with_reducible refine fr_call F (g3 _) ?_) | (with_reducible refine fr_call F (g4 _) ?_)); (clear F; intro W F); (try dsimp only)) | refine aY2 ?_ | (refine aT2 ?_; clear F; intro W F) | refine aN2 ?_)
  exact bodyPost_ret (res_cs rfl rfl rfl (Fr.get F tL) (rowRC _ _)) rfl ⟨rfl, F.below⟩
 have HN := Lib.hid (show ¬ (1 < (x :: a).length ∧ (x :: a).head? = some 48) from fun h => lead (by have := HL.out.1 h; rwa [HLA.out] at this))
 have hl2 : (decide ((1 : Int) < (la : Int)) = false) ∨ (decide ((1 : Int) < (la : Int)) = true ∧ ((y : Int) == 48) = false) := by
  by_cases h : 1 < la
  ·right
   refine ⟨decide_eq_true (by omega), ?_⟩
   rw [beq_eq_false_iff_ne]
   intro h2
   exact lead ⟨h, by omega⟩
  ·exact .inl (decide_eq_false (by omega))
 clear HL lead
 by_cases hd2 : pt = true ∧ d2 = false
 ·have hr := HR.out
  rw [if_pos (.inr (.inr hd2))] at hr
  obtain ⟨rfl, rfl⟩ := hd2
  subst hr
  clear HR H1 H2 hp9 HN
  rcases hl2 with tl | ⟨tl, ty⟩
  all_goals
   go_wp2_with (first | go_skip | ((go_at_call 77); (with_reducible refine fr_call F (g1 _) ?_); (clear F; intro W F); (try dsimp only)) | ((go_at_call 78); (with_reducible refine fr_call F (g2 _) ?_); (clear F; intro W F); (try dsimp only)) | ((go_at_call 79); (first | (with_reducible refine fr_call F (g3 _) ?_) | (with_reducible refine fr_call F (g4 _) ?_)); (clear F; intro W F); (try dsimp only)) | refine aY2 ?_ | (refine aT2 ?_; clear F; intro W F) | refine aN2 ?_)
   exact bodyPost_ret (res_cs rfl rfl rfl (Fr.get F tL) (rowRC _ _)) rfl ⟨rfl, F.below⟩
 have hr := HR.out
 rw [if_neg (by
  rintro (h | h | h)
  ·exact absurd h (by decide)
  ·exact HN.out h
  ·exact hd2 h)] at hr
 have hb : b.all isD = true ∧ b.length ≤ 9 := by
  cases pt
  ·rw [H2.out.2 rfl]
   exact ⟨rfl, Nat.zero_le _⟩
  ·cases d2
   ·exact absurd ⟨rfl, rfl⟩ hd2
   ·obtain ⟨-, h2, h3⟩ := H2.out.1.1 rfl
    exact ⟨h3, by omega⟩
 have hp2 : pt = false ∨ (pt = true ∧ d2 = true) := by
  cases pt
  ·exact .inl rfl
  ·cases d2
   ·exact absurd ⟨rfl, rfl⟩ hd2
   ·exact .inr ⟨rfl, rfl⟩
 unfold prsB at hr
 have g5 := fun w => atoi_any H1.out.2 hA0 (by have := H1.out.1; omega) w
 have g6 := fun w => atoi_any (l := 48 :: b) (by rw [List.all_cons, hb.1]; rfl) (by simp) (by rw [List.length_cons]; omega) w
 have e3 : (⟨#[48]⟩ : ByteArray) ++ bs b = bs (48 :: b) := bs_append [48] b
 have hz : numL (48 :: b) = numL b := by
  unfold numL
  rw [numF_cons]
  rfl
 rw [hz] at g6
 have hn1 : numL (x :: a) < 10 ^ 15 := by
  have h1 := numL_lt (x :: a) H1.out.2
  have h2 : 10 ^ (x :: a).length ≤ 10 ^ 15 := Nat.pow_le_pow_right (by decide) (by have := H1.out.1; omega)
  omega
 have hm1 := numL_lt b hb.1
 have hk := hb.2
 have g7 := fun w => power_any hk w
 have ht1 := ten_le hk
 have ht0 : 0 < 10 ^ b.length := Nat.pow_pos (by decide)
 obtain ⟨n, hn⟩ : ∃ n, numL (x :: a) = n := ⟨_, rfl⟩
 obtain ⟨m, hm⟩ : ∃ m, numL b = m := ⟨_, rfl⟩
 obtain ⟨k, hkk⟩ : ∃ k, b.length = k := ⟨_, rfl⟩
 obtain ⟨T, hT⟩ : ∃ T : Nat, 10 ^ k = T := ⟨_, rfl⟩
 rw [hn] at g5 hr hn1
 rw [hm] at g6 hr hm1
 rw [hkk] at sb g7 ht0 ht1 hm1 hr
 rw [hT] at g7 ht0 ht1 hm1 hr
 obtain ⟨hb1, hb2⟩ := bp1_ten (v := m) (k := 0) (by omega) (by decide)
 have hTb : (T : Int).natAbs < bp 15 := by have := bp15_big; omega
 obtain ⟨q1, q2⟩ := mkR_ok (n := (m : Int)) (d := (T : Int)) (by omega) hb1 hTb
 have g8 := fun w => ofR (n := (m : Int)) (d := (T : Int)) (by omega) (by omega) (by omega) (by omega) q1 w
 have g9 := fun w => wholeR (n := (n : Int)) (by omega) (by omega) w
 have hv : (n : Int) * (T : Int) + (m : Int) = ((n * T + m : Nat) : Int) := by rw [Int.natCast_add, Int.natCast_mul]
 have hvb : n * T + m < 10 ^ 25 := by
  have := Nat.mul_le_mul (show n ≤ 10 ^ 15 by omega) ht1
  omega
 have hsum := sum_low (n := (n : Int)) (m := (m : Int)) (t := (T : Int)) (by omega)
 rw [hv] at hsum
 have hvv : n * T + m = 0 ↔ n = 0 ∧ m = 0 := by
  constructor
  ·intro h
   have h1 := Nat.eq_zero_of_add_eq_zero h
   rcases Nat.mul_eq_zero.1 h1.1 with h2 | h2
   ·exact ⟨h2, h1.2⟩
   ·omega
  ·rintro ⟨rfl, rfl⟩
   simp
 obtain ⟨v, hvd⟩ : ∃ v, n * T + m = v := ⟨_, rfl⟩
 rw [hvd] at hr hsum hvb hvv
 obtain ⟨q3, q4⟩ := mkR_ok (n := (v : Int)) (d := (T : Int)) (by omega) (by have := bp15_big; omega) hTb
 rw [q3] at hsum
 have g10 := fun w => addZR (okZ_one (n := (n : Int)) (by have := bp15_big; omega)) q2 hsum w
 have g11 := fun w => negZR q4 w
 obtain ⟨ln, ld⟩ := low_neg (n := (v : Int)) (d := (T : Int)) (by omega)
 rw [ln.symm] at g11
 dsimp only at g8 g10 g11
 obtain ⟨mn, hmn⟩ : ∃ z, lowN (m : Int) (T : Int) = z := ⟨_, rfl⟩
 obtain ⟨md, hmd⟩ : ∃ z, lowD (m : Int) (T : Int) = z := ⟨_, rfl⟩
 obtain ⟨vn, hvn⟩ : ∃ z, lowN (v : Int) (T : Int) = z := ⟨_, rfl⟩
 obtain ⟨vd, hvd2⟩ : ∃ z, lowD (v : Int) (T : Int) = z := ⟨_, rfl⟩
 obtain ⟨un, hun⟩ : ∃ z, lowN (-(v : Int)) (T : Int) = z := ⟨_, rfl⟩
 rw [hmn, hmd] at g8 g10
 rw [hvn, hvd2] at g10 g11
 rw [hun] at g11
 have k1 : (9223372036854775807 < 1 + k) = False := by rw [eq_iff_iff, iff_false]; omega
 have HR := Lib.hid (And.intro hr (And.intro hvv (And.intro hvn (And.intro hvd2 (And.intro hun ld)))))
 clear hr hvv hvn hvd2 hun ld ln hmn hmd q1 q2 q3 q4 hsum hvb hvd hv hTb hb1 hb2 ht0 ht1 hm1 hn1 hT hkk hm hn hz hk hb hd2 H1 H2 HN hp9 HLA a1
 cases neg
 ·have hr : (vn, vd, 0) = r := by
   obtain ⟨h1, h2, h3, h4, h5, h6⟩ := HR.out
   dsimp only at h1
   rw [if_neg (by simp), if_neg (by decide), h3, h4] at h1
   exact h1
  subst hr
  clear HR
  rcases hl2 with tl | ⟨tl, ty⟩ <;> rcases hp2 with rfl | ⟨rfl, rfl⟩
  all_goals
   go_wp2_with (first | go_skip | ((go_at_call 77); (with_reducible refine fr_call F (g1 _) ?_); (clear F; intro W F); (try dsimp only)) | ((go_at_call 78); (with_reducible refine fr_call F (g2 _) ?_); (clear F; intro W F); (try dsimp only)) | ((go_at_call 79); (first | (with_reducible refine fr_call F (g3 _) ?_) | (with_reducible refine fr_call F (g4 _) ?_)); (clear F; intro W F); (try dsimp only)) | ((go_at_call 80); (first | (with_reducible refine fr_call F (g5 _) ?_) | (with_reducible refine fr_call F (g6 _) ?_)); (clear F; intro W F); (try dsimp only)) | ((go_at_call 82); (with_reducible refine fr_call F (g7 _) ?_); (clear F; intro W F); (try dsimp only)) | ((go_at_call 81); (with_reducible refine fr_call F (g8 _) ?_); (clear F; intro W F); (try dsimp only)) | refine aY2 ?_ | (refine aT2 ?_; clear F; intro W F) | refine aN2 ?_)
   (clear F; intro b15 W F; try simp only [Act.put, z6, z1, z2])
   go_wp2_with (first | go_skip | ((go_at_call 82); (with_reducible refine fr_call F (g7 _) ?_); (clear F; intro W F); (try dsimp only)) | ((go_at_call 81); (with_reducible refine fr_call F (g8 _) ?_); (clear F; intro W F); (try dsimp only)) | refine aY2 ?_ | (refine aT2 ?_; clear F; intro W F) | refine aN2 ?_)
   try simp only [Act.put, z6, z1, z2]
   refine wp_region_slots mixP [87, 88, 89, 90, 91, 92, 93] (fun l mm W => ∃ (s87 s88 s89 s90 s91 s92 s93 : Value) (c_b15 : Array Value), mm = [s87, s88, s89, s90, s91, s92, s93] ∧ Fr w W [(b15, c_b15, 31), (b4, RC 0 0, 31)] ∧ On l 0 [s88 = .int .i64 (n : Int), s89 = .agg (RC n 1), s90 = .agg (RC mn md), s91 = .tuple #[.agg (RC vn vd), .int .i64 0], s87 = .tuple #[.agg (RC vn vd), .int .i64 0], s92 = .agg (RC vn vd), s93 = .int .i64 0, c_b15 = RC vn vd] ∧ Wt l [(7, 2)] ∧ (l.getD 7 false = false → c_b15 = RC mn md) ∧ c_b15.size = (RC vn vd).size ∧ True) (by kernel_rfl) (putAll_self _ _) ?_ ?_ ?_
   ·exact ⟨_, _, _, _, _, _, _, (RC mn md), rfl, F.drew, On.none _ _ _, Wt.none _ _, fun _ => rfl, dT⟩
   ·rintro listed mm W ii hi hsz hoff ⟨s87, s88, s89, s90, s91, s92, s93, c_b15, rfl, HF, hH, hw, hO_b15, hz0, -⟩ hd
    simp only [putAll, z1, z2]
    obtain rfl | rfl | rfl | rfl | rfl | rfl | rfl | rfl := dr_c8 hi
    ·exact oP
    ·obtain rfl : s88 = _ := dh 0 hH hd
     refine ow rfl rfl fun K hK => ?_
     refine ⟨?_⟩
     go_simp
     with_reducible refine fr_call HF (g9 _) ?_
     exact oC
    ·have hold := oldG hO_b15 hw hoff
     rw [hold] at HF
     exact oY2o
    ·obtain rfl : s89 = _ := dh 1 hH hd
     obtain rfl : s90 = _ := dh 2 hH hd
     refine ow rfl rfl fun K hK => ?_
     refine ⟨?_⟩
     go_simp
     with_reducible refine fr_call HF (g10 _) ?_
     exact oC
    ·obtain rfl : s91 = _ := dh 3 hH hd
     exact oP
    ·obtain rfl : s87 = _ := dh 4 hH hd
     exact oP
    ·obtain rfl : s87 = _ := dh 4 hH hd
     exact oP
    ·obtain rfl : s92 = _ := dh 5 hH hd
     exact oT2
   rintro listed mm W ⟨s87, s88, s89, s90, s91, s92, s93, c_b15, rfl, HF, hH, hw, hO_b15, hz0, -⟩ hall
   obtain ⟨rfl, rfl, rfl, rfl, rfl, rfl, rfl, e7⟩ := onA hH hall
   rw [e7] at HF
   clear hall hH e7 hw hO_b15 hz0 F
   have F := HF
   clear HF
   simp only [putAll, z1, z2]
   go_wp2_with (first | go_skip | refine aY2 ?_ | (refine aT2 ?_; clear F; intro W F) | refine aN2 ?_)
   exact bodyPost_ret (res_cs rfl rfl rfl (Fr.get F tL) (rowRC _ _)) rfl ⟨rfl, F.below⟩
 by_cases hv0 : v = 0
 ·have hr : (0, 0, 32) = r := by
   obtain ⟨h1, h2, h3, h4, h5, h6⟩ := HR.out
   dsimp only at h1
   rw [if_pos ⟨rfl, hv0⟩] at h1
   exact h1
  have tn : ((n : Int) == 0) = true := by rw [beq_iff_eq]; have := (HR.out.2.1.1 hv0).1; omega
  have tm : ((m : Int) == 0) = true := by rw [beq_iff_eq]; have := (HR.out.2.1.1 hv0).2; omega
  subst hr
  clear HR hv0 g7 g8 g9 g10 g11
  rcases hl2 with tl | ⟨tl, ty⟩ <;> rcases hp2 with rfl | ⟨rfl, rfl⟩
  all_goals
   go_wp2_with (first | go_skip | ((go_at_call 77); (with_reducible refine fr_call F (g1 _) ?_); (clear F; intro W F); (try dsimp only)) | ((go_at_call 78); (with_reducible refine fr_call F (g2 _) ?_); (clear F; intro W F); (try dsimp only)) | ((go_at_call 79); (first | (with_reducible refine fr_call F (g3 _) ?_) | (with_reducible refine fr_call F (g4 _) ?_)); (clear F; intro W F); (try dsimp only)) | ((go_at_call 80); (first | (with_reducible refine fr_call F (g5 _) ?_) | (with_reducible refine fr_call F (g6 _) ?_)); (clear F; intro W F); (try dsimp only)) | refine aY2 ?_ | (refine aT2 ?_; clear F; intro W F) | refine aN2 ?_)
   exact bodyPost_ret (res_cs rfl rfl rfl (Fr.get F tL) (rowRC _ _)) rfl ⟨rfl, F.below⟩
 have hr : (un, vd, 0) = r := by
  obtain ⟨h1, h2, h3, h4, h5, h6⟩ := HR.out
  dsimp only at h1
  rw [if_neg (fun h => hv0 h.2), if_pos rfl, h5, h6, h4] at h1
  exact h1
 have tnm : ((n : Int) == 0) = false ∨ (((n : Int) == 0) = true ∧ ((m : Int) == 0) = false) := by
  by_cases h : n = 0
  ·right
   refine ⟨by rw [beq_iff_eq]; omega, ?_⟩
   rw [beq_eq_false_iff_ne]
   intro h2
   exact hv0 (HR.out.2.1.2 ⟨h, by omega⟩)
  ·left
   rw [beq_eq_false_iff_ne]
   omega
 subst hr
 clear HR hv0
 rcases hl2 with tl | ⟨tl, ty⟩ <;> rcases hp2 with rfl | ⟨rfl, rfl⟩ <;> rcases tnm with tn | ⟨tn, tm⟩
 all_goals
   go_wp2_with (first | go_skip | ((go_at_call 77); (with_reducible refine fr_call F (g1 _) ?_); (clear F; intro W F); (try dsimp only)) | ((go_at_call 78); (with_reducible refine fr_call F (g2 _) ?_); (clear F; intro W F); (try dsimp only)) | ((go_at_call 79); (first | (with_reducible refine fr_call F (g3 _) ?_) | (with_reducible refine fr_call F (g4 _) ?_)); (clear F; intro W F); (try dsimp only)) | ((go_at_call 80); (first | (with_reducible refine fr_call F (g5 _) ?_) | (with_reducible refine fr_call F (g6 _) ?_)); (clear F; intro W F); (try dsimp only)) | ((go_at_call 82); (with_reducible refine fr_call F (g7 _) ?_); (clear F; intro W F); (try dsimp only)) | ((go_at_call 81); (with_reducible refine fr_call F (g8 _) ?_); (clear F; intro W F); (try dsimp only)) | refine aY2 ?_ | (refine aT2 ?_; clear F; intro W F) | refine aN2 ?_)
   (clear F; intro b15 W F; try simp only [Act.put, z6, z1, z2])
   go_wp2_with (first | go_skip | ((go_at_call 82); (with_reducible refine fr_call F (g7 _) ?_); (clear F; intro W F); (try dsimp only)) | ((go_at_call 81); (with_reducible refine fr_call F (g8 _) ?_); (clear F; intro W F); (try dsimp only)) | refine aY2 ?_ | (refine aT2 ?_; clear F; intro W F) | refine aN2 ?_)
   try simp only [Act.put, z6, z1, z2]
   refine wp_region_slots mixP [87, 88, 89, 90, 91, 92, 93] (fun l mm W => ∃ (s87 s88 s89 s90 s91 s92 s93 : Value) (c_b15 : Array Value), mm = [s87, s88, s89, s90, s91, s92, s93] ∧ Fr w W [(b15, c_b15, 31), (b4, RC 0 0, 31)] ∧ On l 0 [s88 = .int .i64 (n : Int), s89 = .agg (RC n 1), s90 = .agg (RC mn md), s91 = .tuple #[.agg (RC vn vd), .int .i64 0], s87 = .tuple #[.agg (RC vn vd), .int .i64 0], s92 = .agg (RC vn vd), s93 = .int .i64 0, c_b15 = RC vn vd] ∧ Wt l [(7, 2)] ∧ (l.getD 7 false = false → c_b15 = RC mn md) ∧ c_b15.size = (RC vn vd).size ∧ True) (by kernel_rfl) (putAll_self _ _) ?_ ?_ ?_
   ·exact ⟨_, _, _, _, _, _, _, (RC mn md), rfl, F.drew, On.none _ _ _, Wt.none _ _, fun _ => rfl, dT⟩
   ·rintro listed mm W ii hi hsz hoff ⟨s87, s88, s89, s90, s91, s92, s93, c_b15, rfl, HF, hH, hw, hO_b15, hz0, -⟩ hd
    simp only [putAll, z1, z2]
    obtain rfl | rfl | rfl | rfl | rfl | rfl | rfl | rfl := dr_c8 hi
    ·exact oP
    ·obtain rfl : s88 = _ := dh 0 hH hd
     refine ow rfl rfl fun K hK => ?_
     refine ⟨?_⟩
     go_simp
     with_reducible refine fr_call HF (g9 _) ?_
     exact oC
    ·have hold := oldG hO_b15 hw hoff
     rw [hold] at HF
     exact oY2o
    ·obtain rfl : s89 = _ := dh 1 hH hd
     obtain rfl : s90 = _ := dh 2 hH hd
     refine ow rfl rfl fun K hK => ?_
     refine ⟨?_⟩
     go_simp
     with_reducible refine fr_call HF (g10 _) ?_
     exact oC
    ·obtain rfl : s91 = _ := dh 3 hH hd
     exact oP
    ·obtain rfl : s87 = _ := dh 4 hH hd
     exact oP
    ·obtain rfl : s87 = _ := dh 4 hH hd
     exact oP
    ·obtain rfl : s92 = _ := dh 5 hH hd
     exact oT2
   rintro listed mm W ⟨s87, s88, s89, s90, s91, s92, s93, c_b15, rfl, HF, hH, hw, hO_b15, hz0, -⟩ hall
   obtain ⟨rfl, rfl, rfl, rfl, rfl, rfl, rfl, e7⟩ := onA hH hall
   rw [e7] at HF
   clear hall hH e7 hw hO_b15 hz0 F
   have F := HF
   clear HF
   simp only [putAll, z1, z2]
   go_wp2_with (first | go_skip | ((go_at_call 85); (with_reducible refine fr_call F (g11 _) ?_); (clear F; intro W F); (try dsimp only)) | refine aY2 ?_ | (refine aT2 ?_; clear F; intro W F) | refine aN2 ?_)
   exact bodyPost_ret (res_cs rfl rfl rfl (Fr.get F tL) (rowRC _ _)) rfl ⟨rfl, F.below⟩
end
section
open Go.RowKit
set_option maxHeartbeats 4000000
theorem dec_digits (u : Nat) : (Lib.decDigits u).all isD = true := by
 induction u using Nat.strongRecOn with
 | _ u ih =>
  rw [Lib.decDigits]
  have hd : ∀ k : Nat, k < 10 → isD (UInt8.ofNat (48 + k)) = true := by
   intro k hk
   rw [isD_iff, UInt8.toNat_ofNat_of_lt' (by have e : UInt8.size = 256 := rfl; omega)]
   omega
  split
  ·rename_i h
   rw [List.all_cons, hd u h]
   rfl
  ·rename_i h
   rw [List.all_append, ih _ (by omega), List.all_cons, hd _ (Nat.mod_lt _ (by decide))]
   rfl
theorem dec_noPrefix (u : Nat) : Lib.hasPrefix (Lib.decDigits u) [45] = false := by
 have h := dec_digits u
 have h0 := dec_ne u
 cases hl : Lib.decDigits u with
 | nil => exact absurd hl h0
 | cons b l =>
  rw [hl, List.all_cons, Bool.and_eq_true] at h
  have h1 := isD_iff.1 h.1
  unfold Lib.hasPrefix
  simp only [List.isPrefixOf, Bool.and_eq_false_imp, beq_iff_eq]
  intro h2
  rw [← h2] at h1
  exact absurd h1.1 (by decide)
theorem itoa_cut (z : Int) : Lib.trimPrefix (Lib.itoa z) [45] = Lib.decDigits z.natAbs ∧ Lib.hasPrefix (Lib.itoa z) [45] = decide (z < 0) := by
 unfold Lib.itoa
 by_cases h : z < 0
 ·rw [if_pos h, decide_eq_true h]
  have hp : Lib.hasPrefix (45 :: Lib.decDigits z.natAbs) [45] = true := by simp [Lib.hasPrefix, List.isPrefixOf]
  exact ⟨by unfold Lib.trimPrefix; rw [hp, if_pos rfl]; rfl, hp⟩
 ·rw [if_neg h, decide_eq_false h, show z.toNat = z.natAbs by omega]
  have hp := dec_noPrefix z.natAbs
  exact ⟨by unfold Lib.trimPrefix; rw [hp, if_neg (by decide)], hp⟩
def txtZ (z : Int) (p : Nat) : List UInt8 × Int :=
 let q := pointL (Lib.decDigits z.natAbs) p
 if 15 < q.1.length then ([], 32)
 else
  let t := Lib.trimRightB q.2 48
  ((if z < 0 then [45] else []) ++ (if t = [] then q.1 else q.1 ++ 46 :: t), 0)
def txtR (v : Prop) [Decidable v] (n d p : Int) : List UInt8 × Int :=
 if chkE v p ≠ 0 then ([], chkE v p)
 else
  let N := n * ((10 ^ p.toNat : Nat) : Int)
  if N % d ≠ 0 then ([], 32) else txtZ (N / d) p.toNat
theorem trimRight_any {s : List UInt8} (hs : s.length ≤ 9223372036854775807) (w : World) : Calls Tryz.prog 96 #[.string (bs s), .string ⟨#[48]⟩] w (RetB (.string (bs (Lib.trimRightB s 48))) w) := by
 have h := Tryz.strings_TrimRight_one (bs s) 48 (by decide) w (by rw [bs_size]; exact hs)
 rw [bs_list] at h
 refine h.mono ?_
 rintro e W ⟨rfl, rfl⟩
 exact ⟨rfl, Below.refl _ _⟩
theorem trimRight_len (s : List UInt8) (c : UInt8) : (Lib.trimRightB s c).length ≤ s.length := by
 unfold Lib.trimRightB
 rw [List.length_reverse]
 have := (List.dropWhile_sublist (· == c) (l := s.reverse)).length_le
 rwa [List.length_reverse] at this
theorem dec_len_bp {u k : Nat} (h : u < bp k) : (Lib.decDigits u).length ≤ 10 * k + 1 := by
 by_cases h0 : u = 0
 ·subst h0
  rw [Lib.decDigits, dif_pos (by decide)]
  simp
 ·rw [dec_leD u h0, List.length_reverse]
  have := leD_len k u h
  omega
set_option maxRecDepth 100000 in
theorem text_any {x : Bool} {a : Nat} {y : Bool} {b : Nat} (ha : a < bp 32) (hb : b < bp 32) {p : Int} {r : List UInt8 × Int} (hr : txtR (okR x a y b) (sZ x a) (sZ y b) p = r) (w : World) : Calls Tryz.prog 54 #[.agg (ratC x a y b), .int .i64 p] w (RetB (.tuple #[.string (bs r.1), .int .i64 r.2]) w) := by
 have F := Fr.start w
 obtain ⟨e, he⟩ : ∃ e, chkE (okR x a y b) p = e := ⟨_, rfl⟩
 have g1 := fun w => check_any ha hb he w
 unfold txtR at hr
 have hp := chkE_ok (v := okR x a y b) (p := p)
 rw [he] at hr hp
 have HR := Lib.hid hr
 have HP := Lib.hid hp
 clear hr he ha hb hp
 go_enter Tryz.func54, Tryz.ntmps54
 go_wp2_with (first | go_skip | refine aY2 ?_ | (refine aT2 ?_; clear F; intro W F) | refine aN2 ?_)
 (clear F; intro b2 W F; try simp only [Act.put, z6, z1, z2])
 by_cases he : ¬ e = 0
 ·have hr := HR.out
  rw [if_pos he] at hr
  subst hr
  clear HR HP
  go_wp2_with (first | go_skip | ((go_at_call 91); (with_reducible refine fr_call F (g1 _) ?_); (clear F; intro W F); (try dsimp only)) | refine aY2 ?_ | (refine aT2 ?_; clear F; intro W F) | refine aN2 ?_)
  go_ret2
  exact ⟨rfl, F.below⟩
 rw [Classical.not_not] at he
 have hr := HR.out
 obtain ⟨hv, p0, p9⟩ := HP.out he
 rw [if_neg (by rw [Classical.not_not]; exact he)] at hr
 subst he
 clear HR HP
 obtain ⟨n, d, ⟨h1, h2, h3⟩, hn, hd, hd0⟩ := okR_ints hv
 rw [h2, h3] at hr
 obtain ⟨q, rfl⟩ : ∃ q : Nat, p = (q : Int) := ⟨p.toNat, by omega⟩
 have hq : q ≤ 9 := by omega
 rw [Int.toNat_natCast] at hr
 have g2 := fun w => scaledZ hn hd (show d ≠ 0 by omega) hq w
 have hN := b_ten hn hq
 obtain ⟨N, hNN⟩ : ∃ N, n * ((10 ^ q : Nat) : Int) = N := ⟨_, rfl⟩
 simp only [hNN] at hr g2 hN
 have hvv : (N % d).natAbs < bp 15 := by
  have k1 := Int.emod_nonneg N (show d ≠ 0 by omega)
  have k2 := Int.emod_lt_of_pos N hd0
  omega
 have hu : (N / d).natAbs < bp 17 := Nat.lt_of_le_of_lt (div_le_abs N d) hN
 obtain ⟨u, huu⟩ : ∃ u, N / d = u := ⟨_, rfl⟩
 obtain ⟨v, hv2⟩ : ∃ v, N % d = v := ⟨_, rfl⟩
 rw [huu, hv2] at g2 hr
 rw [hv2] at hvv
 rw [huu] at hu
 rw [h1] at g1 F
 have g3 := fun w => signZ (b15 hvv) w
 have hv0 : v.sign = 0 ↔ v = 0 := Int.sign_eq_zero_iff_zero
 obtain ⟨t, ht⟩ : ∃ t, v.sign = t := ⟨_, rfl⟩
 rw [ht] at g3 hv0
 clear ht hvv hv2 huu hN hNN hn hd hd0 h1 h2 h3 hv p0 p9
 by_cases hvz : ¬ v = 0
 ·rw [if_pos hvz] at hr
  subst hr
  have t1 : ¬ t = 0 := fun h => hvz (hv0.1 h)
  clear hv0 hvz hu hq
  go_wp2_with (first | go_skip | ((go_at_call 91); (with_reducible refine fr_call F (g1 _) ?_); (clear F; intro W F); (try dsimp only)) | ((go_at_call 92); (with_reducible refine fr_call F (g2 _) ?_); (clear F; intro W F); (try dsimp only)) | refine aY2 ?_ | (refine aT2 ?_; clear F; intro W F) | refine aN2 ?_)
  (clear F; intro b7 W F; try simp only [Act.put, z6, z1, z2])
  go_wp2_with (first | go_skip | refine aY2 ?_ | (refine aT2 ?_; clear F; intro W F) | refine aN2 ?_)
  (clear F; intro b8 W F; try simp only [Act.put, z6, z1, z2])
  go_wp2_with (first | go_skip | ((go_at_call 93); (with_reducible refine fr_call F (g3 _) ?_); (clear F; intro W F); (try dsimp only)) | refine aY2 ?_ | (refine aT2 ?_; clear F; intro W F) | refine aN2 ?_)
  go_ret2
  exact ⟨rfl, F.below⟩
 rw [Classical.not_not] at hvz
 rw [if_neg (by rw [Classical.not_not]; exact hvz)] at hr
 obtain rfl : t = 0 := hv0.2 hvz
 clear hv0
 have g4 := fun w => bformat_any (z := u) (Nat.lt_of_lt_of_le hu (bp_le (by decide))) w
 have g5 := fun w => cutPrefix_any (Lib.itoa u) 45 w
 rw [(itoa_cut u).1, (itoa_cut u).2] at g5
 have hdl := dec_len_bp hu
 have hpl := point_len (s := Lib.decDigits u.natAbs) (p := q) (by omega) hq
 have g6 := fun w => point_any (Lib.decDigits u.natAbs) hq (by omega) rfl w
 unfold txtZ at hr
 obtain ⟨I, hI⟩ : ∃ I, Lib.itoa u = I := ⟨_, rfl⟩
 rw [hI] at g4 g5
 obtain ⟨D, hD⟩ : ∃ D, Lib.decDigits u.natAbs = D := ⟨_, rfl⟩
 rw [hD] at g5 g6 hr hpl
 obtain ⟨c, hc⟩ : ∃ c, pointL D q = c := ⟨_, rfl⟩
 rw [hc] at g6 hr hpl
 obtain ⟨A, B⟩ := c
 dsimp only at g6 hr hpl
 have g7 := fun w => trimRight_any (s := B) (by omega) w
 have htl := trimRight_len B 48
 obtain ⟨P, hP⟩ : ∃ P, Lib.trimRightB B 48 = P := ⟨_, rfl⟩
 rw [hP] at g7 hr htl
 have hdz : decide (u < 0) = decide (u < 0) := rfl
 obtain ⟨ng, hng⟩ : ∃ ng, decide (u < 0) = ng := ⟨_, rfl⟩
 rw [hng] at g5
 have sA := bs_size A
 have sP := bs_size P
 have e1 : bs [46] ++ bs P = bs (46 :: P) := bs_append [46] P
 have e2 := bs_append A (46 :: P)
 have e3 : bs [45] ++ bs A = bs (45 :: A) := bs_append [45] A
 have e4 : bs [45] ++ bs (A ++ 46 :: P) = bs (45 :: (A ++ 46 :: P)) := bs_append [45] (A ++ 46 :: P)
 have e5 : bs [46] = ⟨#[46]⟩ := rfl
 have e6 : bs [45] = ⟨#[45]⟩ := rfl
 rw [e5] at e1
 rw [e6] at e3 e4
 have sB := bs_size (46 :: P)
 have sC := bs_size (A ++ 46 :: P)
 have z1 : (bs P).toList = P := bs_toList P
 obtain ⟨la, hla⟩ : ∃ k, A.length = k := ⟨_, rfl⟩
 obtain ⟨lp, hlp⟩ : ∃ k, P.length = k := ⟨_, rfl⟩
 rw [List.length_cons, hlp, Nat.add_comm] at sB
 rw [List.length_append, List.length_cons, hla, hlp, Nat.add_comm lp] at sC
 rw [hla] at sA hpl hr
 rw [hlp] at sP htl
 clear hdz hI hD hc hP hla hlp hdl hu hq hvz e5 e6
 by_cases h15 : 15 < la
 ·rw [if_pos h15] at hr
  subst hr
  have t2 : decide ((15 : Int) < (la : Int)) = true := decide_eq_true (by omega)
  clear h15 g7 hng htl hpl
  go_wp2_with (first | go_skip | ((go_at_call 91); (with_reducible refine fr_call F (g1 _) ?_); (clear F; intro W F); (try dsimp only)) | ((go_at_call 92); (with_reducible refine fr_call F (g2 _) ?_); (clear F; intro W F); (try dsimp only)) | refine aY2 ?_ | (refine aT2 ?_; clear F; intro W F) | refine aN2 ?_)
  (clear F; intro b7 W F; try simp only [Act.put, z6, z1, z2])
  go_wp2_with (first | go_skip | refine aY2 ?_ | (refine aT2 ?_; clear F; intro W F) | refine aN2 ?_)
  (clear F; intro b8 W F; try simp only [Act.put, z6, z1, z2])
  go_wp2_with (first | go_skip | ((go_at_call 93); (with_reducible refine fr_call F (g3 _) ?_); (clear F; intro W F); (try dsimp only)) | ((go_at_call 94); (with_reducible refine fr_call F (g4 _) ?_); (clear F; intro W F); (try dsimp only)) | ((go_at_call 77); (with_reducible refine fr_call F (g5 _) ?_); (clear F; intro W F); (try dsimp only)) | ((go_at_call 95); (with_reducible refine fr_call F (g6 _) ?_); (clear F; intro W F); (try dsimp only)) | refine aY2 ?_ | (refine aT2 ?_; clear F; intro W F) | refine aN2 ?_)
  go_ret2
  exact ⟨rfl, F.below⟩
 rw [if_neg h15] at hr
 have t2 : decide ((15 : Int) < (la : Int)) = false := decide_eq_false (by omega)
 have k1 : (9223372036854775807 < 1 + lp) = False := by rw [eq_iff_iff, iff_false]; omega
 have k2 : (9223372036854775807 < la + (1 + lp)) = False := by rw [eq_iff_iff, iff_false]; clear k1; omega
 have k3 : (9223372036854775807 < 1 + la) = False := by rw [eq_iff_iff, iff_false]; clear k1 k2; omega
 have k4 : (9223372036854775807 < 1 + (la + (1 + lp))) = False := by rw [eq_iff_iff, iff_false]; clear k1 k2 k3; omega
 clear h15 htl hpl
 have hup : (u < 0) = (ng = true) := by rw [← hng, decide_eq_true_eq]
 simp only [hup] at hr
 clear hup hng
 have hPP : P = [] ∨ (P == []) = false := by
  by_cases h : P = []
  ·exact .inl h
  ·exact .inr (by rw [beq_eq_false_iff_ne]; exact h)
 cases ng <;> rcases hPP with rfl | hPP
 all_goals
  first | rw [if_pos (show ([] : List UInt8) = [] from rfl)] at hr | rw [if_neg (show ¬ P = [] from fun h => by rw [h] at hPP; exact absurd hPP (by decide))] at hr
  first | rw [if_pos (show true = true from rfl)] at hr | rw [if_neg (show ¬ false = true by decide)] at hr
  subst hr
  go_wp2_with (first | go_skip | ((go_at_call 91); (with_reducible refine fr_call F (g1 _) ?_); (clear F; intro W F); (try dsimp only)) | ((go_at_call 92); (with_reducible refine fr_call F (g2 _) ?_); (clear F; intro W F); (try dsimp only)) | refine aY2 ?_ | (refine aT2 ?_; clear F; intro W F) | refine aN2 ?_)
  (clear F; intro b7 W F; try simp only [Act.put, z6, z1, z2])
  go_wp2_with (first | go_skip | refine aY2 ?_ | (refine aT2 ?_; clear F; intro W F) | refine aN2 ?_)
  (clear F; intro b8 W F; try simp only [Act.put, z6, z1, z2])
  go_wp2_with (first | go_skip | ((go_at_call 93); (with_reducible refine fr_call F (g3 _) ?_); (clear F; intro W F); (try dsimp only)) | ((go_at_call 94); (with_reducible refine fr_call F (g4 _) ?_); (clear F; intro W F); (try dsimp only)) | ((go_at_call 77); (with_reducible refine fr_call F (g5 _) ?_); (clear F; intro W F); (try dsimp only)) | ((go_at_call 95); (with_reducible refine fr_call F (g6 _) ?_); (clear F; intro W F); (try dsimp only)) | ((go_at_call 96); (with_reducible refine fr_call F (g7 _) ?_); (clear F; intro W F); (try dsimp only)) | refine aY2 ?_ | (refine aT2 ?_; clear F; intro W F) | refine aN2 ?_)
  go_ret2
  exact ⟨rfl, F.below⟩
end
section
theorem cuts_no {r : List UInt8} (h : Lib.indexByte r 44 = -1) : cuts r = [r] := by
 refine cuts_none fun hm => ?_
 obtain ⟨k, hk, e⟩ := List.getElem_of_mem hm
 exact Lib.indexByte_none h k (by rw [List.getElem?_eq_getElem hk, e])
theorem cuts_yes {r : List UInt8} {n : Nat} (h : Lib.indexByte r 44 = n) : cuts r = r.take n :: cuts (r.drop (n + 1)) := by
 obtain ⟨h1, h2⟩ := Lib.indexByte_some h
 refine cuts_at h1 fun hm => ?_
 obtain ⟨k, hk, e⟩ := List.getElem_of_mem hm
 rw [List.length_take] at hk
 rw [List.getElem_take] at e
 exact h2 k (by omega) (by rw [List.getElem?_eq_getElem (by omega), e])
def QT.noP (q : QT) : Bool := ((q.x == false) && decide (q.a = 0)) && ((q.y == false) && decide (q.b = 0))
def priceB (v : Prop) [Decidable v] (n d : Int) : Bool := decide ((txtR v n d 6).2 = 0) && (decide (0 < n) && decide (n ≤ 1000000000 * d))
def QT.price (q : QT) : Bool := priceB (okR q.x q.a q.y q.b) (sZ q.x q.a) (sZ q.y q.b)
def QT.right (q : QT) : Bool := nameB q.src && (paperB q.ins && (codeB q.cur && (decide (0 ≤ q.day ∧ q.day ≤ 73048) && (if q.void = true then q.noP else q.price))))
def QT.ok (q : QT) : Bool := q.right && knB q.known
def qprs (l : List (List UInt8)) (v e k : Int) : QT × Int :=
 match l with
 | [a, b, c, _, p] =>
  let r := if p = [45] then (0, 0, 0) else prsR p 6
  let q : QT := ⟨a, b, c, v, decide (r.1 < 0), r.1.natAbs, decide (r.2.1 < 0), r.2.1.natAbs, k, decide (p = [45])⟩
  if e ≠ 0 ∨ r.2.2 ≠ 0 ∨ q.right = false then (q0, 140) else if knB k = false then (q0, 130) else (q, 0)
 | _ => (q0, 140)
def qfmt (q : QT) (d : List UInt8) : List UInt8 × Int :=
 if q.ok = true then (q.src ++ 44 :: (q.ins ++ 44 :: (q.cur ++ 44 :: (d ++ 44 :: if q.void = true then [45] else (txtR (okR q.x q.a q.y q.b) (sZ q.x q.a) (sZ q.y q.b) 6).1))), 0) else ([], 141)
end
section
open Go.RowKit
set_option maxHeartbeats 4000000
set_option maxRecDepth 100000 in
theorem rlimbs_any {m n : Nat} (lm : m < bp 32) (hu : Used m n) (w : World) : Calls Tryz.prog 189 #[.agg (limA 32 m)] w (RetB (.int .i64 n) w) := by
 have F := Fr.start w
 have HU := Lib.hid hu
 have HL := Lib.hid lm
 clear hu lm
 go_enter Tryz.func189, Tryz.ntmps189
 go_wp2_with (first | go_skip | refine aY3 ?_ | (refine aT3 ?_; clear F; intro W F) | refine aN3 ?_)
 (clear F; intro b1 W F; try simp only [Act.put, z6, z1, z2])
 go_wp2_with (first | go_skip | refine aY3 ?_ | (refine aT3 ?_; clear F; intro W F) | refine aN3 ?_)
 go_loopw [3] (fun iv wr => ∃ i : Nat, i ≤ 32 ∧ iv = .int .i64 i ∧ m < bp i ∧ Fr w wr [(b1, limA 32 m, 27)]) (fun iv _ => (intOf iv).toNat)
 case atStart => exact ⟨32, by omega, rfl, HL.out, F⟩
 case round =>
  clear F
  obtain ⟨i, hi, rfl, he, F⟩ := hrel
  have HEI := Lib.hid he
  clear he HL
  cases i with
  | zero =>
   have H0 := Lib.hid (HU.out.unique ⟨HEI.out, .inl rfl⟩)
   go_wp2_with fail
   go_ret
   exact ⟨ret_int (by first | (rw [H0.out]; done) | (rw [H0.out]; rfl)), F.below⟩
  | succ i =>
   have c1 := (F.get Lies.here).cell (limA_at (m := m) (show i < 32 by omega))
   obtain ⟨x, hx⟩ : ∃ x, lim m i = x := ⟨_, rfl⟩
   rw [hx] at c1
   have HX := Lib.hid hx
   have e1 : IntKind.i64.wrap (((i + 1 : Nat) : Int) - 1) = (i : Int) := by rw [show ((i + 1 : Nat) : Int) - 1 = (i : Int) by omega]; exact IntWalk.i64_in _ (by omega)
   have i0 : (0 : Int) ≤ (i : Int) := by omega
   have i1 : (i : Int) < 32 := by omega
   have i2 : i < 32 := by omega
   have i3 : (0 : Int) < (i : Int) + 1 := by omega
   clear hx
   by_cases h0 : x = 0
   ·have H0 := Lib.hid (lt_pred HEI.out (by rw [HX.out]; exact h0))
    subst h0
    clear HX
    go_wp2_with fail
    go_roundw
    case rel => exact ⟨i, by omega, by go_num, H0.out, F⟩
    case measure => simp [intOf]
   ·have H0 := Lib.hid (HU.out.unique ⟨HEI.out, .inr (le_of_lim (by rw [Nat.add_sub_cancel, HX.out]; exact h0))⟩)
    have g1 : ((x : Int) == 0) = false := by rw [beq_eq_false_iff_ne]; omega
    clear HX
    go_wp2_with fail
    go_ret
    exact ⟨ret_int (by first | (rw [H0.out]; done) | (rw [H0.out]; rfl)), F.below⟩
theorem used_zero {m n : Nat} (h : Used m n) : n = 0 ↔ m = 0 := by
 constructor
 ·rintro rfl
  have := h.1
  rw [bp_zero] at this
  omega
 ·rintro rfl
  exact (Used.unique h ⟨bp_pos 0, .inl rfl⟩)
set_option maxRecDepth 100000 in
theorem rzero_any {m : Nat} (lm : m < bp 32) {z : Bool} (hz : decide (m = 0) = z) (w : World) : Calls Tryz.prog 194 #[.agg (limA 32 m)] w (RetB (.bool z) w) := by
 have F := Fr.start w
 obtain ⟨n, hn, hu⟩ := used_ex m lm
 have g1 := fun w => rlimbs_any lm hu w
 have e : ((n : Int) == 0) = z := by
  rw [← hz, Bool.eq_iff_iff, beq_iff_eq, decide_eq_true_eq, ← used_zero hu]
  omega
 clear hz hu hn lm
 go_enter Tryz.func194, Tryz.ntmps194
 go_wp2_with (first | go_skip | refine aY3 ?_ | (refine aT3 ?_; clear F; intro W F) | refine aN3 ?_)
 (clear F; intro b1 W F; try simp only [Act.put, z6, z1, z2])
 go_wp2_with (first | go_skip | ((go_at_call 189); (with_reducible refine fr_call F (g1 _) ?_); (clear F; intro W F); (try dsimp only)) | refine aY3 ?_ | (refine aT3 ?_; clear F; intro W F) | refine aN3 ?_)
 go_ret
 exact ⟨rfl, F.below⟩
set_option maxRecDepth 100000 in
theorem rcompare_any {a b : Nat} (la : a < bp 32) (lb : b < bp 32) (w : World) : Calls Tryz.prog 192 #[.agg (limA 32 a), .agg (limA 32 b)] w (RetB (.int .i64 (cmpN a b)) w) := by
 have F := Fr.start w
 have HE := Lib.hid (show a / bp 32 = b / bp 32 by rw [div_bp_zero la, div_bp_zero lb])
 clear la lb
 obtain ⟨v, hv⟩ : ∃ v, cmpN a b = v := ⟨_, rfl⟩
 rw [hv]
 have HV := Lib.hid hv
 clear hv
 go_enter Tryz.func192, Tryz.ntmps192
 go_wp2_with (first | go_skip | refine aY3 ?_ | (refine aT3 ?_; clear F; intro W F) | refine aN3 ?_)
 (clear F; intro b2 W F; try simp only [Act.put, z6, z1, z2])
 go_wp2_with (first | go_skip | refine aY3 ?_ | (refine aT3 ?_; clear F; intro W F) | refine aN3 ?_)
 (clear F; intro b3 W F; try simp only [Act.put, z6, z1, z2])
 go_wp2_with (first | go_skip | refine aY3 ?_ | (refine aT3 ?_; clear F; intro W F) | refine aN3 ?_)
 go_loopw [5] (fun iv wr => ∃ i : Nat, i ≤ 32 ∧ iv = .int .i64 ((i : Int) - 1) ∧ a / bp i = b / bp i ∧ Fr w wr [(b3, limA 32 b, 27), (b2, limA 32 a, 27)]) (fun iv _ => (intOf iv + 1).toNat)
 case atStart => exact ⟨32, by omega, rfl, HE.out, F⟩
 case round =>
  clear F
  obtain ⟨i, hi, rfl, he, F⟩ := hrel
  have HEI := Lib.hid he
  clear he HE
  cases i with
  | zero =>
   have h0 := cmpN_eq HEI.out
   rw [HV.out] at h0
   have H0 := Lib.hid h0
   clear h0
   go_wp2_with fail
   go_ret
   exact ⟨ret_int H0.out.symm, F.below⟩
  | succ i =>
   obtain ⟨s1, s2, s3⟩ := cmpN_step HEI.out
   have HS := Lib.hid (And.intro s1 (And.intro s2 s3))
   clear s1 s2 s3
   have c1 := (F.get (Lies.tl Lies.here)).cell (limA_at (m := a) (show i < 32 by omega))
   have c2 := (F.get Lies.here).cell (limA_at (m := b) (show i < 32 by omega))
   obtain ⟨x, hx⟩ : ∃ x, lim a i = x := ⟨_, rfl⟩
   obtain ⟨y, hy⟩ : ∃ y, lim b i = y := ⟨_, rfl⟩
   rw [hx] at c1
   rw [hy] at c2
   rw [hx, hy, HV.out] at HS
   have e1 : ((i + 1 : Nat) : Int) - 1 = (i : Int) := by omega
   rw [e1]
   have i0 : (0 : Int) ≤ (i : Int) := by omega
   have i1 : (i : Int) < 32 := by omega
   have i2 : i < 32 := by omega
   clear hx hy e1
   by_cases hlt : x < y
   ·have H0 := Lib.hid (HS.out.1 hlt)
    have g1 := decide_eq_true hlt
    clear HS
    go_wp2_with fail
    go_quiet (fail)
    go_wp2_with fail
    go_ret
    exact ⟨ret_int H0.out.symm, bnext F.below (bdn _ _)⟩
   ·have g1 := decide_eq_false hlt
    by_cases hgt : y < x
    ·have H0 := Lib.hid (HS.out.2.1 hgt)
     have g2 := decide_eq_true hgt
     clear HS
     go_wp2_with fail
     go_quiet (fail)
     go_wp2_with fail
     go_quiet (fail)
     go_wp2_with fail
     go_ret
     exact ⟨ret_int H0.out.symm, bnext F.below (bdn2 _ _ _)⟩
    ·have g2 := decide_eq_false hgt
     have H0 := Lib.hid (HS.out.2.2 (by omega))
     clear HS
     go_wp2_with fail
     go_quiet (fail)
     go_wp2_with fail
     go_quiet (fail)
     go_wp2_with fail
     go_roundw
     case rel => exact ⟨i, by omega, by go_num, H0.out, F.drewN _⟩
     case measure => simp [intOf]
theorem rcanon_any {neg : Bool} {m : Nat} (lm : m < bp 32) {z : Bool} (hz : decide (m = 0) = z) (w : World) : Calls Tryz.prog 190 #[.bool neg, .agg (limA 32 m)] w (RetB (.agg (intC (neg && !z) m)) w) := by
 have F := Fr.start w
 have g1 := fun w => rzero_any lm hz w
 clear hz lm
 go_enter Tryz.func190, Tryz.ntmps190
 go_wp2_with (first | go_skip | refine aY3 ?_ | (refine aT3 ?_; clear F; intro W F) | refine aN3 ?_)
 (clear F; intro b3 W F; try simp only [Act.put, z6, z1, z2])
 go_wp2_with (first | go_skip | refine aY3 ?_ | (refine aT3 ?_; clear F; intro W F) | refine aN3 ?_)
 (clear F; intro b4 W F; try simp only [Act.put, z6, z1, z2])
 go_wp2_with (first | go_skip | refine aY3 ?_ | (refine aT3 ?_; clear F; intro W F) | refine aN3 ?_)
 cases neg
 ·skip
  try simp only [Act.put, z6, z1, z2]
  refine wp_region_slots mixP [5, 6, 7, 8, 9, 10, 11, 12] (fun l mm W => ∃ (s5 s6 s7 s8 s9 s10 s11 s12 : Value) (c_b4 : Array Value), mm = [s5, s6, s7, s8, s9, s10, s11, s12] ∧ Fr w W [(b4, c_b4, 29), (b3, limA 32 m, 27)] ∧ On l 0 [s5 = .bool false, s6 = .bool false, s7 = undef, s8 = undef, s9 = undef, s10 = .bool false, s11 = .agg (limA 32 m), s12 = .agg (intC false m), c_b4 = intC false m] ∧ c_b4.size = (intC false m).size ∧ True) (by kernel_rfl) (putAll_self _ _) ?_ ?_ ?_
  ·exact ⟨_, _, _, _, _, _, _, _, (intC false 0), rfl, F.drew, On.none _ _ _, dT⟩
  ·rintro listed mm W ii hi hsz hoff ⟨s5, s6, s7, s8, s9, s10, s11, s12, c_b4, rfl, HF, hH, hz0, -⟩ hd
   simp only [putAll, z1, z2]
   obtain rfl | rfl | rfl | rfl | rfl | rfl | rfl | rfl | rfl := dr_c9 hi
   ·exact oP
   ·obtain rfl : s5 = _ := dh 0 hH hd
    exact oP
   ·obtain rfl : s6 = _ := dh 1 hH hd
    exact oZ
   ·obtain rfl : s6 = _ := dh 1 hH hd
    obtain rfl : s7 = _ := dh 2 hH hd
    exact oZ
   ·obtain rfl : s6 = _ := dh 1 hH hd
    obtain rfl : s8 = _ := dh 3 hH hd
    exact oZ
   ·obtain rfl : s6 = _ := dh 1 hH hd
    obtain rfl : s9 = _ := dh 4 hH hd
    exact oP
   ·exact oY3
   ·obtain rfl : s10 = _ := dh 5 hH hd
    obtain rfl : s11 = _ := dh 6 hH hd
    exact oY3
   ·obtain rfl : s12 = _ := dh 7 hH hd
    exact oT3
  rintro listed mm W ⟨s5, s6, s7, s8, s9, s10, s11, s12, c_b4, rfl, HF, hH, hz0, -⟩ hall
  obtain ⟨rfl, rfl, rfl, rfl, rfl, rfl, rfl, rfl, e8⟩ := onA hH hall
  rw [e8] at HF
  clear hall hH e8 hz0 F
  have F := HF
  clear HF
  simp only [putAll, z1, z2]
  go_wp2_with (first | go_skip | refine aY3 ?_ | (refine aT3 ?_; clear F; intro W F) | refine aN3 ?_)
  exact bodyPost_ret (res_c rfl rfl (Fr.get F tL) (rowInt _ _)) rfl ⟨rfl, F.below⟩
 ·skip
  try simp only [Act.put, z6, z1, z2]
  refine wp_region_slots mixP [5, 6, 7, 8, 9, 10, 11, 12] (fun l mm W => ∃ (s5 s6 s7 s8 s9 s10 s11 s12 : Value) (c_b4 : Array Value), mm = [s5, s6, s7, s8, s9, s10, s11, s12] ∧ Fr w W [(b4, c_b4, 29), (b3, limA 32 m, 27)] ∧ On l 0 [s5 = .bool true, s6 = .bool true, s7 = .agg (limA 32 m), s8 = .bool z, s9 = .bool (!z), s10 = .bool (!z), s11 = .agg (limA 32 m), s12 = .agg (intC (!z) m), c_b4 = intC (!z) m] ∧ c_b4.size = (intC (!z) m).size ∧ True) (by kernel_rfl) (putAll_self _ _) ?_ ?_ ?_
  ·exact ⟨_, _, _, _, _, _, _, _, (intC false 0), rfl, F.drew, On.none _ _ _, dT⟩
  ·rintro listed mm W ii hi hsz hoff ⟨s5, s6, s7, s8, s9, s10, s11, s12, c_b4, rfl, HF, hH, hz0, -⟩ hd
   simp only [putAll, z1, z2]
   obtain rfl | rfl | rfl | rfl | rfl | rfl | rfl | rfl | rfl := dr_c9 hi
   ·exact oP
   ·obtain rfl : s5 = _ := dh 0 hH hd
    exact oP
   ·obtain rfl : s6 = _ := dh 1 hH hd
    exact oY3
   ·obtain rfl : s6 = _ := dh 1 hH hd
    obtain rfl : s7 = _ := dh 2 hH hd
    refine ow rfl rfl fun K hK => ?_
    refine ⟨?_⟩
    go_simp
    with_reducible refine fr_call HF (g1 _) ?_
    exact oC
   ·obtain rfl : s6 = _ := dh 1 hH hd
    obtain rfl : s8 = _ := dh 3 hH hd
    exact oP
   ·obtain rfl : s6 = _ := dh 1 hH hd
    obtain rfl : s9 = _ := dh 4 hH hd
    exact oP
   ·exact oY3
   ·obtain rfl : s10 = _ := dh 5 hH hd
    obtain rfl : s11 = _ := dh 6 hH hd
    exact oY3
   ·obtain rfl : s12 = _ := dh 7 hH hd
    exact oT3
  rintro listed mm W ⟨s5, s6, s7, s8, s9, s10, s11, s12, c_b4, rfl, HF, hH, hz0, -⟩ hall
  obtain ⟨rfl, rfl, rfl, rfl, rfl, rfl, rfl, rfl, e8⟩ := onA hH hall
  rw [e8] at HF
  clear hall hH e8 hz0 F
  have F := HF
  clear HF
  simp only [putAll, z1, z2]
  go_wp2_with (first | go_skip | refine aY3 ?_ | (refine aT3 ?_; clear F; intro W F) | refine aN3 ?_)
  exact bodyPost_ret (res_c rfl rfl (Fr.get F tL) (rowInt _ _)) rfl ⟨rfl, F.below⟩
theorem rcanonZ {n : Bool} {m : Nat} {x : Int} (hm : m < bp 32) (hx : m = x.natAbs) (h1 : x < 0 → n = true) (h2 : 0 < x → n = false) (w : World) : Calls Tryz.prog 190 #[.bool n, .agg (limA 32 m)] w (RetB (.agg (IC x)) w) := by
 have h := rcanon_any (neg := n) hm rfl w
 have e := canB_eq (n := n) hx h1 h2
 unfold canB at e
 rw [e] at h
 subst hx
 exact h
set_option maxRecDepth 100000 in
theorem rsum_any {a b : Nat} (la : a < bp 32) (lb : b < bp 32) {c : Nat} {f : Bool} (hc : (a + b) % bp 32 = c) (hf : decide (a + b < bp 32) = f) (w : World) : Calls Tryz.prog 191 #[.agg (limA 32 a), .agg (limA 32 b)] w (RetB (.tuple #[.agg (limA 32 c), .bool f]) w) := by
 have F := Fr.start w
 have HC := Lib.hid hc
 have HF := Lib.hid hf
 have HL := Lib.hid (And.intro la lb)
 clear la lb hc hf
 go_enter Tryz.func191, Tryz.ntmps191
 go_wp2_with (first | go_skip | refine aY3 ?_ | (refine aT3 ?_; clear F; intro W F) | refine aN3 ?_)
 (clear F; intro b2 W F; try simp only [Act.put, z6, z1, z2])
 go_wp2_with (first | go_skip | refine aY3 ?_ | (refine aT3 ?_; clear F; intro W F) | refine aN3 ?_)
 (clear F; intro b3 W F; try simp only [Act.put, z6, z1, z2])
 go_wp2_with (first | go_skip | refine aY3 ?_ | (refine aT3 ?_; clear F; intro W F) | refine aN3 ?_)
 (clear F; intro b4 W F; try simp only [Act.put, z6, z1, z2])
 go_wp2_with (first | go_skip | refine aY3 ?_ | (refine aT3 ?_; clear F; intro W F) | refine aN3 ?_)
 (clear F; intro b6 W F; try simp only [Act.put, z6, z1, z2])
 go_wp2_with (first | go_skip | refine aY3 ?_ | (refine aT3 ?_; clear F; intro W F) | refine aN3 ?_)
 go_loopw [7, 8] (fun cv iv wr => ∃ i q s : Nat, i ≤ 32 ∧ cv = .int .u64 q ∧ iv = .int .i64 i ∧ s < bp i ∧ s + q * bp i = a % bp i + b % bp i ∧ Fr w wr [(b6, limA 32 s, 27), (b4, limA 32 0, 27), (b3, limA 32 b, 27), (b2, limA 32 a, 27)]) (fun _ iv _ => 32 - (intOf iv).toNat)
 case atStart => exact ⟨0, 0, 0, by omega, rfl, rfl, bp_pos 0, by rw [bp_zero]; omega, F⟩
 case round =>
  clear F
  obtain ⟨i, q, s, hi, rfl, rfl, hs, hq, F⟩ := hrel
  have HS := Lib.hid (And.intro hs hq)
  have hq1 := carry_le hq
  clear hs hq
  by_cases hlt : i < 32
  ·obtain ⟨x, hx⟩ : ∃ x, lim a i = x := ⟨_, rfl⟩
   obtain ⟨y, hy⟩ : ∃ y, lim b i = y := ⟨_, rfl⟩
   have hx1 := lim_lt a i
   have hy1 := lim_lt b i
   obtain ⟨p1, p2⟩ := plus_step HS.out.1 HS.out.2
   have hd := Nat.mod_lt (lim a i + lim b i + q) (show 0 < 4294967296 by omega)
   have c1 := (F.get tL : BlkAt wr b2 _ _).cell (limA_at (m := a) hlt)
   have c2 := (F.get tL : BlkAt wr b3 _ _).cell (limA_at (m := b) hlt)
   rw [hx] at c1 hx1
   rw [hy] at c2 hy1
   rw [hx, hy] at p1 p2 hd
   obtain ⟨v, hv⟩ : ∃ v, x + y + q = v := ⟨_, rfl⟩
   rw [hv] at p1 p2 hd
   have hv1 : v < 18446744073709551616 := by omega
   have m1 : IntKind.u64.wrap ((x : Int) + (y : Int)) = ((x : Int) + (y : Int)) := by rw [show (x : Int) + (y : Int) = ((x + y : Nat) : Int) by omega]; exact wrap64 (by omega)
   have m2 : (x : Int) + (y : Int) + (q : Int) = (v : Int) := by omega
   have m3 : IntKind.u64.wrap (v : Int) = (v : Int) := wrap64 hv1
   have i0 : (0 : Int) ≤ (i : Int) := by omega
   have i1 : (i : Int) < 32 := by omega
   have HP := Lib.hid (And.intro p1 (And.intro p2 hd))
   clear p1 p2 hd hx hy hv
   go_wp2_with fail
   go_quiet (fail)
   replace F := F.drewN nq
   generalize wr.drewN nq = wq at *
   have cst := (F.get Lies.here).cell (limA_at (m := s) hlt)
   have fst := BlkAt.fz (F.get Lies.here) i
   obtain ⟨d, hdd⟩ : ∃ d, v % 4294967296 = d := ⟨_, rfl⟩
   obtain ⟨q', hqq⟩ : ∃ q', v / 4294967296 = q' := ⟨_, rfl⟩
   rw [hdd, hqq] at HP
   have m4 : (v : Int) % 4294967296 = (d : Int) := by omega
   have m5 : (v : Int) / 4294967296 = (q' : Int) := by omega
   have HN := Lib.hid ((F.cellA (A := []) i (.int .u32 d)).is (limA_set HP.out.2.2))
   clear hdd hqq F c1 c2 m1 m2 m3
   go_wp2_with fail
   go_roundw
   case rel => exact ⟨i + 1, q', setM s i d, by omega, rfl, by go_num, HP.out.1, HP.out.2.1, HN.out⟩
   case measure => simp [intOf]; omega
  ·obtain rfl : i = 32 := by omega
   rw [Nat.mod_eq_of_lt HL.out.1, Nat.mod_eq_of_lt HL.out.2] at HS
   have hsv : s = c := by
    rw [← HC.out, ← HS.out.2, Nat.add_mul_mod_self_right, Nat.mod_eq_of_lt HS.out.1]
   have hfv : decide (q = 0) = f := by
    rw [← HF.out, ← HS.out.2]
    have h1 := HS.out.1
    have h2 := bp_pos 32
    congr 1
    rw [eq_iff_iff]
    constructor
    ·rintro rfl
     omega
    ·intro h
     rcases Nat.lt_or_ge 0 q with h3 | h3
     ·have := Nat.mul_le_mul_right (bp 32) h3
      omega
     ·omega
   subst hsv
   have g1 : ((q : Int) == 0) = f := by
    rw [← hfv]
    by_cases h : q = 0
    ·simp [h]
    ·rw [decide_eq_false h, beq_eq_false_iff_ne]
     omega
   clear hfv HS HC HF HL hq1
   go_wp2_with (first | go_skip | refine aY3 ?_ | (refine aT3 ?_; clear F; intro W F) | refine aN3 ?_)
   exact bodyPost_ret (res_cs rfl rfl rfl (Fr.get F tL) (rowArr _)) rfl ⟨rfl, F.below⟩
theorem rdiff_any {a b : Nat} (la : a < bp 32) (lb : b < bp 32) {c : Nat} (hc : (a + bp 32 - b) % bp 32 = c) (w : World) : Calls Tryz.prog 193 #[.agg (limA 32 a), .agg (limA 32 b)] w (RetB (.agg (limA 32 c)) w) := by
 have F := Fr.start w
 have HC := Lib.hid hc
 have HL := Lib.hid (And.intro la lb)
 clear la lb hc
 go_enter Tryz.func193, Tryz.ntmps193
 go_wp2_with (first | go_skip | refine aY3 ?_ | (refine aT3 ?_; clear F; intro W F) | refine aN3 ?_)
 (clear F; intro b2 W F; try simp only [Act.put, z6, z1, z2])
 go_wp2_with (first | go_skip | refine aY3 ?_ | (refine aT3 ?_; clear F; intro W F) | refine aN3 ?_)
 (clear F; intro b3 W F; try simp only [Act.put, z6, z1, z2])
 go_wp2_with (first | go_skip | refine aY3 ?_ | (refine aT3 ?_; clear F; intro W F) | refine aN3 ?_)
 (clear F; intro b4 W F; try simp only [Act.put, z6, z1, z2])
 go_wp2_with (first | go_skip | refine aY3 ?_ | (refine aT3 ?_; clear F; intro W F) | refine aN3 ?_)
 (clear F; intro b5 W F; try simp only [Act.put, z6, z1, z2])
 go_wp2_with (first | go_skip | refine aY3 ?_ | (refine aT3 ?_; clear F; intro W F) | refine aN3 ?_)
 go_loopw [6, 7] (fun cv iv wr => ∃ i q s : Nat, i ≤ 32 ∧ cv = .int .u64 q ∧ iv = .int .i64 i ∧ s < bp i ∧ s + b % bp i = a % bp i + q * bp i ∧ Fr w wr [(b5, limA 32 s, 27), (b4, limA 32 0, 27), (b3, limA 32 b, 27), (b2, limA 32 a, 27)]) (fun _ iv _ => 32 - (intOf iv).toNat)
 case atStart => exact ⟨0, 0, 0, by omega, rfl, rfl, bp_pos 0, by rw [bp_zero]; omega, F⟩
 case round =>
  clear F
  obtain ⟨i, q, s, hi, rfl, rfl, hs, hq, F⟩ := hrel
  have HS := Lib.hid (And.intro hs hq)
  have hq1 := borrow_le hs hq
  clear hs hq
  by_cases hlt : i < 32
  ·obtain ⟨x, hx⟩ : ∃ x, lim a i = x := ⟨_, rfl⟩
   obtain ⟨y, hy⟩ : ∃ y, lim b i = y := ⟨_, rfl⟩
   have hx1 := lim_lt a i
   have hy1 := lim_lt b i
   obtain ⟨d, q', hd, hq', hdd⟩ := sub_ex (lim a i) (lim b i) q hx1 hy1 hq1
   obtain ⟨p1, p2⟩ := minus_step HS.out.1 HS.out.2 hd hdd
   have c1 := (F.get tL : BlkAt wr b2 _ _).cell (limA_at (m := a) hlt)
   have c2 := (F.get tL : BlkAt wr b3 _ _).cell (limA_at (m := b) hlt)
   rw [hx] at c1 hx1
   rw [hy] at c2 hy1
   rw [hx, hy] at hdd
   obtain ⟨u, hu⟩ : ∃ u : Nat, IntKind.u64.wrap ((x : Int) - (y : Int)) = (u : Int) := ⟨(IntKind.u64.wrap ((x : Int) - (y : Int))).toNat, by rw [IntKind.wrap_u64]; omega⟩
   obtain ⟨v, hv⟩ : ∃ v : Nat, IntKind.u64.wrap ((u : Int) - (q : Int)) = (v : Int) := ⟨(IntKind.u64.wrap ((u : Int) - (q : Int))).toNat, by rw [IntKind.wrap_u64]; omega⟩
   have hvv : v % 4294967296 = d ∧ v / 9223372036854775808 = q' := by
    have h1 := hu
    have h2 := hv
    rw [IntKind.wrap_u64] at h1 h2
    omega
   have m4 : (v : Int) % 4294967296 = (d : Int) := by omega
   have m5 : (v : Int) / 9223372036854775808 = (q' : Int) := by omega
   have i0 : (0 : Int) ≤ (i : Int) := by omega
   have i1 : (i : Int) < 32 := by omega
   have HP := Lib.hid (And.intro p1 (And.intro p2 hd))
   clear p1 p2 hd hx hy hdd hvv hq'
   go_wp2_with fail
   go_quiet (fail)
   replace F := F.drewN nq
   generalize wr.drewN nq = wq at *
   have cst := (F.get Lies.here).cell (limA_at (m := s) hlt)
   have fst := BlkAt.fz (F.get Lies.here) i
   have HN := Lib.hid ((F.cellA (A := []) i (.int .u32 d)).is (limA_set HP.out.2.2))
   clear F c1 c2 hu hv
   go_wp2_with fail
   go_roundw
   case rel => exact ⟨i + 1, q', setM s i d, by omega, rfl, by go_num, HP.out.1, HP.out.2.1, HN.out⟩
   case measure => simp [intOf]; omega
  ·obtain rfl : i = 32 := by omega
   rw [Nat.mod_eq_of_lt HL.out.1, Nat.mod_eq_of_lt HL.out.2] at HS
   have hsv : s = c := by
    rw [← HC.out]
    have h1 := HS.out.1
    have h2 := HS.out.2
    have h3 := HL.out.1
    have h4 := HL.out.2
    have h5 : q = 0 ∨ q = 1 := by omega
    rcases h5 with rfl | rfl
    ·rw [show a + bp 32 - b = s + bp 32 by omega, Nat.add_mod_right, Nat.mod_eq_of_lt h1]
    ·rw [show a + bp 32 - b = s by omega, Nat.mod_eq_of_lt h1]
   subst hsv
   clear HS HC HL hq1
   go_wp2_with (first | go_skip | refine aY3 ?_ | (refine aT3 ?_; clear F; intro W F) | refine aN3 ?_)
   exact bodyPost_ret (res_c rfl rfl (Fr.get F tL) (rowArr _)) rfl ⟨rfl, F.below⟩
theorem rdiff_le {a b : Nat} (la : a < bp 32) (lb : b < bp 32) (h : b ≤ a) (w : World) : Calls Tryz.prog 193 #[.agg (limA 32 a), .agg (limA 32 b)] w (RetB (.agg (limA 32 (a - b))) w) :=
 rdiff_any la lb (by rw [show a + bp 32 - b = (a - b) + bp 32 by omega, Nat.add_mod_right, Nat.mod_eq_of_lt (by omega)]) w
end
section
open Go.RowKit
set_option maxHeartbeats 4000000
theorem sgN_0 {neg : Bool} {m : Nat} {v : Int} (hv : sgN neg m = v) : (m = 0 → v = 0) ∧ (m ≠ 0 → v = if neg = true then -1 else 1) := by
 subst hv
 unfold sgN
 exact ⟨fun h => by rw [if_pos h], fun h => by rw [if_neg h]⟩
set_option maxRecDepth 100000 in
theorem rsign_any {neg : Bool} {m : Nat} (lm : m < bp 32) {v : Int} (hv : sgN neg m = v) (w : World) : Calls Tryz.prog 135 #[.agg (intC neg m)] w (RetB (.int .i64 v) w) := by
 have F := Fr.start w
 obtain ⟨z, hz⟩ : ∃ z, decide (m = 0) = z := ⟨_, rfl⟩
 have g1 := fun w => rzero_any lm hz w
 obtain ⟨s1, s2⟩ := sgN_0 hv
 clear lm hv
 go_enter Tryz.func135, Tryz.ntmps135
 go_wp2_with (first | go_skip | refine aY3 ?_ | (refine aT3 ?_; clear F; intro W F) | refine aN3 ?_)
 (clear F; intro b1 W F; try simp only [Act.put, z6, z1, z2])
 have c0 := (F.get Lies.here).cell (intC_neg neg m)
 cases z
 ·have hm := of_decide_eq_false hz
  obtain rfl := s2 hm
  clear s1 s2 hm hz
  have c0 : ∀ W, Fr w W [(b1, intC neg m, 29)] → W.cell? ⟨b1, 0, none⟩ = some (.bool neg) := fun W h => (h.get Lies.here).cell (intC_neg neg m)
  go_upto_region 3 with (first | go_skip | ((go_at_call 194); (with_reducible refine fr_call F (g1 _) ?_); (clear F; intro W F); (try dsimp only)) | refine aY3 ?_ | (refine aT3 ?_; clear F; intro W F) | refine aN3 ?_)
  have c1 := c0 _ F
  clear c0
  cases neg
  all_goals
   go_wp2_with (first | go_skip | refine aY3 ?_ | (refine aT3 ?_; clear F; intro W F) | refine aN3 ?_)
   go_ret
   exact ⟨rfl, F.below⟩
 ·have hm := of_decide_eq_true hz
  obtain rfl := s1 hm
  clear s1 s2 hm hz
  go_wp2_with (first | go_skip | ((go_at_call 194); (with_reducible refine fr_call F (g1 _) ?_); (clear F; intro W F); (try dsimp only)) | refine aY3 ?_ | (refine aT3 ?_; clear F; intro W F) | refine aN3 ?_)
  go_ret
  exact ⟨rfl, F.below⟩
theorem rsignZ {x : Int} (hx : x.natAbs < bp 32) (w : World) : Calls Tryz.prog 135 #[.agg (IC x)] w (RetB (.int .i64 x.sign) w) := rsign_any hx (sgN_z x) w
set_option maxRecDepth 100000 in
theorem rneg_any {x : Int} (hx : x.natAbs < bp 32) (w : World) : Calls Tryz.prog 136 #[.agg (IC x)] w (RetB (.agg (IC (-x))) w) := by
 have F := Fr.start w
 have g1 := fun w => rcanonZ (n := !decide (x < 0)) (m := x.natAbs) (x := -x) hx (by omega) (fun h => by rw [decide_eq_false (by omega)]; rfl) (fun h => by rw [decide_eq_true (by omega)]; rfl) w
 clear hx
 go_enter Tryz.func136, Tryz.ntmps136
 go_wp2_with (first | go_skip | refine aY3 ?_ | (refine aT3 ?_; clear F; intro W F) | refine aN3 ?_)
 (clear F; intro b1 W F; try simp only [Act.put, z6, z1, z2])
 go_wp2_with (first | go_skip | refine aY3 ?_ | (refine aT3 ?_; clear F; intro W F) | refine aN3 ?_)
 (clear F; intro b2 W F; try simp only [Act.put, z6, z1, z2])
 have c0 := (F.get tL : BlkAt W b1 _ _).cell (intC_neg (decide (x < 0)) x.natAbs)
 obtain ⟨s, hs⟩ : ∃ s, decide (x < 0) = s := ⟨_, rfl⟩
 rw [hs] at g1 c0
 clear hs
 go_wp2_with (first | go_skip | ((go_at_call 190); (with_reducible refine fr_call F (g1 _) ?_); (clear F; intro W F); (try dsimp only)) | refine aY3 ?_ | (refine aT3 ?_; clear F; intro W F) | refine aN3 ?_)
 exact bodyPost_ret (res_c rfl rfl (Fr.get F tL) (rowIC _)) rfl ⟨rfl, F.below⟩
set_option maxRecDepth 100000 in
theorem rabs_any {x : Int} (hx : x.natAbs < bp 32) (w : World) : Calls Tryz.prog 156 #[.agg (IC x)] w (RetB (.agg (IC (x.natAbs : Nat))) w) := by
 have F := Fr.start w
 have g1 := fun w => rcanonZ (n := false) (m := x.natAbs) (x := (x.natAbs : Int)) hx (by omega) (fun h => by omega) (fun h => rfl) w
 clear hx
 go_enter Tryz.func156, Tryz.ntmps156
 go_wp2_with (first | go_skip | refine aY3 ?_ | (refine aT3 ?_; clear F; intro W F) | refine aN3 ?_)
 (clear F; intro b1 W F; try simp only [Act.put, z6, z1, z2])
 go_wp2_with (first | go_skip | refine aY3 ?_ | (refine aT3 ?_; clear F; intro W F) | refine aN3 ?_)
 (clear F; intro b2 W F; try simp only [Act.put, z6, z1, z2])
 go_wp2_with (first | go_skip | ((go_at_call 190); (with_reducible refine fr_call F (g1 _) ?_); (clear F; intro W F); (try dsimp only)) | refine aY3 ?_ | (refine aT3 ?_; clear F; intro W F) | refine aN3 ?_)
 exact bodyPost_ret (res_c rfl rfl (Fr.get F tL) (rowIC _)) rfl ⟨rfl, F.below⟩
theorem bl_half {v : Nat} (h : v ≠ 0) : bl (v / 2) + 1 = bl v := by
 unfold bl
 rw [if_neg h]
 by_cases h1 : v / 2 = 0
 ·rw [if_pos h1]
  have : v = 1 := by omega
  subst this
  rfl
 ·rw [if_neg h1, Nat.log2_def v, if_pos (by omega)]
set_option maxRecDepth 100000 in
theorem rbits_any {neg : Bool} {m : Nat} (lm : m < bp 32) (w : World) : Calls Tryz.prog 159 #[.agg (intC neg m)] w (RetB (.int .i64 (bl m)) w) := by
 have F := Fr.start w
 obtain ⟨n, hn, hu⟩ := used_ex m lm
 have g1 := fun w => rlimbs_any lm hu w
 have HZ := Lib.hid (used_zero hu)
 have HU := Lib.hid hu
 have HB := Lib.hid (bl_1024 lm)
 clear lm hu
 go_enter Tryz.func159, Tryz.ntmps159
 go_wp2_with (first | go_skip | refine aY3 ?_ | (refine aT3 ?_; clear F; intro W F) | refine aN3 ?_)
 (clear F; intro b1 W F; try simp only [Act.put, z6, z1, z2])
 by_cases h0 : n = 0
 ·have hb : bl m = 0 := by rw [HZ.out.1 h0]; rfl
  subst h0
  have HBL := Lib.hid hb
  clear HZ HU HB hb
  go_wp2_with (first | go_skip | ((go_at_call 189); (with_reducible refine fr_call F (g1 _) ?_); (clear F; intro W F); (try dsimp only)) | refine aY3 ?_ | (refine aT3 ?_; clear F; intro W F) | refine aN3 ?_)
  go_ret
  exact ⟨ret_int (by rw [HBL.out]; rfl), F.below⟩
 have hbl := bl_lim HU.out h0
 obtain ⟨k, hk⟩ : ∃ k, n - 1 = k := ⟨_, rfl⟩
 rw [hk] at hbl
 have hk32 : k < 32 := by omega
 have e1 : (n : Int) - 1 = (k : Int) := by omega
 have e0 : ((n : Int) == 0) = false := by rw [beq_eq_false_iff_ne]; omega
 have wk : RowKit.wrap64 (k : Int) = (k : Int) := by rw [RowKit.wrap64]; omega
 have c1 : ∀ W, Fr w W [(b1, intC neg m, 29)] → W.cell? ⟨b1, 1 + k, none⟩ = some (.int .u32 (lim m k)) := fun W h => (h.get Lies.here).cell (by
  unfold intC
  rw [Array.getElem?_append_right (by simp)]
  simpa using limA_at (m := m) hk32)
 have hx1 := lim_lt m k
 obtain ⟨x, hx⟩ : ∃ x, lim m k = x := ⟨_, rfl⟩
 rw [hx] at c1 hbl hx1
 have HL := Lib.hid hbl
 have k0 : (0 : Int) ≤ (k : Int) := by omega
 have k1 : (k : Int) < 32 := by omega
 have k32 : (32 : Int) * (k : Int) = ((32 * k : Nat) : Int) := by omega
 obtain ⟨K, hK⟩ : ∃ K, 32 * k = K := ⟨_, rfl⟩
 rw [hK] at k32 HL
 have wK : RowKit.wrap64 (K : Int) = (K : Int) := by rw [RowKit.wrap64]; omega
 clear hbl hx h0 HZ HU hk hK
 go_upto_region 5 with (first | go_skip | ((go_at_call 189); (with_reducible refine fr_call F (g1 _) ?_); (clear F; intro W F); (try dsimp only)) | refine aY3 ?_ | (refine aT3 ?_; clear F; intro W F) | refine aN3 ?_)
 have c2 := c1 _ F
 clear c1
 go_wp2_with (first | go_skip | refine aY3 ?_ | (refine aT3 ?_; clear F; intro W F) | refine aN3 ?_)
 go_loopw [4, 5] (fun kv xv wr => ∃ q v : Nat, v < 4294967296 ∧ kv = .int .i64 q ∧ xv = .int .u32 v ∧ q + bl v = bl m ∧ Fr w wr [(b1, intC neg m, 29)]) (fun _ xv _ => (intOf xv).toNat)
 case atStart => exact ⟨K, x, hx1, by first | rfl | exact congrArg (Value.int .i64) wK, rfl, HL.out.symm, F⟩
 case round =>
  clear F
  obtain ⟨q, v, hv, rfl, rfl, hq, F⟩ := hrel
  have HQ := Lib.hid hq
  have hq2 : q ≤ 1024 := by have := HB.out; omega
  clear hq HL
  by_cases h0 : v = 0
  ·have e : q = bl m := by rw [← HQ.out, h0]; rfl
   subst h0
   have HE := Lib.hid e
   clear e
   go_wp2_with fail
   go_ret
   exact ⟨ret_int (by rw [HE.out]), F.below⟩
  ·have t1 : 0 < v := by omega
   have hh := bl_half h0
   have HN := Lib.hid (show q + 1 + bl (v / 2) = bl m by rw [← HQ.out, ← hh]; omega)
   have m1 : (v : Int) / 2 = ((v / 2 : Nat) : Int) := by omega
   have HV := Lib.hid (show v / 2 < v ∧ v / 2 < 4294967296 by omega)
   have wq : RowKit.wrap64 ((q : Int) + 1) = (q : Int) + 1 := by rw [RowKit.wrap64]; omega
   obtain ⟨u, hu⟩ : ∃ u, v / 2 = u := ⟨_, rfl⟩
   rw [hu] at m1 HN HV
   clear hh h0 hu
   go_wp2_with fail
   go_roundw
   case rel => exact ⟨q + 1, u, HV.out.2, by go_num, by go_num, HN.out, F⟩
   case measure => have := HV.out.1; simp [intOf]; omega
theorem cmpZ_signs {x y : Int} : cmpZ x y = if x.sign < y.sign then -1 else if y.sign < x.sign then 1 else x.sign * cmpN x.natAbs y.natAbs := by
 unfold cmpZ cmpN
 rcases Int.lt_trichotomy x 0 with h | h | h <;> rcases Int.lt_trichotomy y 0 with k | k | k
 all_goals first | rw [Int.sign_eq_neg_one_of_neg h] | rw [Int.sign_eq_one_of_pos h] | rw [h, Int.sign_zero]
 all_goals first | rw [Int.sign_eq_neg_one_of_neg k] | rw [Int.sign_eq_one_of_pos k] | rw [k, Int.sign_zero]
 all_goals (repeat' split) <;> omega
set_option maxRecDepth 100000 in
theorem rcmp_any {x y : Int} (hx : x.natAbs < bp 32) (hy : y.natAbs < bp 32) (w : World) : Calls Tryz.prog 154 #[.agg (IC x), .agg (IC y)] w (RetB (.int .i64 (cmpZ x y)) w) := by
 have F := Fr.start w
 have g1 := fun w => rsignZ hx w
 have g2 := fun w => rsignZ hy w
 have g3 := fun w => rcompare_any hx hy w
 have hc := cmpZ_signs (x := x) (y := y)
 have hcb : -1 ≤ cmpN x.natAbs y.natAbs ∧ cmpN x.natAbs y.natAbs ≤ 1 := by unfold cmpN; (repeat' split) <;> omega
 have hsb : x.sign = -1 ∨ x.sign = 0 ∨ x.sign = 1 := by
  rcases Int.lt_trichotomy x 0 with h | h | h
  ·exact .inl (Int.sign_eq_neg_one_of_neg h)
  ·exact .inr (.inl (by rw [h]; rfl))
  ·exact .inr (.inr (Int.sign_eq_one_of_pos h))
 obtain ⟨r, hr⟩ : ∃ r, cmpZ x y = r := ⟨_, rfl⟩
 obtain ⟨s, hs⟩ : ∃ s, x.sign = s := ⟨_, rfl⟩
 obtain ⟨t, ht⟩ : ∃ t, y.sign = t := ⟨_, rfl⟩
 obtain ⟨c, hcc⟩ : ∃ c, cmpN x.natAbs y.natAbs = c := ⟨_, rfl⟩
 rw [hr, hs, ht, hcc] at hc
 rw [hr]
 rw [hs] at g1 hsb
 rw [ht] at g2
 rw [hcc] at g3 hcb
 obtain ⟨p, hp⟩ : ∃ p, s * c = p := ⟨_, rfl⟩
 have hpb : -1 ≤ p ∧ p ≤ 1 := by rw [← hp]; rcases hsb with h | h | h <;> rw [h] <;> omega
 have wp : RowKit.wrap64 p = p := by rw [RowKit.wrap64]; omega
 rw [hp] at hc
 have HC := Lib.hid hc
 clear hx hy hc hcb hsb hr hs ht hcc hpb
 go_enter Tryz.func154, Tryz.ntmps154
 go_wp2_with (first | go_skip | refine aY3 ?_ | (refine aT3 ?_; clear F; intro W F) | refine aN3 ?_)
 (clear F; intro b2 W F; try simp only [Act.put, z6, z1, z2])
 go_wp2_with (first | go_skip | refine aY3 ?_ | (refine aT3 ?_; clear F; intro W F) | refine aN3 ?_)
 (clear F; intro b3 W F; try simp only [Act.put, z6, z1, z2])
 go_wp2_with (first | go_skip | refine aY3 ?_ | (refine aT3 ?_; clear F; intro W F) | refine aN3 ?_)
 try simp only [Act.put, z6, z1, z2]
 refine wp_region_slots mixP [5, 6, 7, 8, 9, 10] (fun l mm W => ∃ (s5 s6 s7 s8 s9 s10 : Value), mm = [s5, s6, s7, s8, s9, s10] ∧ Fr w W [(b3, IC y, 29), (b2, IC x, 29)] ∧ On l 0 [s7 = .agg (IC x), s8 = .int .i64 s, s9 = .agg (IC y), s10 = .int .i64 t, s5 = .int .i64 s, s6 = .int .i64 t] ∧ True) (by kernel_rfl) (putAll_self _ _) ?_ ?_ ?_
 ·exact ⟨_, _, _, _, _, _, rfl, F.drew, On.none _ _ _, dT⟩
 ·rintro listed mm W ii hi hsz hoff ⟨s5, s6, s7, s8, s9, s10, rfl, HF, hH, -⟩ hd
  simp only [putAll, z1, z2]
  obtain rfl | rfl | rfl | rfl | rfl | rfl := dr_c6 hi
  ·exact oY3
  ·obtain rfl : s7 = _ := dh 0 hH hd
   refine ow rfl rfl fun K hK => ?_
   refine ⟨?_⟩
   go_simp
   with_reducible refine fr_call HF (g1 _) ?_
   exact oC
  ·exact oY3
  ·obtain rfl : s9 = _ := dh 2 hH hd
   refine ow rfl rfl fun K hK => ?_
   refine ⟨?_⟩
   go_simp
   with_reducible refine fr_call HF (g2 _) ?_
   exact oC
  ·obtain rfl : s8 = _ := dh 1 hH hd
   exact oP
  ·obtain rfl : s10 = _ := dh 3 hH hd
   exact oP
 rintro listed mm W ⟨s5, s6, s7, s8, s9, s10, rfl, HF, hH, -⟩ hall
 obtain ⟨rfl, rfl, rfl, rfl, rfl, rfl⟩ := onA hH hall
 clear hall hH  F
 have F := HF
 clear HF
 simp only [putAll, z1, z2]
 by_cases h1 : s < t
 ·have hr : r = -1 := by rw [HC.out, if_pos h1]
  subst hr
  clear HC
  go_wp2_with (first | go_skip | refine aY3 ?_ | (refine aT3 ?_; clear F; intro W F) | refine aN3 ?_)
  go_ret
  exact ⟨rfl, F.below⟩
 by_cases h2 : t < s
 ·have hr : r = 1 := by rw [HC.out, if_neg h1, if_pos h2]
  subst hr
  clear HC
  go_wp2_with (first | go_skip | refine aY3 ?_ | (refine aT3 ?_; clear F; intro W F) | refine aN3 ?_)
  go_ret
  exact ⟨rfl, F.below⟩
 have hr : r = p := by rw [HC.out, if_neg h1, if_neg h2]
 have t1 : decide (s < t) = false := decide_eq_false h1
 have t2 : decide (t < s) = false := decide_eq_false h2
 subst hr
 clear HC h1 h2
 go_wp2_with (first | go_skip | ((go_at_call 192); (with_reducible refine fr_call F (g3 _) ?_); (clear F; intro W F); (try dsimp only)) | refine aY3 ?_ | (refine aT3 ?_; clear F; intro W F) | refine aN3 ?_)
 go_ret
 exact ⟨ret_int wp, F.below⟩
theorem canon_self {x : Int} (hx : x.natAbs < bp 32) (w : World) : Calls Tryz.prog 190 #[.bool (decide (x < 0)), .agg (limA 32 x.natAbs)] w (RetB (.agg (IC x)) w) :=
 rcanonZ hx rfl (fun h => decide_eq_true h) (fun h => decide_eq_false (by omega)) w
set_option maxRecDepth 100000 in
theorem radd_any {x y : Int} (hx : x.natAbs < bp 32) (hy : y.natAbs < bp 32) (h : (x + y).natAbs < bp 32) (w : World) : Calls Tryz.prog 134 #[.agg (IC x), .agg (IC y)] w (RetB (.tuple #[.agg (IC (x + y)), .int .i64 0]) w) := by
 have F := Fr.start w
 have g1 := fun w => canon_self hx w
 have g2 := fun w => canon_self hy w
 obtain ⟨p, hp⟩ : ∃ p, decide (x < 0) = p := ⟨_, rfl⟩
 obtain ⟨q, hq⟩ : ∃ q, decide (y < 0) = q := ⟨_, rfl⟩
 have HX := Lib.hid (And.intro hx (And.intro hy (And.intro h (And.intro hp hq))))
 clear hx hy h hp hq
 go_enter Tryz.func134, Tryz.ntmps134
 go_wp2_with (first | go_skip | refine aY3 ?_ | (refine aT3 ?_; clear F; intro W F) | refine aN3 ?_)
 (clear F; intro b2 W F; try simp only [Act.put, z6, z1, z2])
 go_wp2_with (first | go_skip | refine aY3 ?_ | (refine aT3 ?_; clear F; intro W F) | refine aN3 ?_)
 (clear F; intro b3 W F; try simp only [Act.put, z6, z1, z2])
 go_wp2_with (first | go_skip | refine aY3 ?_ | (refine aT3 ?_; clear F; intro W F) | refine aN3 ?_)
 (clear F; intro b4 W F; try simp only [Act.put, z6, z1, z2])
 go_wp2_with (first | go_skip | refine aY3 ?_ | (refine aT3 ?_; clear F; intro W F) | refine aN3 ?_)
 try simp only [Act.put, z6, z1, z2]
 refine wp_region_slots mixP [8, 9, 10, 11, 12, 13, 14, 15, 16, 17] (fun l mm W => ∃ (s8 s9 s10 s11 s12 s13 s14 s15 s16 s17 : Value) (c_b2 c_b3 : Array Value), mm = [s8, s9, s10, s11, s12, s13, s14, s15, s16, s17] ∧ Fr w W [(b4, intC false 0, 29), (b3, c_b3, 29), (b2, c_b2, 29)] ∧ On l 0 [s8 = .pointer (some ⟨b2, 0, none⟩), s9 = .bool (decide (x < 0)), s10 = .pointer (some ⟨b2, 1, none⟩), s11 = .agg (limA 32 ((x).natAbs)), s12 = .agg (IC x), s13 = .pointer (some ⟨b3, 0, none⟩), s14 = .bool (decide (y < 0)), s15 = .pointer (some ⟨b3, 1, none⟩), s16 = .agg (limA 32 ((y).natAbs)), s17 = .agg (IC y), c_b2 = IC x, c_b3 = IC y] ∧ Wt l [(10, 1), (10, 3), (11, 6), (11, 8)] ∧ (l.getD 10 false = false → c_b2 = IC x) ∧ (l.getD 11 false = false → c_b3 = IC y) ∧ c_b2.size = (IC x).size ∧ c_b3.size = (IC y).size ∧ True) (by kernel_rfl) (putAll_self _ _) ?_ ?_ ?_
 ·exact ⟨_, _, _, _, _, _, _, _, _, _, (IC x), (IC y), rfl, F.drew, On.none _ _ _, Wt.none _ _, fun _ => rfl, fun _ => rfl, dT⟩
 ·rintro listed mm W ii hi hsz hoff ⟨s8, s9, s10, s11, s12, s13, s14, s15, s16, s17, c_b2, c_b3, rfl, HF, hH, hw, hO_b2, hO_b3, hz0, hz1, -⟩ hd
  simp only [putAll, z1, z2]
  obtain rfl | rfl | rfl | rfl | rfl | rfl | rfl | rfl | rfl | rfl | rfl | rfl := dr_c12 hi
  ·exact oP
  ·obtain rfl : s8 = _ := dh 0 hH hd
   have hold := oldG hO_b2 hw hoff
   rw [hold] at HF
   have cF := BlkAt.cell (Fr.get HF (b := b2) (cs := IC x) (by (exact tL))) (intC_neg _ _)
   rw [← hold] at HF
   exact oP
  ·exact oP
  ·obtain rfl : s10 = _ := dh 2 hH hd
   have hold := oldG hO_b2 hw hoff
   rw [hold] at HF
   exact oY3o
  ·obtain rfl : s9 = _ := dh 1 hH hd
   obtain rfl : s11 = _ := dh 3 hH hd
   refine ow rfl rfl fun K hK => ?_
   refine ⟨?_⟩
   go_simp
   with_reducible refine fr_call HF (g1 _) ?_
   exact oC
  ·exact oP
  ·obtain rfl : s13 = _ := dh 5 hH hd
   have hold := oldG hO_b3 hw hoff
   rw [hold] at HF
   have cF := BlkAt.cell (Fr.get HF (b := b3) (cs := IC y) (by (exact tL))) (intC_neg _ _)
   rw [← hold] at HF
   exact oP
  ·exact oP
  ·obtain rfl : s15 = _ := dh 7 hH hd
   have hold := oldG hO_b3 hw hoff
   rw [hold] at HF
   exact oY3o
  ·obtain rfl : s14 = _ := dh 6 hH hd
   obtain rfl : s16 = _ := dh 8 hH hd
   refine ow rfl rfl fun K hK => ?_
   refine ⟨?_⟩
   go_simp
   with_reducible refine fr_call HF (g2 _) ?_
   exact oC
  ·obtain rfl : s12 = _ := dh 4 hH hd
   exact oT3
  ·obtain rfl : s17 = _ := dh 9 hH hd
   exact oT3
 rintro listed mm W ⟨s8, s9, s10, s11, s12, s13, s14, s15, s16, s17, c_b2, c_b3, rfl, HF, hH, hw, hO_b2, hO_b3, hz0, hz1, -⟩ hall
 obtain ⟨rfl, rfl, rfl, rfl, rfl, rfl, rfl, rfl, rfl, rfl, e10, e11⟩ := onA hH hall
 rw [e10] at HF
 rw [e11] at HF
 clear hall hH e10 e11 hw hO_b2 hO_b3 hz0 hz1 F
 have F := HF
 clear HF
 simp only [putAll, z1, z2]
 have c2 := BlkAt.cell (F.get (b := b2) (cs := IC x) tL) (intC_neg (decide (x < 0)) x.natAbs)
 have c3 := BlkAt.cell (F.get (b := b3) (cs := IC y) tL) (intC_neg (decide (y < 0)) y.natAbs)
 rw [HX.out.2.2.2.1] at c2
 rw [HX.out.2.2.2.2] at c3
 clear g1 g2
 by_cases hpq : p = q
 ·subst hpq
  have hs : (x + y).natAbs = x.natAbs + y.natAbs := by
   have h1 := HX.out.2.2.2.1
   have h2 := HX.out.2.2.2.2
   cases p
   ·have := of_decide_eq_false h1; have := of_decide_eq_false h2; omega
   ·have := of_decide_eq_true h1; have := of_decide_eq_true h2; omega
  have g3 := fun w => rsum_any HX.out.1 HX.out.2.1 (c := (x + y).natAbs) (f := true) (by rw [← hs]; exact Nat.mod_eq_of_lt HX.out.2.2.1) (by rw [← hs]; exact decide_eq_true HX.out.2.2.1) w
  have g4 := fun w => rcanonZ (n := p) (m := (x + y).natAbs) (x := x + y) HX.out.2.2.1 rfl (fun h => by
   have h1 := HX.out.2.2.2.1
   have h2 := HX.out.2.2.2.2
   cases p
   ·have := of_decide_eq_false h1; have := of_decide_eq_false h2; omega
   ·rfl) (fun h => by
   have h1 := HX.out.2.2.2.1
   have h2 := HX.out.2.2.2.2
   cases p
   ·rfl
   ·have := of_decide_eq_true h1; have := of_decide_eq_true h2; omega) w
  clear hs
  have cb : ∀ W, Fr w W [(b2, IC x, 29)] → W.cell? ⟨b2, 0, none⟩ = some (.bool p) := fun W h => by
   have h := BlkAt.cell (h.get (b := b2) (cs := IC x) tL) (intC_neg (decide (x < 0)) x.natAbs)
   rwa [HX.out.2.2.2.1] at h
  clear HX
  have t1 : (p == p) = true := beq_self_eq_true p
  go_wp2_with (first | go_skip | ((go_at_call 191); (with_reducible refine fr_call F (g3 _) ?_); (clear F; intro W F); (try dsimp only)) | refine aY3 ?_ | (refine aT3 ?_; clear F; intro W F) | refine aN3 ?_)
  (clear F; intro b6 W F; try simp only [Act.put, z6, z1, z2])
  clear c2 c3
  go_upto_region 6 with (first | go_skip | refine aY3 ?_ | (refine aT3 ?_; clear F; intro W F) | refine aN3 ?_)
  have c2 := cb _ (F.sub (by repeat (first | exact List.Sublist.slnil | apply List.Sublist.cons_cons | apply List.Sublist.cons)))
  clear cb
  go_wp2_with (first | go_skip | ((go_at_call 190); (with_reducible refine fr_call F (g4 _) ?_); (clear F; intro W F); (try dsimp only)) | refine aY3 ?_ | (refine aT3 ?_; clear F; intro W F) | refine aN3 ?_)
  exact bodyPost_ret (res_cs rfl rfl rfl (Fr.get F tL) (rowIC _)) rfl ⟨rfl, F.below⟩
 have t1 : (p == q) = false := by rw [beq_eq_false_iff_ne]; exact hpq
 have g3 := fun w => rcompare_any HX.out.1 HX.out.2.1 w
 by_cases hlt : x.natAbs < y.natAbs
 ·have hc : cmpN x.natAbs y.natAbs = -1 := by unfold cmpN; rw [if_pos hlt]
  rw [hc] at g3
  have hs : y.natAbs - x.natAbs = (x + y).natAbs := by
   have h1 := HX.out.2.2.2.1
   have h2 := HX.out.2.2.2.2
   cases p <;> cases q
   ·exact absurd rfl hpq
   ·have := of_decide_eq_false h1; have := of_decide_eq_true h2; omega
   ·have := of_decide_eq_true h1; have := of_decide_eq_false h2; omega
   ·exact absurd rfl hpq
  have g4 := fun w => rdiff_le HX.out.2.1 HX.out.1 (Nat.le_of_lt hlt) w
  rw [hs] at g4
  have g5 := fun w => rcanonZ (n := q) (m := (x + y).natAbs) (x := x + y) HX.out.2.2.1 rfl (fun h => by
   have h2 := HX.out.2.2.2.2
   cases q
   ·have := of_decide_eq_false h2; omega
   ·rfl) (fun h => by
   have h2 := HX.out.2.2.2.2
   cases q
   ·rfl
   ·have := of_decide_eq_true h2; omega) w
  have cb : ∀ W, Fr w W [(b2, IC y, 29)] → W.cell? ⟨b2, 0, none⟩ = some (.bool q) := fun W h => by
   have h := BlkAt.cell (h.get (b := b2) (cs := IC y) tL) (intC_neg (decide (y < 0)) y.natAbs)
   rwa [HX.out.2.2.2.2] at h
  clear hc hs HX hpq hlt
  go_upto_region 9 with (first | go_skip | ((go_at_call 192); (with_reducible refine fr_call F (g3 _) ?_); (clear F; intro W F); (try dsimp only)) | refine aY3 ?_ | (refine aT3 ?_; clear F; intro W F) | refine aN3 ?_)
  clear c2 c3
  have hq2 : decide (y < 0) = q := by
   have h := cb _ (F.sub (by repeat (first | exact List.Sublist.slnil | apply List.Sublist.cons_cons | apply List.Sublist.cons)))
   have h2 := BlkAt.cell (F.get (b := b2) (cs := IC y) tL) (intC_neg (decide (y < 0)) y.natAbs)
   rw [h] at h2
   injection h2 with h2
   injection h2 with h2
   exact h2.symm
  rw [← hq2] at g5
  clear hq2 cb
  try simp only [Act.put, z6, z1, z2]
  refine wp_region_slots mixP [5, 46, 47, 48, 49, 50, 51, 52, 53] (fun l mm W => ∃ (s5 s46 s47 s48 s49 s50 s51 s52 s53 : Value) (c_b4 : Array Value), mm = [s5, s46, s47, s48, s49, s50, s51, s52, s53] ∧ Fr w W [(b4, c_b4, 29), (b3, IC x, 29), (b2, IC y, 29)] ∧ On l 0 [s46 = .pointer (some ⟨b2, 0, none⟩), s47 = .bool (decide (y < 0)), s48 = .pointer (some ⟨b2, 1, none⟩), s49 = .agg (limA 32 ((y).natAbs)), s50 = .pointer (some ⟨b3, 1, none⟩), s51 = .agg (limA 32 ((x).natAbs)), s52 = .agg (limA 32 (x + y).natAbs), s53 = .agg (IC (x + y)), c_b4 = IC (x + y), s5 = .int .i64 0] ∧ c_b4.size = (IC (x + y)).size ∧ True) (by kernel_rfl) (putAll_self _ _) ?_ ?_ ?_
  ·exact ⟨_, _, _, _, _, _, _, _, _, (intC false 0), rfl, F.drew, On.none _ _ _, dT⟩
  ·rintro listed mm W ii hi hsz hoff ⟨s5, s46, s47, s48, s49, s50, s51, s52, s53, c_b4, rfl, HF, hH, hz0, -⟩ hd
   simp only [putAll, z1, z2]
   obtain rfl | rfl | rfl | rfl | rfl | rfl | rfl | rfl | rfl | rfl := dr_c10 hi
   ·exact oP
   ·obtain rfl : s46 = _ := dh 0 hH hd
    have cF := BlkAt.cell (Fr.get HF (b := b2) (cs := IC y) (by (exact tL))) (intC_neg _ _)
    exact oP
   ·exact oP
   ·obtain rfl : s48 = _ := dh 2 hH hd
    exact oY3
   ·exact oP
   ·obtain rfl : s50 = _ := dh 4 hH hd
    exact oY3
   ·obtain rfl : s49 = _ := dh 3 hH hd
    obtain rfl : s51 = _ := dh 5 hH hd
    refine ow rfl rfl fun K hK => ?_
    refine ⟨?_⟩
    go_simp
    with_reducible refine fr_call HF (g4 _) ?_
    exact oC
   ·obtain rfl : s47 = _ := dh 1 hH hd
    obtain rfl : s52 = _ := dh 6 hH hd
    refine ow rfl rfl fun K hK => ?_
    refine ⟨?_⟩
    go_simp
    with_reducible refine fr_call HF (g5 _) ?_
    exact oC
   ·obtain rfl : s53 = _ := dh 7 hH hd
    exact oT3
   ·exact oP
  rintro listed mm W ⟨s5, s46, s47, s48, s49, s50, s51, s52, s53, c_b4, rfl, HF, hH, hz0, -⟩ hall
  obtain ⟨rfl, rfl, rfl, rfl, rfl, rfl, rfl, rfl, e8, rfl⟩ := onA hH hall
  rw [e8] at HF
  clear hall hH e8 hz0 F
  have F := HF
  clear HF
  simp only [putAll, z1, z2]
  go_wp2_with (first | go_skip | refine aY3 ?_ | (refine aT3 ?_; clear F; intro W F) | refine aN3 ?_)
  exact bodyPost_ret (res_cs rfl rfl rfl (Fr.get F tL) (rowIC _)) rfl ⟨rfl, F.below⟩
 ·have hc : ¬ cmpN x.natAbs y.natAbs < 0 := by unfold cmpN; rw [if_neg hlt]; split <;> omega
  obtain ⟨c, hcc⟩ : ∃ c, cmpN x.natAbs y.natAbs = c := ⟨_, rfl⟩
  rw [hcc] at g3 hc
  have t2 : decide (c < 0) = false := decide_eq_false hc
  have hs : x.natAbs - y.natAbs = (x + y).natAbs := by
   have h1 := HX.out.2.2.2.1
   have h2 := HX.out.2.2.2.2
   cases p <;> cases q
   ·exact absurd rfl hpq
   ·have := of_decide_eq_false h1; have := of_decide_eq_true h2; omega
   ·have := of_decide_eq_true h1; have := of_decide_eq_false h2; omega
   ·exact absurd rfl hpq
  have g4 := fun w => rdiff_le HX.out.1 HX.out.2.1 (Nat.le_of_not_lt hlt) w
  rw [hs] at g4
  have g5 := fun w => rcanonZ (n := decide (x < 0)) (m := (x + y).natAbs) (x := x + y) HX.out.2.2.1 rfl (fun h => by
   rw [decide_eq_true_eq]
   have h1 := HX.out.2.2.2.1
   have h2 := HX.out.2.2.2.2
   cases p <;> cases q
   ·exact absurd rfl hpq
   ·have := of_decide_eq_false h1; have := of_decide_eq_true h2; omega
   ·exact of_decide_eq_true h1
   ·exact absurd rfl hpq) (fun h => by
   rw [decide_eq_false_iff_not]
   have h1 := HX.out.2.2.2.1
   have h2 := HX.out.2.2.2.2
   cases p <;> cases q
   ·exact absurd rfl hpq
   ·have := of_decide_eq_false h1; omega
   ·have := of_decide_eq_true h1; have := of_decide_eq_false h2; omega
   ·exact absurd rfl hpq) w
  clear hcc hc hs HX hpq hlt
  go_upto_region 9 with (first | go_skip | ((go_at_call 192); (with_reducible refine fr_call F (g3 _) ?_); (clear F; intro W F); (try dsimp only)) | refine aY3 ?_ | (refine aT3 ?_; clear F; intro W F) | refine aN3 ?_)
  clear c2 c3
  try simp only [Act.put, z6, z1, z2]
  refine wp_region_slots mixP [5, 46, 47, 48, 49, 50, 51, 52, 53] (fun l mm W => ∃ (s5 s46 s47 s48 s49 s50 s51 s52 s53 : Value) (c_b4 : Array Value), mm = [s5, s46, s47, s48, s49, s50, s51, s52, s53] ∧ Fr w W [(b4, c_b4, 29), (b3, IC y, 29), (b2, IC x, 29)] ∧ On l 0 [s46 = .pointer (some ⟨b2, 0, none⟩), s47 = .bool (decide (x < 0)), s48 = .pointer (some ⟨b2, 1, none⟩), s49 = .agg (limA 32 ((x).natAbs)), s50 = .pointer (some ⟨b3, 1, none⟩), s51 = .agg (limA 32 ((y).natAbs)), s52 = .agg (limA 32 (x + y).natAbs), s53 = .agg (IC (x + y)), c_b4 = IC (x + y), s5 = .int .i64 0] ∧ c_b4.size = (IC (x + y)).size ∧ True) (by kernel_rfl) (putAll_self _ _) ?_ ?_ ?_
  ·exact ⟨_, _, _, _, _, _, _, _, _, (intC false 0), rfl, F.drew, On.none _ _ _, dT⟩
  ·rintro listed mm W ii hi hsz hoff ⟨s5, s46, s47, s48, s49, s50, s51, s52, s53, c_b4, rfl, HF, hH, hz0, -⟩ hd
   simp only [putAll, z1, z2]
   obtain rfl | rfl | rfl | rfl | rfl | rfl | rfl | rfl | rfl | rfl := dr_c10 hi
   ·exact oP
   ·obtain rfl : s46 = _ := dh 0 hH hd
    have cF := BlkAt.cell (Fr.get HF (b := b2) (cs := IC x) (by (exact tL))) (intC_neg _ _)
    exact oP
   ·exact oP
   ·obtain rfl : s48 = _ := dh 2 hH hd
    exact oY3
   ·exact oP
   ·obtain rfl : s50 = _ := dh 4 hH hd
    exact oY3
   ·obtain rfl : s49 = _ := dh 3 hH hd
    obtain rfl : s51 = _ := dh 5 hH hd
    refine ow rfl rfl fun K hK => ?_
    refine ⟨?_⟩
    go_simp
    with_reducible refine fr_call HF (g4 _) ?_
    exact oC
   ·obtain rfl : s47 = _ := dh 1 hH hd
    obtain rfl : s52 = _ := dh 6 hH hd
    refine ow rfl rfl fun K hK => ?_
    refine ⟨?_⟩
    go_simp
    with_reducible refine fr_call HF (g5 _) ?_
    exact oC
   ·obtain rfl : s53 = _ := dh 7 hH hd
    exact oT3
   ·exact oP
  rintro listed mm W ⟨s5, s46, s47, s48, s49, s50, s51, s52, s53, c_b4, rfl, HF, hH, hz0, -⟩ hall
  obtain ⟨rfl, rfl, rfl, rfl, rfl, rfl, rfl, rfl, e8, rfl⟩ := onA hH hall
  rw [e8] at HF
  clear hall hH e8 hz0 F
  have F := HF
  clear HF
  simp only [putAll, z1, z2]
  go_wp2_with (first | go_skip | refine aY3 ?_ | (refine aT3 ?_; clear F; intro W F) | refine aN3 ?_)
  exact bodyPost_ret (res_cs rfl rfl rfl (Fr.get F tL) (rowIC _)) rfl ⟨rfl, F.below⟩
theorem intC_set0 (n s : Bool) (m : Nat) : (intC n m).setIfInBounds 0 (.bool s) = intC s m := by
 unfold intC
 apply Array.ext'
 simp
theorem intC_setL {n : Bool} {m i d : Nat} (hd : d < 4294967296) : (intC n m).setIfInBounds (1 + i) (.int .u32 d) = intC n (setM m i d) := by
 unfold intC
 rw [← limA_set hd]
 apply Array.ext'
 simp [Nat.add_comm 1 i]
theorem intC_limb {n : Bool} {m i : Nat} (hi : i < 32) : (intC n m)[1 + i]? = some (.int .u32 (lim m i)) := by
 unfold intC
 rw [Array.getElem?_append_right (by simp)]
 simpa using limA_at (m := m) hi
theorem setM_two {l0 l1 : Nat} (h0 : l0 < 4294967296) (h1 : l1 < 4294967296) : setM (setM 0 0 l0) 1 l1 = l0 + l1 * 4294967296 := by
 have e : setM 0 0 l0 = l0 := by simp [setM, bp]
 rw [e, setM_new (by rw [bp_one]; exact h0), bp_one]
set_option maxRecDepth 100000 in
theorem rfromZ {n : Int} (h1 : -9223372036854775808 ≤ n) (h2 : n < 9223372036854775808) (w : World) : Calls Tryz.prog 107 #[.int .i64 n] w (RetB (.agg (IC n)) w) := by
 have F := Fr.start w
 obtain ⟨a, ha⟩ : ∃ a, n.natAbs = a := ⟨_, rfl⟩
 have ha1 : a < 18446744073709551616 := by omega
 obtain ⟨l0, hl0⟩ : ∃ l, lim a 0 = l := ⟨_, rfl⟩
 obtain ⟨l1, hl1⟩ : ∃ l, lim a 1 = l := ⟨_, rfl⟩
 have hs := lim_two ha1
 have b0 := lim_lt a 0
 have b1 := lim_lt a 1
 rw [hl0] at b0 hs
 rw [hl1] at b1 hs
 have e2 : (a : Int) % 4294967296 = (l0 : Int) := by omega
 have e3 : (a : Int) / 4294967296 = (l1 : Int) := by omega
 have e4 : (l1 : Int) % 4294967296 = (l1 : Int) := by omega
 obtain ⟨s, hsg⟩ : ∃ s, decide (n < 0) = s := ⟨_, rfl⟩
 have HE := Lib.hid (show intC s (l0 + l1 * 4294967296) = IC n by unfold IC; rw [hsg, ha, ← hs])
 have HB := Lib.hid (And.intro b0 b1)
 have HK : Hid (∀ (w W : World) (b : Nat) (L : List Ent), Fr w W ((b, intC false 0, 29) :: L) → Fr w (((W.setCell ⟨b, 0, none⟩ (.bool s)).setCell ⟨b, 1, none⟩ (.int .u32 l0)).setCell ⟨b, 2, none⟩ (.int .u32 l1)) ((b, IC n, 29) :: L)) := Lib.hid (fun w W b L F => by
  have F1 := (F.cellA (A := []) 0 (.bool s)).is (intC_set0 false s 0)
  have F2 := (F1.cellA (A := []) 1 (.int .u32 l0)).is (intC_setL (i := 0) b0)
  have F3 := (F2.cellA (A := []) 2 (.int .u32 l1)).is (intC_setL (i := 1) b1)
  rw [setM_two b0 b1, HE.out] at F3
  exact F3)
 go_enter Tryz.func107, Tryz.ntmps107
 go_wp2_with (first | go_skip | refine aY3 ?_ | (refine aT3 ?_; clear F; intro W F) | refine aN3 ?_)
 (clear F; intro b2 W F; try simp only [Act.put, z6, z1, z2])
 by_cases hn : n < 0
 ·have e1 : IntKind.u64.wrap (-IntKind.u64.wrap n) = (a : Int) := by
   rw [IntKind.wrap_u64, IntKind.wrap_u64]
   omega
  have hs : s = true := by rw [← hsg]; exact decide_eq_true hn
  subst hs
  clear ha hl0 hl1 hs hsg
  go_wp2_with (first | go_skip | refine aY3 ?_ | (refine aT3 ?_; clear F; intro W F) | refine aN3 ?_)
  (clear F; intro b4 W F; try simp only [Act.put, z6, z1, z2])
  have c0 := (F.get Lies.here).cell (intC_neg false 0)
  have c1 := (F.get Lies.here).cell (intC_limb (n := false) (m := 0) (i := 0) (by decide))
  have c2 := (F.get Lies.here).cell (intC_limb (n := false) (m := 0) (i := 1) (by decide))
  have f0 := BlkAt.fz (F.get Lies.here) 0
  have f1 := BlkAt.fz (F.get Lies.here) 1
  have f2 := BlkAt.fz (F.get Lies.here) 2
  have FN := Lib.hid (HK.out _ _ _ _ F)
  go_upto_region 7 with fail
  clear F c0 c1 c2 f0 f1 f2
  have F := FN.out
  clear FN
  generalize World.setCell _ _ _ = W7 at *
  go_wp2_with (first | go_skip | refine aY3 ?_ | (refine aT3 ?_; clear F; intro W F) | refine aN3 ?_)
  exact bodyPost_ret (res_c rfl rfl (Fr.get F tL) (rowIC _)) rfl ⟨rfl, F.below⟩
 ·have hdc : decide (n < 0) = false := decide_eq_false hn
  have hs : s = false := by rw [← hsg]; exact hdc
  have e5 : n % 4294967296 = (l0 : Int) := by omega
  have e6 : n / 4294967296 = (l1 : Int) := by omega
  subst hs
  clear ha hl0 hl1 hs hsg e2 e3
  go_wp2_with (first | go_skip | refine aY3 ?_ | (refine aT3 ?_; clear F; intro W F) | refine aN3 ?_)
  (clear F; intro b4 W F; try simp only [Act.put, z6, z1, z2])
  have c0 := (F.get Lies.here).cell (intC_neg false 0)
  have c1 := (F.get Lies.here).cell (intC_limb (n := false) (m := 0) (i := 0) (by decide))
  have c2 := (F.get Lies.here).cell (intC_limb (n := false) (m := 0) (i := 1) (by decide))
  have f0 := BlkAt.fz (F.get Lies.here) 0
  have f1 := BlkAt.fz (F.get Lies.here) 1
  have f2 := BlkAt.fz (F.get Lies.here) 2
  have FN := Lib.hid (HK.out _ _ _ _ F)
  go_upto_region 7 with fail
  clear F c0 c1 c2 f0 f1 f2
  have F := FN.out
  clear FN
  generalize World.setCell _ _ _ = W7 at *
  go_wp2_with (first | go_skip | refine aY3 ?_ | (refine aT3 ?_; clear F; intro W F) | refine aN3 ?_)
  exact bodyPost_ret (res_c rfl rfl (Fr.get F tL) (rowIC _)) rfl ⟨rfl, F.below⟩
end
section
open Go.RowKit
set_option maxHeartbeats 4000000
section
variable {a : Act} {w W : World} {Q : Exit → Act → World → Prop} {F : List Ent} {ops : Array Oper} {rest : List Oper} {dst : Option Tmp} {ty : TypeId} {pos : String} {af : Array Edge} {gd : Option (Nat × Bool)}
theorem alloc_dbl {o : Oper} (ho : o.op = .alloc 192) : (execOp a.eval o).run Tryz.prog W = .ok (.value (.pointer (some ⟨W.heap.size, 0, none⟩))) (W.alloc (.cells (limA 64 0) 192)) := by
 obtain ⟨dst, op, pos, af, g, x⟩ := o
 subst ho
 rw [big64Z]
 go_simp
theorem fA_dbl (h : Fr w W F) (hw : Region.wanted ⟨dst, .alloc 192, ty, pos, af, gd⟩ (yielded ops a.tmps) = true) (hk : Hold (∀ b W', Fr w W' ((b, limA 64 0, 192) :: F) → wpList Tryz.prog ops Q rest (a.put dst (.pointer (some ⟨b, 0, none⟩))) W')) : wpList Tryz.prog ops Q (⟨dst, .alloc 192, ty, pos, af, gd⟩ :: rest) a W := wplF_alloc h hw (alloc_dbl rfl) hk
end
set_option maxRecDepth 100000 in
theorem rmul_any {p q : Bool} {a b : Nat} (la : a < bp 32) (lb : b < bp 32) (hm : a * b < bp 32) {s : Bool} {t : Nat} (hc : ∀ w, Calls Tryz.prog 190 #[.bool (p != q), .agg (limA 32 (a * b))] w (RetB (.agg (intC s t)) w)) (w : World) : Calls Tryz.prog 133 #[.agg (intC p a), .agg (intC q b)] w (RetB (.tuple #[.agg (intC s t), .int .i64 0]) w) := by
 have F := Fr.start w
 obtain ⟨n, hn, hun⟩ := used_ex a la
 obtain ⟨m, hm32, hum⟩ := used_ex b lb
 have g1 := fun w => rlimbs_any la hun w
 have g2 := fun w => rlimbs_any lb hum w
 have HL := Lib.hid (And.intro hun.1 hum.1)
 have HM := Lib.hid hm
 rw [show (p != q) = (!(p == q)) from rfl] at hc
 clear la lb hun hum hm
 go_enter Tryz.func133, Tryz.ntmps133
 go_wp2_with (first | go_skip | refine aY3 ?_ | (refine aT3 ?_; clear F; intro W F) | refine aN3 ?_)
 (clear F; intro b2 W F; try simp only [Act.put, z6, z1, z2])
 go_wp2_with (first | go_skip | refine aY3 ?_ | (refine aT3 ?_; clear F; intro W F) | refine aN3 ?_)
 (clear F; intro b3 W F; try simp only [Act.put, z6, z1, z2])
 go_wp2_with (first | go_skip | refine aY3 ?_ | (refine aT3 ?_; clear F; intro W F) | refine aN3 ?_)
 (clear F; intro b4 W F; try simp only [Act.put, z6, z1, z2])
 go_wp2_with (first | go_skip | ((with_reducible apply fA_dbl F); exact rfl) | refine aY3 ?_ | (refine aT3 ?_; clear F; intro W F) | refine aN3 ?_)
 (clear F; intro b6 W F; try simp only [Act.put, z6, z1, z2])
 go_wp2_with (first | go_skip | refine aY3 ?_ | (refine aT3 ?_; clear F; intro W F) | refine aN3 ?_)
 try simp only [Act.put, z6, z1, z2]
 refine wp_region_slots mixP [7, 8, 15, 16, 17, 18, 19, 20] (fun l mm W => ∃ (s7 s8 s15 s16 s17 s18 s19 s20 : Value), mm = [s7, s8, s15, s16, s17, s18, s19, s20] ∧ Fr w W [(b6, limA 64 0, 192), (b4, intC false 0, 29), (b3, intC q b, 29), (b2, intC p a, 29)] ∧ On l 0 [s15 = .pointer (some ⟨b2, 1, none⟩), s16 = .agg (limA 32 a), s17 = .int .i64 n, s18 = .pointer (some ⟨b3, 1, none⟩), s19 = .agg (limA 32 b), s20 = .int .i64 m, s7 = .int .i64 n, s8 = .int .i64 m] ∧ True) (by kernel_rfl) (putAll_self _ _) ?_ ?_ ?_
 ·exact ⟨_, _, _, _, _, _, _, _, rfl, F.drew, On.none _ _ _, dT⟩
 ·rintro listed mm W ii hi hsz hoff ⟨s7, s8, s15, s16, s17, s18, s19, s20, rfl, HF, hH, -⟩ hd
  simp only [putAll, z1, z2]
  obtain rfl | rfl | rfl | rfl | rfl | rfl | rfl | rfl := dr_c8 hi
  ·exact oP
  ·obtain rfl : s15 = _ := dh 0 hH hd
   exact oY3
  ·obtain rfl : s16 = _ := dh 1 hH hd
   refine ow rfl rfl fun K hK => ?_
   refine ⟨?_⟩
   go_simp
   with_reducible refine fr_call HF (g1 _) ?_
   exact oC
  ·exact oP
  ·obtain rfl : s18 = _ := dh 3 hH hd
   exact oY3
  ·obtain rfl : s19 = _ := dh 4 hH hd
   refine ow rfl rfl fun K hK => ?_
   refine ⟨?_⟩
   go_simp
   with_reducible refine fr_call HF (g2 _) ?_
   exact oC
  ·obtain rfl : s17 = _ := dh 2 hH hd
   exact oP
  ·obtain rfl : s20 = _ := dh 5 hH hd
   exact oP
 rintro listed mm W ⟨s7, s8, s15, s16, s17, s18, s19, s20, rfl, HF, hH, -⟩ hall
 obtain ⟨rfl, rfl, rfl, rfl, rfl, rfl, rfl, rfl⟩ := onA hH hall
 clear hall hH  F
 have F := HF
 clear HF
 simp only [putAll, z1, z2]
 clear g1 g2
 go_wp2_with fail
 go_loopw [9] (fun iv wr => ∃ i : Nat, i ≤ n ∧ iv = .int .i64 i ∧ Fr w wr [(b6, limA 64 ((a % bp i) * b), 192), (b4, intC false 0, 29), (b3, intC q b, 29), (b2, intC p a, 29)]) (fun iv _ => n - (intOf iv).toNat)
 case atStart => exact ⟨0, by omega, rfl, by rw [bp_zero, Nat.mod_one, Nat.zero_mul]; exact F⟩
 case round =>
  clear F
  obtain ⟨i, hi, rfl, F⟩ := hrel
  by_cases hin : i < n
  ·have hc0 : (a % bp i) * b < bp (i + m) := by
    rw [bp_add]
    exact Nat.lt_of_le_of_lt (Nat.mul_le_mul_right b (Nat.le_of_lt (Nat.mod_lt a (bp_pos i)))) (Nat.mul_lt_mul_of_pos_left HL.out.2 (bp_pos i))
   have HC0 := Lib.hid hc0
   clear hc0
   go_wp2_with fail
   go_loopw [10, 11] (fun qv jv wr => ∃ j k c : Nat, j ≤ m ∧ k < 4294967296 ∧ qv = .int .u64 k ∧ jv = .int .i64 j ∧ c < bp (i + m) ∧ c + k * bp (i + j) = (a % bp i) * b + lim a i * (b % bp j) * bp i ∧ Fr w wr [(b6, limA 64 c, 192), (b4, intC false 0, 29), (b3, intC q b, 29), (b2, intC p a, 29)]) (fun _ jv _ => m - (intOf jv).toNat)
   case atStart => exact ⟨0, 0, (a % bp i) * b, by omega, by omega, rfl, rfl, HC0.out, by rw [bp_zero, Nat.mod_one]; omega, F⟩
   case round =>
    clear F HC0
    obtain ⟨j, k, c, hj, hk, rfl, rfl, hcl, hrl, F⟩ := hrel
    have HC := Lib.hid (And.intro hcl hrl)
    clear hcl hrl
    by_cases hjm : j < m
    ·obtain ⟨x, hx⟩ : ∃ x, lim a i = x := ⟨_, rfl⟩
     obtain ⟨y, hy⟩ : ∃ y, lim b j = y := ⟨_, rfl⟩
     obtain ⟨z, hz⟩ : ∃ z, lim c (i + j) = z := ⟨_, rfl⟩
     obtain ⟨ij, hij⟩ : ∃ ij, i + j = ij := ⟨_, rfl⟩
     have hx1 := lim_lt a i
     have hy1 := lim_lt b j
     have hz1 := lim_lt c (i + j)
     have hst := times_step HC.out.2
     have hlt := times_lt hx1 hy1 hz1 hk
     rw [hx, hy, hz] at hst hlt
     rw [hx] at hx1
     rw [hy] at hy1
     rw [hz] at hz1
     obtain ⟨p1, hp1⟩ : ∃ p, x * y = p := ⟨_, rfl⟩
     obtain ⟨p2, hp2⟩ : ∃ p, p1 + z = p := ⟨_, rfl⟩
     obtain ⟨t, ht⟩ : ∃ t, p2 + k = t := ⟨_, rfl⟩
     rw [hp1, hp2, ht] at hst hlt
     obtain ⟨d, hd⟩ : ∃ d, t % 4294967296 = d := ⟨_, rfl⟩
     obtain ⟨q', hq'⟩ : ∃ q', t / 4294967296 = q' := ⟨_, rfl⟩
     rw [hd, hq', hij] at hst
     have hd1 : d < 4294967296 := by omega
     have hq1 : q' < 4294967296 := by omega
     have c1 := (F.get (b := b2) tL).cell (intC_limb (n := p) (m := a) (show i < 32 by omega))
     have c2 := (F.get (b := b3) tL).cell (intC_limb (n := q) (m := b) (show j < 32 by omega))
     have c3 := (F.get (b := b6) tL).cell (limA_at (n := 64) (m := c) (show ij < 64 by omega))
     rw [hx] at c1
     rw [hy] at c2
     rw [← hij, hz, hij] at c3
     have m0 : IntKind.i64.wrap ((i : Int) + (j : Int)) = (ij : Int) := by rw [show (i : Int) + (j : Int) = (ij : Int) by omega]; exact IntWalk.i64_in _ (by omega)
     have m00 : (i : Int) + (j : Int) = (ij : Int) := by omega
     have e1 : IntKind.u64.wrap (x : Int) = (x : Int) := wrap64 (by omega)
     have e2 : IntKind.u64.wrap (y : Int) = (y : Int) := wrap64 (by omega)
     have e3 : IntKind.u64.wrap (z : Int) = (z : Int) := wrap64 (by omega)
     have m1 : IntKind.u64.wrap ((x : Int) * (y : Int)) = (p1 : Int) := by
      rw [show (x : Int) * (y : Int) = ((p1 : Nat) : Int) by rw [← hp1]; push_cast; rfl]
      exact wrap64 (by omega)
     have m2 : IntKind.u64.wrap ((p1 : Int) + (z : Int)) = (p2 : Int) := by
      rw [show (p1 : Int) + (z : Int) = ((p2 : Nat) : Int) by omega]
      exact wrap64 (by omega)
     have m3 : IntKind.u64.wrap ((p2 : Int) + (k : Int)) = (t : Int) := by
      rw [show (p2 : Int) + (k : Int) = ((t : Nat) : Int) by omega]
      exact wrap64 (by omega)
     have m4 : (t : Int) % 4294967296 = (d : Int) := by omega
     have m5 : (t : Int) / 4294967296 = (q' : Int) := by omega
     have i0 : (0 : Int) ≤ (i : Int) := by omega
     have i1 : (i : Int) < 32 := by omega
     have j0 : (0 : Int) ≤ (j : Int) := by omega
     have j1 : (j : Int) < 32 := by omega
     have ij0 : (0 : Int) ≤ (ij : Int) := by omega
     have ij1 : (ij : Int) < 64 := by omega
     have ij64 : ij < 64 := by omega
     have HN := Lib.hid (show setM c ij d < bp (i + m) ∧ setM c ij d + q' * bp (i + (j + 1)) = (a % bp i) * b + lim a i * (b % bp (j + 1)) * bp i from ⟨setM_lt HC.out.1 (by omega) hd1, by rw [hx]; exact hst⟩)
     clear hx hy hz hij hst hlt hp1 hp2 ht hd hq' hx1 hy1 hz1
     go_wp2_with fail
     go_quiet (fail)
     replace F := F.drewN nq
     generalize wr.drewN nq = wq at *
     have cst := (F.get (b := b6) tL).cell (limA_at (n := 64) (m := c) ij64)
     have fst := BlkAt.fz (F.get (b := b6) tL) ij
     have HWS := Lib.hid ((F.cellA (A := []) ij (.int .u32 d)).is (limA_set hd1))
     clear F c1 c2 c3
     go_wp2_with fail
     go_roundw
     case rel => exact ⟨j + 1, q', setM c ij d, by omega, hq1, rfl, by go_num, HN.out.1, HN.out.2, HWS.out⟩
     case measure => simp [intOf]; omega
    ·obtain rfl : j = m := by omega
     obtain ⟨ij, hij⟩ : ∃ ij, i + j = ij := ⟨_, rfl⟩
     obtain ⟨hr1, hr2⟩ := times_row HL.out.2 HC.out.1 hk HC.out.2
     rw [hij] at hr1 hr2
     have m0 : IntKind.i64.wrap ((i : Int) + (j : Int)) = (ij : Int) := by rw [show (i : Int) + (j : Int) = (ij : Int) by omega]; exact IntWalk.i64_in _ (by omega)
     have m00 : (i : Int) + (j : Int) = (ij : Int) := by omega
     have m4 : (k : Int) % 4294967296 = (k : Int) := by omega
     have ij0 : (0 : Int) ≤ (ij : Int) := by omega
     have ij1 : (ij : Int) < 64 := by omega
     have cst := (F.get (b := b6) tL).cell (limA_at (n := 64) (m := c) (show ij < 64 by omega))
     have fst := BlkAt.fz (F.get (b := b6) tL) ij
     have HWS := Lib.hid ((F.cellA (A := []) ij (.int .u32 k)).is (limA_set hk))
     have HRS := Lib.hid hr1
     clear hr1 hr2 hij HC F
     go_wp2_with fail
     go_roundw
     case rel => exact ⟨i + 1, by omega, by go_num, by rw [← HRS.out]; exact HWS.out⟩
     case measure => simp [intOf]; omega
  ·obtain rfl : i = n := by omega
   rw [Nat.mod_eq_of_lt HL.out.1] at F
   obtain ⟨c, hcc⟩ : ∃ c, a * b = c := ⟨_, rfl⟩
   rw [hcc] at F HM hc
   clear hcc HL hi hin
   go_wp2_with (first | go_skip | refine aY3 ?_ | (refine aT3 ?_; clear F; intro W F) | refine aN3 ?_)
   (clear F; intro b13 W F; try simp only [Act.put, z6, z1, z2])
   go_wp2_with fail
   go_loopw [14] (fun iv wr => ∃ i : Nat, i ≤ 32 ∧ iv = .int .i64 i ∧ Fr w wr [(b13, limA 32 (c % bp i), 27), (b6, limA 64 c, 192), (b4, intC false 0, 29), (b3, intC q b, 29), (b2, intC p a, 29)]) (fun iv _ => 32 - (intOf iv).toNat)
   case atStart => exact ⟨0, by omega, rfl, by rw [bp_zero, Nat.mod_one]; exact F⟩
   case round =>
    clear F
    obtain ⟨e, he, rfl, F⟩ := hrel
    by_cases hlt : e < 32
    ·obtain ⟨h, hh⟩ : ∃ h, 32 + e = h := ⟨_, rfl⟩
     have c1 := (F.get (b := b6) tL).cell (limA_at (n := 64) (m := c) (show h < 64 by omega))
     rw [lim_ge HM.out (show 32 ≤ h by omega)] at c1
     have c2 := (F.get (b := b6) tL).cell (limA_at (n := 64) (m := c) (show e < 64 by omega))
     have c3 := (F.get (b := b13) tL).cell (limA_at (n := 32) (m := c % bp e) hlt)
     have f3 := BlkAt.fz (F.get (b := b13) tL) e
     have hz1 := lim_lt c e
     obtain ⟨z, hz⟩ : ∃ z, lim c e = z := ⟨_, rfl⟩
     rw [hz] at c2 hz1
     have hstep : setM (c % bp e) e z = c % bp (e + 1) := by
      rw [setM_new (Nat.mod_lt _ (bp_pos e)), mod_succ, hz]
     have HN := (F.cellA (A := []) e (.int .u32 z)).is (limA_set hz1)
     rw [hstep] at HN
     have HN := Lib.hid HN
     have m0 : IntKind.i64.wrap (32 + (e : Int)) = (h : Int) := by rw [show 32 + (e : Int) = (h : Int) by omega]; exact IntWalk.i64_in _ (by omega)
     have m00 : 32 + (e : Int) = (h : Int) := by omega
     obtain ⟨we1, we2, we3⟩ : RowKit.wrap64 (h : Int) = (h : Int) ∧ True ∧ True := ⟨by rw [RowKit.wrap64]; omega, trivial, trivial⟩
     have i0 : (0 : Int) ≤ (e : Int) := by omega
     have i1 : (e : Int) < 32 := by omega
     have i64 : (e : Int) < 64 := by omega
     have h0 : (0 : Int) ≤ (h : Int) := by omega
     have h1 : (h : Int) < 64 := by omega
     clear hh hz hstep F
     go_wp2_with fail
     go_roundw
     case rel => exact ⟨e + 1, by omega, by go_num, HN.out⟩
     case measure => simp [intOf]; omega
    ·obtain rfl : e = 32 := by omega
     rw [Nat.mod_eq_of_lt HM.out] at F
     have c1 := (F.get (b := b2) tL).cell (intC_neg p a)
     have c2 := (F.get (b := b3) tL).cell (intC_neg q b)
     clear hlt he
     go_wp2_with (first | go_skip | ((go_at_call 190); (with_reducible refine fr_call F (hc _) ?_); (clear F; intro W F); (try dsimp only)) | refine aY3 ?_ | (refine aT3 ?_; clear F; intro W F) | refine aN3 ?_)
     exact bodyPost_ret (res_cs rfl rfl rfl (Fr.get F tL) (rowInt _ _)) rfl ⟨rfl, F.below⟩
theorem rmulZ {x y : Int} (hx : x.natAbs < bp 32) (hy : y.natAbs < bp 32) (h : (x * y).natAbs < bp 32) (w : World) : Calls Tryz.prog 133 #[.agg (IC x), .agg (IC y)] w (RetB (.tuple #[.agg (IC (x * y)), .int .i64 0]) w) := by
 have hm : x.natAbs * y.natAbs < bp 32 := by rw [← Int.natAbs_mul]; exact h
 refine rmul_any hx hy hm (fun w => rcanonZ hm (Int.natAbs_mul x y).symm ?_ ?_ w) w
 ·intro h1
  rcases Int.lt_trichotomy x 0 with hx0 | hx0 | hx0 <;> rcases Int.lt_trichotomy y 0 with hy0 | hy0 | hy0
  ·exact absurd h1 (by have := Int.mul_pos_of_neg_of_neg hx0 hy0; omega)
  ·rw [hy0, Int.mul_zero] at h1; exact absurd h1 (by decide)
  ·simp [hx0, Int.not_lt.2 (Int.le_of_lt hy0)]
  ·rw [hx0, Int.zero_mul] at h1; exact absurd h1 (by decide)
  ·rw [hx0, Int.zero_mul] at h1; exact absurd h1 (by decide)
  ·rw [hx0, Int.zero_mul] at h1; exact absurd h1 (by decide)
  ·simp [hy0, Int.not_lt.2 (Int.le_of_lt hx0)]
  ·rw [hy0, Int.mul_zero] at h1; exact absurd h1 (by decide)
  ·exact absurd h1 (by have := Int.mul_pos hx0 hy0; omega)
 ·intro h1
  rcases Int.lt_trichotomy x 0 with hx0 | hx0 | hx0 <;> rcases Int.lt_trichotomy y 0 with hy0 | hy0 | hy0
  ·simp [hx0, hy0]
  ·rw [hy0, Int.mul_zero] at h1; exact absurd h1 (by decide)
  ·exact absurd h1 (by have := Int.mul_neg_of_neg_of_pos hx0 hy0; omega)
  ·rw [hx0, Int.zero_mul] at h1; exact absurd h1 (by decide)
  ·rw [hx0, Int.zero_mul] at h1; exact absurd h1 (by decide)
  ·rw [hx0, Int.zero_mul] at h1; exact absurd h1 (by decide)
  ·exact absurd h1 (by have := Int.mul_neg_of_pos_of_neg hx0 hy0; omega)
  ·rw [hy0, Int.mul_zero] at h1; exact absurd h1 (by decide)
  ·simp [Int.not_lt.2 (Int.le_of_lt hx0), Int.not_lt.2 (Int.le_of_lt hy0)]
end
section
open Go.RowKit
set_option maxHeartbeats 4000000
theorem used_two {m n : Nat} (h : Used m n) : n ≤ 2 ↔ m < 18446744073709551616 := by
 have e : bp 2 = 18446744073709551616 := by unfold bp; rfl
 rw [← e]
 constructor
 ·intro h2
  exact Nat.lt_of_lt_of_le h.1 (bp_le h2)
 ·intro h2
  rcases Nat.lt_or_ge 2 n with h3 | h3
  ·rcases h.2 with h0 | h0
   ·omega
   ·have := bp_le (show 2 ≤ n - 1 by omega)
    omega
  ·exact h3
set_option maxRecDepth 100000 in
theorem rlow_any {m : Nat} (hl : m < 18446744073709551616) (w : World) : Calls Tryz.prog 235 #[.agg (limA 32 m)] w (RetB (.int .u64 m) w) := by
 have F := Fr.start w
 have e := two_lims hl
 have k1 := lim_lt m 1
 have k0 := lim_lt m 0
 obtain ⟨x, hx⟩ : ∃ x, lim m 1 = x := ⟨_, rfl⟩
 obtain ⟨y, hy⟩ : ∃ y, lim m 0 = y := ⟨_, rfl⟩
 rw [hx, hy] at e
 rw [hx] at k1
 rw [hy] at k0
 have ho := or64 k1 k0
 rw [← e] at ho
 have hc1 : (limA 32 m)[1]? = some (.int .u32 x) := by rw [← hx]; exact limA_at (by decide)
 have hc0 : (limA 32 m)[0]? = some (.int .u32 y) := by rw [← hy]; exact limA_at (by decide)
 clear hx hy e hl
 go_enter Tryz.func235, Tryz.ntmps235
 go_wp2_with (first | go_skip | refine aY3 ?_ | (refine aT3 ?_; clear F; intro W F) | refine aN3 ?_)
 (clear F; intro b1 W F; try simp only [Act.put, z6, z1, z2])
 have c1 := (F.get Lies.here).cell hc1
 have c0 := (F.get Lies.here).cell hc0
 go_wp2_with fail
 go_ret
 exact ⟨rfl, F.below⟩
set_option maxRecDepth 100000 in
theorem rsmall_any {a : Nat} (ha1 : a < 18446744073709551616) (w : World) : Calls Tryz.prog 234 #[.int .u64 a] w (RetB (.agg (limA 32 a)) w) := by
 have F := Fr.start w
 obtain ⟨l0, hl0⟩ : ∃ l, lim a 0 = l := ⟨_, rfl⟩
 obtain ⟨l1, hl1⟩ : ∃ l, lim a 1 = l := ⟨_, rfl⟩
 have hs := lim_two ha1
 have b0 := lim_lt a 0
 have b1 := lim_lt a 1
 rw [hl0] at b0 hs
 rw [hl1] at b1 hs
 have e2 : (a : Int) % 4294967296 = (l0 : Int) := by omega
 have e3 : (a : Int) / 4294967296 = (l1 : Int) := by omega
 have e4 : (l1 : Int) % 4294967296 = (l1 : Int) := by omega
 have HK : Hid (∀ (w W : World) (b : Nat) (L : List Ent), Fr w W ((b, limA 32 0, 27) :: L) → Fr w ((W.setCell ⟨b, 0, none⟩ (.int .u32 l0)).setCell ⟨b, 1, none⟩ (.int .u32 l1)) ((b, limA 32 a, 27) :: L)) := Lib.hid (fun w W b L F => by
  have F2 := (F.cellA (A := []) 0 (.int .u32 l0)).is (limA_set b0)
  have F3 := (F2.cellA (A := []) 1 (.int .u32 l1)).is (limA_set b1)
  rw [setM_two b0 b1, ← hs] at F3
  exact F3)
 clear hl0 hl1 hs
 go_enter Tryz.func234, Tryz.ntmps234
 go_wp2_with (first | go_skip | refine aY3 ?_ | (refine aT3 ?_; clear F; intro W F) | refine aN3 ?_)
 (clear F; intro b2 W F; try simp only [Act.put, z6, z1, z2])
 go_wp2_with (first | go_skip | refine aY3 ?_ | (refine aT3 ?_; clear F; intro W F) | refine aN3 ?_)
 (clear F; intro b3 W F; try simp only [Act.put, z6, z1, z2])
 have c1 := (F.get Lies.here).cell (limA_at (n := 32) (m := 0) (j := 0) (by decide))
 have c2 := (F.get Lies.here).cell (limA_at (n := 32) (m := 0) (j := 1) (by decide))
 have f1 := BlkAt.fz (F.get Lies.here) 0
 have f2 := BlkAt.fz (F.get Lies.here) 1
 have FN := Lib.hid (HK.out _ _ _ _ F)
 go_upto_region 3 with fail
 clear F c1 c2 f1 f2
 have F := FN.out
 clear FN
 generalize World.setCell _ _ _ = W7 at *
 go_wp2_with (first | go_skip | refine aY3 ?_ | (refine aT3 ?_; clear F; intro W F) | refine aN3 ?_)
 exact bodyPost_ret (res_c rfl rfl (Fr.get F tL) (rowArr _)) rfl ⟨rfl, F.below⟩
theorem dbl_step {m bit i q S : Nat} (hq : q ≤ 1) (h1 : S / bp i = m / bp i) (h2 : S % bp i + q * bp i = 2 * (m % bp i) + bit) :
  lim S i = lim m i ∧ setM S i ((2 * lim m i + q) % 4294967296) / bp (i + 1) = m / bp (i + 1) ∧ setM S i ((2 * lim m i + q) % 4294967296) % bp (i + 1) + (2 * lim m i + q) / 4294967296 * bp (i + 1) = 2 * (m % bp (i + 1)) + bit := by
 have hl : lim S i = lim m i := by unfold lim; rw [h1]
 have hd : (2 * lim m i + q) % 4294967296 < 4294967296 := Nat.mod_lt _ (by decide)
 have h3 : S / bp (i + 1) = m / bp (i + 1) := by
  have a := div_succ S i
  have b := div_succ m i
  rw [hl] at a
  omega
 refine ⟨hl, by rw [setM_high hd, h3], ?_⟩
 rw [mod_succ, setM_mod, lim_set hd, if_pos rfl, mod_succ m i, bp_succ]
 generalize lim m i = x at *
 have e : (2 * x + q) % 4294967296 * bp i + (2 * x + q) / 4294967296 * (bp i * 4294967296) = (2 * x + q) * bp i := by
  rw [Nat.mul_comm (bp i) 4294967296, ← Nat.mul_assoc, ← Nat.add_mul]
  congr 1
  have := Nat.mod_add_div (2 * x + q) 4294967296
  omega
 have e2 : (2 * x + q) * bp i = 2 * (x * bp i) + q * bp i := by rw [Nat.add_mul, Nat.mul_assoc]
 omega
theorem Fr.is2 {w W : World} {x : Ent} {b : Nat} {cs cs' : Array Value} {t : TypeId} {L : List Ent} (h : Fr w W (x :: (b, cs, t) :: L)) (e : cs = cs') : Fr w W (x :: (b, cs', t) :: L) := e ▸ h
theorem or_bit {x q : Nat} (hx : x < 4294967296) (hq : q ≤ 1) : (x * 2 % 4294967296) ||| q = (2 * x + q) % 4294967296 ∧ x / 2147483648 = (2 * x + q) / 4294967296 := by
 refine ⟨?_, by omega⟩
 have h := Nat.two_pow_add_eq_or_of_lt (i := 1) (b := q) (by omega) (x % 2147483648)
 rw [show x * 2 % 4294967296 = 2 ^ 1 * (x % 2147483648) by omega, ← h]
 omega
set_option maxRecDepth 100000 in
theorem rdouble_any {m bit : Nat} (lm : m < bp 32) (hbit : bit ≤ 1) {r : Nat} {f : Bool} (hr : (2 * m + bit) % bp 32 = r) (hf : decide (bp 32 ≤ 2 * m + bit) = f) (w : World) : Calls Tryz.prog 237 #[.agg (limA 32 m), .int .u32 bit] w (RetB (.tuple #[.agg (limA 32 r), .bool f]) w) := by
 have F := Fr.start w
 have HR := Lib.hid (And.intro hr (And.intro hf (And.intro lm hbit)))
 clear hr hf lm hbit
 go_enter Tryz.func237, Tryz.ntmps237
 go_wp2_with (first | go_skip | refine aY3 ?_ | (refine aT3 ?_; clear F; intro W F) | refine aN3 ?_)
 (clear F; intro b2 W F; try simp only [Act.put, z6, z1, z2])
 go_wp2_with (first | go_skip | refine aY3 ?_ | (refine aT3 ?_; clear F; intro W F) | refine aN3 ?_)
 (clear F; intro b4 W F; try simp only [Act.put, z6, z1, z2])
 go_wp2_with (first | go_skip | refine aY3 ?_ | (refine aT3 ?_; clear F; intro W F) | refine aN3 ?_)
 go_loopw [1, 6] (fun bv iv wr => ∃ i q S : Nat, i ≤ 32 ∧ q ≤ 1 ∧ S < bp 32 ∧ bv = .int .u32 q ∧ iv = .int .i64 i ∧ S / bp i = m / bp i ∧ S % bp i + q * bp i = 2 * (m % bp i) + bit ∧ Fr w wr [(b4, limA 32 0, 27), (b2, limA 32 S, 27)]) (fun _ iv _ => 32 - (intOf iv).toNat)
 case atStart => exact ⟨0, bit, m, by omega, HR.out.2.2.2, HR.out.2.2.1, rfl, rfl, rfl, by rw [bp_zero]; omega, F⟩
 case round =>
  clear F
  obtain ⟨i, q, S, hi, hq, hS, rfl, rfl, h1, h2, F⟩ := hrel
  by_cases hlt : i < 32
  ·obtain ⟨hl, s1, s2⟩ := dbl_step hq h1 h2
   have hx1 := lim_lt m i
   obtain ⟨x, hx⟩ : ∃ x, lim m i = x := ⟨_, rfl⟩
   rw [hx] at hl s1 s2 hx1
   obtain ⟨o1, o2⟩ := or_bit hx1 hq
   obtain ⟨d, hd⟩ : ∃ d, (2 * x + q) % 4294967296 = d := ⟨_, rfl⟩
   obtain ⟨q', hq'⟩ : ∃ q', (2 * x + q) / 4294967296 = q' := ⟨_, rfl⟩
   rw [hd] at s1 s2 o1
   rw [hq'] at s2 o2
   have hd1 : d < 4294967296 := by rw [← hd]; exact Nat.mod_lt _ (by decide)
   have c1 := (F.get (Lies.tl Lies.here)).cell (limA_at (m := S) hlt)
   have f1 := BlkAt.fz (F.get (Lies.tl Lies.here)) i
   rw [hl] at c1
   have m1 : IntKind.u32.wrap ((x : Int) * 2) = ((x * 2 % 4294967296 : Nat) : Int) := by rw [IntKind.wrap_u32]; omega
   obtain ⟨p, hp⟩ : ∃ p, x * 2 % 4294967296 = p := ⟨_, rfl⟩
   rw [hp] at m1 o1
   have mo : bits .or .u32 (p : Int) (q : Int) = (d : Int) := by rw [u32_or_nat p q (by omega) (by omega), o1]
   have m2 : (x : Int) / 2147483648 = (q' : Int) := by omega
   have i0 : (0 : Int) ≤ (i : Int) := by omega
   have i1 : (i : Int) < 32 := by omega
   have HN := Lib.hid (And.intro s1 (And.intro s2 (And.intro (setM_lt hS hlt hd1) (And.intro (show q' ≤ 1 by omega) ((F.cellA (A := [(b4, limA 32 0, 27)]) i (.int .u32 d)).is2 (limA_set hd1))))))
   clear s1 s2 hl h1 h2 hx o1 o2 hd hq' hp F hd1 hS
   go_wp2_with fail
   go_region_law (first | fail)
   all_goals
    go_simp
    go_wp2_with fail
    go_roundw
    case rel => exact ⟨i + 1, q', setM S i d, by omega, HN.out.2.2.2.1, HN.out.2.2.1, rfl, by go_num, HN.out.1, HN.out.2.1, HN.out.2.2.2.2.drew⟩
    case measure => simp [intOf]; omega
  ·obtain rfl : i = 32 := by omega
   obtain ⟨hr, hf, lm, hb⟩ := HR.out
   rw [Nat.mod_eq_of_lt hS, Nat.mod_eq_of_lt lm] at h2
   have hsv : S = r := by rw [← hr, ← h2, Nat.add_mul_mod_self_right, Nat.mod_eq_of_lt hS]
   have g1 : ((q : Int) == 1) = f := by
    rw [← hf, ← h2]
    have hq2 : q = 0 ∨ q = 1 := by omega
    rcases hq2 with rfl | rfl
    ·rw [decide_eq_false (by omega)]
     rfl
    ·rw [decide_eq_true (by omega)]
     rfl
   subst hsv
   clear HR hr hf lm hb h1 h2 hS hq hlt
   go_wp2_with (first | go_skip | refine aY3 ?_ | (refine aT3 ?_; clear F; intro W F) | refine aN3 ?_)
   exact bodyPost_ret (res_cs rfl rfl rfl (Fr.get F tL) (rowArr _)) rfl ⟨rfl, F.below⟩
end
section
open Go.RowKit
theorem bit_eq {a i j s : Nat} (h : i = 32 * j + s) (hs : s < 32) : lim a j / 2 ^ s % 2 = a / 2 ^ i % 2 := by
 have h1 := lim_testBit a j s
 rw [decide_eq_true hs, Bool.true_and, ← h, Nat.testBit_eq_decide_div_mod_eq, Nat.testBit_eq_decide_div_mod_eq, decide_eq_decide] at h1
 generalize lim a j / 2 ^ s = p at *
 generalize a / 2 ^ i = q at *
 omega
theorem div_step {a b i r q R : Nat} (hb : 0 < b) (hr : a / 2 ^ (i + 1) % b = r) (hq : a / 2 ^ (i + 1) / b * 2 ^ (i + 1) = q) (hR : 2 * r + a / 2 ^ i % 2 = R) :
  r < b ∧ (R < b → a / 2 ^ i % b = R ∧ a / 2 ^ i / b * 2 ^ i = q) ∧ (b ≤ R → a / 2 ^ i % b = R - b ∧ a / 2 ^ i / b * 2 ^ i = q + 2 ^ i) := by
 have hlt : r < b := by rw [← hr]; exact Nat.mod_lt _ hb
 rw [Nat.pow_succ] at hr hq
 rw [← Nat.div_div_eq_div_mul] at hr hq
 generalize a / 2 ^ i = B at *
 generalize 2 ^ i = P at *
 have hdm := Nat.div_add_mod (B / 2) b
 rw [hr] at hdm
 generalize B / 2 / b = Q at *
 refine ⟨hlt, fun h => ?_, fun h => ?_⟩
 ·have h1 : R + b * (2 * Q) = B := by rw [Nat.mul_left_comm]; omega
  obtain ⟨h2, h3⟩ := (Nat.div_mod_unique hb).2 ⟨h1, h⟩
  exact ⟨h3, by rw [h2, ← hq, Nat.mul_comm 2 Q, Nat.mul_assoc, Nat.mul_comm 2 P]⟩
 ·have h1 : R - b + b * (2 * Q + 1) = B := by rw [Nat.mul_add, Nat.mul_left_comm]; omega
  obtain ⟨h2, h3⟩ := (Nat.div_mod_unique hb).2 ⟨h1, by omega⟩
  exact ⟨h3, by rw [h2, ← hq, Nat.add_mul, Nat.mul_comm 2 Q, Nat.mul_assoc, Nat.mul_comm 2 P, Nat.one_mul]⟩
theorem quo_bit {q i j s : Nat} (h : i = 32 * j + s) (hs : s < 32) (hq : q % 2 ^ (i + 1) = 0) : (lim q j ||| 2 ^ s) = lim q j + 2 ^ s ∧ lim q j + 2 ^ s < 4294967296 ∧ setM q j (lim q j + 2 ^ s) = q + 2 ^ i := by
 have hpi : 2 ^ i = bp j * 2 ^ s := by rw [h, Nat.pow_add, bp_two]
 obtain ⟨c, hc⟩ : ∃ c, q = 2 ^ (i + 1) * c := ⟨_, (Nat.mul_div_cancel' (Nat.dvd_of_mod_eq_zero hq)).symm⟩
 have hx : ∃ d, lim q j = 2 ^ (s + 1) * d ∧ d < 2 ^ (31 - s) := by
  refine ⟨c % 2 ^ (31 - s), ?_, Nat.mod_lt _ (Nat.pow_pos (by decide))⟩
  have e : (4294967296 : Nat) = 2 ^ (s + 1) * 2 ^ (31 - s) := by rw [← Nat.pow_add, show s + 1 + (31 - s) = 32 by omega]
  unfold lim
  rw [hc, Nat.pow_succ, hpi, Nat.mul_assoc (bp j), Nat.mul_assoc (bp j), Nat.mul_div_cancel_left _ (bp_pos j), ← Nat.pow_succ, e, Nat.mul_mod_mul_left]
 obtain ⟨d, hd, hd2⟩ := hx
 have hlt : 2 ^ s < 2 ^ (s + 1) := Nat.pow_lt_pow_right (by decide) (by omega)
 refine ⟨?_, ?_, ?_⟩
 ·rw [hd, Nat.two_pow_add_eq_or_of_lt hlt]
 ·have e : 2 ^ (s + 1) * 2 ^ (31 - s) = 4294967296 := by rw [← Nat.pow_add, show s + 1 + (31 - s) = 32 by omega]
  have h1 : 2 ^ (s + 1) * (d + 1) ≤ 2 ^ (s + 1) * 2 ^ (31 - s) := Nat.mul_le_mul_left _ hd2
  rw [e, Nat.mul_add, Nat.mul_one] at h1
  omega
 ·have h1 := setM_add q j (lim q j + 2 ^ s)
  rw [Nat.add_mul, Nat.mul_comm (2 ^ s), ← hpi] at h1
  omega
theorem shr_small {a m n : Nat} (ha : a < 2 ^ m) : a / 2 ^ (m - n) < 2 ^ n := by
 rw [Nat.div_lt_iff_lt_mul (Nat.pow_pos (by decide)), ← Nat.pow_add]
 exact Nat.lt_of_lt_of_le ha (Nat.pow_le_pow_right (by decide) (by omega))
end
section
open Go.RowKit
set_option maxHeartbeats 4000000
theorem lim_up (m k i : Nat) : lim (m / bp k) i = lim m (i + k) := by
 unfold lim
 rw [Nat.div_div_eq_div_mul, Nat.add_comm, bp_add]
theorem shr_split {m k s n : Nat} (h : n = 32 * k + s) : m / 2 ^ n = m / bp k / 2 ^ s := by
 rw [h, Nat.pow_add, ← bp_two, Nat.div_div_eq_div_mul]
theorem wraps {j : Nat} (h : j ≤ 100000) : RowKit.wrap64 (j : Int) = (j : Int) ∧ IntKind.i64.wrap (j : Int) = (j : Int) ∧ IntKind.u64.wrap (j : Int) = (j : Int) := ⟨by rw [RowKit.wrap64]; omega, IntWalk.i64_in _ (by omega), wrap64 (by omega)⟩
theorem tdiv_nat {n d k : Nat} (h : n / d = k) : Int.tdiv (n : Int) (d : Int) = (k : Int) := by rw [← h]; exact Int.ofNat_tdiv n d
theorem tmod_nat {n d k : Nat} (h : n % d = k) : Int.tmod (n : Int) (d : Int) = (k : Int) := by rw [← h]; exact Int.ofNat_tmod n d
theorem meas_up {i : Nat} (h : i < 32) : 32 - (intOf (Value.int .i64 ((i + 1 : Nat) : Int))).toNat < 32 - (intOf (Value.int .i64 (i : Int))).toNat := by
 simp only [intOf]
 omega
set_option maxRecDepth 100000 in
theorem rshifted_any {m n : Nat} (lm : m < bp 32) (hn : n ≤ 1024) (w : World) : Calls Tryz.prog 236 #[.agg (limA 32 m), .int .i64 n] w (RetB (.agg (limA 32 (m / 2 ^ n))) w) := by
 have F := Fr.start w
 obtain ⟨k, hk⟩ : ∃ k, n / 32 = k := ⟨_, rfl⟩
 obtain ⟨s, hs⟩ : ∃ s, n % 32 = s := ⟨_, rfl⟩
 have hs32 : s < 32 := by omega
 have hk32 : k ≤ 32 := by omega
 have hsp := shr_split (m := m) (k := k) (s := s) (n := n) (by omega)
 obtain ⟨r, hr⟩ : ∃ r, m / 2 ^ n = r := ⟨_, rfl⟩
 rw [hr] at hsp
 have hrb : r < bp (32 - k) := by
  rw [hsp]
  refine Nat.lt_of_le_of_lt (Nat.div_le_self _ _) ?_
  rw [Nat.div_lt_iff_lt_mul (bp_pos k), ← bp_add, Nat.sub_add_cancel hk32]
  exact lm
 have HS := Lib.hid (And.intro hsp (And.intro hrb (And.intro hr lm)))
 have d1 := tdiv_nat hk
 have d2 := tmod_nat hs
 have d3 : (n : Int) / 32 = (k : Int) := by omega
 have d4 : (n : Int) % 32 = (s : Int) := by omega
 have HK := Lib.hid (And.intro hk32 hs32)
 obtain ⟨ws1, ws2, ws3⟩ := wraps (j := s) (by omega)
 obtain ⟨wk1, wk2, wk3⟩ := wraps (j := k) (by omega)
 clear hk hs hsp hr hrb lm hn hk32 hs32
 go_enter Tryz.func236, Tryz.ntmps236
 go_wp2_with (first | go_skip | refine aY3 ?_ | (refine aT3 ?_; clear F; intro W F) | refine aN3 ?_)
 (clear F; intro b2 W F; try simp only [Act.put, z6, z1, z2])
 go_wp2_with (first | go_skip | refine aY3 ?_ | (refine aT3 ?_; clear F; intro W F) | refine aN3 ?_)
 (clear F; intro b4 W F; try simp only [Act.put, z6, z1, z2])
 go_wp2_with (first | go_skip | refine aY3 ?_ | (refine aT3 ?_; clear F; intro W F) | refine aN3 ?_)
 (clear F; intro b5 W F; try simp only [Act.put, z6, z1, z2])
 go_wp2_with (first | go_skip | refine aY3 ?_ | (refine aT3 ?_; clear F; intro W F) | refine aN3 ?_)
 clear d1 d2 d3 d4 ws1 ws2 ws3 wk1 wk2 wk3
 go_loopw [8] (fun iv wr => ∃ i : Nat, i + k ≤ 32 ∧ iv = .int .i64 i ∧ Fr w wr [(b5, limA 32 (r % bp i), 27), (b4, limA 32 0, 27), (b2, limA 32 m, 27)]) (fun iv _ => 32 - (intOf iv).toNat)
 case atStart => exact ⟨0, by have := HK.out.1; omega, rfl, by rw [bp_zero, Nat.mod_one]; exact F⟩
 case round =>
  clear F
  obtain ⟨i, hi, rfl, F⟩ := hrel
  obtain ⟨j, hj⟩ : ∃ j, i + k = j := ⟨_, rfl⟩
  have mj : (i : Int) + (k : Int) = (j : Int) := by omega
  by_cases hlt : j < 32
  ·have hi32 : i < 32 := by omega
   obtain ⟨x, hx⟩ : ∃ x, lim m j = x := ⟨_, rfl⟩
   have hx1 : x < 4294967296 := by rw [← hx]; exact lim_lt _ _
   obtain ⟨p, hp⟩ : ∃ p, x / 2 ^ s = p := ⟨_, rfl⟩
   have hp1 : p < 4294967296 := by rw [← hp]; exact Nat.lt_of_le_of_lt (Nat.div_le_self _ _) hx1
   have m1 : (x : Int) / 2 ^ s = (p : Int) := by rw [← hp]; exact shr_cast x s
   have c1 := (F.get (b := b2) tL).cell (limA_at (m := m) hlt)
   rw [hx] at c1
   have c2 := (F.get (b := b5) Lies.here).cell (limA_at (m := r % bp i) hi32)
   have f2 := BlkAt.fz (F.get (b := b5) Lies.here) i
   have i0 : (0 : Int) ≤ (i : Int) := by omega
   have i1 : (i : Int) < 32 := by omega
   have j0 : (0 : Int) ≤ (j : Int) := by omega
   have j1 : (j : Int) < 32 := by omega
   have hstep : setM (r % bp i) i (lim r i) = r % bp (i + 1) := by
    rw [setM_new (Nat.mod_lt _ (bp_pos i)), mod_succ]
   have HWp := Lib.hid ((F.cellA (A := []) i (.int .u32 p)).is (limA_set hp1))
   have HIJ := Lib.hid (And.intro (show i + 1 + k ≤ 32 by omega) (And.intro hj hi32))
   by_cases hone : ¬ (0 < s ∧ j + 1 < 32)
   ·have hpp : p = lim r i := by
     rw [← hp, ← hx, HS.out.1]
     by_cases h0s : 0 < s
     ·have hj2 : lim m (j + 1) = 0 := by
       have e : j + 1 = 32 := by omega
       rw [e]
       exact lim_ge (n := 32) HS.out.2.2.2 (Nat.le_refl _)
      rw [lim_shr h0s HK.out.2, lim_up, lim_up, hj, show i + 1 + k = j + 1 by omega, hj2, Nat.zero_mul, Nat.zero_mod, Nat.or_zero]
     ·have e : s = 0 := by omega
      rw [e, Nat.pow_zero, Nat.div_one, Nat.div_one, lim_up, hj]
    have HN := Lib.hid (show Fr w (wr.setCell ⟨b5, i, none⟩ (.int .u32 p)) [(b5, limA 32 (r % bp (i + 1)), 27), (b4, limA 32 0, 27), (b2, limA 32 m, 27)] by
     have h := HWp.out
     rw [hpp, hstep, ← hpp] at h
     exact h)
    have hcase : (s = 0 ∧ p = x) ∨ (0 < s ∧ ¬ j + 1 < 32) := by
     by_cases h : s = 0
     ·exact .inl ⟨h, by rw [← hp, h, Nat.pow_zero, Nat.div_one]⟩
     ·exact .inr (by omega)
    have hmin : min s 32 = s := Nat.min_eq_left (by have := HK.out.2; omega)
    clear hpp hstep HWp hx hp F
    rcases hcase with ⟨h0, h1⟩ | ⟨h0, hj2⟩
    ·subst h0
     subst h1
     obtain ⟨wj1, wj2, wj3⟩ := wraps (j := j) (by omega)
     clear hone hi hj hx1 hp1
     go_wp2_with fail
     go_roundw
     case rel => exact ⟨i + 1, HIJ.out.1, by first | rfl | go_num, HN.out⟩
     case measure => exact meas_up HIJ.out.2.2
    ·have s0 : (0 : Int) < (s : Int) := by omega
     obtain rfl : j = 31 := by omega
     have mj : (i : Int) + (k : Int) = 31 := mj
     have HI1 := Lib.hid (show IntKind.i64.wrap ((i : Int) + 1) = ((i + 1 : Nat) : Int) by rw [show (i : Int) + 1 = ((i + 1 : Nat) : Int) by omega]; exact (wraps (j := i + 1) (by omega)).2.1)
     clear hone hi hj hx1 hp1 h0 hj2 j0 j1
     go_wp2_with fail
     go_roundw
     case rel => exact ⟨i + 1, HIJ.out.1, by first | rfl | go_num, HN.out⟩
     case measure => exact meas_up HIJ.out.2.2
   rw [Classical.not_not] at hone
   obtain ⟨h0s, hj2⟩ := hone
   have s0 : (0 : Int) < (s : Int) := by omega
   obtain ⟨e, he⟩ : ∃ e, 32 - s = e := ⟨_, rfl⟩
   obtain ⟨y, hy⟩ : ∃ y, lim m (j + 1) = y := ⟨_, rfl⟩
   obtain ⟨q, hq⟩ : ∃ q, y * 2 ^ e % 4294967296 = q := ⟨_, rfl⟩
   obtain ⟨o, ho⟩ : ∃ o, p ||| q = o := ⟨_, rfl⟩
   obtain ⟨k1, hk1⟩ : ∃ k1, j + 1 = k1 := ⟨_, rfl⟩
   have hs32 := HK.out.2
   have m2 : (32 : Int) - (s : Int) = (e : Int) := by omega
   have m0 : (j : Int) + 1 = (k1 : Int) := by omega
   have k0 : (0 : Int) ≤ (k1 : Int) := by omega
   have k33 : (k1 : Int) < 32 := by omega
   have hq1 : q < 4294967296 := by rw [← hq]; exact Nat.mod_lt _ (by decide)
   have hoo : o = lim r i := by
    rw [← ho, ← hp, ← hq, ← hy, ← he, ← hx, HS.out.1, lim_shr h0s hs32, lim_up, lim_up, hj, show i + 1 + k = j + 1 by omega]
   have ho1 : o < 4294967296 := by rw [hoo]; exact lim_lt _ _
   have hk32 : k1 < 32 := by omega
   have hmin : min s 32 = s := Nat.min_eq_left (by omega)
   have hmin2 : min e 32 = e := Nat.min_eq_left (by omega)
   have F2 := HWp.out
   have c3 := (F2.get (b := b2) tL).cell (limA_at (m := m) (j := k1) hk32)
   rw [← hk1, hy, hk1] at c3
   have c4 := (F2.get (b := b5) Lies.here).cell (limA_at (m := setM (r % bp i) i p) hi32)
   have f4 := BlkAt.fz (F2.get (b := b5) Lies.here) i
   rw [lim_set hp1, if_pos rfl] at c4
   have HWo := (F2.cellA (A := []) i (.int .u32 o)).is (limA_set ho1)
   rw [setM_setM hp1, hoo, hstep, ← hoo] at HWo
   have HWw := Lib.hid HWo
   clear HWo
   have bj : j ≤ 100000 := by omega
   have bk : k1 ≤ 100000 := by omega
   have be : e ≤ 100000 := by omega
   have m3 : (y : Int) * 2 ^ e % 4294967296 = (q : Int) := by rw [← hq]; exact shl_cast y e
   have m5 : IntKind.u32.wrap ((y : Int) * 2 ^ e) = (q : Int) := by rw [IntKind.wrap_u32]; exact m3
   have mo : bits .or .u32 (p : Int) (q : Int) = (o : Int) := by rw [u32_or_nat p q hp1 hq1, ho]
   obtain ⟨wj1, wj2, wj3⟩ := wraps bj
   have HW8 := Lib.hid (And.intro (wraps bk) (And.intro (wraps be) (And.intro m3 (And.intro m5 (And.intro mo (And.intro m2 (And.intro k0 (And.intro k33 hmin2))))))))
   have HC := Lib.hid (And.intro c3 (And.intro c4 f4))
   obtain ⟨wk1, wk2, wk3⟩ := wraps bk
   have t3 : decide ((k1 : Int) < 32) = true := decide_eq_true k33
   clear hoo hy he hq ho hx hp hq1 hk1 hstep c3 c4 f4 F2 HWp F hx1 hp1 ho1 hs32 hi hj hj2 hlt hk32 bj bk be m3 m5 mo m2 k0 k33 hmin2
   go_upto_region 8 with (fail)
   clear c1 c2 f2 t3
   obtain ⟨c3, c4, f4⟩ := HC.out
   clear HC
   obtain ⟨-, ⟨we1, we2, we3⟩, m3, m5, mo, m2, k0, k33, hmin2⟩ := HW8.out
   clear HW8 s0 m1 hmin
   go_region_law (first | fail)
   all_goals
    go_simp
    try simp only [m3, m5, mo]
    go_wp2_with fail
    go_roundw
    case rel => exact ⟨i + 1, HIJ.out.1, by first | rfl | go_num, HWw.out.drew⟩
    case measure => exact meas_up HIJ.out.2.2
  ·have hik : i = 32 - k := by have := HK.out.1; omega
   have hrr : r % bp i = r := Nat.mod_eq_of_lt (by rw [hik]; exact HS.out.2.1)
   rw [hrr] at F
   have t3 : decide ((j : Int) < 32) = false := decide_eq_false (by omega)
   obtain ⟨wj1, wj2, wj3⟩ := wraps (j := j) (by omega)
   have HRR := Lib.hid HS.out.2.2.1
   clear hik hrr hlt hi hj HS HK
   go_wp2_with (first | go_skip | refine aY3 ?_ | (refine aT3 ?_; clear F; intro W F) | refine aN3 ?_)
   exact bodyPost_ret (res_c rfl rfl (Fr.get F tL) (rowArr _)) rfl ⟨by rw [HRR.out], F.below⟩
theorem u32_and1 {x : Nat} (hx : x < 4294967296) : bits .and .u32 (x : Int) 1 = ((x % 2 : Nat) : Int) := by
 have h := bits_mask .u32 32 (by decide) (fun n h0 h1 => by rw [IntKind.wrap_u32]; omega) 1 (by decide) (x : Int) (by omega) (by omega)
 rw [show (2 : Int) ^ 1 - 1 = 1 from rfl, show (2 : Int) ^ 1 = 2 from rfl] at h
 rw [h]
 omega
theorem wrap_pred {D : Nat} (h : D ≤ 1024) : RowKit.wrap64 ((D : Int) - 1) = (D : Int) - 1 := by rw [RowKit.wrap64]; omega
theorem meas_down {i : Nat} (h : i ≤ 1024) : (intOf (Value.int .i64 (RowKit.wrap64 ((i : Int) - 1))) + 1).toNat < (intOf (Value.int .i64 (i : Int)) + 1).toNat := by
 rw [wrap_pred h]
 simp only [intOf]
 omega
theorem meas_down2 (i : Nat) : (intOf (Value.int .i64 ((i : Int) - 1)) + 1).toNat < (intOf (Value.int .i64 (i : Int)) + 1).toNat := by
 simp only [intOf]
 omega
theorem built_intM (m : Nat) : Tryz.prog.built 29 [(1, .agg (limA 32 m))] = some (intC false m) := by kernel_rfl
theorem gB_intm {a : Act} {W : World} {K : Act → World → Prop} {Q : Exit → Act → World → Prop} {x : Operand} {dst : Option Tmp} {ty : TypeId} {pos : String} {af : Array Edge} {gd : Option (Nat × Bool)} {m : Nat} (hx : a.eval x = .agg (limA 32 m)) (hk : K (a.put dst (.agg (intC false m))) W) : OpW Tryz.prog ⟨dst, .build 29 #[(1, x)], ty, pos, af, gd⟩ a W K Q :=
 op_build _ _ rfl (by simp only [List.map_toArray, List.map_cons, List.map_nil, hx]; exact built_intM m) hk
set_option maxRecDepth 100000 in
theorem rdivide_any {a b : Nat} (la : a < bp 32) (lb : b < bp 32) (hb : b ≠ 0) {q r : Nat} (hq : a / b = q) (hr : a % b = r) (w : World) : Calls Tryz.prog 209 #[.agg (limA 32 a), .agg (limA 32 b)] w (RetB (.tuple #[.agg (limA 32 q), .agg (limA 32 r)]) w) := by
 have F := Fr.start w
 obtain ⟨na, hna, hua⟩ := used_ex a la
 obtain ⟨nb, hnb, hub⟩ := used_ex b lb
 have g1 := fun w => rlimbs_any la hua w
 have g2 := fun w => rlimbs_any lb hub w
 have HQ := Lib.hid (And.intro hq hr)
 have HU := Lib.hid (And.intro hua hub)
 have HL := Lib.hid (And.intro la lb)
 clear hua hub hq hr la lb
 go_enter Tryz.func209, Tryz.ntmps209
 go_wp2_with (first | go_skip | refine aY3 ?_ | (refine aT3 ?_; clear F; intro W F) | refine aN3 ?_)
 (clear F; intro b2 W F; try simp only [Act.put, z6, z1, z2])
 go_wp2_with (first | go_skip | refine aY3 ?_ | (refine aT3 ?_; clear F; intro W F) | refine aN3 ?_)
 (clear F; intro b3 W F; try simp only [Act.put, z6, z1, z2])
 go_wp2_with (first | go_skip | refine aY3 ?_ | (refine aT3 ?_; clear F; intro W F) | refine aN3 ?_)
 (clear F; intro b4 W F; try simp only [Act.put, z6, z1, z2])
 go_wp2_with (first | go_skip | refine aY3 ?_ | (refine aT3 ?_; clear F; intro W F) | refine aN3 ?_)
 (clear F; intro b5 W F; try simp only [Act.put, z6, z1, z2])
 by_cases h2 : na ≤ 2 ∧ nb ≤ 2
 ·have ha := (used_two HU.out.1).1 h2.1
  have hb2 := (used_two HU.out.2).1 h2.2
  have g3 := fun w => rlow_any ha w
  have g4 := fun w => rlow_any hb2 w
  have t1 : decide ((na : Int) ≤ 2) = true := decide_eq_true (by omega)
  have t2 : decide ((nb : Int) ≤ 2) = true := decide_eq_true (by omega)
  have hq1 : q < 18446744073709551616 := by rw [← HQ.out.1]; exact Nat.lt_of_le_of_lt (Nat.div_le_self _ _) ha
  have hr1 : r < 18446744073709551616 := by rw [← HQ.out.2]; exact Nat.lt_of_le_of_lt (Nat.mod_le _ _) ha
  have g5 := fun w => rsmall_any hq1 w
  have g6 := fun w => rsmall_any hr1 w
  have b0 : ((b : Int) == 0) = false := by rw [beq_eq_false_iff_ne]; omega
  have m1 : (a : Int).tdiv (b : Int) = (q : Int) := by rw [← Int.ofNat_tdiv, HQ.out.1]
  have m2 : (a : Int).tmod (b : Int) = (r : Int) := by rw [← Int.ofNat_tmod, HQ.out.2]
  have w1 := wrap64 hq1
  have w2 := wrap64 hr1
  clear h2 ha hb2 hq1 hr1 HU HQ HL hna hnb
  go_wp2_with (first | go_skip | ((go_at_call 189); (with_reducible refine fr_call F (g1 _) ?_); (clear F; intro W F); (try dsimp only)) | ((go_at_call 189); (with_reducible refine fr_call F (g2 _) ?_); (clear F; intro W F); (try dsimp only)) | refine aY3 ?_ | (refine aT3 ?_; clear F; intro W F) | refine aN3 ?_)
  try simp only [Act.put, z6, z1, z2]
  refine wp_region_slots mixP [18, 19, 20, 21, 22, 23, 24, 25, 26, 27, 28, 29] (fun l mm W => ∃ (s18 s19 s20 s21 s22 s23 s24 s25 s26 s27 s28 s29 : Value) (c_b4 c_b5 : Array Value), mm = [s18, s19, s20, s21, s22, s23, s24, s25, s26, s27, s28, s29] ∧ Fr w W [(b5, c_b5, 27), (b4, c_b4, 27), (b3, limA 32 b, 27), (b2, limA 32 a, 27)] ∧ On l 0 [s18 = .agg (limA 32 a), s19 = .int .u64 a, s20 = .agg (limA 32 b), s21 = .int .u64 b, s22 = .int .u64 q, s23 = .agg (limA 32 q), s24 = .agg (limA 32 a), s25 = .int .u64 a, s26 = .agg (limA 32 b), s27 = .int .u64 b, s28 = .int .u64 r, s29 = .agg (limA 32 r), c_b4 = limA 32 q, c_b5 = limA 32 r] ∧ c_b4.size = (limA 32 q).size ∧ c_b5.size = (limA 32 r).size ∧ True) (by kernel_rfl) (putAll_self _ _) ?_ ?_ ?_
  ·exact ⟨_, _, _, _, _, _, _, _, _, _, _, _, (limA 32 0), (limA 32 0), rfl, F.drew, On.none _ _ _, dT⟩
  ·rintro listed mm W ii hi hsz hoff ⟨s18, s19, s20, s21, s22, s23, s24, s25, s26, s27, s28, s29, c_b4, c_b5, rfl, HF, hH, hz0, hz1, -⟩ hd
   simp only [putAll, z1, z2]
   obtain rfl | rfl | rfl | rfl | rfl | rfl | rfl | rfl | rfl | rfl | rfl | rfl | rfl | rfl := dr_c14 hi
   ·exact oY3
   ·obtain rfl : s18 = _ := dh 0 hH hd
    refine ow rfl rfl fun K hK => ?_
    refine ⟨?_⟩
    go_simp
    with_reducible refine fr_call HF (g3 _) ?_
    exact oC
   ·exact oY3
   ·obtain rfl : s20 = _ := dh 2 hH hd
    refine ow rfl rfl fun K hK => ?_
    refine ⟨?_⟩
    go_simp
    with_reducible refine fr_call HF (g4 _) ?_
    exact oC
   ·obtain rfl : s19 = _ := dh 1 hH hd
    obtain rfl : s21 = _ := dh 3 hH hd
    exact oP
   ·obtain rfl : s22 = _ := dh 4 hH hd
    refine ow rfl rfl fun K hK => ?_
    refine ⟨?_⟩
    go_simp
    with_reducible refine fr_call HF (g5 _) ?_
    exact oC
   ·exact oY3
   ·obtain rfl : s24 = _ := dh 6 hH hd
    refine ow rfl rfl fun K hK => ?_
    refine ⟨?_⟩
    go_simp
    with_reducible refine fr_call HF (g3 _) ?_
    exact oC
   ·exact oY3
   ·obtain rfl : s26 = _ := dh 8 hH hd
    refine ow rfl rfl fun K hK => ?_
    refine ⟨?_⟩
    go_simp
    with_reducible refine fr_call HF (g4 _) ?_
    exact oC
   ·obtain rfl : s25 = _ := dh 7 hH hd
    obtain rfl : s27 = _ := dh 9 hH hd
    exact oP
   ·obtain rfl : s28 = _ := dh 10 hH hd
    refine ow rfl rfl fun K hK => ?_
    refine ⟨?_⟩
    go_simp
    with_reducible refine fr_call HF (g6 _) ?_
    exact oC
   ·obtain rfl : s23 = _ := dh 5 hH hd
    exact oT3
   ·obtain rfl : s29 = _ := dh 11 hH hd
    exact oT3
  rintro listed mm W ⟨s18, s19, s20, s21, s22, s23, s24, s25, s26, s27, s28, s29, c_b4, c_b5, rfl, HF, hH, hz0, hz1, -⟩ hall
  obtain ⟨rfl, rfl, rfl, rfl, rfl, rfl, rfl, rfl, rfl, rfl, rfl, rfl, e12, e13⟩ := onA hH hall
  rw [e12] at HF
  rw [e13] at HF
  clear hall hH e12 e13 hz0 hz1 F
  have F := HF
  clear HF
  simp only [putAll, z1, z2]
  go_wp2_with (first | go_skip | refine aY3 ?_ | (refine aT3 ?_; clear F; intro W F) | refine aN3 ?_)
  exact bodyPost_ret (res_cc rfl rfl rfl (Fr.get F tL) (rowArr _) (Fr.get F tL) (rowArr _)) rfl ⟨rfl, F.below⟩
 have hcase : (decide ((na : Int) ≤ 2) = true ∧ decide ((nb : Int) ≤ 2) = false) ∨ decide ((na : Int) ≤ 2) = false := by
  by_cases h : na ≤ 2
  ·exact .inl ⟨decide_eq_true (by omega), decide_eq_false (by omega)⟩
  ·exact .inr (decide_eq_false (by omega))
 clear h2
 go_upto_region 1 with (first | go_skip | refine aY3 ?_ | (refine aT3 ?_; clear F; intro W F) | refine aN3 ?_)
 go_cut [17] from 10 to 17 (fun v wr => v = .bool false ∧ Fr w wr [(b5, limA 32 0, 27), (b4, limA 32 0, 27), (b3, limA 32 b, 27), (b2, limA 32 a, 27)])
 case first =>
  rcases hcase with ⟨t1, t2⟩ | t1
  all_goals
   go_wp2_with (first | go_skip | ((go_at_call 189); (with_reducible refine fr_call F (g1 _) ?_); (clear F; intro W F); (try dsimp only)) | ((go_at_call 189); (with_reducible refine fr_call F (g2 _) ?_); (clear F; intro W F); (try dsimp only)) | refine aY3 ?_ | (refine aT3 ?_; clear F; intro W F) | refine aN3 ?_)
   go_meet
   exact ⟨rfl, F⟩
 case rest =>
 clear F
 obtain ⟨rfl, F⟩ := hcut
 clear hcase g1 g2 HU hna hnb
 have g1 := fun w => rbits_any (neg := false) HL.out.1 w
 have g2 := fun w => rbits_any (neg := false) HL.out.2 w
 have hA := bl_lt a
 have hA2 := bl_1024 HL.out.1
 have hB := bl_ge hb
 have hB1 := bl_pos hb
 have hB2 := bl_1024 HL.out.2
 obtain ⟨A, hA0⟩ : ∃ A, bl a = A := ⟨_, rfl⟩
 obtain ⟨B, hB0⟩ : ∃ B, bl b = B := ⟨_, rfl⟩
 obtain ⟨n, hn⟩ : ∃ n, B - 1 = n := ⟨_, rfl⟩
 rw [hA0] at g1 hA hA2
 rw [hB0] at g2 hB hB1 hB2
 rw [hn] at hB
 have e1 : (B : Int) - 1 = (n : Int) := by omega
 have hnb : n ≤ 100000 := by omega
 obtain ⟨wn1, wn2, wn3⟩ := wraps hnb
 have HAB := Lib.hid (And.intro hA hB)
 clear hA hB hA0 hB0
 go_wp2_with (first | go_skip | refine aY3 ?_ | (refine aT3 ?_; clear F; intro W F) | refine aN3 ?_)
 try simp only [Act.put, z6, z1, z2]
 refine wp_region_slots mixP [6, 7, 30, 31, 32, 33, 34, 35, 36] (fun l mm W => ∃ (s6 s7 s30 s31 s32 s33 s34 s35 s36 : Value), mm = [s6, s7, s30, s31, s32, s33, s34, s35, s36] ∧ Fr w W [(b5, limA 32 0, 27), (b4, limA 32 0, 27), (b3, limA 32 b, 27), (b2, limA 32 a, 27)] ∧ On l 0 [s30 = .agg (limA 32 a), s31 = .agg (intC false a), s32 = .int .i64 A, s33 = .agg (limA 32 b), s34 = .agg (intC false b), s35 = .int .i64 B, s36 = .int .i64 n, s6 = .int .i64 A, s7 = .int .i64 n] ∧ True) (by kernel_rfl) (putAll_self _ _) ?_ ?_ ?_
 ·exact ⟨_, _, _, _, _, _, _, _, _, rfl, F.drew, On.none _ _ _, dT⟩
 ·rintro listed mm W ii hi hsz hoff ⟨s6, s7, s30, s31, s32, s33, s34, s35, s36, rfl, HF, hH, -⟩ hd
  simp only [putAll, z1, z2]
  obtain rfl | rfl | rfl | rfl | rfl | rfl | rfl | rfl | rfl := dr_c9 hi
  ·exact oY3
  ·obtain rfl : s30 = _ := dh 0 hH hd
   refine ow rfl rfl fun K hK => ?_
   with_reducible apply gB_intm
   ·exact rfl
   exact oR
  ·obtain rfl : s31 = _ := dh 1 hH hd
   refine ow rfl rfl fun K hK => ?_
   refine ⟨?_⟩
   go_simp
   with_reducible refine fr_call HF (g1 _) ?_
   exact oC
  ·exact oY3
  ·obtain rfl : s33 = _ := dh 3 hH hd
   refine ow rfl rfl fun K hK => ?_
   with_reducible apply gB_intm
   ·exact rfl
   exact oR
  ·obtain rfl : s34 = _ := dh 4 hH hd
   refine ow rfl rfl fun K hK => ?_
   refine ⟨?_⟩
   go_simp
   with_reducible refine fr_call HF (g2 _) ?_
   exact oC
  ·obtain rfl : s35 = _ := dh 5 hH hd
   exact oP
  ·obtain rfl : s32 = _ := dh 2 hH hd
   exact oP
  ·obtain rfl : s36 = _ := dh 6 hH hd
   exact oP
 rintro listed mm W ⟨s6, s7, s30, s31, s32, s33, s34, s35, s36, rfl, HF, hH, -⟩ hall
 obtain ⟨rfl, rfl, rfl, rfl, rfl, rfl, rfl, rfl, rfl⟩ := onA hH hall
 clear hall hH  F
 have F := HF
 clear HF
 simp only [putAll, z1, z2]
 clear g1 g2 wn1 wn2 wn3 hnb
 by_cases hAn : A ≤ n
 ·have hab : a < b := by
   have h1 := Nat.pow_le_pow_right (n := 2) (by decide) hAn
   have := HAB.out.1
   have := HAB.out.2
   omega
  have hq : q = 0 := by rw [← HQ.out.1]; exact Nat.div_eq_of_lt hab
  have hr : r = a := by rw [← HQ.out.2]; exact Nat.mod_eq_of_lt hab
  subst hq
  subst hr
  have t1 : decide (A ≤ n) = true := decide_eq_true hAn
  clear hab e1 hn hB1 hB2 hA2 HAB HQ HL
  go_wp2_with (first | go_skip | refine aY3 ?_ | (refine aT3 ?_; clear F; intro W F) | refine aN3 ?_)
  try simp only [Act.put, z6, z1, z2]
  refine wp_region_slots mixP [40, 41] (fun l mm W => ∃ (s40 s41 : Value) (c_b4 c_b5 : Array Value), mm = [s40, s41] ∧ Fr w W [(b5, c_b5, 27), (b4, c_b4, 27), (b3, limA 32 b, 27), (b2, limA 32 r, 27)] ∧ On l 0 [s40 = .agg (limA 32 0), s41 = .agg (limA 32 r), c_b4 = limA 32 0, c_b5 = limA 32 r] ∧ Wt l [(2, 0)] ∧ (l.getD 2 false = false → c_b4 = limA 32 0) ∧ c_b4.size = (limA 32 0).size ∧ c_b5.size = (limA 32 r).size ∧ True) (by kernel_rfl) (putAll_self _ _) ?_ ?_ ?_
  ·exact ⟨_, _, (limA 32 0), (limA 32 0), rfl, F.drew, On.none _ _ _, Wt.none _ _, fun _ => rfl, dT⟩
  ·rintro listed mm W ii hi hsz hoff ⟨s40, s41, c_b4, c_b5, rfl, HF, hH, hw, hO_b4, hz0, hz1, -⟩ hd
   simp only [putAll, z1, z2]
   obtain rfl | rfl | rfl | rfl := dr_c4 hi
   ·have hold := oldG hO_b4 hw hoff
    rw [hold] at HF
    exact oY3o
   ·exact oY3
   ·obtain rfl : s40 = _ := dh 0 hH hd
    exact oT3
   ·obtain rfl : s41 = _ := dh 1 hH hd
    exact oT3
  rintro listed mm W ⟨s40, s41, c_b4, c_b5, rfl, HF, hH, hw, hO_b4, hz0, hz1, -⟩ hall
  obtain ⟨rfl, rfl, e2, e3⟩ := onA hH hall
  rw [e2] at HF
  rw [e3] at HF
  clear hall hH e2 e3 hw hO_b4 hz0 hz1 F
  have F := HF
  clear HF
  simp only [putAll, z1, z2]
  go_wp2_with (first | go_skip | refine aY3 ?_ | (refine aT3 ?_; clear F; intro W F) | refine aN3 ?_)
  exact bodyPost_ret (res_cc rfl rfl rfl (Fr.get F tL) (rowArr _) (Fr.get F tL) (rowArr _)) rfl ⟨rfl, F.below⟩
 obtain ⟨D, hD⟩ : ∃ D, A - n = D := ⟨_, rfl⟩
 have hs : a / 2 ^ D < b := by
  have h1 := shr_small (n := n) HAB.out.1
  rw [hD] at h1
  exact Nat.lt_of_lt_of_le h1 HAB.out.2
 have g3 := fun w => rshifted_any HL.out.1 (n := D) (by omega) w
 have HST := Lib.hid (And.intro (Nat.mod_eq_of_lt hs) (show a / 2 ^ D / b * 2 ^ D = 0 by rw [Nat.div_eq_of_lt hs, Nat.zero_mul]))
 have t1 : decide (A ≤ n) = false := decide_eq_false hAn
 have e2 : (A : Int) - (n : Int) = (D : Int) := by omega
 have hDb : D ≤ 1024 := by omega
 have HDB := Lib.hid hDb
 have we := wrap_pred hDb
 obtain ⟨wd1, wd2, wd3⟩ := wraps (j := D) (Nat.le_trans hDb (by decide))
 clear hs e1 hn hB1 hB2 hA2 HAB hD hDb
 go_wp2_with (first | go_skip | ((go_at_call 236); (with_reducible refine fr_call F (g3 _) ?_); (clear F; intro W F); (try dsimp only)) | refine aY3 ?_ | (refine aT3 ?_; clear F; intro W F) | refine aN3 ?_)
 go_loopw [8] (fun iv wr => ∃ k rk qk : Nat, k ≤ D ∧ iv = .int .i64 ((k : Int) - 1) ∧ a / 2 ^ k % b = rk ∧ a / 2 ^ k / b * 2 ^ k = qk ∧ Fr w wr [(b5, limA 32 rk, 27), (b4, limA 32 qk, 27), (b3, limA 32 b, 27), (b2, limA 32 a, 27)]) (fun iv _ => (intOf iv + 1).toNat)
 case atStart => exact ⟨D, _, 0, by omega, by first | rfl | exact congrArg (Value.int .i64) we, HST.out.1, HST.out.2, F⟩
 case round =>
  clear F g3 e2 wd1 wd2 wd3 we t1 HST
  obtain ⟨k, rk, qk, hk, rfl, hrk, hqk, F⟩ := hrel
  cases k with
  | zero =>
   rw [show ((0 : Nat) : Int) - 1 = -1 from rfl]
   rw [Nat.pow_zero, Nat.div_one] at hrk hqk
   rw [Nat.mul_one, HQ.out.1] at hqk
   rw [HQ.out.2] at hrk
   subst hrk
   subst hqk
   clear HQ HL HDB hk
   go_wp2_with fail
   try simp only [Act.put, z6, z1, z2]
   refine wp_region_slots mixP [89, 90] (fun l mm W => ∃ (s89 s90 : Value) (c_b4 c_b5 : Array Value), mm = [s89, s90] ∧ Fr w W [(b5, c_b5, 27), (b4, c_b4, 27), (b3, limA 32 b, 27), (b2, limA 32 a, 27)] ∧ On l 0 [s89 = .agg (limA 32 q), s90 = .agg (limA 32 r), c_b4 = limA 32 q, c_b5 = limA 32 r] ∧ Wt l [(2, 0), (3, 1)] ∧ (l.getD 2 false = false → c_b4 = limA 32 q) ∧ (l.getD 3 false = false → c_b5 = limA 32 r) ∧ c_b4.size = (limA 32 q).size ∧ c_b5.size = (limA 32 r).size ∧ True) (by kernel_rfl) (putAll_self _ _) ?_ ?_ ?_
   ·exact ⟨_, _, (limA 32 q), (limA 32 r), rfl, F.drew, On.none _ _ _, Wt.none _ _, fun _ => rfl, fun _ => rfl, dT⟩
   ·rintro listed mm W ii hi hsz hoff ⟨s89, s90, c_b4, c_b5, rfl, HF, hH, hw, hO_b4, hO_b5, hz0, hz1, -⟩ hd
    simp only [putAll, z1, z2]
    obtain rfl | rfl | rfl | rfl := dr_c4 hi
    ·have hold := oldG hO_b4 hw hoff
     rw [hold] at HF
     exact oY3o
    ·have hold := oldG hO_b5 hw hoff
     rw [hold] at HF
     exact oY3o
    ·obtain rfl : s89 = _ := dh 0 hH hd
     exact oT3
    ·obtain rfl : s90 = _ := dh 1 hH hd
     exact oT3
   rintro listed mm W ⟨s89, s90, c_b4, c_b5, rfl, HF, hH, hw, hO_b4, hO_b5, hz0, hz1, -⟩ hall
   obtain ⟨rfl, rfl, e2, e3⟩ := onA hH hall
   rw [e2] at HF
   rw [e3] at HF
   clear hall hH e2 e3 hw hO_b4 hO_b5 hz0 hz1 F
   have F := HF
   clear HF
   simp only [putAll, z1, z2]
   go_wp2_with (first | go_skip | refine aY3 ?_ | (refine aT3 ?_; clear F; intro W F) | refine aN3 ?_)
   exact bodyPost_ret (res_cc rfl rfl rfl (Fr.get F tL) (rowArr _) (Fr.get F tL) (rowArr _)) rfl ⟨rfl, F.below⟩
  | succ i =>
   have e1 : ((i + 1 : Nat) : Int) - 1 = (i : Int) := by omega
   rw [e1]
   clear e1
   have hi : i < 1024 := by have := HDB.out; omega
   obtain ⟨j, hj⟩ : ∃ j, i / 32 = j := ⟨_, rfl⟩
   obtain ⟨s, hs⟩ : ∃ s, i % 32 = s := ⟨_, rfl⟩
   have hij : i = 32 * j + s := by omega
   have hs32 : s < 32 := by omega
   have hj32 : j < 32 := by omega
   obtain ⟨R, hR⟩ : ∃ R, 2 * rk + a / 2 ^ i % 2 = R := ⟨_, rfl⟩
   obtain ⟨hrb, hlow, hhigh⟩ := div_step (by omega : 0 < b) hrk hqk hR
   have hq0 : qk % 2 ^ (i + 1) = 0 := by rw [← hqk]; exact Nat.mul_mod_left _ _
   obtain ⟨q1, q2, q3⟩ := quo_bit hij hs32 hq0
   obtain ⟨y, hy⟩ : ∃ y, lim qk j = y := ⟨_, rfl⟩
   obtain ⟨P, hP⟩ : ∃ P, 2 ^ s = P := ⟨_, rfl⟩
   rw [hy, hP] at q1 q2 q3
   obtain ⟨bit, hbit⟩ : ∃ bit, a / 2 ^ i % 2 = bit := ⟨_, rfl⟩
   obtain ⟨x, hx⟩ : ∃ x, lim a j = x := ⟨_, rfl⟩
   have hx1 : x < 4294967296 := by rw [← hx]; exact lim_lt _ _
   obtain ⟨p, hp⟩ : ∃ p, x / 2 ^ s = p := ⟨_, rfl⟩
   have hp1 : p < 4294967296 := by rw [← hp]; exact Nat.lt_of_le_of_lt (Nat.div_le_self _ _) hx1
   have hpb : p % 2 = bit := by rw [← hp, ← hx, bit_eq hij hs32, hbit]
   have hb1 : bit ≤ 1 := by omega
   rw [hbit] at hR
   obtain ⟨R', hR'⟩ : ∃ R', R % bp 32 = R' := ⟨_, rfl⟩
   obtain ⟨lost, hlost⟩ : ∃ f, decide (bp 32 ≤ R) = f := ⟨_, rfl⟩
   have g3 := fun w => rdouble_any (m := rk) (bit := bit) (r := R') (f := lost) (Nat.lt_trans hrb HL.out.2) hb1 (by rw [hR]; exact hR') (by rw [hR]; exact hlost) w
   have hR1 : R' < bp 32 := by rw [← hR']; exact Nat.mod_lt _ (bp_pos 32)
   have g4 := fun w => rcompare_any hR1 HL.out.2 w
   obtain ⟨v, hv⟩ : ∃ v, cmpN R' b = v := ⟨_, rfl⟩
   rw [hv] at g4
   have hways : (lost = true ∧ b ≤ R) ∨ (lost = false ∧ decide (0 ≤ v) = true ∧ b ≤ R) ∨ (lost = false ∧ decide (0 ≤ v) = false ∧ R < b ∧ R' = R) := by
    have hlb := HL.out.2
    by_cases h : bp 32 ≤ R
    ·exact .inl ⟨by rw [← hlost]; exact decide_eq_true h, by omega⟩
    ·have hRR : R' = R := by rw [← hR']; exact Nat.mod_eq_of_lt (by omega)
     have hl : lost = false := by rw [← hlost]; exact decide_eq_false h
     by_cases h2 : b ≤ R
     ·exact .inr (.inl ⟨hl, decide_eq_true (by rw [← hv, hRR]; unfold cmpN; rw [if_neg (by omega)]; split <;> omega), h2⟩)
     ·exact .inr (.inr ⟨hl, decide_eq_false (by rw [← hv, hRR]; unfold cmpN; rw [if_pos (by omega)]; omega), by omega, hRR⟩)
   have g5 : b ≤ R → ∀ w, Calls Tryz.prog 193 #[.agg (limA 32 R'), .agg (limA 32 b)] w (RetB (.agg (limA 32 (R - b))) w) := fun h w => rdiff_any hR1 HL.out.2 (by
    have hlb := HL.out.2
    rw [← hR']
    rcases Nat.lt_or_ge R (bp 32) with h3 | h3
    ·rw [Nat.mod_eq_of_lt h3, show R + bp 32 - b = R - b + bp 32 by omega, Nat.add_mod_right, Nat.mod_eq_of_lt (by omega)]
    ·rw [show R = R - bp 32 + bp 32 by omega, Nat.add_mod_right, Nat.mod_eq_of_lt (show R - bp 32 < bp 32 by omega), show R - bp 32 + bp 32 - b = R - b by omega, Nat.mod_eq_of_lt (by omega)]) w
   have ca : (limA 32 a)[j]? = some (.int .u32 x) := by rw [← hx]; exact limA_at hj32
   have d1 := tdiv_nat hj
   have d2 := tmod_nat hs
   have d5 : (i : Int).tdiv 32 = (j : Int) := d1
   have d6 : (i : Int).tmod 32 = (s : Int) := d2
   have d3 : (i : Int) / 32 = (j : Int) := by omega
   have d4 : (i : Int) % 32 = (s : Int) := by omega
   have hj5 : j ≤ 100000 := by omega
   have hs5 : s ≤ 100000 := by omega
   have hs33 := hs32
   have m1 : (x : Int) / 2 ^ s = (p : Int) := by rw [← hp]; exact shr_cast x s
   have m2 : bits .and .u32 (p : Int) 1 = (bit : Int) := by rw [u32_and1 hp1, hpb]
   have hmin : min s 32 = s := Nat.min_eq_left (by omega)
   have i0 : (0 : Int) ≤ (i : Int) := by omega
   have j0 : (0 : Int) ≤ (j : Int) := by omega
   have j1 : (j : Int) < 32 := by omega
   have HST := Lib.hid (And.intro hlow (And.intro hhigh (And.intro hways g5)))
   have HQQ := Lib.hid (And.intro q1 (And.intro q2 (And.intro q3 (And.intro hy (And.intro hP (And.intro hj32 (show i ≤ D by omega)))))))
   obtain ⟨wj1, wj2, wj3⟩ := wraps hj5
   obtain ⟨-, -, ws3⟩ := wraps hs5
   clear hj hs hij hs32 hR hrb hlow hhigh hq0 q1 q2 q3 hP hbit hx hx1 hp hp1 hpb hb1 hR' hlost hR1 hv hways g5 hrk hqk hk
   have HI0 := Lib.hid (Nat.le_of_lt hi)
   clear hi
   go_wp2_with (first | go_skip | refine aY3 ?_ | (refine aT3 ?_; clear F; intro W F) | refine aN3 ?_)
   try simp only [Act.put, z6, z1, z2]
   refine wp_region_slots mixP [9, 55, 56, 57, 58, 59, 60, 61, 62, 63, 64, 65, 66, 67, 68] (fun l mm W => ∃ (s9 s55 s56 s57 s58 s59 s60 s61 s62 s63 s64 s65 s66 s67 s68 : Value) (c_b5 : Array Value), mm = [s9, s55, s56, s57, s58, s59, s60, s61, s62, s63, s64, s65, s66, s67, s68] ∧ Fr w W [(b5, c_b5, 27), (b4, limA 32 qk, 27), (b3, limA 32 b, 27), (b2, limA 32 a, 27)] ∧ On l 0 [s56 = .agg (limA 32 rk), s57 = .int .i64 (i : Int), s58 = .int .i64 (j : Int), s59 = .pointer (some ⟨b2, j, none⟩), s60 = .int .u32 (x : Int), s61 = .int .i64 (i : Int), s62 = .int .i64 (s : Int), s63 = .int .u64 (s : Int), s64 = .int .u32 (p : Int), s65 = .int .u32 (bit : Int), s66 = .tuple #[.agg (limA 32 R'), .bool lost], s55 = .tuple #[.agg (limA 32 R'), .bool lost], s67 = .agg (limA 32 R'), s68 = .bool lost, c_b5 = limA 32 R', s9 = .bool lost] ∧ Wt l [(14, 0)] ∧ (l.getD 14 false = false → c_b5 = limA 32 rk) ∧ c_b5.size = (limA 32 R').size ∧ True) (by kernel_rfl) (putAll_self _ _) ?_ ?_ ?_
   ·exact ⟨_, _, _, _, _, _, _, _, _, _, _, _, _, _, _, (limA 32 rk), rfl, F.drew, On.none _ _ _, Wt.none _ _, fun _ => rfl, dT⟩
   ·rintro listed mm W ii hi hsz hoff ⟨s9, s55, s56, s57, s58, s59, s60, s61, s62, s63, s64, s65, s66, s67, s68, c_b5, rfl, HF, hH, hw, hO_b5, hz0, -⟩ hd
    simp only [putAll, z1, z2]
    obtain rfl | rfl | rfl | rfl | rfl | rfl | rfl | rfl | rfl | rfl | rfl | rfl | rfl | rfl | rfl | rfl := dr_c16 hi
    ·have hold := oldG hO_b5 hw hoff
     rw [hold] at HF
     exact oY3o
    ·exact oP
    ·obtain rfl : s57 = _ := dh 1 hH hd
     exact oP
    ·obtain rfl : s58 = _ := dh 2 hH hd
     exact oP
    ·obtain rfl : s59 = _ := dh 3 hH hd
     have cF := BlkAt.cell (Fr.get HF (b := b2) (cs := limA 32 a) (by (exact tL))) (ca)
     exact oP
    ·exact oP
    ·obtain rfl : s61 = _ := dh 5 hH hd
     exact oP
    ·obtain rfl : s62 = _ := dh 6 hH hd
     exact oP
    ·obtain rfl : s60 = _ := dh 4 hH hd
     obtain rfl : s63 = _ := dh 7 hH hd
     refine ow rfl rfl fun K hK => ?_
     clear d1 d2 d3 d4 d5 d6 i0 j0 j1 hj32 wj1 wj2 wj3 ws3 hj5 hs5 hs33
     exact oQ
    ·obtain rfl : s64 = _ := dh 8 hH hd
     exact oP
    ·obtain rfl : s56 = _ := dh 0 hH hd
     obtain rfl : s65 = _ := dh 9 hH hd
     refine ow rfl rfl fun K hK => ?_
     refine ⟨?_⟩
     go_simp
     with_reducible refine fr_call HF (g3 _) ?_
     exact oC
    ·obtain rfl : s66 = _ := dh 10 hH hd
     exact oP
    ·obtain rfl : s55 = _ := dh 11 hH hd
     exact oP
    ·obtain rfl : s55 = _ := dh 11 hH hd
     exact oP
    ·obtain rfl : s67 = _ := dh 12 hH hd
     exact oT3
    ·obtain rfl : s68 = _ := dh 13 hH hd
     exact oP
   rintro listed mm W ⟨s9, s55, s56, s57, s58, s59, s60, s61, s62, s63, s64, s65, s66, s67, s68, c_b5, rfl, HF, hH, hw, hO_b5, hz0, -⟩ hall
   obtain ⟨rfl, rfl, rfl, rfl, rfl, rfl, rfl, rfl, rfl, rfl, rfl, rfl, rfl, rfl, e14, rfl⟩ := onA hH hall
   rw [e14] at HF
   clear hall hH e14 hw hO_b5 hz0 F
   have F := HF
   clear HF
   simp only [putAll, z1, z2]
   have HJ := Lib.hid (And.intro hj32 (And.intro hj5 (And.intro hs5 (And.intro hs33 (And.intro d1 d2)))))
   clear g3 m1 m2 ca d1 d2 d3 d4 d5 d6 i0 j0 j1 hj32 wj1 wj2 wj3 ws3 hj5 hs5 hs33 hmin
   have hi : i ≤ 1024 := HI0.out
   rcases HST.out.2.2.1 with ⟨rfl, hbR⟩ | ⟨rfl, t1, hbR⟩ | ⟨rfl, t1, hlt, hRR⟩
   ·skip
    have g5 := HST.out.2.2.2 hbR
    have HN := Lib.hid (And.intro (HST.out.2.1 hbR).1 (And.intro (HST.out.2.1 hbR).2 (And.intro HQQ.out.2.2.2.2.2.2 hi)))
    clear HST hbR hi
    go_upto_region 14 with (first | go_skip | ((go_at_call 192); (with_reducible refine fr_call F (g4 _) ?_); (clear F; intro W F); (try dsimp only)) | ((go_at_call 193); (with_reducible refine fr_call F (g5 _) ?_); (clear F; intro W F); (try dsimp only)) | refine aY3 ?_ | (refine aT3 ?_; clear F; intro W F) | refine aN3 ?_)
    clear g4 g5
    obtain ⟨q1, q2, q3, hy, hP, -, -⟩ := HQQ.out
    obtain ⟨hj32, hj5, hs5, hs32, d1, d2⟩ := HJ.out
    have c4 := (F.get (b := b4) tL).cell (limA_at (n := 32) (m := qk) hj32)
    rw [hy] at c4
    have f4 := BlkAt.fz (F.get (b := b4) tL) j
    obtain ⟨o, ho⟩ : ∃ o, y + P = o := ⟨_, rfl⟩
    rw [ho] at q1 q2 q3
    have HW := (F.cellA (A := [(b5, limA 32 (R - b), 27)]) j (.int .u32 o)).is2 (limA_set q2)
    rw [q3] at HW
    have HWW := Lib.hid HW
    have hP1 : P < 4294967296 := by omega
    have hy1 : y < 4294967296 := by omega
    have m6 : IntKind.u32.wrap (P : Int) = (P : Int) := by rw [IntKind.wrap_u32]; omega
    have m7 : (2 : Int) ^ s = (P : Int) := by rw [← hP]; push_cast; rfl
    have mo : bits .or .u32 (y : Int) (P : Int) = (o : Int) := by rw [u32_or_nat y P hy1 hP1, q1]
    have hmin : min s 32 = s := Nat.min_eq_left (by omega)
    have d5 : (i : Int).tdiv 32 = (j : Int) := d1
    have d6 : (i : Int).tmod 32 = (s : Int) := d2
    have j0 : (0 : Int) ≤ (j : Int) := by omega
    have j1 : (j : Int) < 32 := by omega
    obtain ⟨wj1, wj2, wj3⟩ := wraps hj5
    obtain ⟨-, -, ws3⟩ := wraps hs5
    clear HW F q1 q2 q3 ho hP hP1 hy1 hj32 hj5 hs5 hs32 HQQ HJ
    go_wp2_with fail
    go_roundw
    case rel => exact ⟨i, _, _, HN.out.2.2.1, by first | rfl | exact congrArg (Value.int .i64) (wrap_pred HN.out.2.2.2), HN.out.1, HN.out.2.1, HWW.out⟩
    case measure => first | exact meas_down HN.out.2.2.2 | exact meas_down2 i
   ·skip
    have g5 := HST.out.2.2.2 hbR
    have HN := Lib.hid (And.intro (HST.out.2.1 hbR).1 (And.intro (HST.out.2.1 hbR).2 (And.intro HQQ.out.2.2.2.2.2.2 hi)))
    clear HST hbR hi
    go_upto_region 14 with (first | go_skip | ((go_at_call 192); (with_reducible refine fr_call F (g4 _) ?_); (clear F; intro W F); (try dsimp only)) | ((go_at_call 193); (with_reducible refine fr_call F (g5 _) ?_); (clear F; intro W F); (try dsimp only)) | refine aY3 ?_ | (refine aT3 ?_; clear F; intro W F) | refine aN3 ?_)
    clear g4 g5
    obtain ⟨q1, q2, q3, hy, hP, -, -⟩ := HQQ.out
    obtain ⟨hj32, hj5, hs5, hs32, d1, d2⟩ := HJ.out
    have c4 := (F.get (b := b4) tL).cell (limA_at (n := 32) (m := qk) hj32)
    rw [hy] at c4
    have f4 := BlkAt.fz (F.get (b := b4) tL) j
    obtain ⟨o, ho⟩ : ∃ o, y + P = o := ⟨_, rfl⟩
    rw [ho] at q1 q2 q3
    have HW := (F.cellA (A := [(b5, limA 32 (R - b), 27)]) j (.int .u32 o)).is2 (limA_set q2)
    rw [q3] at HW
    have HWW := Lib.hid HW
    have hP1 : P < 4294967296 := by omega
    have hy1 : y < 4294967296 := by omega
    have m6 : IntKind.u32.wrap (P : Int) = (P : Int) := by rw [IntKind.wrap_u32]; omega
    have m7 : (2 : Int) ^ s = (P : Int) := by rw [← hP]; push_cast; rfl
    have mo : bits .or .u32 (y : Int) (P : Int) = (o : Int) := by rw [u32_or_nat y P hy1 hP1, q1]
    have hmin : min s 32 = s := Nat.min_eq_left (by omega)
    have d5 : (i : Int).tdiv 32 = (j : Int) := d1
    have d6 : (i : Int).tmod 32 = (s : Int) := d2
    have j0 : (0 : Int) ≤ (j : Int) := by omega
    have j1 : (j : Int) < 32 := by omega
    obtain ⟨wj1, wj2, wj3⟩ := wraps hj5
    obtain ⟨-, -, ws3⟩ := wraps hs5
    clear HW F q1 q2 q3 ho hP hP1 hy1 hj32 hj5 hs5 hs32 HQQ HJ
    go_wp2_with fail
    go_roundw
    case rel => exact ⟨i, _, _, HN.out.2.2.1, by first | rfl | exact congrArg (Value.int .i64) (wrap_pred HN.out.2.2.2), HN.out.1, HN.out.2.1, HWW.out⟩
    case measure => first | exact meas_down HN.out.2.2.2 | exact meas_down2 i
   ·subst hRR
    have HN := Lib.hid (And.intro (HST.out.1 hlt).1 (And.intro (HST.out.1 hlt).2 (And.intro HQQ.out.2.2.2.2.2.2 hi)))
    clear HST hlt HQQ
    go_wp2_with (first | go_skip | ((go_at_call 192); (with_reducible refine fr_call F (g4 _) ?_); (clear F; intro W F); (try dsimp only)) | refine aY3 ?_ | (refine aT3 ?_; clear F; intro W F) | refine aN3 ?_)
    go_roundw
    case rel => exact ⟨i, _, _, HN.out.2.2.1, by first | rfl | exact congrArg (Value.int .i64) (wrap_pred HN.out.2.2.2), HN.out.1, HN.out.2.1, F⟩
    case measure => first | exact meas_down HN.out.2.2.2 | exact meas_down2 i
end
end Go.Proofs.YteaahhokaffmdaaGreatDoor
