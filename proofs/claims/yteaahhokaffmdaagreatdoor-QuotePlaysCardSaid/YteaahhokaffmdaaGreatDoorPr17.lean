/- What the laws lean on. -/
import Derived.Test.YteaahhokaffmdaaGreatDoorPr11
namespace Go.Proofs.YteaahhokaffmdaaGreatDoor
set_option linter.unusedVariables false
set_option linter.unusedSimpArgs false
section
section
open Go.RowKit
theorem ahead_mono (y : Int) {a b : Int} (h1 : 1 ≤ a) (h : a < b) (h2 : b ≤ 12) : aheadM y a + lenM y a ≤ aheadM y b := by
  have := lp_bd y
  rcases m12 h1 (by omega) with rfl | rfl | rfl | rfl | rfl | rfl | rfl | rfl | rfl | rfl | rfl | rfl <;>
    rcases m12 (m := b) (by omega) h2 with rfl | rfl | rfl | rfl | rfl | rfl | rfl | rfl | rfl | rfl | rfl | rfl <;> first | omega | (simp [aheadM, lenM] <;> omega)
end
end
section
open Go.RowKit
section
variable {P : Program} {o : Oper} {a : Act} {w W : World} {K : Act → World → Prop} {Q : Exit → Act → World → Prop} {F A L : List Ent} {b : Nat} {cs : Array Value} {t : TypeId}
theorem wplF_load {ops : Array Oper} {rest : List Oper} (h : Fr w W F) (hw : Region.wanted o (yielded ops a.tmps) = true) (T : TypeId) (x : Operand) (ho : o.op = .load T x) (hx : a.eval x = .pointer (some ⟨b, 0, none⟩)) (hl : Lies F A b cs t L) (hr : RowV P T cs) (hk : wpList P ops Q rest (a.put o.dst (.agg cs)) W) : wpList P ops Q (o :: rest) a W :=
  wpList_want hw fun K hK => (op_load h T x ho hx hl hr (hK _ _ hk)).out
theorem wplF_store {ops : Array Oper} {rest : List Oper} (h : Fr w W F) (hw : Region.wanted o (yielded ops a.tmps) = true) (T : TypeId) (x y : Operand) (ho : o.op = .store T x y) (hx : a.eval x = .pointer (some ⟨b, 0, none⟩)) {ds : Array Value} (hy : a.eval y = .agg ds) (hl : Lies F A b cs t L) (hr : RowV P T ds) (hs : cs.size = ds.size)
    (hdst : o.dst = none) (hk : ∀ W', Fr w W' (A ++ (b, ds, t) :: L) → wpList P ops Q rest a W') : wpList P ops Q (o :: rest) a W :=
  wpList_want hw fun K hK => (op_store h T x y ho hx hy hl hr hs (fun W' hF => hK _ _ (by rw [hdst]; exact hk W' hF))).out
end
section
variable {P : Program} {a : Act} {w W : World} {K : Act → World → Prop} {Q : Exit → Act → World → Prop} {F A L : List Ent} {b : Nat} {cs ds : Array Value} {t T : TypeId} {x y : Operand} {ops : Array Oper} {rest : List Oper} {dst : Option Tmp} {ty : TypeId} {pos : String} {af : Array Edge} {gd : Option (Nat × Bool)}
theorem fL  (h : Fr w W F) (hw : Region.wanted ⟨dst, .load T x, ty, pos, af, gd⟩ (yielded ops a.tmps) = true) (hx : a.eval x = .pointer (some ⟨b, 0, none⟩)) (hl : Lies F A b cs t L) (hr : RowV P T cs) (hk : wpList P ops Q rest (a.put dst (.agg cs)) W) : wpList P ops Q (⟨dst, .load T x, ty, pos, af, gd⟩ :: rest) a W := wplF_load h hw T x rfl hx hl hr hk
theorem fS  (h : Fr w W F) (hw : Region.wanted ⟨none, .store T x y, ty, pos, af, gd⟩ (yielded ops a.tmps) = true) (hx : a.eval x = .pointer (some ⟨b, 0, none⟩)) (hy : a.eval y = .agg ds) (hl : Lies F A b cs t L) (hr : RowV P T ds) (hs : cs.size = ds.size) (hk : ∀ W', Fr w W' (A ++ (b, ds, t) :: L) → wpList P ops Q rest a W') : wpList P ops Q (⟨none, .store T x y, ty, pos, af, gd⟩ :: rest) a W := wplF_store h hw T x y rfl hx hy hl hr hs rfl hk
end
end
section
open Go.RowKit
theorem dr_c5 {i : Nat} (h : i < 5) : i = 0 ∨ i = 1 ∨ i = 2 ∨ i = 3 ∨ i = 4 := by omega
theorem dr_c7 {i : Nat} (h : i < 7) : i = 0 ∨ i = 1 ∨ i = 2 ∨ i = 3 ∨ i = 4 ∨ i = 5 ∨ i = 6 := by omega
end
section
section
open Go.RowKit
def RangeP (lo hi : Int) (B b N : Nat) (w : World) (e : Ending) (w' : World) : Prop :=
  ∃ v : Int, lo ≤ v ∧ v ≤ hi ∧ e = .returned (.int .i64 v) ∧ TapeAt w' B b N ∧ Only b w w'
theorem range_any (lo hi : Int) (B b N : Nat) (w : World) (h : TapeAt w B b (N + 1)) (h1 : -1000000000 ≤ lo) (h2 : lo ≤ hi) (h3 : hi ≤ 1000000000) :
    Calls Tryz.prog 20 #[.pointer (some ⟨b, 0, none⟩), .int .i64 lo, .int .i64 hi] w (RangeP lo hi B b N w) := by
  go_enter Tryz.func20, Tryz.ntmps20
  go_wp2_with fail
  refine (next_in h (by omega) (by omega)).mono ?_
  rintro e w1 ⟨k, hk, rfl, ht, ho⟩
  go_wp2
  go_ret
  exact ⟨lo + k, by omega, by omega, rfl, ht, ho⟩
end
end
section
open Go.RowKit
section
variable {w0 u W W' : World} {L : List Ent} {B b N : Nat}
theorem trange (lo hi : Int) (h1 : -1000000000 ≤ lo) (h2 : lo ≤ hi) (h3 : hi ≤ 1000000000) (h : TapeAt W B b (N + 1)) : Calls Tryz.prog 20 #[.pointer (some ⟨b, 0, none⟩), .int .i64 lo, .int .i64 hi] W (TapP (fun v => ∃ k : Int, v = .int .i64 k ∧ lo ≤ k ∧ k ≤ hi) B b N W) :=
  (range_any lo hi B b N W h h1 h2 h3).mono fun _ _ ⟨k, hk, hk2, he, ht, ho⟩ => ⟨_, ⟨k, rfl, hk, hk2⟩, he, ht, ho⟩
end
end
section
open Go.RowKit
section
variable {P : Program} {md : Region.Mode} {ops : Array Oper} {Q : Exit → Act → World → Prop} {n m m' i fuel : Nat} {o : Oper} {a : Act} {w : World} {rs : List Nat}
theorem dg_skip (i m' : Nat) (ho : ops[i]? = some o) (hl : (bm n m).setIfInBounds i true = bm n m') (hw : Region.wanted o (yielded ops a.tmps) = false)
    (h : wpAny P md ops Q fuel (bm n m') (a.put o.dst undef) w) (hs : AllReady P md ops Q fuel (bm n m) a w rs) : AllReady P md ops Q fuel (bm n m) a w (i :: rs) :=
  AllReady.cons ho (fun K hK => by rw [if_neg (by simp [hw])]; rw [hl] at hK; exact hK _ _ h) hs
theorem dg_oneS (i m' : Nat) (hr : Region.ready md ops (bm n m) = [i]) (ho : ops[i]? = some o) (hl : (bm n m).setIfInBounds i true = bm n m') (hw : Region.wanted o (yielded ops a.tmps) = false)
    (h : wpAny P md ops Q fuel (bm n m') (a.put o.dst undef) w) : wpAny P md ops Q (fuel + 1) (bm n m) a w :=
  dg_ready [i] hr rfl (dg_skip i m' ho hl hw h dg_nil)
end
end
section
open Go.RowKit
section
variable {P : Program} {a : Act} {w W : World} {K : Act → World → Prop} {Q : Exit → Act → World → Prop} {F A L : List Ent} {b k : Nat} {cs cs' : Array Value} {t T : TypeId} {x y : Operand} {ops : Array Oper} {rest : List Oper} {dst : Option Tmp} {ty : TypeId} {pos : String} {af : Array Edge} {gd : Option (Nat × Bool)} {v v0 : Value}
theorem fLc (h : Fr w W F) (hw : Region.wanted ⟨dst, .load T x, ty, pos, af, gd⟩ (yielded ops a.tmps) = true) (hx : a.eval x = .pointer (some ⟨b, k, none⟩)) (hl : Lies F A b cs t L) (hT : ScT P T) (hc : cs[k]? = some v) (hk : wpList P ops Q rest (a.put dst v) W) : wpList P ops Q (⟨dst, .load T x, ty, pos, af, gd⟩ :: rest) a W :=
  wpList_want hw fun K hK => (gLc h hx hl hT hc (hK _ _ hk)).out
end
end
section
open Go.RowKit
set_option maxHeartbeats 2000000
def upB (m z h : Int) (g : Bool) : Bool :=
  if m = 1 then g else if m = 2 then !g else if m = 3 then false else if m = 4 then true else if m = 5 then (if h = 0 then !g else decide (0 < h)) else (if h = 0 then decide (z % 2 = 1) else decide (0 < h))
def rndR (v : Prop) [Decidable v] (n d p m : Int) : Int × Int :=
  if ¬ v then (0, 20) else if p < 0 ∨ 9 < p then (0, 30) else if m < 1 ∨ 6 < m then (0, 31)
  else
    let N := n * ((10 ^ p.toNat : Nat) : Int)
    if N % d = 0 then (N / d, 0) else if upB m (N / d) (cmpZ (2 * (N % d)) d) (decide (n < 0)) = true then (N / d + 1, 0) else (N / d, 0)
end
section
open Go.RowKit
set_option maxHeartbeats 2000000
theorem rnd_lt {x : Bool} {a : Nat} {y : Bool} {b : Nat} {p m : Int} : (rndR (okR x a y b) (sZ x a) (sZ y b) p m).1.natAbs < bp 18 := by
  unfold rndR
  have k0 := bp_pos 18
  split
  · simpa using k0
  rename_i hv
  rw [Classical.not_not] at hv
  split
  · simpa using k0
  rename_i hp
  split
  · simpa using k0
  obtain ⟨n, d, ⟨h1, h2, h3⟩, hn, hd, hd0⟩ := okR_ints hv
  rw [h2, h3]
  have hN := b_ten hn (show p.toNat ≤ 9 by omega)
  have hu := Nat.lt_of_le_of_lt (div_le_abs (n * ((10 ^ p.toNat : Nat) : Int)) d) hN
  have k1 : bp 18 = bp 17 * 4294967296 := bp_succ 17
  dsimp only
  split
  · dsimp only
    omega
  · split <;> dsimp only <;> omega
def exR (v : Prop) [Decidable v] (n d p : Int) : Bool × Int := if chkE v p ≠ 0 then (false, chkE v p) else (decide (n * ((10 ^ p.toNat : Nat) : Int) % d = 0), 0)
end
section
open Go.RowKit
section
variable {o : Oper} {a : Act} {W w : World} {F A L : List Ent} {K : Act → World → Prop} {Q : Exit → Act → World → Prop} {ops : Array Oper} {rest : List Oper} {dst : Option Tmp} {ty : TypeId} {pos : String} {af : Array Edge} {gd : Option (Nat × Bool)} {x y : Operand} {cs ds cs' : Array Value} {b : Nat} {t T : TypeId}
theorem fA_quo (h : Fr w W F) (hw : Region.wanted ⟨dst, .alloc 33, ty, pos, af, gd⟩ (yielded ops a.tmps) = true) (hk : Hold (∀ b W', Fr w W' ((b, qC q0, 33) :: F) → wpList Tryz.prog ops Q rest (a.put dst (.pointer (some ⟨b, 0, none⟩))) W')) : wpList Tryz.prog ops Q (⟨dst, .alloc 33, ty, pos, af, gd⟩ :: rest) a W := wplF_alloc h hw (alloc_quo rfl) hk
theorem fB_quo0 (hw : Region.wanted ⟨dst, .build 33 #[], ty, pos, af, gd⟩ (yielded ops a.tmps) = true) (hk : wpList Tryz.prog ops Q rest (a.put dst (.agg (qC q0))) W) : wpList Tryz.prog ops Q (⟨dst, .build 33 #[], ty, pos, af, gd⟩ :: rest) a W :=
  wplF_build hw _ _ rfl (by simp only [List.map_toArray, List.map_nil]; exact built_quoZ) hk
end
end
section
open Go.RowKit
set_option maxHeartbeats 4000000
set_option maxRecDepth 100000 in
theorem rabs_any {x : Int} (hx : x.natAbs < bp 32) (w : World) : Calls Tryz.prog 156 #[.agg (IC x)] w (RetB (.agg (IC (x.natAbs : Nat))) w) := by
  have F := Fr.start w
  have g1 := fun w => rcanonZ (n := false) (m := x.natAbs) (x := (x.natAbs : Int)) hx (by omega) (fun h => by omega) (fun h => rfl) w
  clear hx
  go_enter Tryz.func156, Tryz.ntmps156
  go_wp2_with (first | go_skip | refine aY3 ?_ | (refine aT3 ?_; clear F; intro W F) | refine aN3 ?_)
  (clear F; intro b1 W F; try simp only [Act.put, z6, z1, z2])
  go_wp2_with (first | go_skip | refine aY3 ?_ | (refine aT3 ?_; clear F; intro W F) | refine aN3 ?_)
  (clear F; intro b2 W F; try simp only [Act.put, z6, z1, z2])
  go_wp2_with (first | go_skip | ((go_at_call 190); (with_reducible refine fr_call F (g1 _) ?_); (clear F; intro W F); (try dsimp only)) | refine aY3 ?_ | (refine aT3 ?_; clear F; intro W F) | refine aN3 ?_)
  exact bodyPost_ret (res_c rfl rfl (Fr.get F tL) (rowIC _)) rfl ⟨rfl, F.below⟩
end
section
open Go.RowKit
set_option maxHeartbeats 4000000
theorem cmpZ_signs {x y : Int} : cmpZ x y = if x.sign < y.sign then -1 else if y.sign < x.sign then 1 else x.sign * cmpN x.natAbs y.natAbs := by
  unfold cmpZ cmpN
  rcases Int.lt_trichotomy x 0 with h | h | h <;> rcases Int.lt_trichotomy y 0 with k | k | k
  all_goals first | rw [Int.sign_eq_neg_one_of_neg h] | rw [Int.sign_eq_one_of_pos h] | rw [h, Int.sign_zero]
  all_goals first | rw [Int.sign_eq_neg_one_of_neg k] | rw [Int.sign_eq_one_of_pos k] | rw [k, Int.sign_zero]
  all_goals (repeat' split) <;> omega
set_option maxRecDepth 100000 in
theorem rcmp_any {x y : Int} (hx : x.natAbs < bp 32) (hy : y.natAbs < bp 32) (w : World) : Calls Tryz.prog 154 #[.agg (IC x), .agg (IC y)] w (RetB (.int .i64 (cmpZ x y)) w) := by
  have F := Fr.start w
  have g1 := fun w => rsignZ hx w
  have g2 := fun w => rsignZ hy w
  have g3 := fun w => rcompare_any hx hy w
  have hc := cmpZ_signs (x := x) (y := y)
  have hcb : -1 ≤ cmpN x.natAbs y.natAbs ∧ cmpN x.natAbs y.natAbs ≤ 1 := by unfold cmpN; (repeat' split) <;> omega
  have hsb : x.sign = -1 ∨ x.sign = 0 ∨ x.sign = 1 := by
    rcases Int.lt_trichotomy x 0 with h | h | h
    · exact .inl (Int.sign_eq_neg_one_of_neg h)
    · exact .inr (.inl (by rw [h]; rfl))
    · exact .inr (.inr (Int.sign_eq_one_of_pos h))
  obtain ⟨r, hr⟩ : ∃ r, cmpZ x y = r := ⟨_, rfl⟩
  obtain ⟨s, hs⟩ : ∃ s, x.sign = s := ⟨_, rfl⟩
  obtain ⟨t, ht⟩ : ∃ t, y.sign = t := ⟨_, rfl⟩
  obtain ⟨c, hcc⟩ : ∃ c, cmpN x.natAbs y.natAbs = c := ⟨_, rfl⟩
  rw [hr, hs, ht, hcc] at hc
  rw [hr]
  rw [hs] at g1 hsb
  rw [ht] at g2
  rw [hcc] at g3 hcb
  obtain ⟨p, hp⟩ : ∃ p, s * c = p := ⟨_, rfl⟩
  have hpb : -1 ≤ p ∧ p ≤ 1 := by rw [← hp]; rcases hsb with h | h | h <;> rw [h] <;> omega
  have wp : RowKit.wrap64 p = p := by rw [RowKit.wrap64]; omega
  rw [hp] at hc
  have HC := Lib.hid hc
  clear hx hy hc hcb hsb hr hs ht hcc hpb
  go_enter Tryz.func154, Tryz.ntmps154
  go_wp2_with (first | go_skip | refine aY3 ?_ | refine aN3 ?_)
  (clear F; intro b2 W F; try simp only [Act.put, z6, z1, z2])
  go_wp2_with (first | go_skip | refine aY3 ?_ | refine aN3 ?_)
  (clear F; intro b3 W F; try simp only [Act.put, z6, z1, z2])
  go_wp2_with (first | go_skip | refine aY3 ?_ | refine aN3 ?_)
  try simp only [Act.put, z6, z1, z2]
  refine wp_region_slots mixP [5, 6, 7, 8, 9, 10] (fun l mm W => ∃ (s5 s6 s7 s8 s9 s10 : Value), mm = [s5, s6, s7, s8, s9, s10] ∧ Fr w W [(b3, IC y, 29), (b2, IC x, 29)] ∧ On l 0 [s7 = .agg (IC x), s8 = .int .i64 s, s9 = .agg (IC y), s10 = .int .i64 t, s5 = .int .i64 s, s6 = .int .i64 t] ∧ True) (by kernel_rfl) (putAll_self _ _) ?_ ?_ ?_
  · exact ⟨_, _, _, _, _, _, rfl, F.drew, On.none _ _ _, dT⟩
  · rintro listed mm W ii hi hsz hoff ⟨s5, s6, s7, s8, s9, s10, rfl, HF, hH, -⟩ hd
    simp only [putAll, z1, z2]
    obtain rfl | rfl | rfl | rfl | rfl | rfl := dr_c6 hi
    · exact oY3
    · obtain rfl : s7 = _ := dh 0 hH hd
      refine ow rfl rfl fun K hK => ?_
      refine ⟨?_⟩
      go_simp
      with_reducible refine fr_call HF (g1 _) ?_
      exact oC
    · exact oY3
    · obtain rfl : s9 = _ := dh 2 hH hd
      refine ow rfl rfl fun K hK => ?_
      refine ⟨?_⟩
      go_simp
      with_reducible refine fr_call HF (g2 _) ?_
      exact oC
    · obtain rfl : s8 = _ := dh 1 hH hd
      exact oP
    · obtain rfl : s10 = _ := dh 3 hH hd
      exact oP
  rintro listed mm W ⟨s5, s6, s7, s8, s9, s10, rfl, HF, hH, -⟩ hall
  obtain ⟨rfl, rfl, rfl, rfl, rfl, rfl⟩ := onA hH hall
  clear hall hH  F
  have F := HF
  clear HF
  simp only [putAll, z1, z2]
  by_cases h1 : s < t
  · have hr : r = -1 := by rw [HC.out, if_pos h1]
    subst hr
    clear HC
    go_wp2_with (first | go_skip | refine aY3 ?_ | refine aN3 ?_)
    go_ret
    exact ⟨rfl, F.below⟩
  by_cases h2 : t < s
  · have hr : r = 1 := by rw [HC.out, if_neg h1, if_pos h2]
    subst hr
    clear HC
    go_wp2_with (first | go_skip | refine aY3 ?_ | refine aN3 ?_)
    go_ret
    exact ⟨rfl, F.below⟩
  have hr : r = p := by rw [HC.out, if_neg h1, if_neg h2]
  have t1 : decide (s < t) = false := decide_eq_false h1
  have t2 : decide (t < s) = false := decide_eq_false h2
  subst hr
  clear HC h1 h2
  go_wp2_with (first | go_skip | ((go_at_call 192); (with_reducible refine fr_call F (g3 _) ?_); (clear F; intro W F); (try dsimp only)) | refine aY3 ?_ | refine aN3 ?_)
  go_ret
  exact ⟨ret_int wp, F.below⟩
end
section
open Go.RowKit
set_option maxHeartbeats 4000000
theorem canon_self {x : Int} (hx : x.natAbs < bp 32) (w : World) : Calls Tryz.prog 190 #[.bool (decide (x < 0)), .agg (limA 32 x.natAbs)] w (RetB (.agg (IC x)) w) :=
  rcanonZ hx rfl (fun h => decide_eq_true h) (fun h => decide_eq_false (by omega)) w
set_option maxRecDepth 100000 in
theorem radd_any {x y : Int} (hx : x.natAbs < bp 32) (hy : y.natAbs < bp 32) (h : (x + y).natAbs < bp 32) (w : World) : Calls Tryz.prog 134 #[.agg (IC x), .agg (IC y)] w (RetB (.tuple #[.agg (IC (x + y)), .int .i64 0]) w) := by
  have F := Fr.start w
  have g1 := fun w => canon_self hx w
  have g2 := fun w => canon_self hy w
  obtain ⟨p, hp⟩ : ∃ p, decide (x < 0) = p := ⟨_, rfl⟩
  obtain ⟨q, hq⟩ : ∃ q, decide (y < 0) = q := ⟨_, rfl⟩
  have HX := Lib.hid (And.intro hx (And.intro hy (And.intro h (And.intro hp hq))))
  clear hx hy h hp hq
  go_enter Tryz.func134, Tryz.ntmps134
  go_wp2_with (first | go_skip | refine aY3 ?_ | (refine aT3 ?_; clear F; intro W F) | refine aN3 ?_)
  (clear F; intro b2 W F; try simp only [Act.put, z6, z1, z2])
  go_wp2_with (first | go_skip | refine aY3 ?_ | (refine aT3 ?_; clear F; intro W F) | refine aN3 ?_)
  (clear F; intro b3 W F; try simp only [Act.put, z6, z1, z2])
  go_wp2_with (first | go_skip | refine aY3 ?_ | (refine aT3 ?_; clear F; intro W F) | refine aN3 ?_)
  (clear F; intro b4 W F; try simp only [Act.put, z6, z1, z2])
  go_wp2_with (first | go_skip | refine aY3 ?_ | (refine aT3 ?_; clear F; intro W F) | refine aN3 ?_)
  try simp only [Act.put, z6, z1, z2]
  refine wp_region_slots mixP [8, 9, 10, 11, 12, 13, 14, 15, 16, 17] (fun l mm W => ∃ (s8 s9 s10 s11 s12 s13 s14 s15 s16 s17 : Value) (c_b2 c_b3 : Array Value), mm = [s8, s9, s10, s11, s12, s13, s14, s15, s16, s17] ∧ Fr w W [(b4, intC false 0, 29), (b3, c_b3, 29), (b2, c_b2, 29)] ∧ On l 0 [s8 = .pointer (some ⟨b2, 0, none⟩), s9 = .bool (decide (x < 0)), s10 = .pointer (some ⟨b2, 1, none⟩), s11 = .agg (limA 32 ((x).natAbs)), s12 = .agg (IC x), s13 = .pointer (some ⟨b3, 0, none⟩), s14 = .bool (decide (y < 0)), s15 = .pointer (some ⟨b3, 1, none⟩), s16 = .agg (limA 32 ((y).natAbs)), s17 = .agg (IC y), c_b2 = IC x, c_b3 = IC y] ∧ Wt l [(10, 1), (10, 3), (11, 6), (11, 8)] ∧ (l.getD 10 false = false → c_b2 = IC x) ∧ (l.getD 11 false = false → c_b3 = IC y) ∧ c_b2.size = (IC x).size ∧ c_b3.size = (IC y).size ∧ True) (by kernel_rfl) (putAll_self _ _) ?_ ?_ ?_
  · exact ⟨_, _, _, _, _, _, _, _, _, _, (IC x), (IC y), rfl, F.drew, On.none _ _ _, Wt.none _ _, fun _ => rfl, fun _ => rfl, dT⟩
  · rintro listed mm W ii hi hsz hoff ⟨s8, s9, s10, s11, s12, s13, s14, s15, s16, s17, c_b2, c_b3, rfl, HF, hH, hw, hO_b2, hO_b3, hz0, hz1, -⟩ hd
    simp only [putAll, z1, z2]
    obtain rfl | rfl | rfl | rfl | rfl | rfl | rfl | rfl | rfl | rfl | rfl | rfl := dr_c12 hi
    · exact oP
    · obtain rfl : s8 = _ := dh 0 hH hd
      have hold := oldG hO_b2 hw hoff
      rw [hold] at HF
      have cF := BlkAt.cell (Fr.get HF (b := b2) (cs := IC x) (by (exact tL))) (intC_neg _ _)
      rw [← hold] at HF
      exact oP
    · exact oP
    · obtain rfl : s10 = _ := dh 2 hH hd
      have hold := oldG hO_b2 hw hoff
      rw [hold] at HF
      exact oY3o
    · obtain rfl : s9 = _ := dh 1 hH hd
      obtain rfl : s11 = _ := dh 3 hH hd
      refine ow rfl rfl fun K hK => ?_
      refine ⟨?_⟩
      go_simp
      with_reducible refine fr_call HF (g1 _) ?_
      exact oC
    · exact oP
    · obtain rfl : s13 = _ := dh 5 hH hd
      have hold := oldG hO_b3 hw hoff
      rw [hold] at HF
      have cF := BlkAt.cell (Fr.get HF (b := b3) (cs := IC y) (by (exact tL))) (intC_neg _ _)
      rw [← hold] at HF
      exact oP
    · exact oP
    · obtain rfl : s15 = _ := dh 7 hH hd
      have hold := oldG hO_b3 hw hoff
      rw [hold] at HF
      exact oY3o
    · obtain rfl : s14 = _ := dh 6 hH hd
      obtain rfl : s16 = _ := dh 8 hH hd
      refine ow rfl rfl fun K hK => ?_
      refine ⟨?_⟩
      go_simp
      with_reducible refine fr_call HF (g2 _) ?_
      exact oC
    · obtain rfl : s12 = _ := dh 4 hH hd
      exact oT3
    · obtain rfl : s17 = _ := dh 9 hH hd
      exact oT3
  rintro listed mm W ⟨s8, s9, s10, s11, s12, s13, s14, s15, s16, s17, c_b2, c_b3, rfl, HF, hH, hw, hO_b2, hO_b3, hz0, hz1, -⟩ hall
  obtain ⟨rfl, rfl, rfl, rfl, rfl, rfl, rfl, rfl, rfl, rfl, e10, e11⟩ := onA hH hall
  rw [e10] at HF
  rw [e11] at HF
  clear hall hH e10 e11 hw hO_b2 hO_b3 hz0 hz1 F
  have F := HF
  clear HF
  simp only [putAll, z1, z2]
  have c2 := BlkAt.cell (F.get (b := b2) (cs := IC x) tL) (intC_neg (decide (x < 0)) x.natAbs)
  have c3 := BlkAt.cell (F.get (b := b3) (cs := IC y) tL) (intC_neg (decide (y < 0)) y.natAbs)
  rw [HX.out.2.2.2.1] at c2
  rw [HX.out.2.2.2.2] at c3
  clear g1 g2
  by_cases hpq : p = q
  · subst hpq
    have hs : (x + y).natAbs = x.natAbs + y.natAbs := by
      have h1 := HX.out.2.2.2.1
      have h2 := HX.out.2.2.2.2
      cases p
      · have := of_decide_eq_false h1; have := of_decide_eq_false h2; omega
      · have := of_decide_eq_true h1; have := of_decide_eq_true h2; omega
    have g3 := fun w => rsum_any HX.out.1 HX.out.2.1 (c := (x + y).natAbs) (f := true) (by rw [← hs]; exact Nat.mod_eq_of_lt HX.out.2.2.1) (by rw [← hs]; exact decide_eq_true HX.out.2.2.1) w
    have g4 := fun w => rcanonZ (n := p) (m := (x + y).natAbs) (x := x + y) HX.out.2.2.1 rfl (fun h => by
      have h1 := HX.out.2.2.2.1
      have h2 := HX.out.2.2.2.2
      cases p
      · have := of_decide_eq_false h1; have := of_decide_eq_false h2; omega
      · rfl) (fun h => by
      have h1 := HX.out.2.2.2.1
      have h2 := HX.out.2.2.2.2
      cases p
      · rfl
      · have := of_decide_eq_true h1; have := of_decide_eq_true h2; omega) w
    clear hs
    have cb : ∀ W, Fr w W [(b2, IC x, 29)] → W.cell? ⟨b2, 0, none⟩ = some (.bool p) := fun W h => by
      have h := BlkAt.cell (h.get (b := b2) (cs := IC x) tL) (intC_neg (decide (x < 0)) x.natAbs)
      rwa [HX.out.2.2.2.1] at h
    clear HX
    have t1 : (p == p) = true := beq_self_eq_true p
    go_wp2_with (first | go_skip | ((go_at_call 191); (with_reducible refine fr_call F (g3 _) ?_); (clear F; intro W F); (try dsimp only)) | refine aY3 ?_ | (refine aT3 ?_; clear F; intro W F) | refine aN3 ?_)
    (clear F; intro b6 W F; try simp only [Act.put, z6, z1, z2])
    clear c2 c3
    go_upto_region 6 with (first | go_skip | refine aY3 ?_ | (refine aT3 ?_; clear F; intro W F) | refine aN3 ?_)
    have c2 := cb _ (F.sub (by repeat (first | exact List.Sublist.slnil | apply List.Sublist.cons_cons | apply List.Sublist.cons)))
    clear cb
    go_wp2_with (first | go_skip | ((go_at_call 190); (with_reducible refine fr_call F (g4 _) ?_); (clear F; intro W F); (try dsimp only)) | refine aY3 ?_ | (refine aT3 ?_; clear F; intro W F) | refine aN3 ?_)
    exact bodyPost_ret (res_cs rfl rfl rfl (Fr.get F tL) (rowIC _)) rfl ⟨rfl, F.below⟩
  have t1 : (p == q) = false := by rw [beq_eq_false_iff_ne]; exact hpq
  have g3 := fun w => rcompare_any HX.out.1 HX.out.2.1 w
  by_cases hlt : x.natAbs < y.natAbs
  · have hc : cmpN x.natAbs y.natAbs = -1 := by unfold cmpN; rw [if_pos hlt]
    rw [hc] at g3
    have hs : y.natAbs - x.natAbs = (x + y).natAbs := by
      have h1 := HX.out.2.2.2.1
      have h2 := HX.out.2.2.2.2
      cases p <;> cases q
      · exact absurd rfl hpq
      · have := of_decide_eq_false h1; have := of_decide_eq_true h2; omega
      · have := of_decide_eq_true h1; have := of_decide_eq_false h2; omega
      · exact absurd rfl hpq
    have g4 := fun w => rdiff_le HX.out.2.1 HX.out.1 (Nat.le_of_lt hlt) w
    rw [hs] at g4
    have g5 := fun w => rcanonZ (n := q) (m := (x + y).natAbs) (x := x + y) HX.out.2.2.1 rfl (fun h => by
      have h2 := HX.out.2.2.2.2
      cases q
      · have := of_decide_eq_false h2; omega
      · rfl) (fun h => by
      have h2 := HX.out.2.2.2.2
      cases q
      · rfl
      · have := of_decide_eq_true h2; omega) w
    have cb : ∀ W, Fr w W [(b2, IC y, 29)] → W.cell? ⟨b2, 0, none⟩ = some (.bool q) := fun W h => by
      have h := BlkAt.cell (h.get (b := b2) (cs := IC y) tL) (intC_neg (decide (y < 0)) y.natAbs)
      rwa [HX.out.2.2.2.2] at h
    clear hc hs HX hpq hlt
    go_upto_region 9 with (first | go_skip | ((go_at_call 192); (with_reducible refine fr_call F (g3 _) ?_); (clear F; intro W F); (try dsimp only)) | refine aY3 ?_ | (refine aT3 ?_; clear F; intro W F) | refine aN3 ?_)
    clear c2 c3
    have hq2 : decide (y < 0) = q := by
      have h := cb _ (F.sub (by repeat (first | exact List.Sublist.slnil | apply List.Sublist.cons_cons | apply List.Sublist.cons)))
      have h2 := BlkAt.cell (F.get (b := b2) (cs := IC y) tL) (intC_neg (decide (y < 0)) y.natAbs)
      rw [h] at h2
      injection h2 with h2
      injection h2 with h2
      exact h2.symm
    rw [← hq2] at g5
    clear hq2 cb
    try simp only [Act.put, z6, z1, z2]
    refine wp_region_slots mixP [5, 46, 47, 48, 49, 50, 51, 52, 53] (fun l mm W => ∃ (s5 s46 s47 s48 s49 s50 s51 s52 s53 : Value) (c_b4 : Array Value), mm = [s5, s46, s47, s48, s49, s50, s51, s52, s53] ∧ Fr w W [(b4, c_b4, 29), (b3, IC x, 29), (b2, IC y, 29)] ∧ On l 0 [s46 = .pointer (some ⟨b2, 0, none⟩), s47 = .bool (decide (y < 0)), s48 = .pointer (some ⟨b2, 1, none⟩), s49 = .agg (limA 32 ((y).natAbs)), s50 = .pointer (some ⟨b3, 1, none⟩), s51 = .agg (limA 32 ((x).natAbs)), s52 = .agg (limA 32 (x + y).natAbs), s53 = .agg (IC (x + y)), c_b4 = IC (x + y), s5 = .int .i64 0] ∧ c_b4.size = (IC (x + y)).size ∧ True) (by kernel_rfl) (putAll_self _ _) ?_ ?_ ?_
    · exact ⟨_, _, _, _, _, _, _, _, _, (intC false 0), rfl, F.drew, On.none _ _ _, dT⟩
    · rintro listed mm W ii hi hsz hoff ⟨s5, s46, s47, s48, s49, s50, s51, s52, s53, c_b4, rfl, HF, hH, hz0, -⟩ hd
      simp only [putAll, z1, z2]
      obtain rfl | rfl | rfl | rfl | rfl | rfl | rfl | rfl | rfl | rfl := dr_c10 hi
      · exact oP
      · obtain rfl : s46 = _ := dh 0 hH hd
        have cF := BlkAt.cell (Fr.get HF (b := b2) (cs := IC y) (by (exact tL))) (intC_neg _ _)
        exact oP
      · exact oP
      · obtain rfl : s48 = _ := dh 2 hH hd
        exact oY3
      · exact oP
      · obtain rfl : s50 = _ := dh 4 hH hd
        exact oY3
      · obtain rfl : s49 = _ := dh 3 hH hd
        obtain rfl : s51 = _ := dh 5 hH hd
        refine ow rfl rfl fun K hK => ?_
        refine ⟨?_⟩
        go_simp
        with_reducible refine fr_call HF (g4 _) ?_
        exact oC
      · obtain rfl : s47 = _ := dh 1 hH hd
        obtain rfl : s52 = _ := dh 6 hH hd
        refine ow rfl rfl fun K hK => ?_
        refine ⟨?_⟩
        go_simp
        with_reducible refine fr_call HF (g5 _) ?_
        exact oC
      · obtain rfl : s53 = _ := dh 7 hH hd
        exact oT3
      · exact oP
    rintro listed mm W ⟨s5, s46, s47, s48, s49, s50, s51, s52, s53, c_b4, rfl, HF, hH, hz0, -⟩ hall
    obtain ⟨rfl, rfl, rfl, rfl, rfl, rfl, rfl, rfl, e8, rfl⟩ := onA hH hall
    rw [e8] at HF
    clear hall hH e8 hz0 F
    have F := HF
    clear HF
    simp only [putAll, z1, z2]
    go_wp2_with (first | go_skip | refine aY3 ?_ | (refine aT3 ?_; clear F; intro W F) | refine aN3 ?_)
    exact bodyPost_ret (res_cs rfl rfl rfl (Fr.get F tL) (rowIC _)) rfl ⟨rfl, F.below⟩
  · have hc : ¬ cmpN x.natAbs y.natAbs < 0 := by unfold cmpN; rw [if_neg hlt]; split <;> omega
    obtain ⟨c, hcc⟩ : ∃ c, cmpN x.natAbs y.natAbs = c := ⟨_, rfl⟩
    rw [hcc] at g3 hc
    have t2 : decide (c < 0) = false := decide_eq_false hc
    have hs : x.natAbs - y.natAbs = (x + y).natAbs := by
      have h1 := HX.out.2.2.2.1
      have h2 := HX.out.2.2.2.2
      cases p <;> cases q
      · exact absurd rfl hpq
      · have := of_decide_eq_false h1; have := of_decide_eq_true h2; omega
      · have := of_decide_eq_true h1; have := of_decide_eq_false h2; omega
      · exact absurd rfl hpq
    have g4 := fun w => rdiff_le HX.out.1 HX.out.2.1 (Nat.le_of_not_lt hlt) w
    rw [hs] at g4
    have g5 := fun w => rcanonZ (n := decide (x < 0)) (m := (x + y).natAbs) (x := x + y) HX.out.2.2.1 rfl (fun h => by
      rw [decide_eq_true_eq]
      have h1 := HX.out.2.2.2.1
      have h2 := HX.out.2.2.2.2
      cases p <;> cases q
      · exact absurd rfl hpq
      · have := of_decide_eq_false h1; have := of_decide_eq_true h2; omega
      · exact of_decide_eq_true h1
      · exact absurd rfl hpq) (fun h => by
      rw [decide_eq_false_iff_not]
      have h1 := HX.out.2.2.2.1
      have h2 := HX.out.2.2.2.2
      cases p <;> cases q
      · exact absurd rfl hpq
      · have := of_decide_eq_false h1; omega
      · have := of_decide_eq_true h1; have := of_decide_eq_false h2; omega
      · exact absurd rfl hpq) w
    clear hcc hc hs HX hpq hlt
    go_upto_region 9 with (first | go_skip | ((go_at_call 192); (with_reducible refine fr_call F (g3 _) ?_); (clear F; intro W F); (try dsimp only)) | refine aY3 ?_ | (refine aT3 ?_; clear F; intro W F) | refine aN3 ?_)
    clear c2 c3
    try simp only [Act.put, z6, z1, z2]
    refine wp_region_slots mixP [5, 46, 47, 48, 49, 50, 51, 52, 53] (fun l mm W => ∃ (s5 s46 s47 s48 s49 s50 s51 s52 s53 : Value) (c_b4 : Array Value), mm = [s5, s46, s47, s48, s49, s50, s51, s52, s53] ∧ Fr w W [(b4, c_b4, 29), (b3, IC y, 29), (b2, IC x, 29)] ∧ On l 0 [s46 = .pointer (some ⟨b2, 0, none⟩), s47 = .bool (decide (x < 0)), s48 = .pointer (some ⟨b2, 1, none⟩), s49 = .agg (limA 32 ((x).natAbs)), s50 = .pointer (some ⟨b3, 1, none⟩), s51 = .agg (limA 32 ((y).natAbs)), s52 = .agg (limA 32 (x + y).natAbs), s53 = .agg (IC (x + y)), c_b4 = IC (x + y), s5 = .int .i64 0] ∧ c_b4.size = (IC (x + y)).size ∧ True) (by kernel_rfl) (putAll_self _ _) ?_ ?_ ?_
    · exact ⟨_, _, _, _, _, _, _, _, _, (intC false 0), rfl, F.drew, On.none _ _ _, dT⟩
    · rintro listed mm W ii hi hsz hoff ⟨s5, s46, s47, s48, s49, s50, s51, s52, s53, c_b4, rfl, HF, hH, hz0, -⟩ hd
      simp only [putAll, z1, z2]
      obtain rfl | rfl | rfl | rfl | rfl | rfl | rfl | rfl | rfl | rfl := dr_c10 hi
      · exact oP
      · obtain rfl : s46 = _ := dh 0 hH hd
        have cF := BlkAt.cell (Fr.get HF (b := b2) (cs := IC x) (by (exact tL))) (intC_neg _ _)
        exact oP
      · exact oP
      · obtain rfl : s48 = _ := dh 2 hH hd
        exact oY3
      · exact oP
      · obtain rfl : s50 = _ := dh 4 hH hd
        exact oY3
      · obtain rfl : s49 = _ := dh 3 hH hd
        obtain rfl : s51 = _ := dh 5 hH hd
        refine ow rfl rfl fun K hK => ?_
        refine ⟨?_⟩
        go_simp
        with_reducible refine fr_call HF (g4 _) ?_
        exact oC
      · obtain rfl : s47 = _ := dh 1 hH hd
        obtain rfl : s52 = _ := dh 6 hH hd
        refine ow rfl rfl fun K hK => ?_
        refine ⟨?_⟩
        go_simp
        with_reducible refine fr_call HF (g5 _) ?_
        exact oC
      · obtain rfl : s53 = _ := dh 7 hH hd
        exact oT3
      · exact oP
    rintro listed mm W ⟨s5, s46, s47, s48, s49, s50, s51, s52, s53, c_b4, rfl, HF, hH, hz0, -⟩ hall
    obtain ⟨rfl, rfl, rfl, rfl, rfl, rfl, rfl, rfl, e8, rfl⟩ := onA hH hall
    rw [e8] at HF
    clear hall hH e8 hz0 F
    have F := HF
    clear HF
    simp only [putAll, z1, z2]
    go_wp2_with (first | go_skip | refine aY3 ?_ | (refine aT3 ?_; clear F; intro W F) | refine aN3 ?_)
    exact bodyPost_ret (res_cs rfl rfl rfl (Fr.get F tL) (rowIC _)) rfl ⟨rfl, F.below⟩
end
section
open Go.RowKit
set_option maxHeartbeats 4000000
section
variable {a : Act} {w W : World} {Q : Exit → Act → World → Prop} {F : List Ent} {ops : Array Oper} {rest : List Oper} {dst : Option Tmp} {ty : TypeId} {pos : String} {af : Array Edge} {gd : Option (Nat × Bool)}
theorem alloc_dbl {o : Oper} (ho : o.op = .alloc 192) : (execOp a.eval o).run Tryz.prog W = .ok (.value (.pointer (some ⟨W.heap.size, 0, none⟩))) (W.alloc (.cells (limA 64 0) 192)) := by
  obtain ⟨dst, op, pos, af, g, x⟩ := o
  subst ho
  rw [big64Z]
  go_simp
theorem fA_dbl (h : Fr w W F) (hw : Region.wanted ⟨dst, .alloc 192, ty, pos, af, gd⟩ (yielded ops a.tmps) = true) (hk : Hold (∀ b W', Fr w W' ((b, limA 64 0, 192) :: F) → wpList Tryz.prog ops Q rest (a.put dst (.pointer (some ⟨b, 0, none⟩))) W')) : wpList Tryz.prog ops Q (⟨dst, .alloc 192, ty, pos, af, gd⟩ :: rest) a W := wplF_alloc h hw (alloc_dbl rfl) hk
end
set_option maxRecDepth 100000 in
theorem rmul_any {p q : Bool} {a b : Nat} (la : a < bp 32) (lb : b < bp 32) (hm : a * b < bp 32) {s : Bool} {t : Nat} (hc : ∀ w, Calls Tryz.prog 190 #[.bool (p != q), .agg (limA 32 (a * b))] w (RetB (.agg (intC s t)) w)) (w : World) : Calls Tryz.prog 133 #[.agg (intC p a), .agg (intC q b)] w (RetB (.tuple #[.agg (intC s t), .int .i64 0]) w) := by
  have F := Fr.start w
  obtain ⟨n, hn, hun⟩ := used_ex a la
  obtain ⟨m, hm32, hum⟩ := used_ex b lb
  have g1 := fun w => rlimbs_any la hun w
  have g2 := fun w => rlimbs_any lb hum w
  have HL := Lib.hid (And.intro hun.1 hum.1)
  have HM := Lib.hid hm
  rw [show (p != q) = (!(p == q)) from rfl] at hc
  clear la lb hun hum hm
  go_enter Tryz.func133, Tryz.ntmps133
  go_wp2_with (first | go_skip | refine aY3 ?_ | (refine aT3 ?_; clear F; intro W F) | refine aN3 ?_)
  (clear F; intro b2 W F; try simp only [Act.put, z6, z1, z2])
  go_wp2_with (first | go_skip | refine aY3 ?_ | (refine aT3 ?_; clear F; intro W F) | refine aN3 ?_)
  (clear F; intro b3 W F; try simp only [Act.put, z6, z1, z2])
  go_wp2_with (first | go_skip | refine aY3 ?_ | (refine aT3 ?_; clear F; intro W F) | refine aN3 ?_)
  (clear F; intro b4 W F; try simp only [Act.put, z6, z1, z2])
  go_wp2_with (first | go_skip | ((with_reducible apply fA_dbl F); exact rfl) | refine aY3 ?_ | (refine aT3 ?_; clear F; intro W F) | refine aN3 ?_)
  (clear F; intro b6 W F; try simp only [Act.put, z6, z1, z2])
  go_wp2_with (first | go_skip | refine aY3 ?_ | (refine aT3 ?_; clear F; intro W F) | refine aN3 ?_)
  try simp only [Act.put, z6, z1, z2]
  refine wp_region_slots mixP [7, 8, 15, 16, 17, 18, 19, 20] (fun l mm W => ∃ (s7 s8 s15 s16 s17 s18 s19 s20 : Value), mm = [s7, s8, s15, s16, s17, s18, s19, s20] ∧ Fr w W [(b6, limA 64 0, 192), (b4, intC false 0, 29), (b3, intC q b, 29), (b2, intC p a, 29)] ∧ On l 0 [s15 = .pointer (some ⟨b2, 1, none⟩), s16 = .agg (limA 32 a), s17 = .int .i64 n, s18 = .pointer (some ⟨b3, 1, none⟩), s19 = .agg (limA 32 b), s20 = .int .i64 m, s7 = .int .i64 n, s8 = .int .i64 m] ∧ True) (by kernel_rfl) (putAll_self _ _) ?_ ?_ ?_
  · exact ⟨_, _, _, _, _, _, _, _, rfl, F.drew, On.none _ _ _, dT⟩
  · rintro listed mm W ii hi hsz hoff ⟨s7, s8, s15, s16, s17, s18, s19, s20, rfl, HF, hH, -⟩ hd
    simp only [putAll, z1, z2]
    obtain rfl | rfl | rfl | rfl | rfl | rfl | rfl | rfl := dr_c8 hi
    · exact oP
    · obtain rfl : s15 = _ := dh 0 hH hd
      exact oY3
    · obtain rfl : s16 = _ := dh 1 hH hd
      refine ow rfl rfl fun K hK => ?_
      refine ⟨?_⟩
      go_simp
      with_reducible refine fr_call HF (g1 _) ?_
      exact oC
    · exact oP
    · obtain rfl : s18 = _ := dh 3 hH hd
      exact oY3
    · obtain rfl : s19 = _ := dh 4 hH hd
      refine ow rfl rfl fun K hK => ?_
      refine ⟨?_⟩
      go_simp
      with_reducible refine fr_call HF (g2 _) ?_
      exact oC
    · obtain rfl : s17 = _ := dh 2 hH hd
      exact oP
    · obtain rfl : s20 = _ := dh 5 hH hd
      exact oP
  rintro listed mm W ⟨s7, s8, s15, s16, s17, s18, s19, s20, rfl, HF, hH, -⟩ hall
  obtain ⟨rfl, rfl, rfl, rfl, rfl, rfl, rfl, rfl⟩ := onA hH hall
  clear hall hH  F
  have F := HF
  clear HF
  simp only [putAll, z1, z2]
  clear g1 g2
  go_wp2_with fail
  go_loopw [9] (fun iv wr => ∃ i : Nat, i ≤ n ∧ iv = .int .i64 i ∧ Fr w wr [(b6, limA 64 ((a % bp i) * b), 192), (b4, intC false 0, 29), (b3, intC q b, 29), (b2, intC p a, 29)]) (fun iv _ => n - (intOf iv).toNat)
  case atStart => exact ⟨0, by omega, rfl, by rw [bp_zero, Nat.mod_one, Nat.zero_mul]; exact F⟩
  case round =>
    clear F
    obtain ⟨i, hi, rfl, F⟩ := hrel
    by_cases hin : i < n
    · have hc0 : (a % bp i) * b < bp (i + m) := by
        rw [bp_add]
        exact Nat.lt_of_le_of_lt (Nat.mul_le_mul_right b (Nat.le_of_lt (Nat.mod_lt a (bp_pos i)))) (Nat.mul_lt_mul_of_pos_left HL.out.2 (bp_pos i))
      have HC0 := Lib.hid hc0
      clear hc0
      go_wp2_with fail
      go_loopw [10, 11] (fun qv jv wr => ∃ j k c : Nat, j ≤ m ∧ k < 4294967296 ∧ qv = .int .u64 k ∧ jv = .int .i64 j ∧ c < bp (i + m) ∧ c + k * bp (i + j) = (a % bp i) * b + lim a i * (b % bp j) * bp i ∧ Fr w wr [(b6, limA 64 c, 192), (b4, intC false 0, 29), (b3, intC q b, 29), (b2, intC p a, 29)]) (fun _ jv _ => m - (intOf jv).toNat)
      case atStart => exact ⟨0, 0, (a % bp i) * b, by omega, by omega, rfl, rfl, HC0.out, by rw [bp_zero, Nat.mod_one]; omega, F⟩
      case round =>
        clear F HC0
        obtain ⟨j, k, c, hj, hk, rfl, rfl, hcl, hrl, F⟩ := hrel
        have HC := Lib.hid (And.intro hcl hrl)
        clear hcl hrl
        by_cases hjm : j < m
        · obtain ⟨x, hx⟩ : ∃ x, lim a i = x := ⟨_, rfl⟩
          obtain ⟨y, hy⟩ : ∃ y, lim b j = y := ⟨_, rfl⟩
          obtain ⟨z, hz⟩ : ∃ z, lim c (i + j) = z := ⟨_, rfl⟩
          obtain ⟨ij, hij⟩ : ∃ ij, i + j = ij := ⟨_, rfl⟩
          have hx1 := lim_lt a i
          have hy1 := lim_lt b j
          have hz1 := lim_lt c (i + j)
          have hst := times_step HC.out.2
          have hlt := times_lt hx1 hy1 hz1 hk
          rw [hx, hy, hz] at hst hlt
          rw [hx] at hx1
          rw [hy] at hy1
          rw [hz] at hz1
          obtain ⟨p1, hp1⟩ : ∃ p, x * y = p := ⟨_, rfl⟩
          obtain ⟨p2, hp2⟩ : ∃ p, p1 + z = p := ⟨_, rfl⟩
          obtain ⟨t, ht⟩ : ∃ t, p2 + k = t := ⟨_, rfl⟩
          rw [hp1, hp2, ht] at hst hlt
          obtain ⟨d, hd⟩ : ∃ d, t % 4294967296 = d := ⟨_, rfl⟩
          obtain ⟨q', hq'⟩ : ∃ q', t / 4294967296 = q' := ⟨_, rfl⟩
          rw [hd, hq', hij] at hst
          have hd1 : d < 4294967296 := by omega
          have hq1 : q' < 4294967296 := by omega
          have c1 := (F.get (b := b2) tL).cell (intC_limb (n := p) (m := a) (show i < 32 by omega))
          have c2 := (F.get (b := b3) tL).cell (intC_limb (n := q) (m := b) (show j < 32 by omega))
          have c3 := (F.get (b := b6) tL).cell (limA_at (n := 64) (m := c) (show ij < 64 by omega))
          rw [hx] at c1
          rw [hy] at c2
          rw [← hij, hz, hij] at c3
          have m0 : IntKind.i64.wrap ((i : Int) + (j : Int)) = (ij : Int) := by rw [show (i : Int) + (j : Int) = (ij : Int) by omega]; exact IntWalk.i64_in _ (by omega)
          have m00 : (i : Int) + (j : Int) = (ij : Int) := by omega
          have e1 : IntKind.u64.wrap (x : Int) = (x : Int) := wrap64 (by omega)
          have e2 : IntKind.u64.wrap (y : Int) = (y : Int) := wrap64 (by omega)
          have e3 : IntKind.u64.wrap (z : Int) = (z : Int) := wrap64 (by omega)
          have m1 : IntKind.u64.wrap ((x : Int) * (y : Int)) = (p1 : Int) := by
            rw [show (x : Int) * (y : Int) = ((p1 : Nat) : Int) by rw [← hp1]; push_cast; rfl]
            exact wrap64 (by omega)
          have m2 : IntKind.u64.wrap ((p1 : Int) + (z : Int)) = (p2 : Int) := by
            rw [show (p1 : Int) + (z : Int) = ((p2 : Nat) : Int) by omega]
            exact wrap64 (by omega)
          have m3 : IntKind.u64.wrap ((p2 : Int) + (k : Int)) = (t : Int) := by
            rw [show (p2 : Int) + (k : Int) = ((t : Nat) : Int) by omega]
            exact wrap64 (by omega)
          have m4 : (t : Int) % 4294967296 = (d : Int) := by omega
          have m5 : (t : Int) / 4294967296 = (q' : Int) := by omega
          have i0 : (0 : Int) ≤ (i : Int) := by omega
          have i1 : (i : Int) < 32 := by omega
          have j0 : (0 : Int) ≤ (j : Int) := by omega
          have j1 : (j : Int) < 32 := by omega
          have ij0 : (0 : Int) ≤ (ij : Int) := by omega
          have ij1 : (ij : Int) < 64 := by omega
          have ij64 : ij < 64 := by omega
          have HN := Lib.hid (show setM c ij d < bp (i + m) ∧ setM c ij d + q' * bp (i + (j + 1)) = (a % bp i) * b + lim a i * (b % bp (j + 1)) * bp i from ⟨setM_lt HC.out.1 (by omega) hd1, by rw [hx]; exact hst⟩)
          clear hx hy hz hij hst hlt hp1 hp2 ht hd hq' hx1 hy1 hz1
          go_wp2_with fail
          go_quiet (fail)
          replace F := F.drewN nq
          generalize wr.drewN nq = wq at *
          have cst := (F.get (b := b6) tL).cell (limA_at (n := 64) (m := c) ij64)
          have fst := BlkAt.fz (F.get (b := b6) tL) ij
          have HWS := Lib.hid ((F.cellA (A := []) ij (.int .u32 d)).is (limA_set hd1))
          clear F c1 c2 c3
          go_wp2_with fail
          go_roundw
          case rel => exact ⟨j + 1, q', setM c ij d, by omega, hq1, rfl, by go_num, HN.out.1, HN.out.2, HWS.out⟩
          case measure => simp [intOf]; omega
        · obtain rfl : j = m := by omega
          obtain ⟨ij, hij⟩ : ∃ ij, i + j = ij := ⟨_, rfl⟩
          obtain ⟨hr1, hr2⟩ := times_row HL.out.2 HC.out.1 hk HC.out.2
          rw [hij] at hr1 hr2
          have m0 : IntKind.i64.wrap ((i : Int) + (j : Int)) = (ij : Int) := by rw [show (i : Int) + (j : Int) = (ij : Int) by omega]; exact IntWalk.i64_in _ (by omega)
          have m00 : (i : Int) + (j : Int) = (ij : Int) := by omega
          have m4 : (k : Int) % 4294967296 = (k : Int) := by omega
          have ij0 : (0 : Int) ≤ (ij : Int) := by omega
          have ij1 : (ij : Int) < 64 := by omega
          have cst := (F.get (b := b6) tL).cell (limA_at (n := 64) (m := c) (show ij < 64 by omega))
          have fst := BlkAt.fz (F.get (b := b6) tL) ij
          have HWS := Lib.hid ((F.cellA (A := []) ij (.int .u32 k)).is (limA_set hk))
          have HRS := Lib.hid hr1
          clear hr1 hr2 hij HC F
          go_wp2_with fail
          go_roundw
          case rel => exact ⟨i + 1, by omega, by go_num, by rw [← HRS.out]; exact HWS.out⟩
          case measure => simp [intOf]; omega
    · obtain rfl : i = n := by omega
      rw [Nat.mod_eq_of_lt HL.out.1] at F
      obtain ⟨c, hcc⟩ : ∃ c, a * b = c := ⟨_, rfl⟩
      rw [hcc] at F HM hc
      clear hcc HL hi hin
      go_wp2_with (first | go_skip | refine aY3 ?_ | (refine aT3 ?_; clear F; intro W F) | refine aN3 ?_)
      (clear F; intro b13 W F; try simp only [Act.put, z6, z1, z2])
      go_wp2_with fail
      go_loopw [14] (fun iv wr => ∃ i : Nat, i ≤ 32 ∧ iv = .int .i64 i ∧ Fr w wr [(b13, limA 32 (c % bp i), 27), (b6, limA 64 c, 192), (b4, intC false 0, 29), (b3, intC q b, 29), (b2, intC p a, 29)]) (fun iv _ => 32 - (intOf iv).toNat)
      case atStart => exact ⟨0, by omega, rfl, by rw [bp_zero, Nat.mod_one]; exact F⟩
      case round =>
        clear F
        obtain ⟨e, he, rfl, F⟩ := hrel
        by_cases hlt : e < 32
        · obtain ⟨h, hh⟩ : ∃ h, 32 + e = h := ⟨_, rfl⟩
          have c1 := (F.get (b := b6) tL).cell (limA_at (n := 64) (m := c) (show h < 64 by omega))
          rw [lim_ge HM.out (show 32 ≤ h by omega)] at c1
          have c2 := (F.get (b := b6) tL).cell (limA_at (n := 64) (m := c) (show e < 64 by omega))
          have c3 := (F.get (b := b13) tL).cell (limA_at (n := 32) (m := c % bp e) hlt)
          have f3 := BlkAt.fz (F.get (b := b13) tL) e
          have hz1 := lim_lt c e
          obtain ⟨z, hz⟩ : ∃ z, lim c e = z := ⟨_, rfl⟩
          rw [hz] at c2 hz1
          have hstep : setM (c % bp e) e z = c % bp (e + 1) := by
            rw [setM_new (Nat.mod_lt _ (bp_pos e)), mod_succ, hz]
          have HN := (F.cellA (A := []) e (.int .u32 z)).is (limA_set hz1)
          rw [hstep] at HN
          have HN := Lib.hid HN
          have m0 : IntKind.i64.wrap (32 + (e : Int)) = (h : Int) := by rw [show 32 + (e : Int) = (h : Int) by omega]; exact IntWalk.i64_in _ (by omega)
          have m00 : 32 + (e : Int) = (h : Int) := by omega
          obtain ⟨we1, we2, we3⟩ : RowKit.wrap64 (h : Int) = (h : Int) ∧ True ∧ True := ⟨by rw [RowKit.wrap64]; omega, trivial, trivial⟩
          have i0 : (0 : Int) ≤ (e : Int) := by omega
          have i1 : (e : Int) < 32 := by omega
          have i64 : (e : Int) < 64 := by omega
          have h0 : (0 : Int) ≤ (h : Int) := by omega
          have h1 : (h : Int) < 64 := by omega
          clear hh hz hstep F
          go_wp2_with fail
          go_roundw
          case rel => exact ⟨e + 1, by omega, by go_num, HN.out⟩
          case measure => simp [intOf]; omega
        · obtain rfl : e = 32 := by omega
          rw [Nat.mod_eq_of_lt HM.out] at F
          have c1 := (F.get (b := b2) tL).cell (intC_neg p a)
          have c2 := (F.get (b := b3) tL).cell (intC_neg q b)
          clear hlt he
          go_wp2_with (first | go_skip | ((go_at_call 190); (with_reducible refine fr_call F (hc _) ?_); (clear F; intro W F); (try dsimp only)) | refine aY3 ?_ | (refine aT3 ?_; clear F; intro W F) | refine aN3 ?_)
          exact bodyPost_ret (res_cs rfl rfl rfl (Fr.get F tL) (rowInt _ _)) rfl ⟨rfl, F.below⟩
theorem rmulZ {x y : Int} (hx : x.natAbs < bp 32) (hy : y.natAbs < bp 32) (h : (x * y).natAbs < bp 32) (w : World) : Calls Tryz.prog 133 #[.agg (IC x), .agg (IC y)] w (RetB (.tuple #[.agg (IC (x * y)), .int .i64 0]) w) := by
  have hm : x.natAbs * y.natAbs < bp 32 := by rw [← Int.natAbs_mul]; exact h
  refine rmul_any hx hy hm (fun w => rcanonZ hm (Int.natAbs_mul x y).symm ?_ ?_ w) w
  · intro h1
    rcases Int.lt_trichotomy x 0 with hx0 | hx0 | hx0 <;> rcases Int.lt_trichotomy y 0 with hy0 | hy0 | hy0
    · exact absurd h1 (by have := Int.mul_pos_of_neg_of_neg hx0 hy0; omega)
    · rw [hy0, Int.mul_zero] at h1; exact absurd h1 (by decide)
    · simp [hx0, Int.not_lt.2 (Int.le_of_lt hy0)]
    · rw [hx0, Int.zero_mul] at h1; exact absurd h1 (by decide)
    · rw [hx0, Int.zero_mul] at h1; exact absurd h1 (by decide)
    · rw [hx0, Int.zero_mul] at h1; exact absurd h1 (by decide)
    · simp [hy0, Int.not_lt.2 (Int.le_of_lt hx0)]
    · rw [hy0, Int.mul_zero] at h1; exact absurd h1 (by decide)
    · exact absurd h1 (by have := Int.mul_pos hx0 hy0; omega)
  · intro h1
    rcases Int.lt_trichotomy x 0 with hx0 | hx0 | hx0 <;> rcases Int.lt_trichotomy y 0 with hy0 | hy0 | hy0
    · simp [hx0, hy0]
    · rw [hy0, Int.mul_zero] at h1; exact absurd h1 (by decide)
    · exact absurd h1 (by have := Int.mul_neg_of_neg_of_pos hx0 hy0; omega)
    · rw [hx0, Int.zero_mul] at h1; exact absurd h1 (by decide)
    · rw [hx0, Int.zero_mul] at h1; exact absurd h1 (by decide)
    · rw [hx0, Int.zero_mul] at h1; exact absurd h1 (by decide)
    · exact absurd h1 (by have := Int.mul_neg_of_pos_of_neg hx0 hy0; omega)
    · rw [hy0, Int.mul_zero] at h1; exact absurd h1 (by decide)
    · simp [Int.not_lt.2 (Int.le_of_lt hx0), Int.not_lt.2 (Int.le_of_lt hy0)]
end
section
open Go.RowKit
set_option maxHeartbeats 4000000
def strOf : Value → ByteArray
  | .string s => s
  | _ => ⟨#[]⟩
theorem digit_cut : ∀ d : Fin 10, (⟨#[48, 49, 50, 51, 52, 53, 54, 55, 56, 57]⟩ : ByteArray).extract d.val (d.val + 1) = bs [UInt8.ofNat (48 + d.val)] := by decide +kernel
theorem digit_cut' {d : Nat} (h : d < 10) : (⟨#[48, 49, 50, 51, 52, 53, 54, 55, 56, 57]⟩ : ByteArray).extract d (d + 1) = bs [UInt8.ofNat (48 + d)] := digit_cut ⟨d, h⟩
theorem op_slice {P : Program} {a : Act} {W : World} {K : Act → World → Prop} {Q : Exit → Act → World → Prop} {o : Oper} {T : TypeId} {x y z : Operand} {s r : ByteArray} {k k' : IntKind} {i j : Nat} (hu : P.underlying T = some .string) (ho : o.op = .slice T x (some y) (some z) none) (hx : a.eval x = .string s) (hy : a.eval y = .int k i) (hz : a.eval z = .int k' j) (h1 : i ≤ j) (h2 : j ≤ s.size) (hr : s.extract i j = r) (hk : K (a.put o.dst (.string r)) W) : OpW P o a W K Q := by
  have h := run_slice_string (P := P) (w := W) T s k k' (i : Int) (j : Int) hu (by omega) (by omega) (by omega)
  rw [Int.toNat_natCast, Int.toNat_natCast, hr] at h
  have hrun : (execOp a.eval o).run P W = .ok (.value (.string r)) W := by
    unfold execOp
    simp only [ho, hx, hy, hz, Option.map_some, Option.map_none, Sem.run_bind, run_sliceAt_string W T _ _ _ _ hu, h, Result.andThen_ok]
    rfl
  refine ⟨?_⟩
  unfold Oper.wp
  rw [hrun]
  exact hk
set_option maxRecDepth 100000 in
theorem fSl {a : Act} {W : World} {Q : Exit → Act → World → Prop} {x y z : Operand} {ops : Array Oper} {rest : List Oper} {dst : Option Tmp} {ty : TypeId} {pos : String} {af : Array Edge} {gd : Option (Nat × Bool)} {s r : ByteArray} {k k' : IntKind} {i j : Nat} (hw : Region.wanted ⟨dst, .slice 9 x (some y) (some z) none, ty, pos, af, gd⟩ (yielded ops a.tmps) = true) (hx : a.eval x = .string s) (hy : a.eval y = .int k i) (hz : a.eval z = .int k' j) (h1 : i ≤ j) (h2 : j ≤ s.size) (hr : s.extract i j = r) (hk : wpList Tryz.prog ops Q rest (a.put dst (.string r)) W) : wpList Tryz.prog ops Q (⟨dst, .slice 9 x (some y) (some z) none, ty, pos, af, gd⟩ :: rest) a W :=
  wpList_want hw fun K hK => (op_slice Tryz.underlying9 rfl hx hy hz h1 h2 hr (hK _ _ hk)).out
theorem itoa_leD {z : Int} (h0 : z ≠ 0) : Lib.itoa z = if z < 0 then 45 :: (leD z.natAbs).reverse else (leD z.natAbs).reverse := by
  unfold Lib.itoa
  by_cases h : z < 0
  · rw [if_pos h, if_pos h, dec_leD _ (by omega)]
  · rw [if_neg h, if_neg h, show z.toNat = z.natAbs by omega, dec_leD _ (by omega)]
set_option maxRecDepth 100000 in
theorem rformat_any {z : Int} (hz : z.natAbs < bp 32) (w : World) : Calls Tryz.prog 155 #[.agg (IC z)] w (RetB (.string (bs (Lib.itoa z))) w) := by
  have F := Fr.start w
  obtain ⟨r, hr⟩ : ∃ r, Lib.itoa z = r := ⟨_, rfl⟩
  rw [hr]
  by_cases h0 : z = 0
  · subst h0
    have hr2 : bs [48] = bs r := by rw [← hr]; decide +kernel
    have e0 : bs [48] = ⟨#[48]⟩ := rfl
    rw [e0] at hr2
    have gz := fun w => rzero_any (m := 0) (z := true) (by decide) rfl w
    clear hr
    go_enter Tryz.func155, Tryz.ntmps155
    go_wp2_with (first | go_skip | refine aY3 ?_ | (refine aT3 ?_; clear F; intro W F) | refine aN3 ?_)
    (clear F; intro b1 W F; try simp only [Act.put, z6, z1, z2])
    go_wp2_with (first | go_skip | ((go_at_call 194); (with_reducible refine fr_call F (gz _) ?_); (clear F; intro W F); (try dsimp only)) | refine aY3 ?_ | (refine aT3 ?_; clear F; intro W F) | refine aN3 ?_)
    go_ret
    exact ⟨by rw [← hr2]; rfl, F.below⟩
  have hA := leD_len 32 z.natAbs hz
  have hr2 := itoa_leD h0
  rw [hr] at hr2
  have gz := fun w => rzero_any (z := false) hz (decide_eq_false (by omega)) w
  have ga := fun w => rabs_any hz w
  have gf := fun w => rfromZ (n := 10) (by decide) (by decide) w
  obtain ⟨E, hE⟩ : ∃ E, (leD z.natAbs).reverse = E := ⟨_, rfl⟩
  obtain ⟨A, hAA⟩ : ∃ A, z.natAbs = A := ⟨_, rfl⟩
  rw [hE] at hr2
  have hEL : E.length ≤ 320 := by rw [← hE, List.length_reverse]; exact hA
  rw [hAA] at hz ga hE
  have HS := Lib.hid (And.intro hz (And.intro hE (And.intro hr2 hEL)))
  have cx := IC_ng z
  clear hA hr hE hr2 hz hAA h0 hEL
  go_enter Tryz.func155, Tryz.ntmps155
  go_wp2_with (first | go_skip | refine aY3 ?_ | (refine aT3 ?_; clear F; intro W F) | refine aN3 ?_)
  (clear F; intro b1 W F; try simp only [Act.put, z6, z1, z2])
  go_wp2_with (first | go_skip | ((go_at_call 194); (with_reducible refine fr_call F (gz _) ?_); (clear F; intro W F); (try dsimp only)) | ((go_at_call 156); (with_reducible refine fr_call F (ga _) ?_); (clear F; intro W F); (try dsimp only)) | refine aY3 ?_ | (refine aT3 ?_; clear F; intro W F) | refine aN3 ?_)
  (clear F; intro b4 W F; try simp only [Act.put, z6, z1, z2])
  go_wp2_with (first | go_skip | refine aY3 ?_ | (refine aT3 ?_; clear F; intro W F) | refine aN3 ?_)
  clear gz ga
  go_loopw [3, 4] (fun sv pv wr => ∃ (b m : Nat) (L : List UInt8), m < bp 32 ∧ sv = .string (bs L) ∧ pv = .pointer (some ⟨b, 0, none⟩) ∧ (leD m).reverse ++ L = E ∧ Fr w wr [(b, IC (m : Nat), 29), (b1, IC z, 29)]) (fun sv _ _ => E.length - (strOf sv).size)
  case atStart => exact ⟨b4, A, [], HS.out.1, rfl, rfl, by rw [List.append_nil]; exact HS.out.2.1, F⟩
  case round =>
    clear F
    obtain ⟨b, m, L, hm, rfl, rfl, hL, F⟩ := hrel
    by_cases h0 : m = 0
    · subst h0
      have hr := HS.out.2.2.1
      rw [leD_zero, List.reverse_nil, List.nil_append] at hL
      subst hL
      have gz := fun w => rzero_any (m := 0) (z := true) (by decide) rfl w
      have hLL := HS.out.2.2.2
      have e3 : bs [45] ++ bs L = bs (45 :: L) := bs_append [45] L
      have e5 : bs [45] = ⟨#[45]⟩ := rfl
      rw [e5] at e3
      have sL := bs_size L
      obtain ⟨k, hk⟩ : ∃ k, L.length = k := ⟨_, rfl⟩
      rw [hk] at sL hLL
      have k1 : (9223372036854775807 < 1 + k) = False := by rw [eq_iff_iff, iff_false]; omega
      have c1 : ∀ W LL, Fr w W ((b, IC ((0 : Nat) : Int), 29) :: (b1, IC z, 29) :: LL) → W.cell? ⟨b1, 0, none⟩ = some (.bool (decide (z < 0))) := fun W LL h => (h.get (b := b1) tL).cell cx
      clear HS hk hLL
      go_upto_region 11 with (first | go_skip | ((go_at_call 194); (with_reducible refine fr_call F (gz _) ?_); (clear F; intro W F); (try dsimp only)) | refine aY3 ?_ | (refine aT3 ?_; clear F; intro W F) | refine aN3 ?_)
      have c2 := c1 _ _ F
      clear c1
      by_cases hn : z < 0
      · rw [if_pos hn] at hr
        subst hr
        rw [decide_eq_true hn] at c2
        clear hn cx
        go_wp2_with fail
        go_ret
        exact ⟨rfl, F.below⟩
      · rw [if_neg hn] at hr
        subst hr
        rw [decide_eq_false hn] at c2
        clear hn cx
        go_wp2_with fail
        go_ret
        exact ⟨rfl, F.below⟩
    · have gz := fun w => rzero_any (m := m) (z := false) hm (decide_eq_false h0) w
      obtain ⟨c, hc⟩ : ∃ c, m / 10 = c := ⟨_, rfl⟩
      obtain ⟨d, hd⟩ : ∃ d, m % 10 = d := ⟨_, rfl⟩
      have hd10 : d < 10 := by omega
      have gd : ∀ w, Calls Tryz.prog 152 #[.agg (IC (m : Int)), .agg (IC 10)] w (RetB (.tuple #[.agg (IC (c : Int)), .agg (IC (d : Int)), .int .i64 0]) w) := fun w => by
        have h := rdivmodZ (x := (m : Int)) (y := 10) hm (by decide) (by decide) w
        rwa [show (m : Int) / 10 = (c : Int) by omega, show (m : Int) % 10 = (d : Int) by omega] at h
      have hc32 : c < bp 32 := by omega
      have hL2 : (leD c).reverse ++ (UInt8.ofNat (48 + d) :: L) = E := by
        rw [← hL, leD_pos h0, hc, hd, List.reverse_cons, List.append_assoc, List.singleton_append]
      have hlen : L.length < E.length := by rw [← hL2, List.length_append, List.length_cons]; omega
      have hEL := HS.out.2.2.2
      have cd : (IC (d : Int))[1]? = some (.int .u32 d) := by
        have h := intC_limb (n := decide ((d : Int) < 0)) (m := d) (i := 0) (by decide)
        rwa [show lim d 0 = d by unfold lim; rw [bp_zero, Nat.div_one]; exact Nat.mod_eq_of_lt (by omega)] at h
      have ex := digit_cut' hd10
      have e1 : bs [UInt8.ofNat (48 + d)] ++ bs L = bs (UInt8.ofNat (48 + d) :: L) := bs_append _ _
      have sL := bs_size L
      have s1 : (bs [UInt8.ofNat (48 + d)]).size = 1 := bs_size _
      obtain ⟨ch, hch⟩ : ∃ ch, UInt8.ofNat (48 + d) = ch := ⟨_, rfl⟩
      rw [hch] at hL2 ex e1 s1
      obtain ⟨S1, hS1⟩ : ∃ S1, bs [ch] = S1 := ⟨_, rfl⟩
      obtain ⟨S2, hS2⟩ : ∃ S2, bs L = S2 := ⟨_, rfl⟩
      rw [hS1] at ex e1 s1
      rw [hS2] at e1 sL
      obtain ⟨S3, hS3⟩ : ∃ S3, bs (ch :: L) = S3 := ⟨_, rfl⟩
      rw [hS3] at e1
      obtain ⟨l, hl⟩ : ∃ l, L.length = l := ⟨_, rfl⟩
      obtain ⟨N, hN⟩ : ∃ N, E.length = N := ⟨_, rfl⟩
      rw [hl] at sL hlen
      rw [hN] at hlen hEL
      have k1 : (9223372036854775807 < 1 + l) = False := by rw [eq_iff_iff, iff_false]; omega
      have hs3 : S3.size = l + 1 := by rw [← hS3, bs_size, List.length_cons, hl]
      have HN := Lib.hid (And.intro hc32 (And.intro hL2 (And.intro hS3 (show E.length - S3.size < E.length - S2.size by rw [hN, hs3, sL]; omega))))
      have HD := Lib.hid (And.intro ex (And.intro e1 (And.intro sL (And.intro s1 k1))))
      clear hc hd hc32 hL2 hlen hL hEL hl hN ex e1 sL s1 k1 h0 hm hch hS1 hS3 hs3
      rw [hS2]
      clear hS2
      go_wp2_with (first | go_skip | ((go_at_call 194); (with_reducible refine fr_call F (gz _) ?_); (clear F; intro W F); (try dsimp only)) | refine aY3 ?_ | (refine aT3 ?_; clear F; intro W F) | refine aN3 ?_)
      try simp only [Act.put, z6, z1, z2]
      refine wp_region_slots mixP [5, 6, 7, 17, 18, 19, 20, 21, 22, 23] (fun l mm W => ∃ (s5 s6 s7 s17 s18 s19 s20 s21 s22 s23 : Value) (c_b5 c_b6 : Array Value) (b5 b6 : Nat), mm = [s5, s6, s7, s17, s18, s19, s20, s21, s22, s23] ∧ Fr w W ((b, IC (m : Int), 29) :: (b1, IC z, 29) :: (onl (l.getD 7 false) (b5, c_b5, 29) ++ onl (l.getD 8 false) (b6, c_b6, 29))) ∧ On l 0 [s18 = .agg (IC (m : Int)), s19 = .agg (IC 10), s20 = .tuple #[.agg (IC (c : Int)), .agg (IC (d : Int)), .int .i64 0], s17 = .tuple #[.agg (IC (c : Int)), .agg (IC (d : Int)), .int .i64 0], s21 = .agg (IC (c : Int)), s22 = .agg (IC (d : Int)), s23 = .int .i64 0, s5 = .pointer (some ⟨b5, 0, none⟩), s6 = .pointer (some ⟨b6, 0, none⟩), c_b5 = IC (c : Int), c_b6 = IC (d : Int), s7 = .int .i64 0] ∧ Wt l [(9, 7), (10, 8)] ∧ c_b5.size = (IC (c : Int)).size ∧ c_b6.size = (IC (d : Int)).size ∧ True) (by kernel_rfl) (putAll_self _ _) ?_ ?_ ?_
      · exact ⟨_, _, _, _, _, _, _, _, _, _, (intC false 0), (intC false 0), 0, 0, rfl, F.drew, On.none _ _ _, Wt.none _ _, dT⟩
      · rintro listed mm W ii hi hsz hoff ⟨s5, s6, s7, s17, s18, s19, s20, s21, s22, s23, c_b5, c_b6, b5, b6, rfl, HF, hH, hw, hz0, hz1, -⟩ hd
        simp only [putAll, z1, z2]
        obtain rfl | rfl | rfl | rfl | rfl | rfl | rfl | rfl | rfl | rfl | rfl | rfl := dr_c12 hi
        · exact oY3
        · refine ow rfl rfl fun K hK => ?_
          refine ⟨?_⟩
          go_simp
          with_reducible refine fr_call HF (gf _) ?_
          exact oC
        · obtain rfl : s18 = _ := dh 0 hH hd
          obtain rfl : s19 = _ := dh 1 hH hd
          refine ow rfl rfl fun K hK => ?_
          refine ⟨?_⟩
          go_simp
          with_reducible refine fr_call HF (gd _) ?_
          exact oC
        · obtain rfl : s20 = _ := dh 2 hH hd
          exact oP
        · obtain rfl : s17 = _ := dh 3 hH hd
          exact oP
        · obtain rfl : s17 = _ := dh 3 hH hd
          exact oP
        · obtain rfl : s17 = _ := dh 3 hH hd
          exact oP
        · refine ow rfl rfl fun K hK => ?_
          rw [show listed.getD 7 false = false from hoff] at HF
          with_reducible apply gA_int HF
          intro bN W HF
          go_simp
          exact hK _ _ ⟨_, dE, _, _, _, _, _, _, _, _, _, _, (intC false 0), c_b6, bN, b6, rfl, by rw [getD_on (show 7 < listed.size by rw [hsz]; decide), getD_keep (show 7 ≠ 8 by decide)]; exact Fr.mid (A := [(b, IC (m : Int), 29), (b1, IC z, 29)]) HF, onS (onV 9 hH (wtF hw hoff)) rfl rfl, dT⟩
        · refine ow rfl rfl fun K hK => ?_
          rw [show listed.getD 8 false = false from hoff] at HF
          with_reducible apply gA_int HF
          intro bN W HF
          go_simp
          exact hK _ _ ⟨_, dE, _, _, _, _, _, _, _, _, _, _, c_b5, (intC false 0), b5, bN, rfl, by rw [getD_on (show 8 < listed.size by rw [hsz]; decide), getD_keep (show 8 ≠ 7 by decide)]; exact Fr.mid (A := ((b, IC (m : Int), 29) :: (b1, IC z, 29) :: (onl (listed.getD 7 false) (b5, c_b5, 29)))) HF, onS (onV 10 hH (wtF hw hoff)) rfl rfl, dT⟩
        · obtain rfl : s21 = _ := dh 4 hH hd
          obtain rfl : s5 = _ := dh 7 hH hd
          have HG := hd 7 (by kernel_rfl)
          rw [HG] at HF
          simp only [onl, if_true, z7, z8] at HF
          exact oT3
        · obtain rfl : s22 = _ := dh 5 hH hd
          obtain rfl : s6 = _ := dh 8 hH hd
          have HG := hd 8 (by kernel_rfl)
          rw [HG] at HF
          simp only [onl, if_true, z7, z8] at HF
          exact oT3
        · obtain rfl : s23 = _ := dh 6 hH hd
          exact oP
      rintro listed mm W ⟨s5, s6, s7, s17, s18, s19, s20, s21, s22, s23, c_b5, c_b6, b5, b6, rfl, HF, hH, hw, hz0, hz1, -⟩ hall
      obtain ⟨rfl, rfl, rfl, rfl, rfl, rfl, rfl, rfl, rfl, e9, e10, rfl⟩ := onA hH hall
      rw [hall 7 (by decide)] at HF
      rw [hall 8 (by decide)] at HF
      simp only [onl, if_true, z7, z8] at HF
      rw [e9] at HF
      rw [e10] at HF
      clear hall hH e9 e10 hw hz0 hz1 F
      have F := HF
      clear HF
      simp only [putAll, z1, z2]
      clear gz gd
      have c6 := (F.get (b := b6) tL).cell cd
      obtain ⟨ex, e1, sL, s1, k1⟩ := HD.out
      have d1 : (0 : Int) ≤ (d : Int) := by omega
      have d2 : (d : Int) ≤ 9 := by omega
      have m1 : IntKind.u32.wrap ((d : Int) + 1) = ((d + 1 : Nat) : Int) := by rw [IntKind.wrap_u32]; omega
      have m2 : ((d : Int) + 1) % 4294967296 = ((d + 1 : Nat) : Int) := by omega
      have d3 : (d : Int) ≤ ((d + 1 : Nat) : Int) := by omega
      have d4 : ((d + 1 : Nat) : Int) ≤ 10 := by omega
      have d5 : d ≤ 9 := by omega
      have s10 : (⟨#[48, 49, 50, 51, 52, 53, 54, 55, 56, 57]⟩ : ByteArray).size = 10 := rfl
      obtain ⟨D1, hD1⟩ : ∃ D1, d + 1 = D1 := ⟨_, rfl⟩
      rw [hD1] at m1 m2 d3 d4 ex
      have d6 : d ≤ D1 := by omega
      have d7 : D1 ≤ 10 := by omega
      clear hD1
      go_upto_region 8 with (first | ((with_reducible apply fSl); exact rfl; exact rfl; exact rfl; exact rfl; exact d6; exact d7; exact ex))
      clear c6 ex e1 sL s1 k1 HD d1 d2 d3 d4 d5 d6 d7 m1 m2 s10 cd hd10
      go_wp2_with (first | go_skip | refine aY3 ?_ | (refine aT3 ?_; clear F; intro W F) | refine aN3 ?_)
      (clear F; intro b7 W F; try simp only [Act.put, z6, z1, z2])
      go_wp2_with (first | go_skip | refine aY3 ?_ | (refine aT3 ?_; clear F; intro W F) | refine aN3 ?_)
      replace F := F.sub (L' := [(b7, IC (c : Int), 29), (b1, IC z, 29)]) (by repeat (first | exact List.Sublist.slnil | apply List.Sublist.cons_cons | apply List.Sublist.cons))
      go_roundw
      case rel => exact ⟨b7, c, ch :: L, HN.out.1, congrArg Value.string HN.out.2.2.1.symm, rfl, HN.out.2.1, F⟩
      case measure => exact HN.out.2.2.2
end
section
open Go.RowKit
set_option maxHeartbeats 4000000
theorem sgN_eq0 {x : Bool} {a : Nat} : (sgN x a == 0) = decide (a = 0) := by
  obtain ⟨h1, h2⟩ := sgN_0 (neg := x) (m := a) rfl
  by_cases h : a = 0
  · rw [h1 h, decide_eq_true h]; rfl
  · rw [h2 h, decide_eq_false h]
    cases x <;> rfl
theorem okR_eq {x : Bool} {a : Nat} {y : Bool} {b : Nat} : decide (okR x a y b) = ((!(x && decide (a = 0))) && (decide (0 < sgN y b) && (decide (bl a ≤ 480) && (decide (bl b ≤ 480) && (Nat.gcd a b == 1))))) := by
  rw [Bool.eq_iff_iff, decide_eq_true_eq]
  simp only [Bool.and_eq_true, decide_eq_true_eq, beq_iff_eq, Bool.not_eq_true', Bool.and_eq_false_iff]
  unfold okR
  have hy : 0 < sgN y b → (!y || !decide (b = 0)) = true := fun h => by
    obtain ⟨h1, h2⟩ := sgN_0 (neg := y) (m := b) rfl
    by_cases hb : b = 0
    · rw [h1 hb] at h
      omega
    · simp [hb]
  constructor
  · rintro ⟨⟨h1, h2⟩, h3, h4, h5, h6⟩
    refine ⟨?_, h5, h1, h2, h6⟩
    cases x
    · exact .inl rfl
    · exact .inr (by simpa using h3)
  · rintro ⟨h3, h5, h1, h2, h6⟩
    refine ⟨⟨h1, h2⟩, ?_, hy h5, h5, h6⟩
    rcases h3 with h3 | h3
    · rw [h3]; rfl
    · rw [h3]; cases x <;> rfl
set_option maxRecDepth 100000 in
theorem rvalid_any {x : Bool} {a : Nat} {y : Bool} {b : Nat} (ha : a < bp 32) (hb : b < bp 32) {f : Bool} (hf : decide (okR x a y b) = f) (w : World) : Calls Tryz.prog 150 #[.agg (ratC x a y b)] w (RetB (.bool f) w) := by
  have F := Fr.start w
  have e0 := sgN_eq0 (x := x) (a := a)
  rw [okR_eq] at hf
  obtain ⟨s, hs⟩ : ∃ v, sgN x a = v := ⟨_, rfl⟩
  obtain ⟨v, hv⟩ : ∃ v, sgN y b = v := ⟨_, rfl⟩
  have g1 := fun w => rsign_any (neg := x) ha hs w
  have g2 := fun w => rsign_any (neg := y) hb hv w
  have g3 := fun w => rbits_any (neg := x) ha w
  have g4 := fun w => rbits_any (neg := y) hb w
  have g5 := fun w => rgcd_any (x := x) (y := y) ha hb w
  have hg : Nat.gcd a b < bp 32 := by
    rcases Nat.eq_zero_or_pos a with h | h
    · rw [h, Nat.gcd_zero_left]
      exact hb
    · exact Nat.lt_of_le_of_lt (Nat.gcd_le_left b h) ha
  obtain ⟨g, hgg⟩ : ∃ g, Nat.gcd a b = g := ⟨_, rfl⟩
  obtain ⟨A, hA⟩ : ∃ A, bl a = A := ⟨_, rfl⟩
  obtain ⟨B, hB⟩ : ∃ B, bl b = B := ⟨_, rfl⟩
  rw [hs] at e0
  rw [hv, hA, hB, hgg] at hf
  rw [hA] at g3
  rw [hB] at g4
  rw [hgg] at g5 hg
  have eq1 := fun w => eq_IC 9997 (x := (g : Int)) (y := 1) (by omega) (by decide) w
  obtain ⟨q, hq1, hq2⟩ : (∃ q, decide ((g : Int) = 1) = q ∧ (g == 1) = q) := ⟨_, rfl, by rw [Bool.eq_iff_iff, beq_iff_eq, decide_eq_true_eq]; omega⟩
  rw [hq1] at eq1
  rw [hq2] at hf
  have fi := fun w => rfromZ (n := 1) (by decide) (by decide) w
  have cx : (ratC x a y b)[0]? = some (.bool x) := by
    unfold ratC
    rw [Array.getElem?_append_left (by rw [intC_size]; decide)]
    exact intC_neg x a
  obtain ⟨z, hz⟩ : ∃ z, decide (a = 0) = z := ⟨_, rfl⟩
  rw [hz] at e0 hf
  have HF := Lib.hid hf
  clear hf hs hv hgg hA hB hq1 hq2 hg hz ha hb
  go_enter Tryz.func150, Tryz.ntmps150
  go_wp2_with (first | go_skip | refine aY3 ?_ | refine aN3 ?_)
  (clear F; intro b1 W F; try simp only [Act.put, z6, z1, z2])
  go_upto_region 1 with (first | go_skip | refine aY3 ?_ | refine aN3 ?_)
  have c0 := (F.get (b := b1) tL).cell cx
  go_cut [17] from 3 to 17 (fun k wr => k = .bool ((x && z) || !decide (0 < v)) ∧ Fr w wr [(b1, ratC x a y b, 31)])
  case first =>
    by_cases hv : 0 < v
    all_goals
      first
      | (have t1 : decide (v ≤ 0) = false := decide_eq_false (by omega))
      | (have t1 : decide (v ≤ 0) = true := decide_eq_true (by omega))
      first
      | (have t2 : decide (0 < v) = true := decide_eq_true (by omega))
      | (have t2 : decide (0 < v) = false := decide_eq_false (by omega))
      clear hv
      cases x <;> cases z
      all_goals
        go_wp2_with (first | go_skip | ((go_at_call 135); (with_reducible refine fr_call F (g1 _) ?_); (clear F; intro W F); (try dsimp only)) | ((go_at_call 135); (with_reducible refine fr_call F (g2 _) ?_); (clear F; intro W F); (try dsimp only)) | refine aY3 ?_ | refine aN3 ?_)
        go_meet
        exact ⟨by first | rfl | (rw [t2]; rfl), F⟩
  case rest =>
  clear F c0
  obtain ⟨rfl, F⟩ := hcut
  obtain ⟨k, hk⟩ : ∃ k, ((x && z) || !decide (0 < v)) = k := ⟨_, rfl⟩
  rw [hk]
  cases k
  · have hf : (decide (A ≤ 480) && (decide (B ≤ 480) && q)) = f := by
      rw [← HF.out]
      rw [Bool.or_eq_false_iff] at hk
      rw [hk.1, (by simpa using hk.2 : decide (0 < v) = true)]
      rfl
    have HF2 := Lib.hid hf
    clear hf HF hk
    by_cases h1 : A ≤ 480
    · have t1 : decide ((A : Int) ≤ 480) = true := decide_eq_true (by omega)
      by_cases h2 : B ≤ 480
      · have t2 : decide ((B : Int) ≤ 480) = true := decide_eq_true (by omega)
        have hf := HF2.out
        rw [decide_eq_true h1, decide_eq_true h2] at hf
        simp only [Bool.true_and] at hf
        subst hf
        clear HF2
        go_wp2_with (first | go_skip | ((go_at_call 159); (with_reducible refine fr_call F (g3 _) ?_); (clear F; intro W F); (try dsimp only)) | ((go_at_call 159); (with_reducible refine fr_call F (g4 _) ?_); (clear F; intro W F); (try dsimp only)) | ((go_at_call 158); (with_reducible refine fr_call F (g5 _) ?_); (clear F; intro W F); (try dsimp only)) | ((go_at_call 107); (with_reducible refine fr_call F (fi _) ?_); (clear F; intro W F); (try dsimp only)) | refine aY3 ?_ | refine aN3 ?_)
        go_ret
        exact ⟨rfl, F.below⟩
      · have t2 : decide ((B : Int) ≤ 480) = false := decide_eq_false (by omega)
        have hf := HF2.out
        rw [decide_eq_true h1, decide_eq_false h2] at hf
        simp only [Bool.true_and, Bool.false_and] at hf
        subst hf
        clear HF2
        go_wp2_with (first | go_skip | ((go_at_call 159); (with_reducible refine fr_call F (g3 _) ?_); (clear F; intro W F); (try dsimp only)) | ((go_at_call 159); (with_reducible refine fr_call F (g4 _) ?_); (clear F; intro W F); (try dsimp only)) | refine aY3 ?_ | refine aN3 ?_)
        go_ret
        exact ⟨rfl, F.below⟩
    · have t1 : decide ((A : Int) ≤ 480) = false := decide_eq_false (by omega)
      have hf := HF2.out
      rw [decide_eq_false h1] at hf
      simp only [Bool.false_and] at hf
      subst hf
      clear HF2
      go_wp2_with (first | go_skip | ((go_at_call 159); (with_reducible refine fr_call F (g3 _) ?_); (clear F; intro W F); (try dsimp only)) | refine aY3 ?_ | refine aN3 ?_)
      go_ret
      exact ⟨rfl, F.below⟩
  · have hf : f = false := by
      rw [← HF.out]
      rw [Bool.or_eq_true] at hk
      rcases hk with h | h
      · rw [h]; rfl
      · rw [Bool.not_eq_true'] at h
        rw [h]
        simp
    subst hf
    clear HF hk
    go_wp2_with (first | go_skip | refine aY3 ?_ | refine aN3 ?_)
    go_ret
    exact ⟨rfl, F.below⟩
end
section
open Go.RowKit
set_option maxHeartbeats 4000000
section
variable {n d m e : Int} {r : Int × Int × Int}
theorem rwholeR (h1 : -9223372036854775808 ≤ n) (h2 : n < 9223372036854775808) (w : World) : Calls Tryz.prog 105 #[.int .i64 n] w (RetB (.agg (RC n 1)) w) := by
  have F := Fr.start w
  have g1 := fun w => rfromZ h1 h2 w
  have g2 := fun w => rfromZ (n := 1) (by decide) (by decide) w
  clear h1 h2
  go_enter Tryz.func105, Tryz.ntmps105
  go_wp2_with (first | go_skip | refine aY3 ?_ | (refine aT3 ?_; clear F; intro W F) | refine aN3 ?_)
  (clear F; intro b2 W F; try simp only [Act.put, z6, z1, z2])
  go_wp2_with (first | go_skip | ((go_at_call 107); (with_reducible refine fr_call F (g1 _) ?_); (clear F; intro W F); (try dsimp only)) | ((go_at_call 107); (with_reducible refine fr_call F (g2 _) ?_); (clear F; intro W F); (try dsimp only)) | refine aY3 ?_ | (refine aT3 ?_; clear F; intro W F) | refine aN3 ?_)
  exact bodyPost_ret (res_c rfl rfl (Fr.get F tL) (rowRC _ _)) rfl ⟨rfl, F.below⟩
theorem rzeroR (w : World) : Calls Tryz.prog 59 #[] w (RetB (.agg (RC 0 1)) w) := by
  have F := Fr.start w
  have g1 := fun w => rwholeR (n := 0) (by decide) (by decide) w
  go_enter Tryz.func59, Tryz.ntmps59
  go_wp2_with (first | go_skip | (refine aT3 ?_; clear F; intro W F) | refine aN3 ?_)
  (clear F; intro b0 W F; try simp only [Act.put, z6, z1, z2])
  go_wp2_with (first | go_skip | ((go_at_call 105); (with_reducible refine fr_call F (g1 _) ?_); (clear F; intro W F); (try dsimp only)) | (refine aT3 ?_; clear F; intro W F) | refine aN3 ?_)
  exact bodyPost_ret (res_c rfl rfl (Fr.get F tL) (rowRC _ _)) rfl ⟨rfl, F.below⟩
theorem rproductZ {x y : Int} (hx : x.natAbs < bp 32) (hy : y.natAbs < bp 32) (h : (x * y).natAbs < bp 32) (w : World) : Calls Tryz.prog 217 #[.agg (IC x), .agg (IC y)] w (RetB (.agg (IC (x * y))) w) := by
  have F := Fr.start w
  have g1 := fun w => rmulZ hx hy h w
  clear hx hy h
  go_enter Tryz.func217, Tryz.ntmps217
  go_wp2_with (first | go_skip | refine aY3 ?_ | (refine aT3 ?_; clear F; intro W F) | refine aN3 ?_)
  (clear F; intro b2 W F; try simp only [Act.put, z6, z1, z2])
  go_wp2_with (first | go_skip | refine aY3 ?_ | (refine aT3 ?_; clear F; intro W F) | refine aN3 ?_)
  (clear F; intro b3 W F; try simp only [Act.put, z6, z1, z2])
  go_wp2_with (first | go_skip | refine aY3 ?_ | (refine aT3 ?_; clear F; intro W F) | refine aN3 ?_)
  (clear F; intro b4 W F; try simp only [Act.put, z6, z1, z2])
  go_wp2_with (first | go_skip | ((go_at_call 133); (with_reducible refine fr_call F (g1 _) ?_); (clear F; intro W F); (try dsimp only)) | refine aY3 ?_ | (refine aT3 ?_; clear F; intro W F) | refine aN3 ?_)
  (clear F; intro b5 W F; try simp only [Act.put, z6, z1, z2])
  go_wp2_with (first | go_skip | refine aY3 ?_ | (refine aT3 ?_; clear F; intro W F) | refine aN3 ?_)
  exact bodyPost_ret (res_c rfl rfl (Fr.get F tL) (rowIC _)) rfl ⟨rfl, F.below⟩
set_option maxRecDepth 100000 in
theorem rcompareR (h : okZ n d) (k : okZ m e) {c : Int} (hc : cmpZ (n * e) (m * d) = c) (w : World) : Calls Tryz.prog 173 #[.agg (RC n d), .agg (RC m e)] w (RetB (.int .i64 c) w) := by
  have F := Fr.start w
  obtain ⟨⟨hn, hd⟩, -⟩ := okZ_iff.1 h
  obtain ⟨⟨hm, he⟩, -⟩ := okZ_iff.1 k
  have g1 := fun w => rproductZ (b15 hn) (b15 he) (b30 hn he) w
  have g2 := fun w => rproductZ (b15 hm) (b15 hd) (b30 hm hd) w
  have g3 := fun w => rcmp_any (b30 hn he) (b30 hm hd) w
  obtain ⟨x, hx⟩ : ∃ x, n * e = x := ⟨_, rfl⟩
  obtain ⟨y, hy⟩ : ∃ y, m * d = y := ⟨_, rfl⟩
  rw [hx] at g1 g3 hc
  rw [hy] at g2 g3 hc
  rw [hc] at g3
  clear h k hn hd hm he hx hy hc
  go_enter Tryz.func173, Tryz.ntmps173
  go_wp2_with (first | go_skip | refine aY3 ?_ | refine aN3 ?_)
  (clear F; intro b2 W F; try simp only [Act.put, z6, z1, z2])
  go_wp2_with (first | go_skip | refine aY3 ?_ | refine aN3 ?_)
  (clear F; intro b3 W F; try simp only [Act.put, z6, z1, z2])
  go_wp2_with (first | go_skip | refine aY3 ?_ | refine aN3 ?_)
  try simp only [Act.put, z6, z1, z2]
  refine wp_region_slots mixP [4, 5, 6, 7, 8, 9, 10, 11, 12, 13, 14, 15] (fun l mm W => ∃ (s4 s5 s6 s7 s8 s9 s10 s11 s12 s13 s14 s15 : Value), mm = [s4, s5, s6, s7, s8, s9, s10, s11, s12, s13, s14, s15] ∧ Fr w W [(b3, RC m e, 31), (b2, RC n d, 31)] ∧ On l 0 [s5 = .pointer (some ⟨b2, 0, none⟩), s6 = .agg (IC n), s7 = .pointer (some ⟨b3, 33, none⟩), s8 = .agg (IC e), s9 = .agg (IC x), s10 = .pointer (some ⟨b3, 0, none⟩), s11 = .agg (IC m), s12 = .pointer (some ⟨b2, 33, none⟩), s13 = .agg (IC d), s14 = .agg (IC y), s15 = .int .i64 c, s4 = .int .i64 c] ∧ True) (by kernel_rfl) (putAll_self _ _) ?_ ?_ ?_
  · exact ⟨_, _, _, _, _, _, _, _, _, _, _, _, rfl, F.drew, On.none _ _ _, dT⟩
  · rintro listed mm W ii hi hsz hoff ⟨s4, s5, s6, s7, s8, s9, s10, s11, s12, s13, s14, s15, rfl, HF, hH, -⟩ hd
    simp only [putAll, z1, z2]
    obtain rfl | rfl | rfl | rfl | rfl | rfl | rfl | rfl | rfl | rfl | rfl | rfl := dr_c12 hi
    · exact oP
    · obtain rfl : s5 = _ := dh 0 hH hd
      exact oY3
    · exact oP
    · obtain rfl : s7 = _ := dh 2 hH hd
      exact oY3
    · obtain rfl : s6 = _ := dh 1 hH hd
      obtain rfl : s8 = _ := dh 3 hH hd
      refine ow rfl rfl fun K hK => ?_
      refine ⟨?_⟩
      go_simp
      with_reducible refine fr_call HF (g1 _) ?_
      exact oC
    · exact oP
    · obtain rfl : s10 = _ := dh 5 hH hd
      exact oY3
    · exact oP
    · obtain rfl : s12 = _ := dh 7 hH hd
      exact oY3
    · obtain rfl : s11 = _ := dh 6 hH hd
      obtain rfl : s13 = _ := dh 8 hH hd
      refine ow rfl rfl fun K hK => ?_
      refine ⟨?_⟩
      go_simp
      with_reducible refine fr_call HF (g2 _) ?_
      exact oC
    · obtain rfl : s9 = _ := dh 4 hH hd
      obtain rfl : s14 = _ := dh 9 hH hd
      refine ow rfl rfl fun K hK => ?_
      refine ⟨?_⟩
      go_simp
      with_reducible refine fr_call HF (g3 _) ?_
      exact oC
    · obtain rfl : s15 = _ := dh 10 hH hd
      exact oP
  rintro listed mm W ⟨s4, s5, s6, s7, s8, s9, s10, s11, s12, s13, s14, s15, rfl, HF, hH, -⟩ hall
  obtain ⟨rfl, rfl, rfl, rfl, rfl, rfl, rfl, rfl, rfl, rfl, rfl, rfl⟩ := onA hH hall
  clear hall hH  F
  have F := HF
  clear HF
  simp only [putAll, z1, z2]
  go_wp2_with (first | go_skip | refine aY3 ?_ | refine aN3 ?_)
  go_ret
  exact ⟨rfl, F.below⟩
end
end
section
open Go.RowKit
set_option maxHeartbeats 4000000
theorem RC_ext0 (n d : Int) : (RC n d).extract 0 33 = IC n := by
  unfold RC
  rw [Array.extract_append, IC_size, show (IC d).extract (0 - 33) (33 - 33) = #[] by simp, Array.append_empty]
  have h : (IC n).extract 0 (IC n).size = IC n := Array.extract_size
  rwa [IC_size] at h
theorem field_num {o : Oper} {a : Act} {W : World} {x : Operand} {n d : Int} (ho : o.op = .field 31 x 0) (hx : a.eval x = .agg (RC n d)) : (execOp a.eval o).run Tryz.prog W = .ok (.value (.agg (IC n))) W := by
  obtain ⟨dst, op, pos, af, g, z⟩ := o
  subst ho
  unfold execOp
  simp only [hx]
  go_simp
  rw [← RC_ext0 n d]
  kernel_rfl
theorem gF_num {a : Act} {W : World} {K : Act → World → Prop} {Q : Exit → Act → World → Prop} {x : Operand} {dst : Option Tmp} {ty : TypeId} {pos : String} {af : Array Edge} {gd : Option (Nat × Bool)} {n d : Int} (hx : a.eval x = .agg (RC n d)) (hk : K (a.put dst (.agg (IC n))) W) : OpW Tryz.prog ⟨dst, .field 31 x 0, ty, pos, af, gd⟩ a W K Q := by
  refine ⟨?_⟩
  unfold Oper.wp
  rw [field_num (o := ⟨dst, .field 31 x 0, ty, pos, af, gd⟩) rfl hx]
  exact hk
set_option maxRecDepth 100000 in
theorem rpower_any {n : Nat} (hn : n ≤ 9) (w : World) : Calls Tryz.prog 137 #[.int .i64 n] w (RetB (.agg (RC ((10 ^ n : Nat) : Int) 1)) w) := by
  have F := Fr.start w
  have h9 := ten_le hn
  obtain ⟨T, hT⟩ : ∃ T, 10 ^ n = T := ⟨_, rfl⟩
  rw [hT] at h9 ⊢
  have g1 := fun w => rwholeR (n := (T : Int)) (by omega) (by omega) w
  have HT := Lib.hid hT
  clear h9 hT
  go_enter Tryz.func137, Tryz.ntmps137
  go_wp2_with (first | go_skip | (refine aT3 ?_; clear F; intro W F) | refine aN3 ?_)
  (clear F; intro b2 W F; try simp only [Act.put, z6, z1, z2])
  go_wp2_with fail
  go_loopw [3, 4] (fun pv iv wr => ∃ i p : Nat, i ≤ n ∧ p = 10 ^ i ∧ pv = .int .i64 p ∧ iv = .int .i64 i ∧ Fr w wr [(b2, RC 0 0, 31)]) (fun _ iv _ => n - (intOf iv).toNat)
  case atStart => exact ⟨0, 1, by omega, rfl, rfl, rfl, F⟩
  case round =>
    clear F
    obtain ⟨i, p, hi, hp, rfl, rfl, F⟩ := hrel
    by_cases hin : i < n
    · have hp1 : p ≤ 1000000000 := by rw [hp]; exact ten_le (by omega)
      obtain ⟨q, hq⟩ : ∃ q, p * 10 = q := ⟨_, rfl⟩
      have HP := Lib.hid (show q = 10 ^ (i + 1) from by rw [← hq, hp, Nat.pow_succ])
      have m1 : IntKind.i64.wrap ((p : Int) * 10) = (q : Int) := by
        rw [show (p : Int) * 10 = (q : Int) by omega]
        exact IntWalk.i64_in _ (by omega)
      clear hp hq
      go_wp2_with fail
      go_roundw
      case rel => exact ⟨i + 1, q, by omega, HP.out, rfl, by go_num, F⟩
      case measure => simp [intOf]; omega
    · obtain rfl : n = i := by omega
      rw [HT.out] at hp
      subst hp
      go_wp2_with (first | go_skip | ((go_at_call 105); (with_reducible refine fr_call F (g1 _) ?_); (clear F; intro W F); (try dsimp only)) | (refine aT3 ?_; clear F; intro W F) | refine aN3 ?_)
      exact bodyPost_ret (res_c rfl rfl (Fr.get F tL) (rowRC _ _)) rfl ⟨rfl, F.below⟩
theorem rplaces_any {p : Int} {f : Bool} (hf : decide (0 ≤ p ∧ p ≤ 9) = f) (w : World) : Calls Tryz.prog 88 #[.int .i64 p] w (RetB (.bool f) w) := by
  have F := Fr.start w
  by_cases h1 : 0 ≤ p
  · have t1 : decide (0 ≤ p) = true := decide_eq_true h1
    by_cases h2 : p ≤ 9
    · have t2 : decide (p ≤ 9) = true := decide_eq_true h2
      obtain rfl : true = f := by rw [← hf, decide_eq_true ⟨h1, h2⟩]
      clear hf h1 h2
      go_enter Tryz.func88, Tryz.ntmps88
      go_wp2_with fail
      go_ret
      exact ⟨rfl, F.below⟩
    · have t2 : decide (p ≤ 9) = false := decide_eq_false h2
      obtain rfl : false = f := by rw [← hf, decide_eq_false (fun h => h2 h.2)]
      clear hf h1 h2
      go_enter Tryz.func88, Tryz.ntmps88
      go_wp2_with fail
      go_ret
      exact ⟨rfl, F.below⟩
  · have t1 : decide (0 ≤ p) = false := decide_eq_false h1
    obtain rfl : false = f := by rw [← hf, decide_eq_false (fun h => h1 h.1)]
    clear hf h1
    go_enter Tryz.func88, Tryz.ntmps88
    go_wp2_with fail
    go_ret
    exact ⟨rfl, F.below⟩
def aboveB (m : Int) (g : Bool) (h : Int) (o : Bool) : Bool :=
  if m = 1 then g else if m = 2 then !g else if m = 3 then false else if m = 4 then true else if h ≠ 0 then decide (0 < h) else if m = 5 then !g else o
theorem above_up {m z h : Int} {g : Bool} : aboveB m g h (decide (z % 2 = 1)) = upB m z h g := by
  unfold aboveB upB
  by_cases h0 : h = 0
  · simp only [h0, ne_eq, not_true_eq_false, if_false, if_true]
  · simp only [h0, ne_eq, not_false_eq_true, if_false, if_true]
    (repeat' split) <;> rfl
theorem rabove_any {m h : Int} {g o : Bool} (h1 : 1 ≤ m) (h2 : m ≤ 6) {r : Bool} (hr : aboveB m g h o = r) (w : World) : Calls Tryz.prog 153 #[.int .i64 m, .bool g, .int .i64 h, .bool o] w (RetB (.bool r) w) := by
  have F := Fr.start w
  have hm : m = 1 ∨ m = 2 ∨ m = 3 ∨ m = 4 ∨ m = 5 ∨ m = 6 := by omega
  clear h1 h2
  by_cases h0 : h = 0
  · subst h0
    rcases hm with rfl | rfl | rfl | rfl | rfl | rfl
    all_goals
      simp only [aboveB, ne_eq, not_true_eq_false, if_false, if_true, Int.reduceEq] at hr
      subst hr
      go_enter Tryz.func153, Tryz.ntmps153
      go_wp2_with fail
      go_ret
      exact ⟨rfl, F.below⟩
  · have t1 : (h == 0) = false := by rw [beq_eq_false_iff_ne]; exact h0
    rcases hm with rfl | rfl | rfl | rfl | rfl | rfl
    all_goals
      simp only [aboveB, h0, ne_eq, not_false_eq_true, if_false, if_true, Int.reduceEq] at hr
      subst hr
      go_enter Tryz.func153, Tryz.ntmps153
      go_wp2_with fail
      go_ret
      exact ⟨rfl, F.below⟩
set_option maxRecDepth 100000 in
theorem rscaledZ {n d : Int} (hn : n.natAbs < bp 15) (hd : d.natAbs < bp 15) {p : Nat} (hp : p ≤ 9) {N : Int} (hN : n * ((10 ^ p : Nat) : Int) = N) (w : World) : Calls Tryz.prog 151 #[.agg (RC n d), .int .i64 p] w (RetB (.tuple #[.agg (IC N), .agg (IC d)]) w) := by
  have F := Fr.start w
  have g1 := fun w => rpower_any hp w
  have hb := Nat.lt_of_lt_of_le (b_ten hn hp) (bp_le (show 17 ≤ 32 by decide))
  have ht : ((10 ^ p : Nat) : Int).natAbs < bp 32 := by
    have h1 := ten_le hp
    have h2 : 4294967296 ≤ bp 32 := by unfold bp; decide
    obtain ⟨T, hT⟩ : ∃ T, 10 ^ p = T := ⟨_, rfl⟩
    rw [hT] at h1 ⊢
    omega
  have g2 := fun w => rmulZ (b15 hn) ht hb w
  rw [hN] at g2
  obtain ⟨P, hP⟩ : ∃ P : Int, ((10 ^ p : Nat) : Int) = P := ⟨_, rfl⟩
  rw [hP] at g1 g2
  clear hn hd hp hN hb ht hP
  go_enter Tryz.func151, Tryz.ntmps151
  go_wp2_with (first | go_skip | refine aY3 ?_ | (refine aT3 ?_; clear F; intro W F) | refine aN3 ?_)
  (clear F; intro b2 W F; try simp only [Act.put, z6, z1, z2])
  go_wp2_with (first | go_skip | refine aY3 ?_ | (refine aT3 ?_; clear F; intro W F) | refine aN3 ?_)
  (clear F; intro b4 W F; try simp only [Act.put, z6, z1, z2])
  go_wp2_with (first | go_skip | refine aY3 ?_ | (refine aT3 ?_; clear F; intro W F) | refine aN3 ?_)
  (clear F; intro b5 W F; try simp only [Act.put, z6, z1, z2])
  go_wp2_with (first | go_skip | refine aY3 ?_ | (refine aT3 ?_; clear F; intro W F) | refine aN3 ?_)
  try simp only [Act.put, z6, z1, z2]
  refine wp_region_slots mixP [6, 7, 8, 9, 10, 11, 12, 13, 14, 15, 16] (fun l mm W => ∃ (s6 s7 s8 s9 s10 s11 s12 s13 s14 s15 s16 : Value) (c_b6 : Array Value) (b6 : Nat), mm = [s6, s7, s8, s9, s10, s11, s12, s13, s14, s15, s16] ∧ Fr w W ((b5, intC false 0, 29) :: (b4, intC false 0, 29) :: (b2, RC n d, 31) :: (onl (l.getD 9 false) (b6, c_b6, 29))) ∧ On l 0 [s9 = .pointer (some ⟨b2, 0, none⟩), s10 = .agg (IC n), s11 = .int .i64 p, s12 = .agg (RC P 1), s13 = .agg (IC P), s14 = .tuple #[.agg (IC N), .int .i64 0], s8 = .tuple #[.agg (IC N), .int .i64 0], s15 = .agg (IC N), s16 = .int .i64 0, s6 = .pointer (some ⟨b6, 0, none⟩), c_b6 = IC N, s7 = .int .i64 0] ∧ Wt l [(10, 9)] ∧ c_b6.size = (IC N).size ∧ True) (by kernel_rfl) (putAll_self _ _) ?_ ?_ ?_
  · exact ⟨_, _, _, _, _, _, _, _, _, _, _, (intC false 0), 0, rfl, F.drew, On.none _ _ _, Wt.none _ _, dT⟩
  · rintro listed mm W ii hi hsz hoff ⟨s6, s7, s8, s9, s10, s11, s12, s13, s14, s15, s16, c_b6, b6, rfl, HF, hH, hw, hz0, -⟩ hd
    simp only [putAll, z1, z2]
    obtain rfl | rfl | rfl | rfl | rfl | rfl | rfl | rfl | rfl | rfl | rfl | rfl := dr_c12 hi
    · exact oP
    · obtain rfl : s9 = _ := dh 0 hH hd
      exact oY3
    · exact oP
    · obtain rfl : s11 = _ := dh 2 hH hd
      refine ow rfl rfl fun K hK => ?_
      refine ⟨?_⟩
      go_simp
      with_reducible refine fr_call HF (g1 _) ?_
      exact oC
    · obtain rfl : s12 = _ := dh 3 hH hd
      refine ow rfl rfl fun K hK => ?_
      with_reducible apply gF_num
      · exact rfl
      exact oR
    · obtain rfl : s10 = _ := dh 1 hH hd
      obtain rfl : s13 = _ := dh 4 hH hd
      refine ow rfl rfl fun K hK => ?_
      refine ⟨?_⟩
      go_simp
      with_reducible refine fr_call HF (g2 _) ?_
      exact oC
    · obtain rfl : s14 = _ := dh 5 hH hd
      exact oP
    · obtain rfl : s8 = _ := dh 6 hH hd
      exact oP
    · obtain rfl : s8 = _ := dh 6 hH hd
      exact oP
    · refine ow rfl rfl fun K hK => ?_
      rw [show listed.getD 9 false = false from hoff] at HF
      with_reducible apply gA_int HF
      intro bN W HF
      go_simp
      exact hK _ _ ⟨_, dE, _, _, _, _, _, _, _, _, _, _, _, (intC false 0), bN, rfl, by rw [getD_on (show 9 < listed.size by rw [hsz]; decide)]; exact Fr.mid (A := [(b5, intC false 0, 29), (b4, intC false 0, 29), (b2, RC n d, 31)]) HF, onS (onV 10 hH (wtF hw hoff)) rfl rfl, dT⟩
    · obtain rfl : s15 = _ := dh 7 hH hd
      obtain rfl : s6 = _ := dh 9 hH hd
      have HG := hd 9 (by kernel_rfl)
      rw [HG] at HF
      simp only [onl, if_true, z7, z8] at HF
      exact oT3
    · obtain rfl : s16 = _ := dh 8 hH hd
      exact oP
  rintro listed mm W ⟨s6, s7, s8, s9, s10, s11, s12, s13, s14, s15, s16, c_b6, b6, rfl, HF, hH, hw, hz0, -⟩ hall
  obtain ⟨rfl, rfl, rfl, rfl, rfl, rfl, rfl, rfl, rfl, rfl, e10, rfl⟩ := onA hH hall
  rw [hall 9 (by decide)] at HF
  simp only [onl, if_true, z7, z8] at HF
  rw [e10] at HF
  clear hall hH e10 hw hz0 F
  have F := HF
  clear HF
  simp only [putAll, z1, z2]
  go_wp2_with (first | go_skip | refine aY3 ?_ | (refine aT3 ?_; clear F; intro W F) | refine aN3 ?_)
  try simp only [Act.put, z6, z1, z2]
  refine wp_region_slots mixP [17, 18, 19] (fun l mm W => ∃ (s17 s18 s19 : Value) (c_b4 c_b5 : Array Value), mm = [s17, s18, s19] ∧ Fr w W [(b5, c_b5, 29), (b4, c_b4, 29), (b2, RC n d, 31), (b6, IC N, 29)] ∧ On l 0 [s17 = .agg (IC N), s18 = .pointer (some ⟨b2, 33, none⟩), s19 = .agg (IC d), c_b4 = IC N, c_b5 = IC d] ∧ c_b4.size = (IC N).size ∧ c_b5.size = (IC d).size ∧ True) (by kernel_rfl) (putAll_self _ _) ?_ ?_ ?_
  · exact ⟨_, _, _, (intC false 0), (intC false 0), rfl, F.drew, On.none _ _ _, dT⟩
  · rintro listed mm W ii hi hsz hoff ⟨s17, s18, s19, c_b4, c_b5, rfl, HF, hH, hz0, hz1, -⟩ hd
    simp only [putAll, z1, z2]
    obtain rfl | rfl | rfl | rfl | rfl := dr_c5 hi
    · exact oY3
    · exact oP
    · obtain rfl : s18 = _ := dh 1 hH hd
      exact oY3
    · obtain rfl : s17 = _ := dh 0 hH hd
      exact oT3
    · obtain rfl : s19 = _ := dh 2 hH hd
      exact oT3
  rintro listed mm W ⟨s17, s18, s19, c_b4, c_b5, rfl, HF, hH, hz0, hz1, -⟩ hall
  obtain ⟨rfl, rfl, rfl, e3, e4⟩ := onA hH hall
  rw [e3] at HF
  rw [e4] at HF
  clear hall hH e3 e4 hz0 hz1 F
  have F := HF
  clear HF
  simp only [putAll, z1, z2]
  go_wp2_with (first | go_skip | refine aY3 ?_ | (refine aT3 ?_; clear F; intro W F) | refine aN3 ?_)
  exact bodyPost_ret (res_cc rfl rfl rfl (Fr.get F tL) (rowIC _) (Fr.get F tL) (rowIC _)) rfl ⟨rfl, F.below⟩
end
section
open Go.RowKit
set_option maxHeartbeats 4000000
theorem odd_lim (z : Int) : (lim z.natAbs 0 % 2 = 1) ↔ z % 2 = 1 := by
  unfold lim
  rw [bp_zero, Nat.div_one]
  omega
theorem sign_mul_pos {n t : Int} (ht : 0 < t) : ((n * t).sign < 0) ↔ n < 0 := by
  rw [Int.sign_neg_iff]
  constructor
  · intro h
    rcases Int.lt_or_le n 0 with h2 | h2
    · exact h2
    · have := Int.mul_nonneg h2 (Int.le_of_lt ht)
      omega
  · intro h
    exact Int.mul_neg_of_neg_of_pos h ht
set_option maxRecDepth 100000 in
theorem rround_any {x : Bool} {a : Nat} {y : Bool} {b : Nat} (ha : a < bp 32) (hb : b < bp 32) {p m : Int} {r : Int × Int} (hr : rndR (okR x a y b) (sZ x a) (sZ y b) p m = r) (w : World) : Calls Tryz.prog 101 #[.agg (ratC x a y b), .int .i64 p, .int .i64 m] w (RetB (.tuple #[.agg (IC r.1), .int .i64 r.2]) w) := by
  have F := Fr.start w
  obtain ⟨f, hf⟩ : ∃ f, decide (okR x a y b) = f := ⟨_, rfl⟩
  have g1 := fun w => rvalid_any ha hb hf w
  obtain ⟨f2, hf2⟩ : ∃ f, decide (0 ≤ p ∧ p ≤ 9) = f := ⟨_, rfl⟩
  have gp := fun w => rplaces_any hf2 w
  have HR := Lib.hid hr
  clear hr
  go_enter Tryz.func101, Tryz.ntmps101
  go_wp2_with (first | go_skip | refine aY3 ?_ | (refine aT3 ?_; clear F; intro W F) | refine aN3 ?_)
  (clear F; intro b3 W F; try simp only [Act.put, z6, z1, z2])
  go_wp2_with (first | go_skip | refine aY3 ?_ | (refine aT3 ?_; clear F; intro W F) | refine aN3 ?_)
  (clear F; intro b6 W F; try simp only [Act.put, z6, z1, z2])
  by_cases hv : ¬ okR x a y b
  · have he : f = false := by rw [← hf]; exact decide_eq_false hv
    have hr : (0, 20) = r := by have := HR.out; rwa [rndR, if_pos hv] at this
    subst he
    subst hr
    clear HR hv hf hf2
    go_wp2_with (first | go_skip | ((go_at_call 150); (with_reducible refine fr_call F (g1 _) ?_); (clear F; intro W F); (try dsimp only)) | refine aY3 ?_ | (refine aT3 ?_; clear F; intro W F) | refine aN3 ?_)
    exact bodyPost_ret (res_cs rfl rfl rfl (Fr.get F tL) (rowIC 0)) rfl ⟨rfl, F.below⟩
  rw [Classical.not_not] at hv
  obtain rfl : true = f := by rw [← hf]; exact (decide_eq_true hv).symm
  by_cases hp : p < 0 ∨ 9 < p
  · have he : f2 = false := by rw [← hf2]; exact decide_eq_false (by omega)
    have hr : (0, 30) = r := by have := HR.out; rwa [rndR, if_neg (by rw [Classical.not_not]; exact hv), if_pos hp] at this
    subst he
    subst hr
    clear HR hv hp hf hf2
    go_wp2_with (first | go_skip | ((go_at_call 150); (with_reducible refine fr_call F (g1 _) ?_); (clear F; intro W F); (try dsimp only)) | ((go_at_call 88); (with_reducible refine fr_call F (gp _) ?_); (clear F; intro W F); (try dsimp only)) | refine aY3 ?_ | (refine aT3 ?_; clear F; intro W F) | refine aN3 ?_)
    exact bodyPost_ret (res_cs rfl rfl rfl (Fr.get F tL) (rowIC 0)) rfl ⟨rfl, F.below⟩
  obtain rfl : true = f2 := by rw [← hf2]; exact (decide_eq_true (by omega)).symm
  have hr := HR.out
  rw [rndR, if_neg (by rw [Classical.not_not]; exact hv), if_neg hp] at hr
  by_cases hm : m < 1 ∨ 6 < m
  · rw [if_pos hm] at hr
    subst hr
    by_cases hm1 : m < 1
    · have t1 : decide (m < 1) = true := decide_eq_true hm1
      clear HR hv hp hf hf2 hm hm1
      go_wp2_with (first | go_skip | ((go_at_call 150); (with_reducible refine fr_call F (g1 _) ?_); (clear F; intro W F); (try dsimp only)) | ((go_at_call 88); (with_reducible refine fr_call F (gp _) ?_); (clear F; intro W F); (try dsimp only)) | refine aY3 ?_ | (refine aT3 ?_; clear F; intro W F) | refine aN3 ?_)
      exact bodyPost_ret (res_cs rfl rfl rfl (Fr.get F tL) (rowIC 0)) rfl ⟨rfl, F.below⟩
    · have t1 : decide (m < 1) = false := decide_eq_false hm1
      have t2 : decide (6 < m) = true := decide_eq_true (by omega)
      clear HR hv hp hf hf2 hm hm1
      go_wp2_with (first | go_skip | ((go_at_call 150); (with_reducible refine fr_call F (g1 _) ?_); (clear F; intro W F); (try dsimp only)) | ((go_at_call 88); (with_reducible refine fr_call F (gp _) ?_); (clear F; intro W F); (try dsimp only)) | refine aY3 ?_ | (refine aT3 ?_; clear F; intro W F) | refine aN3 ?_)
      exact bodyPost_ret (res_cs rfl rfl rfl (Fr.get F tL) (rowIC 0)) rfl ⟨rfl, F.below⟩
  rw [if_neg hm] at hr
  have t1 : decide (m < 1) = false := decide_eq_false (by omega)
  have t2 : decide (6 < m) = false := decide_eq_false (by omega)
  obtain ⟨n, d, ⟨h1, h2, h3⟩, hn, hd, hd0⟩ := okR_ints hv
  rw [h2, h3] at hr
  obtain ⟨q, rfl⟩ : ∃ q : Nat, p = (q : Int) := ⟨p.toNat, by omega⟩
  have hq : q ≤ 9 := by omega
  rw [Int.toNat_natCast] at hr
  have hN := b_ten hn hq
  have hsg := sign_mul_pos (n := n) (t := ((10 ^ q : Nat) : Int)) (by have := Nat.pow_pos (n := q) (show 0 < 10 by decide); omega)
  obtain ⟨N, hNN⟩ : ∃ N, n * ((10 ^ q : Nat) : Int) = N := ⟨_, rfl⟩
  have g2 := fun w => rscaledZ hn hd hq hNN w
  rw [hNN] at hsg hN
  simp only [hNN] at hr
  have hN32 : N.natAbs < bp 32 := Nat.lt_of_lt_of_le hN (bp_le (by decide))
  have gq := fun w => rdivmodZ hN32 (b15 hd) (show d ≠ 0 by omega) w
  have hu : (N / d).natAbs < bp 17 := Nat.lt_of_le_of_lt (div_le_abs N d) hN
  have hvv : (N % d).natAbs < bp 15 := by
    have k1 := Int.emod_nonneg N (show d ≠ 0 by omega)
    have k2 := Int.emod_lt_of_pos N hd0
    omega
  obtain ⟨u, huu⟩ : ∃ u, N / d = u := ⟨_, rfl⟩
  obtain ⟨v, hv2⟩ : ∃ v, N % d = v := ⟨_, rfl⟩
  rw [huu, hv2] at hr gq
  rw [huu] at hu
  rw [hv2] at hvv
  rw [h1] at g1 F
  have g3 := fun w => radd_any (b15 hvv) (b15 hvv) (b17 hvv hvv) w
  have g4 := fun w => rcmp_any (x := v + v) (y := d) (b17 hvv hvv) (b15 hd) w
  have g5 := fun w => rsignZ hN32 w
  have hs : decide (N.sign < 0) = decide (n < 0) := by rw [decide_eq_decide]; exact hsg
  rw [← hs] at hr
  obtain ⟨s, hss⟩ : ∃ s, N.sign = s := ⟨_, rfl⟩
  rw [hss] at g5 hr
  obtain ⟨g, hg⟩ : ∃ g, decide (s < 0) = g := ⟨_, rfl⟩
  rw [hg] at hr
  have HS := Lib.hid hg
  rw [show 2 * v = v + v by omega] at hr
  obtain ⟨c, hc⟩ : ∃ c, cmpZ (v + v) d = c := ⟨_, rfl⟩
  rw [hc] at g4 hr
  obtain ⟨o, ho⟩ : ∃ o, decide (u % 2 = 1) = o := ⟨_, rfl⟩
  obtain ⟨ub, hub⟩ : ∃ ub, upB m u c g = ub := ⟨_, rfl⟩
  have g6 := fun w => rabove_any (m := m) (h := c) (g := g) (o := o) (r := ub) (by omega) (by omega) (by rw [← ho, above_up]; exact hub) w
  rw [hub] at hr
  have g8 := fun w => rsignZ (b15 hvv) w
  have hv0 : v.sign = 0 ↔ v = 0 := Int.sign_eq_zero_iff_zero
  obtain ⟨t, ht⟩ : ∃ t, v.sign = t := ⟨_, rfl⟩
  rw [ht] at g8 hv0
  have hu1 : u.natAbs < bp 32 ∧ (u + 1).natAbs < bp 32 := by
    have k1 : bp 18 = bp 17 * 4294967296 := bp_succ 17
    have k2 := bp_le (show 18 ≤ 32 by decide)
    omega
  have g9 := fun w => rfromZ (n := 1) (by decide) (by decide) w
  have g10 := fun w => radd_any (x := u) (y := 1) hu1.1 (by decide) hu1.2 w
  have hl1 := lim_lt u.natAbs 0
  have hod := odd_lim u
  have cu : (IC u)[1]? = some (.int .u32 (lim u.natAbs 0)) := intC_limb (n := decide (u < 0)) (m := u.natAbs) (i := 0) (by decide)
  obtain ⟨li, hl⟩ : ∃ li, lim u.natAbs 0 = li := ⟨_, rfl⟩
  rw [hl] at hl1 hod cu
  obtain ⟨l2, hl2⟩ : ∃ l2, li % 2 = l2 := ⟨_, rfl⟩
  rw [hl2] at hod
  have ml1 : (li : Int).tmod 2 = (l2 : Int) := by rw [← hl2]; exact Int.ofNat_tmod li 2
  have ml2 : (li : Int) % 2 = (l2 : Int) := by omega
  have ml3 : ((l2 : Int) == 1) = o := by
    rw [← ho, Bool.eq_iff_iff, beq_iff_eq, decide_eq_true_eq, ← hod]
    omega
  have ml4 : (l2 == 1) = o := by
    rw [← ho, Bool.eq_iff_iff, beq_iff_eq, decide_eq_true_eq, ← hod]
  have HR2 := Lib.hid hr
  have HV0 := Lib.hid hv0
  obtain ⟨w2, hw2⟩ : ∃ z, v + v = z := ⟨_, rfl⟩
  rw [hw2] at g3 g4
  clear HR hp hq hNN hN hN32 hu huu hvv hr hv2 hn hd hd0 h1 h2 h3 hv hss hc ht hu1 hv0 hw2 hf hf2 hm hsg hs hg ho hub hl hl1 hl2 hod
  go_wp2_with (first | go_skip | ((go_at_call 150); (with_reducible refine fr_call F (g1 _) ?_); (clear F; intro W F); (try dsimp only)) | ((go_at_call 88); (with_reducible refine fr_call F (gp _) ?_); (clear F; intro W F); (try dsimp only)) | ((go_at_call 151); (with_reducible refine fr_call F (g2 _) ?_); (clear F; intro W F); (try dsimp only)) | refine aY3 ?_ | (refine aT3 ?_; clear F; intro W F) | refine aN3 ?_)
  (clear F; intro b8 W F; try simp only [Act.put, z6, z1, z2])
  go_wp2_with (first | go_skip | refine aY3 ?_ | (refine aT3 ?_; clear F; intro W F) | refine aN3 ?_)
  (clear F; intro b9 W F; try simp only [Act.put, z6, z1, z2])
  go_wp2_with (first | go_skip | ((go_at_call 152); (with_reducible refine fr_call F (gq _) ?_); (clear F; intro W F); (try dsimp only)) | refine aY3 ?_ | (refine aT3 ?_; clear F; intro W F) | refine aN3 ?_)
  (clear F; intro b10 W F; try simp only [Act.put, z6, z1, z2])
  go_wp2_with (first | go_skip | refine aY3 ?_ | (refine aT3 ?_; clear F; intro W F) | refine aN3 ?_)
  (clear F; intro b11 W F; try simp only [Act.put, z6, z1, z2])
  clear g1 gp g2 gq
  have hr := HR2.out
  by_cases hv0 : v = 0
  · rw [if_pos hv0] at hr
    have ht0 := HV0.out.2 hv0
    subst hr
    subst ht0
    clear HV0 hv0 HR2
    go_wp2_with (first | go_skip | ((go_at_call 135); (with_reducible refine fr_call F (g8 _) ?_); (clear F; intro W F); (try dsimp only)) | refine aY3 ?_ | (refine aT3 ?_; clear F; intro W F) | refine aN3 ?_)
    exact bodyPost_ret (res_cs rfl rfl rfl (Fr.get F tL) (rowIC _)) rfl ⟨rfl, F.below⟩
  rw [if_neg hv0] at hr
  have ht0 : (t == 0) = false := by rw [beq_eq_false_iff_ne]; exact fun h => hv0 (HV0.out.1 h)
  have HRR := Lib.hid hr
  clear HV0 hv0 HR2 hr
  go_wp2_with (first | go_skip | ((go_at_call 135); (with_reducible refine fr_call F (g8 _) ?_); (clear F; intro W F); (try dsimp only)) | ((go_at_call 134); (with_reducible refine fr_call F (g3 _) ?_); (clear F; intro W F); (try dsimp only)) | refine aY3 ?_ | (refine aT3 ?_; clear F; intro W F) | refine aN3 ?_)
  (clear F; intro b13 W F; try simp only [Act.put, z6, z1, z2])
  go_wp2_with (first | go_skip | refine aY3 ?_ | (refine aT3 ?_; clear F; intro W F) | refine aN3 ?_)
  clear g8 g3
  try simp only [Act.put, z6, z1, z2]
  refine wp_region_slots mixP [56, 57, 58, 59, 60, 61, 62, 63, 64, 65, 66, 67, 68] (fun l mm W => ∃ (s56 s57 s58 s59 s60 s61 s62 s63 s64 s65 s66 s67 s68 : Value), mm = [s56, s57, s58, s59, s60, s61, s62, s63, s64, s65, s66, s67, s68] ∧ Fr w W [(b13, IC w2, 29), (b11, IC v, 29), (b10, IC u, 29), (b9, IC d, 29), (b8, IC N, 29), (b6, intC false 0, 29), (b3, RC n d, 31)] ∧ On l 0 [s56 = .int .i64 m, s57 = .agg (IC N), s58 = .int .i64 s, s59 = .bool g, s60 = .agg (IC w2), s61 = .agg (IC d), s62 = .int .i64 c, s63 = .pointer (some ⟨b10, 1, none⟩), s64 = .pointer (some ⟨b10, 1, none⟩), s65 = .int .u32 (li : Int), s66 = .int .u32 (l2 : Int), s67 = .bool o, s68 = .bool ub] ∧ True) (by kernel_rfl) (putAll_self _ _) ?_ ?_ ?_
  · exact ⟨_, _, _, _, _, _, _, _, _, _, _, _, _, rfl, F.drew, On.none _ _ _, dT⟩
  · rintro listed mm W ii hi hsz hoff ⟨s56, s57, s58, s59, s60, s61, s62, s63, s64, s65, s66, s67, s68, rfl, HF, hH, -⟩ hd
    simp only [putAll, z1, z2]
    obtain rfl | rfl | rfl | rfl | rfl | rfl | rfl | rfl | rfl | rfl | rfl | rfl | rfl := dr_c13 hi
    · exact oP
    · exact oY3
    · obtain rfl : s57 = _ := dh 1 hH hd
      refine ow rfl rfl fun K hK => ?_
      refine ⟨?_⟩
      go_simp
      with_reducible refine fr_call HF (g5 _) ?_
      exact oC
    · obtain rfl : s58 = _ := dh 2 hH hd
      refine ow rfl rfl fun K hK => ?_
      refine ⟨?_⟩
      go_simp
      rw [HS.out]
      exact hK _ _ dK
    · exact oY3
    · exact oY3
    · obtain rfl : s60 = _ := dh 4 hH hd
      obtain rfl : s61 = _ := dh 5 hH hd
      refine ow rfl rfl fun K hK => ?_
      refine ⟨?_⟩
      go_simp
      with_reducible refine fr_call HF (g4 _) ?_
      exact oC
    · exact oP
    · obtain rfl : s63 = _ := dh 7 hH hd
      exact oP
    · obtain rfl : s64 = _ := dh 8 hH hd
      have cF := BlkAt.cell (Fr.get HF (b := b10) (cs := IC u) (by (exact tL))) (cu)
      exact oP
    · obtain rfl : s65 = _ := dh 9 hH hd
      exact oP
    · obtain rfl : s66 = _ := dh 10 hH hd
      exact oP
    · obtain rfl : s56 = _ := dh 0 hH hd
      obtain rfl : s59 = _ := dh 3 hH hd
      obtain rfl : s62 = _ := dh 6 hH hd
      obtain rfl : s67 = _ := dh 11 hH hd
      refine ow rfl rfl fun K hK => ?_
      refine ⟨?_⟩
      go_simp
      with_reducible refine fr_call HF (g6 _) ?_
      exact oC
  rintro listed mm W ⟨s56, s57, s58, s59, s60, s61, s62, s63, s64, s65, s66, s67, s68, rfl, HF, hH, -⟩ hall
  obtain ⟨rfl, rfl, rfl, rfl, rfl, rfl, rfl, rfl, rfl, rfl, rfl, rfl, rfl⟩ := onA hH hall
  clear hall hH  F
  have F := HF
  clear HF
  simp only [putAll, z1, z2]
  clear g5 g4 g6 ml1 ml2 ml3 ml4 cu
  have hr := HRR.out
  cases ub
  · rw [if_neg (by decide)] at hr
    subst hr
    clear HRR
    go_wp2_with (first | go_skip | refine aY3 ?_ | (refine aT3 ?_; clear F; intro W F) | refine aN3 ?_)
    exact bodyPost_ret (res_cs rfl rfl rfl (Fr.get F tL) (rowIC _)) rfl ⟨rfl, F.below⟩
  · rw [if_pos rfl] at hr
    subst hr
    clear HRR
    go_wp2_with (first | go_skip | refine aY3 ?_ | (refine aT3 ?_; clear F; intro W F) | refine aN3 ?_)
    try simp only [Act.put, z6, z1, z2]
    refine wp_region_slots mixP [69, 70, 71, 72, 73, 74] (fun l mm W => ∃ (s69 s70 s71 s72 s73 s74 : Value) (c_b10 : Array Value), mm = [s69, s70, s71, s72, s73, s74] ∧ Fr w W [(b13, IC w2, 29), (b11, IC v, 29), (b10, c_b10, 29), (b9, IC d, 29), (b8, IC N, 29), (b6, intC false 0, 29), (b3, RC n d, 31)] ∧ On l 0 [s70 = .agg (IC u), s71 = .agg (IC 1), s72 = .tuple #[.agg (IC (u + 1)), .int .i64 0], s69 = .tuple #[.agg (IC (u + 1)), .int .i64 0], s73 = .agg (IC (u + 1)), s74 = .int .i64 0, c_b10 = IC (u + 1)] ∧ Wt l [(6, 0)] ∧ (l.getD 6 false = false → c_b10 = IC u) ∧ c_b10.size = (IC (u + 1)).size ∧ True) (by kernel_rfl) (putAll_self _ _) ?_ ?_ ?_
    · exact ⟨_, _, _, _, _, _, (IC u), rfl, F.drew, On.none _ _ _, Wt.none _ _, fun _ => rfl, dT⟩
    · rintro listed mm W ii hi hsz hoff ⟨s69, s70, s71, s72, s73, s74, c_b10, rfl, HF, hH, hw, hO_b10, hz0, -⟩ hd
      simp only [putAll, z1, z2]
      obtain rfl | rfl | rfl | rfl | rfl | rfl | rfl := dr_c7 hi
      · have hold := oldG hO_b10 hw hoff
        rw [hold] at HF
        exact oY3o
      · refine ow rfl rfl fun K hK => ?_
        refine ⟨?_⟩
        go_simp
        with_reducible refine fr_call HF (g9 _) ?_
        exact oC
      · obtain rfl : s70 = _ := dh 0 hH hd
        obtain rfl : s71 = _ := dh 1 hH hd
        refine ow rfl rfl fun K hK => ?_
        refine ⟨?_⟩
        go_simp
        with_reducible refine fr_call HF (g10 _) ?_
        exact oC
      · obtain rfl : s72 = _ := dh 2 hH hd
        exact oP
      · obtain rfl : s69 = _ := dh 3 hH hd
        exact oP
      · obtain rfl : s69 = _ := dh 3 hH hd
        exact oP
      · obtain rfl : s73 = _ := dh 4 hH hd
        exact oT3
    rintro listed mm W ⟨s69, s70, s71, s72, s73, s74, c_b10, rfl, HF, hH, hw, hO_b10, hz0, -⟩ hall
    obtain ⟨rfl, rfl, rfl, rfl, rfl, rfl, e6⟩ := onA hH hall
    rw [e6] at HF
    clear hall hH e6 hw hO_b10 hz0 F
    have F := HF
    clear HF
    simp only [putAll, z1, z2]
    go_wp2_with (first | go_skip | refine aY3 ?_ | (refine aT3 ?_; clear F; intro W F) | refine aN3 ?_)
    exact bodyPost_ret (res_cs rfl rfl rfl (Fr.get F tL) (rowIC _)) rfl ⟨rfl, F.below⟩
end
section
open Go.RowKit
set_option maxHeartbeats 4000000
set_option maxRecDepth 100000 in
theorem rexact_any {x : Bool} {a : Nat} {y : Bool} {b : Nat} (ha : a < bp 32) (hb : b < bp 32) {p : Int} {r : Bool × Int} (hr : exR (okR x a y b) (sZ x a) (sZ y b) p = r) (w : World) : Calls Tryz.prog 100 #[.agg (ratC x a y b), .int .i64 p] w (RetB (.tuple #[.bool r.1, .int .i64 r.2]) w) := by
  have F := Fr.start w
  obtain ⟨f, hf⟩ : ∃ f, decide (okR x a y b) = f := ⟨_, rfl⟩
  have g1 := fun w => rvalid_any ha hb hf w
  obtain ⟨f2, hf2⟩ : ∃ f, decide (0 ≤ p ∧ p ≤ 9) = f := ⟨_, rfl⟩
  have gp := fun w => rplaces_any hf2 w
  unfold exR chkE at hr
  have HR := Lib.hid hr
  clear hr ha hb
  go_enter Tryz.func100, Tryz.ntmps100
  go_wp2_with (first | go_skip | refine aY3 ?_ | (refine aT3 ?_; clear F; intro W F) | refine aN3 ?_)
  (clear F; intro b2 W F; try simp only [Act.put, z6, z1, z2])
  by_cases hv : ¬ okR x a y b
  · have he : f = false := by rw [← hf]; exact decide_eq_false hv
    have hr : (false, 20) = r := by have := HR.out; rwa [if_pos hv, if_pos (by decide)] at this
    subst he
    subst hr
    clear HR hv hf hf2
    go_wp2_with (first | go_skip | ((go_at_call 150); (with_reducible refine fr_call F (g1 _) ?_); (clear F; intro W F); (try dsimp only)) | refine aY3 ?_ | (refine aT3 ?_; clear F; intro W F) | refine aN3 ?_)
    go_ret2
    exact ⟨rfl, F.below⟩
  have hr := HR.out
  rw [if_neg hv] at hr
  rw [Classical.not_not] at hv
  obtain rfl : true = f := by rw [← hf]; exact (decide_eq_true hv).symm
  by_cases hp : p < 0 ∨ 9 < p
  · have he : f2 = false := by rw [← hf2]; exact decide_eq_false (by omega)
    rw [if_pos hp, if_pos (by decide)] at hr
    subst he
    subst hr
    clear HR hv hp hf hf2
    go_wp2_with (first | go_skip | ((go_at_call 150); (with_reducible refine fr_call F (g1 _) ?_); (clear F; intro W F); (try dsimp only)) | ((go_at_call 88); (with_reducible refine fr_call F (gp _) ?_); (clear F; intro W F); (try dsimp only)) | refine aY3 ?_ | (refine aT3 ?_; clear F; intro W F) | refine aN3 ?_)
    go_ret2
    exact ⟨rfl, F.below⟩
  obtain rfl : true = f2 := by rw [← hf2]; exact (decide_eq_true (by omega)).symm
  rw [if_neg hp, if_neg (by decide)] at hr
  clear HR hf hf2
  obtain ⟨n, d, ⟨h1, h2, h3⟩, hn, hd, hd0⟩ := okR_ints hv
  rw [h2, h3] at hr
  obtain ⟨q, rfl⟩ : ∃ q : Nat, p = (q : Int) := ⟨p.toNat, by omega⟩
  have hq : q ≤ 9 := by omega
  rw [Int.toNat_natCast] at hr
  have hN := b_ten hn hq
  obtain ⟨N, hNN⟩ : ∃ N, n * ((10 ^ q : Nat) : Int) = N := ⟨_, rfl⟩
  have g2 := fun w => rscaledZ hn hd hq hNN w
  simp only [hNN] at hr hN
  have gq := fun w => rdivmodZ (Nat.lt_of_lt_of_le hN (bp_le (by decide))) (b15 hd) (show d ≠ 0 by omega) w
  have hvv : (N % d).natAbs < bp 15 := by
    have k1 := Int.emod_nonneg N (show d ≠ 0 by omega)
    have k2 := Int.emod_lt_of_pos N hd0
    omega
  obtain ⟨u, huu⟩ : ∃ u, N / d = u := ⟨_, rfl⟩
  obtain ⟨v, hv2⟩ : ∃ v, N % d = v := ⟨_, rfl⟩
  rw [huu, hv2] at gq
  rw [hv2] at hr hvv
  rw [h1] at g1 F
  have g3 := fun w => rsignZ (b15 hvv) w
  have hv0 : decide (v = 0) = (v.sign == 0) := by
    rw [Bool.eq_iff_iff, decide_eq_true_eq, beq_iff_eq]
    exact Int.sign_eq_zero_iff_zero.symm
  rw [hv0] at hr
  obtain ⟨t, ht⟩ : ∃ t, v.sign = t := ⟨_, rfl⟩
  rw [ht] at g3 hr
  subst hr
  clear hv0 ht hvv hv2 huu hN hNN hn hd hd0 h1 h2 h3 hv hq hp
  go_wp2_with (first | go_skip | ((go_at_call 150); (with_reducible refine fr_call F (g1 _) ?_); (clear F; intro W F); (try dsimp only)) | ((go_at_call 88); (with_reducible refine fr_call F (gp _) ?_); (clear F; intro W F); (try dsimp only)) | ((go_at_call 151); (with_reducible refine fr_call F (g2 _) ?_); (clear F; intro W F); (try dsimp only)) | refine aY3 ?_ | (refine aT3 ?_; clear F; intro W F) | refine aN3 ?_)
  (clear F; intro b6 W F; try simp only [Act.put, z6, z1, z2])
  go_wp2_with (first | go_skip | refine aY3 ?_ | (refine aT3 ?_; clear F; intro W F) | refine aN3 ?_)
  (clear F; intro b7 W F; try simp only [Act.put, z6, z1, z2])
  go_wp2_with (first | go_skip | ((go_at_call 152); (with_reducible refine fr_call F (gq _) ?_); (clear F; intro W F); (try dsimp only)) | refine aY3 ?_ | (refine aT3 ?_; clear F; intro W F) | refine aN3 ?_)
  (clear F; intro b8 W F; try simp only [Act.put, z6, z1, z2])
  go_wp2_with (first | go_skip | refine aY3 ?_ | (refine aT3 ?_; clear F; intro W F) | refine aN3 ?_)
  (clear F; intro b9 W F; try simp only [Act.put, z6, z1, z2])
  go_wp2_with (first | go_skip | ((go_at_call 135); (with_reducible refine fr_call F (g3 _) ?_); (clear F; intro W F); (try dsimp only)) | refine aY3 ?_ | (refine aT3 ?_; clear F; intro W F) | refine aN3 ?_)
  go_ret2
  exact ⟨rfl, F.below⟩
end
section
open Go.RowKit
set_option maxHeartbeats 4000000
theorem dcnt_le (l : List UInt8) : dcnt l ≤ l.length := by
  induction l with
  | nil => exact Nat.le_refl _
  | cons b l ih =>
    unfold dcnt
    rw [List.length_cons]
    split <;> omega
theorem rdigits_any (l : List UInt8) (hl : l.length ≤ 9223372036854775807) {r : Nat} (hr : dcnt l = r) (w : World) : Calls Tryz.prog 132 #[.string (bs l)] w (RetB (.int .i64 r) w) := by
  have HR := Lib.hid hr
  have hs := bs_size l
  clear hr
  go_enter Tryz.func132, Tryz.ntmps132
  go_wp2_with fail
  go_loopw [3] (fun iv wr => ∃ i : Nat, i ≤ l.length ∧ iv = .int .i64 i ∧ (l.take i).all isD = true ∧ Below w.heap.size w wr) (fun iv _ => l.length - (intOf iv).toNat)
  case atStart => exact ⟨0, by omega, rfl, by simp, Below.refl _ _⟩
  case round =>
    obtain ⟨i, hi2, rfl, ha, hbl⟩ := hrel
    have HA := Lib.hid ha
    clear ha
    by_cases hlt : i < l.length
    · obtain ⟨b, hb⟩ : ∃ b, l[i] = b := ⟨_, rfl⟩
      have e0 := bs_at (l := l) (i := i) (by rw [bs_size]; exact hlt) hlt
      obtain ⟨x, hx⟩ : ∃ x : Nat, b.toNat = x := ⟨_, rfl⟩
      have e1 : ((bs l)[i]'(by rw [bs_size]; exact hlt)).toNat = x := (congrArg UInt8.toNat (e0.trans hb)).trans hx
      have HB := Lib.hid (And.intro hb hx)
      clear hb hx e0
      by_cases c1 : (x : Int) < 48
      · have hr : i = r := by
          rw [← HR.out, dcnt_at hlt HA.out (by rw [HB.out.1, isD, HB.out.2, decide_eq_false (by omega), Bool.false_and])]
        subst hr
        have t1 : decide (48 ≤ x) = false := decide_eq_false (by omega)
        have t2 : decide ((48 : Int) ≤ (x : Int)) = false := decide_eq_false (by omega)
        clear hl
        go_wp2_with fail
        go_ret
        exact ⟨rfl, hbl⟩
      have t1 : decide (48 ≤ x) = true := decide_eq_true (by omega)
      have t2 : decide ((48 : Int) ≤ (x : Int)) = true := decide_eq_true (by omega)
      by_cases c2 : (57 : Int) < (x : Int)
      · have hr : i = r := by
          rw [← HR.out, dcnt_at hlt HA.out (by rw [HB.out.1, isD, HB.out.2, decide_eq_false (p := x ≤ 57) (by omega), Bool.and_false])]
        subst hr
        have t3 : decide (x ≤ 57) = false := decide_eq_false (by omega)
        have t4 : decide ((x : Int) ≤ 57) = false := decide_eq_false (by omega)
        clear hl
        go_wp2_with fail
        go_ret
        exact ⟨rfl, hbl⟩
      have t3 : decide (x ≤ 57) = true := decide_eq_true (by omega)
      have t4 : decide ((x : Int) ≤ 57) = true := decide_eq_true (by omega)
      have HN := Lib.hid (show (l.take (i + 1)).all isD = true by
        rw [List.take_succ_eq_append_getElem hlt, List.all_append, HA.out, HB.out.1]
        simp only [List.all_cons, List.all_nil, Bool.and_true, Bool.true_and, isD, HB.out.2]
        rw [decide_eq_true (by omega), decide_eq_true (by omega)]
        rfl)
      go_wp2_with fail
      go_roundw
      case rel => exact ⟨i + 1, by omega, by go_num, HN.out, hbl⟩
      case measure => simp [intOf]; omega
    · obtain rfl : i = l.length := by omega
      have hr : l.length = r := by
        have h := HA.out
        rw [List.take_length] at h
        rw [← HR.out, dcnt_all h]
      subst hr
      go_wp2_with fail
      go_ret
      exact ⟨rfl, hbl⟩
end
section
open Go.RowKit
set_option maxHeartbeats 4000000
theorem idx0 {b : UInt8} {l : List UInt8} (h : 0 < (bs (b :: l)).size) : (bs (b :: l))[0] = b := bs_at (l := b :: l) (i := 0) h (by simp)
set_option maxRecDepth 100000 in
theorem rread_any (s : List UInt8) (p : Int) (minus : Bool) (hp9 : p ≤ 9) (hs : s.length ≤ 9223372036854775807) {r : Int × Int × Bool} (hr : rdR s p minus = r) (w : World) : Calls Tryz.prog 89 #[.string (bs s), .int .i64 p, .bool minus] w (RetB (.tuple #[.agg (RC r.1 r.2.1), .bool r.2.2]) w) := by
  have F := Fr.start w
  have hst : ∃ s1 neg, (rdG s1 p neg = r ∧ s1.length ≤ 9223372036854775807) ∧ ((minus = true ∧ neg = true ∧ s = 45 :: s1) ∨ (neg = false ∧ s1 = s ∧ (minus = true → s.head? ≠ some 45))) := by
    unfold rdR at hr
    by_cases h : minus = true ∧ s.head? = some 45
    · rw [if_pos h] at hr
      refine ⟨s.tail, true, ⟨hr, by rw [List.length_tail]; omega⟩, .inl ⟨h.1, rfl, ?_⟩⟩
      cases s with
      | nil => exact absurd h.2 (by simp)
      | cons c t => rw [List.head?_cons, Option.some.injEq] at h; rw [h.2, List.tail_cons]
    · rw [if_neg h] at hr
      exact ⟨s, false, ⟨hr, hs⟩, .inr ⟨rfl, rfl, fun h1 h2 => h ⟨h1, h2⟩⟩⟩
  obtain ⟨s1, neg, ⟨hr, hs1⟩, hcase⟩ := hst
  have HR := Lib.hid hr
  have HS := Lib.hid (And.intro hs hs1)
  have HC := Lib.hid hcase
  clear hr hs hs1 hcase
  go_enter Tryz.func89, Tryz.ntmps89
  go_wp2_with (first | go_skip | refine aY3 ?_ | (refine aT3 ?_; clear F; intro W F) | refine aN3 ?_)
  (clear F; intro b6 W F; try simp only [Act.put, z6, z1, z2])
  go_upto_region 1 with fail
  go_cut [8] from 20 to 30 (fun nv wr => nv = .bool neg ∧ Fr w wr [(b6, RC 0 0, 31)])
  case first =>
    rcases HC.out with ⟨rfl, rfl, hh⟩ | ⟨rfl, rfl, hh⟩
    · subst hh
      have hz := bs_size (45 :: s1)
      have h0 : 0 < (bs (45 :: s1)).size := by rw [hz]; simp
      have e1 := idx0 h0
      clear HC HR HS
      go_wp2_with fail
      go_meet
      exact ⟨rfl, F⟩
    · cases minus with
      | false =>
        clear HC HR HS
        go_wp2_with fail
        go_meet
        exact ⟨rfl, F⟩
      | true =>
        cases s1 with
        | nil =>
          have hz := bs_size []
          clear HC HR HS
          go_wp2_with fail
          go_meet
          exact ⟨rfl, F⟩
        | cons c t =>
          have hz := bs_size (c :: t)
          have h0 : 0 < (bs (c :: t)).size := by rw [hz]; simp
          have e1 := idx0 h0
          have hc : c.toNat ≠ 45 := fun h => hh rfl (by rw [List.head?_cons, show c = 45 from UInt8.toNat_inj.1 h])
          have t1 : ((c.toNat : Int) == 45) = false := by rw [beq_eq_false_iff_ne]; omega
          clear HC HR HS hh
          go_wp2_with fail
          go_meet
          exact ⟨rfl, F⟩
  case rest =>
  clear F
  obtain ⟨rfl, F⟩ := hcut
  go_upto_if 31 with fail
  go_cut [0] from 31 to 33 (fun sv wr => sv = .string (bs s1) ∧ Fr w wr [(b6, RC 0 0, 31)])
  case first =>
    rcases HC.out with ⟨rfl, rfl, hh⟩ | ⟨rfl, rfl, hh⟩
    · subst hh
      have hz := bs_size (45 :: s1)
      rw [List.length_cons] at hz
      have e2 : (bs (45 :: s1)).extract 1 (s1.length + 1) = bs s1 := by
        rw [bs_extract, List.drop_succ_cons, List.drop_zero, Nat.add_sub_cancel, List.take_length]
      clear HC HR HS
      go_wp2_with fail
      go_meet
      exact ⟨by first | rfl | rw [e2], F⟩
    · clear HC HR HS
      go_wp2_with fail
      go_meet
      exact ⟨rfl, F⟩
  case rest =>
  clear F HC
  obtain ⟨rfl, F⟩ := hcut
  obtain ⟨n, hn⟩ : ∃ n, dcnt s1 = n := ⟨_, rfl⟩
  have hnl := dcnt_le s1
  rw [hn] at hnl
  have g1 := fun w => rdigits_any s1 HS.out.2 hn w
  go_upto_region 5 with (first | ((go_at_call 132); (with_reducible refine fr_call F (g1 _) ?_); (clear F; intro W F); (try dsimp only)))
  obtain ⟨B, hB⟩ : ∃ B, rdB s1 = B := ⟨_, rfl⟩
  have hB2 := hB
  unfold rdB at hB2
  rw [hn] at hB2
  clear g1
  go_cut [50] from 36 to 50 (fun v wr => v = .bool B ∧ Fr w wr [(b6, RC 0 0, 31)])
  case first =>
    clear HR HS
    by_cases h0 : n = 0
    · rw [decide_eq_true (.inl h0)] at hB2
      subst hB2
      subst h0
      clear hB hn hnl
      go_wp2_with fail
      go_meet
      exact ⟨rfl, F⟩
    have t0 : ((n : Int) == 0) = false := by rw [beq_eq_false_iff_ne]; omega
    by_cases h15 : 15 < n
    · rw [decide_eq_true (.inr (.inl h15))] at hB2
      subst hB2
      have t1 : decide (15 < (n : Int)) = true := decide_eq_true (by omega)
      clear hB hn hnl h0 h15
      go_wp2_with fail
      go_meet
      exact ⟨rfl, F⟩
    have t1 : decide (15 < (n : Int)) = false := decide_eq_false (by omega)
    by_cases h1 : 1 < n
    · have t2 : decide (1 < (n : Int)) = true := decide_eq_true (by omega)
      cases s1 with
      | nil => exact absurd hnl (by simp; omega)
      | cons c t =>
        have hz := bs_size (c :: t)
        have hz0 : 0 < (bs (c :: t)).size := by rw [hz]; simp
        have e1 := idx0 hz0
        have t3 : ((c.toNat : Int) == 48) = B := by
          rw [← hB2, Bool.eq_iff_iff, beq_iff_eq, decide_eq_true_eq, List.head?_cons, Option.some.injEq, ← UInt8.toNat_inj, show UInt8.toNat 48 = 48 from rfl]
          constructor
          · intro h
            exact .inr (.inr ⟨h1, by omega⟩)
          · rintro (h | h | h)
            · omega
            · omega
            · have := h.2
              omega
        clear hB hB2 hn hnl h0 h15 h1
        go_wp2_with fail
        go_meet
        exact ⟨rfl, F⟩
    · have t2 : decide (1 < (n : Int)) = false := decide_eq_false (by omega)
      rw [decide_eq_false (by rintro (h | h | h) <;> omega)] at hB2
      subst hB2
      clear hB hn hnl h0 h15 h1
      go_wp2_with fail
      go_meet
      exact ⟨rfl, F⟩
  case rest =>
  clear F hB2
  obtain ⟨rfl, F⟩ := hcut
  have hr := HR.out
  unfold rdG at hr
  rw [hB] at hr
  cases B
  · rw [if_neg (by decide), hn] at hr
    dsimp only at hr
    obtain ⟨a, ha⟩ : ∃ a, s1.take n = a := ⟨_, rfl⟩
    obtain ⟨rest, hre⟩ : ∃ rest, s1.drop n = rest := ⟨_, rfl⟩
    rw [ha, hre] at hr
    have hz := bs_size s1
    have e1 : (bs s1).extract 0 n = bs a := by rw [bs_extract, List.drop_zero, Nat.sub_zero, ha]
    have e2 : (bs s1).extract n s1.length = bs rest := by rw [bs_extract, ← List.length_drop, List.take_length, hre]
    have n0 : (0 : Int) ≤ (n : Int) := by omega
    have n1 : (n : Int) ≤ (s1.length : Int) := by omega
    have hrl : s1.length - n = rest.length := by rw [← hre, List.length_drop]
    have HA := Lib.hid ha
    have HN := Lib.hid hn
    clear ha hre hn
    go_wp2_with fail
    go_quiet (fail)
    replace F := F.drewN nq
    generalize wc.drewN nq = wq at *
    clear e1 e2 n0 n1 hz
    have hgood : ((rest = [] ∨ ∃ t, rest = 46 :: t ∧ rdC t p = false) ∨ (∃ c t, rest = c :: t ∧ c ≠ 46 ∧ (0, 0, false) = r)) ∨ (∃ t, rest = 46 :: t ∧ rdC t p = true ∧ (0, 0, false) = r) := by
      cases rest with
      | nil => exact .inl (.inl (.inl rfl))
      | cons c t =>
        rw [if_neg (List.cons_ne_nil _ _), List.head?_cons, List.tail_cons] at hr
        by_cases hc : c = 46
        · subst hc
          cases hC : rdC t p
          · exact .inl (.inl (.inr ⟨t, rfl, hC⟩))
          · rw [if_pos (.inr hC)] at hr
            exact .inr ⟨t, rfl, hC, hr⟩
        · rw [if_pos (.inl (fun h => hc (Option.some.inj h)))] at hr
          exact .inl (.inr ⟨c, t, rfl, hc, hr⟩)
    have hls : rest.length ≤ s1.length := by rw [← hrl]; omega
    have HX := Lib.hid (And.intro hB (And.intro hr hls))
    clear hB hr hnl hls hrl
    rcases hgood with (hgood | ⟨c, t, rfl, hc, rfl⟩) | ⟨t, rfl, hC, rfl⟩
    rotate_left
    · have hz := bs_size (c :: t)
      have hz0 : 0 < (bs (c :: t)).size := by rw [hz]; simp
      have e1 := idx0 hz0
      have t3 : ((c.toNat : Int) == 46) = false := by
        rw [beq_eq_false_iff_ne]
        intro h
        exact hc (UInt8.toNat_inj.1 (show c.toNat = (46 : UInt8).toNat by rw [show UInt8.toNat 46 = 46 from rfl]; omega))
      clear HX HR hc
      go_wp2_with (first | go_skip | refine aY3 ?_ | (refine aT3 ?_; clear F; intro W F) | refine aN3 ?_)
      exact bodyPost_ret (res_cs rfl rfl rfl (Fr.get F tL) (rowRC _ _)) rfl ⟨rfl, F.below⟩
    · have hz := bs_size (46 :: t)
      rw [List.length_cons] at hz
      have hz0 : 0 < (bs (46 :: t)).size := by rw [hz]; omega
      have e1 := idx0 hz0
      have e2 : (bs (46 :: t)).extract 1 (t.length + 1) = bs t := by
        rw [bs_extract, List.drop_succ_cons, List.drop_zero, Nat.add_sub_cancel, List.take_length]
      have hz2 := bs_size t
      obtain ⟨k, hk⟩ : ∃ k, dcnt t = k := ⟨_, rfl⟩
      have hkl := dcnt_le t
      have hls := HX.out.2.2
      rw [List.length_cons] at hls
      have g1 := fun w => rdigits_any t (by have := HS.out.2; omega) hk w
      unfold rdC at hC
      rw [hk] at hC hkl
      have hC := of_decide_eq_true hC
      clear HX HR hk hls
      by_cases h0 : k = 0
      · subst h0
        clear hC hkl
        go_wp2_with (first | go_skip | ((go_at_call 132); (with_reducible refine fr_call F (g1 _) ?_); (clear F; intro W F); (try dsimp only)) | refine aY3 ?_ | (refine aT3 ?_; clear F; intro W F) | refine aN3 ?_)
        exact bodyPost_ret (res_cs rfl rfl rfl (Fr.get F tL) (rowRC _ _)) rfl ⟨rfl, F.below⟩
      have t0 : ((k : Int) == 0) = false := by rw [beq_eq_false_iff_ne]; omega
      by_cases h1 : k = t.length
      · have t2 : decide (p < (k : Int)) = true := decide_eq_true (by rcases hC with h | h | h; exact absurd h h0; exact absurd h1 h; exact h)
        rw [← h1] at hz hz2 e2
        clear h0 hC h1 hkl
        go_wp2_with (first | go_skip | ((go_at_call 132); (with_reducible refine fr_call F (g1 _) ?_); (clear F; intro W F); (try dsimp only)) | refine aY3 ?_ | (refine aT3 ?_; clear F; intro W F) | refine aN3 ?_)
        exact bodyPost_ret (res_cs rfl rfl rfl (Fr.get F tL) (rowRC _ _)) rfl ⟨rfl, F.below⟩
      · obtain ⟨tl, htl⟩ : ∃ tl, t.length = tl := ⟨_, rfl⟩
        rw [htl] at hz hz2 e2 h1
        have t1 : ((k : Int) == (tl : Int)) = false := by rw [beq_eq_false_iff_ne]; omega
        have t2 : (k == tl) = false := by rw [beq_eq_false_iff_ne]; exact h1
        have t3 : decide (k = tl) = false := decide_eq_false h1
        have t4 : ((k : Int) != (tl : Int)) = true := by rw [bne, t1]; rfl
        clear h0 hC hkl htl
        go_wp2_with (first | go_skip | ((go_at_call 132); (with_reducible refine fr_call F (g1 _) ?_); (clear F; intro W F); (try dsimp only)) | refine aY3 ?_ | (refine aT3 ?_; clear F; intro W F) | refine aN3 ?_)
        exact bodyPost_ret (res_cs rfl rfl rfl (Fr.get F tL) (rowRC _ _)) rfl ⟨rfl, F.below⟩
    obtain ⟨fr, hfr⟩ : ∃ fr, rest.tail = fr := ⟨_, rfl⟩
    have hfa : fr.all isD = true ∧ (fr.length : Int) ≤ max p 0 ∧ rdF (a ++ fr) fr.length neg = r := by
      have hr := HX.out.2.1
      rcases hgood with rfl | ⟨t, rfl, hC⟩
      · rw [List.tail_nil] at hfr
        subst hfr
        rw [if_pos rfl] at hr
        exact ⟨rfl, by simp; omega, by rw [List.append_nil]; exact hr⟩
      · rw [List.tail_cons] at hfr
        subst hfr
        rw [if_neg (List.cons_ne_nil _ _), List.head?_cons, List.tail_cons, if_neg (by rw [hC]; simp)] at hr
        unfold rdC at hC
        have hC := of_decide_eq_false hC
        have h1 : dcnt t = t.length := Classical.byContradiction fun h => hC (.inr (.inl h))
        have h2 := dcnt_take t
        rw [h1, List.take_length] at h2
        exact ⟨h2, by omega, hr⟩
    have HFA := Lib.hid hfa
    clear hfa
    go_upto_if 60 with fail
    go_cut [11, 12] from 58 to 81 (fun rv kv wr => rv = .string (bs fr) ∧ kv = .int .i64 (fr.length : Nat) ∧ Fr w wr [(b6, RC 0 0, 31)])
    case first =>
      rcases hgood with rfl | ⟨t, rfl, hC⟩
      · rw [List.tail_nil] at hfr
        subst hfr
        have hz := bs_size []
        clear HX HR HFA
        go_wp2_with fail
        go_meet
        exact ⟨rfl, rfl, F⟩
      · rw [List.tail_cons] at hfr
        subst hfr
        have hz := bs_size (46 :: t)
        rw [List.length_cons] at hz
        have hz0 : 0 < (bs (46 :: t)).size := by rw [hz]; omega
        have e1 := idx0 hz0
        have e2 : (bs (46 :: t)).extract 1 (t.length + 1) = bs t := by
          rw [bs_extract, List.drop_succ_cons, List.drop_zero, Nat.add_sub_cancel, List.take_length]
        have hz2 := bs_size t
        unfold rdC at hC
        have hC := of_decide_eq_false hC
        have h1 : dcnt t = t.length := Classical.byContradiction fun h => hC (.inr (.inl h))
        have hls := HX.out.2.2
        rw [List.length_cons] at hls
        have g1 := fun w => rdigits_any t (by have := HS.out.2; omega) h1 w
        have t0 : ((t.length : Int) == 0) = false := by rw [beq_eq_false_iff_ne]; intro h; exact hC (.inl (by omega))
        have t2 : decide (p < (t.length : Int)) = false := decide_eq_false (fun h => hC (.inr (.inr (by omega))))
        obtain ⟨k, hk⟩ : ∃ k, t.length = k := ⟨_, rfl⟩
        rw [hk] at hz hz2 e2 g1 t0 t2
        have HK := Lib.hid hk
        clear HX HR HFA hC h1 hls hk
        go_wp2_with (first | ((go_at_call 132); (with_reducible refine fr_call F (g1 _) ?_); (clear F; intro W F); (try dsimp only)))
        go_meet
        exact ⟨rfl, by rw [HK.out], F⟩
    case rest =>
    clear F hgood hfr
    obtain ⟨rfl, rfl, F⟩ := hcut
    obtain ⟨hd, hfl, hrf⟩ := HFA.out
    have hB0 := HX.out.1
    unfold rdB at hB0
    rw [HN.out] at hB0
    have hB1 := of_decide_eq_false hB0
    have hn15 : n ≤ 15 := by
      refine Classical.byContradiction fun h => hB1 (.inr (.inl (by omega)))
    have had : a.all isD = true := by rw [← HA.out, ← HN.out]; exact dcnt_take s1
    have hal : a.length ≤ 15 := by rw [← HA.out, List.length_take]; omega
    have hfl9 : fr.length ≤ 9 := by omega
    obtain ⟨A, hA⟩ : ∃ A, a ++ fr = A := ⟨_, rfl⟩
    have hAd : A.all isD = true := by rw [← hA, List.all_append, had, hd]; rfl
    have hAl : A.length ≤ 24 := by rw [← hA, List.length_append]; omega
    have e1 := bs_append a fr
    rw [hA] at hrf e1
    have sa := bs_size a
    have sf := bs_size fr
    have sA := bs_size A
    obtain ⟨la, hla⟩ : ∃ la, a.length = la := ⟨_, rfl⟩
    rw [hla] at sa hal
    obtain ⟨lf, hlf⟩ : ∃ lf, fr.length = lf := ⟨_, rfl⟩
    rw [hlf] at sf hrf hfl9
    obtain ⟨T, hT⟩ : ∃ T, 10 ^ lf = T := ⟨_, rfl⟩
    have hT1 := ten_le hfl9
    have hT0 : 0 < 10 ^ lf := Nat.pow_pos (by decide)
    have gp := fun w => rpower_any hfl9 w
    unfold rdF at hrf
    rw [hT] at gp hT1 hT0 hrf
    have hTb : (T : Int).natAbs < bp 15 := by
      have : (1000000000 : Nat) < bp 15 := by unfold bp; decide
      omega
    have k1 : (9223372036854775807 < la + lf) = False := by rw [eq_iff_iff, iff_false]; omega
    rw [hlf]
    have HRF := Lib.hid (And.intro hrf (And.intro hT0 hTb))
    have HAD := Lib.hid (And.intro hAd hAl)
    clear hd hfl hrf hB0 hB1 hn15 had hal hfl9 hA hla hlf hT hT1 hT0 hTb HX HFA HS HR hAd hAl
    go_wp2_with (first | go_skip | refine aY3 ?_ | (refine aT3 ?_; clear F; intro W F) | refine aN3 ?_)
    (clear F; intro b13 W F; try simp only [Act.put, z6, z1, z2])
    go_wp2_with (first | go_skip | refine aY3 ?_ | (refine aT3 ?_; clear F; intro W F) | refine aN3 ?_)
    clear e1 sa sf k1
    go_loopw [15] (fun iv wr => ∃ i : Nat, i ≤ A.length ∧ iv = .int .i64 i ∧ Fr w wr [(b13, IC (numL (A.take i) : Int), 29), (b6, RC 0 0, 31)]) (fun iv _ => A.length - (intOf iv).toNat)
    case atStart => exact ⟨0, by omega, rfl, F⟩
    case round =>
      clear F
      obtain ⟨i, hi2, rfl, F⟩ := hrel
      by_cases hlt : i < A.length
      · obtain ⟨b, hb⟩ : ∃ b, A[i] = b := ⟨_, rfl⟩
        have e0 := bs_at (l := A) (i := i) (by rw [bs_size]; exact hlt) hlt
        obtain ⟨ch, hx⟩ : ∃ x : Nat, b.toNat = x := ⟨_, rfl⟩
        have e1 : ((bs A)[i]'(by rw [bs_size]; exact hlt)).toNat = ch := (congrArg UInt8.toNat (e0.trans hb)).trans hx
        have hdig := isD_iff.1 (List.all_eq_true.1 HAD.out.1 _ (List.getElem_mem hlt))
        rw [hb, hx] at hdig
        obtain ⟨d, hd⟩ : ∃ d, ch - 48 = d := ⟨_, rfl⟩
        have hnum : numL (A.take (i + 1)) = numL (A.take i) * 10 + d := by
          unfold numL
          rw [List.take_succ_eq_append_getElem hlt, numF_append, numF_cons, hb, hx, hd]
          rfl
        have hX24 := numL_lt (A.take i) (List.all_eq_true.2 fun x hx => List.all_eq_true.1 HAD.out.1 x (List.mem_of_mem_take hx))
        have hXl : (10 : Nat) ^ (A.take i).length ≤ 10 ^ 24 := Nat.pow_le_pow_right (by decide) (by rw [List.length_take]; have := HAD.out.2; omega)
        obtain ⟨X, hX⟩ : ∃ X, numL (A.take i) = X := ⟨_, rfl⟩
        rw [hX] at hnum hX24 F
        obtain ⟨X', hX'⟩ : ∃ X', X * 10 + d = X' := ⟨_, rfl⟩
        have h26 : (100000000000000000000000000 : Nat) < bp 32 := by unfold bp; decide
        have hXs : X < 1000000000000000000000000 := Nat.lt_of_lt_of_le hX24 hXl
        have g10 := fun w => rfromZ (n := 10) (by decide) (by decide) w
        have gm := fun w => rmulZ (x := (X : Int)) (y := 10) (by omega) (by omega) (by omega) w
        have gd := fun w => rfromZ (n := (d : Int)) (by omega) (by omega) w
        have ga := fun w => radd_any (x := (X : Int) * 10) (y := (d : Int)) (by omega) (by omega) (by omega) w
        obtain ⟨Y, hY⟩ : ∃ Y : Int, (X : Int) * 10 = Y := ⟨_, rfl⟩
        rw [hY] at gm ga
        rw [show Y + (d : Int) = (X' : Int) by omega] at ga
        have m1 : IntKind.u8.wrap ((ch : Int) - 48) = (d : Int) := by rw [IntKind.wrap_u8]; omega
        have m2 : IntKind.i64.wrap (d : Int) = (d : Int) := IntWalk.i64_in _ (by omega)
        have i0 : (0 : Int) ≤ (i : Int) := by omega
        have i1 : (i : Int) < (A.length : Int) := by omega
        have HNN := Lib.hid (show numL (A.take (i + 1)) = X' by rw [hnum, hX'])
        clear hb hx e0 hdig hd hnum hX24 hXl hX hX' h26 hXs hY
        go_wp2_with fail
        try simp only [Act.put, z6, z1, z2]
        refine wp_region_slots mixP [16, 17, 93, 94, 95, 96, 97, 98] (fun l mm W => ∃ (s16 s17 s93 s94 s95 s96 s97 s98 : Value) (c_b16 : Array Value) (b16 : Nat), mm = [s16, s17, s93, s94, s95, s96, s97, s98] ∧ Fr w W ((b13, IC (X : Int), 29) :: (b6, RC 0 0, 31) :: (onl (l.getD 6 false) (b16, c_b16, 29))) ∧ On l 0 [s94 = .agg (IC (X : Int)), s95 = .agg (IC 10), s96 = .tuple #[.agg (IC Y), .int .i64 0], s93 = .tuple #[.agg (IC Y), .int .i64 0], s97 = .agg (IC Y), s98 = .int .i64 0, s16 = .pointer (some ⟨b16, 0, none⟩), c_b16 = IC Y, s17 = .int .i64 0] ∧ Wt l [(7, 6)] ∧ c_b16.size = (IC Y).size ∧ True) (by kernel_rfl) (putAll_self _ _) ?_ ?_ ?_
        · exact ⟨_, _, _, _, _, _, _, _, (intC false 0), 0, rfl, F.drew, On.none _ _ _, Wt.none _ _, dT⟩
        · rintro listed mm W ii hi hsz hoff ⟨s16, s17, s93, s94, s95, s96, s97, s98, c_b16, b16, rfl, HF, hH, hw, hz0, -⟩ hd
          simp only [putAll, z1, z2]
          obtain rfl | rfl | rfl | rfl | rfl | rfl | rfl | rfl | rfl := dr_c9 hi
          · exact oY3
          · refine ow rfl rfl fun K hK => ?_
            refine ⟨?_⟩
            go_simp
            with_reducible refine fr_call HF (g10 _) ?_
            exact oC
          · obtain rfl : s94 = _ := dh 0 hH hd
            obtain rfl : s95 = _ := dh 1 hH hd
            refine ow rfl rfl fun K hK => ?_
            refine ⟨?_⟩
            go_simp
            with_reducible refine fr_call HF (gm _) ?_
            exact oC
          · obtain rfl : s96 = _ := dh 2 hH hd
            exact oP
          · obtain rfl : s93 = _ := dh 3 hH hd
            exact oP
          · obtain rfl : s93 = _ := dh 3 hH hd
            exact oP
          · refine ow rfl rfl fun K hK => ?_
            rw [show listed.getD 6 false = false from hoff] at HF
            with_reducible apply gA_int HF
            intro bN W HF
            go_simp
            exact hK _ _ ⟨_, dE, _, _, _, _, _, _, _, _, (intC false 0), bN, rfl, by rw [getD_on (show 6 < listed.size by rw [hsz]; decide)]; exact Fr.mid (A := [(b13, IC (X : Int), 29), (b6, RC 0 0, 31)]) HF, onS (onV 7 hH (wtF hw hoff)) rfl rfl, dT⟩
          · obtain rfl : s97 = _ := dh 4 hH hd
            obtain rfl : s16 = _ := dh 6 hH hd
            have HG := hd 6 (by kernel_rfl)
            rw [HG] at HF
            simp only [onl, if_true, z7, z8] at HF
            exact oT3
          · obtain rfl : s98 = _ := dh 5 hH hd
            exact oP
        rintro listed mm W ⟨s16, s17, s93, s94, s95, s96, s97, s98, c_b16, b16, rfl, HF, hH, hw, hz0, -⟩ hall
        obtain ⟨rfl, rfl, rfl, rfl, rfl, rfl, rfl, e7, rfl⟩ := onA hH hall
        rw [hall 6 (by decide)] at HF
        simp only [onl, if_true, z7, z8] at HF
        rw [e7] at HF
        clear hall hH e7 hw hz0 F
        have F := HF
        clear HF
        simp only [putAll, z1, z2]
        go_wp2_with fail
        try simp only [Act.put, z6, z1, z2]
        refine wp_region_slots mixP [99, 100, 101, 102, 103, 104, 105, 106, 107, 108, 109] (fun l mm W => ∃ (s99 s100 s101 s102 s103 s104 s105 s106 s107 s108 s109 : Value) (c_b13 : Array Value), mm = [s99, s100, s101, s102, s103, s104, s105, s106, s107, s108, s109] ∧ Fr w W [(b13, c_b13, 29), (b6, RC 0 0, 31), (b16, IC Y, 29)] ∧ On l 0 [s100 = .agg (IC Y), s101 = .string (bs A), s102 = .int .i64 (i : Int), s103 = .int .u8 (ch : Int), s104 = .int .u8 (d : Int), s105 = .int .i64 (d : Int), s106 = .agg (IC (d : Int)), s107 = .tuple #[.agg (IC (X' : Int)), .int .i64 0], s99 = .tuple #[.agg (IC (X' : Int)), .int .i64 0], s108 = .agg (IC (X' : Int)), s109 = .int .i64 0, c_b13 = IC (X' : Int)] ∧ c_b13.size = (IC (X' : Int)).size ∧ True) (by kernel_rfl) (putAll_self _ _) ?_ ?_ ?_
        · exact ⟨_, _, _, _, _, _, _, _, _, _, _, (IC (X : Int)), rfl, F.drew, On.none _ _ _, dT⟩
        · rintro listed mm W ii hi hsz hoff ⟨s99, s100, s101, s102, s103, s104, s105, s106, s107, s108, s109, c_b13, rfl, HF, hH, hz0, -⟩ hd
          simp only [putAll, z1, z2]
          obtain rfl | rfl | rfl | rfl | rfl | rfl | rfl | rfl | rfl | rfl | rfl | rfl := dr_c12 hi
          · exact oY3
          · exact oP
          · exact oP
          · obtain rfl : s101 = _ := dh 1 hH hd
            obtain rfl : s102 = _ := dh 2 hH hd
            exact oP
          · obtain rfl : s103 = _ := dh 3 hH hd
            exact oP
          · obtain rfl : s104 = _ := dh 4 hH hd
            exact oP
          · obtain rfl : s105 = _ := dh 5 hH hd
            refine ow rfl rfl fun K hK => ?_
            refine ⟨?_⟩
            go_simp
            with_reducible refine fr_call HF (gd _) ?_
            exact oC
          · obtain rfl : s100 = _ := dh 0 hH hd
            obtain rfl : s106 = _ := dh 6 hH hd
            refine ow rfl rfl fun K hK => ?_
            refine ⟨?_⟩
            go_simp
            with_reducible refine fr_call HF (ga _) ?_
            exact oC
          · obtain rfl : s107 = _ := dh 7 hH hd
            exact oP
          · obtain rfl : s99 = _ := dh 8 hH hd
            exact oP
          · obtain rfl : s99 = _ := dh 8 hH hd
            exact oP
          · obtain rfl : s108 = _ := dh 9 hH hd
            exact oT3
        rintro listed mm W ⟨s99, s100, s101, s102, s103, s104, s105, s106, s107, s108, s109, c_b13, rfl, HF, hH, hz0, -⟩ hall
        obtain ⟨rfl, rfl, rfl, rfl, rfl, rfl, rfl, rfl, rfl, rfl, rfl, e11⟩ := onA hH hall
        rw [e11] at HF
        clear hall hH e11 hz0 F
        have F := HF
        clear HF
        simp only [putAll, z1, z2]
        replace F := F.sub (L' := [(b13, IC (X' : Int), 29), (b6, RC 0 0, 31)]) (by repeat (first | exact List.Sublist.slnil | apply List.Sublist.cons_cons | apply List.Sublist.cons))
        clear g10 gm gd ga m1 m2 e1
        have hAl24 := HAD.out.2
        go_wp2_with fail
        go_roundw
        case rel => exact ⟨i + 1, by omega, by go_num, by rw [HNN.out]; exact F⟩
        case measure => simp [intOf]; omega
      · obtain rfl : i = A.length := by omega
        rw [List.take_length] at F
        have hv24 := numL_lt A HAD.out.1
        have hvl : (10 : Nat) ^ A.length ≤ 10 ^ 24 := Nat.pow_le_pow_right (by decide) HAD.out.2
        obtain ⟨hrf, hT0, hTb⟩ := HRF.out
        obtain ⟨v, hv⟩ : ∃ v, numL A = v := ⟨_, rfl⟩
        rw [hv] at hrf F hv24
        have h24 : (1000000000000000000000000 : Nat) < bp 15 := by unfold bp; decide
        have hvs : v < 1000000000000000000000000 := Nat.lt_of_lt_of_le hv24 hvl
        have hvb : (v : Int).natAbs < bp 15 := by omega
        clear hv24 hvl h24 hvs hv HRF HAD hlt hi2 HN HA
        cases neg
        · rw [if_neg (fun h => absurd h.1 (by decide)), if_neg (by decide)] at hrf
          try dsimp only at hrf
          have gm := fun w => rmakeZ (b15 hvb) (b15 hTb) (mkR_ok (n := (v : Int)) (d := (T : Int)) (by omega) hvb hTb).1 w
          obtain ⟨q1, hq1⟩ : ∃ q, lowN (v : Int) (T : Int) = q := ⟨_, rfl⟩
          obtain ⟨q2, hq2⟩ : ∃ q, lowD (v : Int) (T : Int) = q := ⟨_, rfl⟩
          rw [hq1, hq2] at gm hrf
          subst hrf
          obtain ⟨z, hz⟩ : ∃ z, (v : Int) = z := ⟨_, rfl⟩
          rw [hz] at gm F
          clear hq1 hq2 hT0 hTb hvb hz
          go_wp2_with (first | go_skip | refine aY3 ?_ | (refine aT3 ?_; clear F; intro W F) | refine aN3 ?_)
          try simp only [Act.put, z6, z1, z2]
          refine wp_region_slots mixP [18, 19, 117, 118, 119, 120, 121, 122, 123, 124] (fun l mm W => ∃ (s18 s19 s117 s118 s119 s120 s121 s122 s123 s124 : Value) (c_b18 : Array Value) (b18 : Nat), mm = [s18, s19, s117, s118, s119, s120, s121, s122, s123, s124] ∧ Fr w W ((b13, IC z, 29) :: (b6, RC 0 0, 31) :: (onl (l.getD 8 false) (b18, c_b18, 31))) ∧ On l 0 [s118 = .agg (IC z), s119 = .int .i64 (lf : Int), s120 = .agg (RC (T : Int) 1), s121 = .agg (IC (T : Int)), s122 = .tuple #[.agg (RC q1 q2), .int .i64 0], s117 = .tuple #[.agg (RC q1 q2), .int .i64 0], s123 = .agg (RC q1 q2), s124 = .int .i64 0, s18 = .pointer (some ⟨b18, 0, none⟩), c_b18 = RC q1 q2, s19 = .int .i64 0] ∧ Wt l [(9, 8)] ∧ c_b18.size = (RC q1 q2).size ∧ True) (by kernel_rfl) (putAll_self _ _) ?_ ?_ ?_
          · exact ⟨_, _, _, _, _, _, _, _, _, _, (RC 0 0), 0, rfl, F.drew, On.none _ _ _, Wt.none _ _, dT⟩
          · rintro listed mm W ii hi hsz hoff ⟨s18, s19, s117, s118, s119, s120, s121, s122, s123, s124, c_b18, b18, rfl, HF, hH, hw, hz0, -⟩ hd
            simp only [putAll, z1, z2]
            obtain rfl | rfl | rfl | rfl | rfl | rfl | rfl | rfl | rfl | rfl | rfl := dr_c11 hi
            · exact oY3
            · exact oP
            · obtain rfl : s119 = _ := dh 1 hH hd
              refine ow rfl rfl fun K hK => ?_
              refine ⟨?_⟩
              go_simp
              with_reducible refine fr_call HF (gp _) ?_
              exact oC
            · obtain rfl : s120 = _ := dh 2 hH hd
              refine ow rfl rfl fun K hK => ?_
              with_reducible apply gF_num
              · exact rfl
              exact oR
            · obtain rfl : s118 = _ := dh 0 hH hd
              obtain rfl : s121 = _ := dh 3 hH hd
              refine ow rfl rfl fun K hK => ?_
              refine ⟨?_⟩
              go_simp
              with_reducible refine fr_call HF (gm _) ?_
              exact oC
            · obtain rfl : s122 = _ := dh 4 hH hd
              exact oP
            · obtain rfl : s117 = _ := dh 5 hH hd
              exact oP
            · obtain rfl : s117 = _ := dh 5 hH hd
              exact oP
            · refine ow rfl rfl fun K hK => ?_
              rw [show listed.getD 8 false = false from hoff] at HF
              with_reducible apply gA_rat HF
              intro bN W HF
              go_simp
              exact hK _ _ ⟨_, dE, _, _, _, _, _, _, _, _, _, _, (RC 0 0), bN, rfl, by rw [getD_on (show 8 < listed.size by rw [hsz]; decide)]; exact Fr.mid (A := [(b13, IC z, 29), (b6, RC 0 0, 31)]) HF, onS (onV 9 hH (wtF hw hoff)) rfl rfl, dT⟩
            · obtain rfl : s123 = _ := dh 6 hH hd
              obtain rfl : s18 = _ := dh 8 hH hd
              have HG := hd 8 (by kernel_rfl)
              rw [HG] at HF
              simp only [onl, if_true, z7, z8] at HF
              exact oT3
            · obtain rfl : s124 = _ := dh 7 hH hd
              exact oP
          rintro listed mm W ⟨s18, s19, s117, s118, s119, s120, s121, s122, s123, s124, c_b18, b18, rfl, HF, hH, hw, hz0, -⟩ hall
          obtain ⟨rfl, rfl, rfl, rfl, rfl, rfl, rfl, rfl, rfl, e9, rfl⟩ := onA hH hall
          rw [hall 8 (by decide)] at HF
          simp only [onl, if_true, z7, z8] at HF
          rw [e9] at HF
          clear hall hH e9 hw hz0 F
          have F := HF
          clear HF
          simp only [putAll, z1, z2]
          go_wp2_with (first | go_skip | refine aY3 ?_ | (refine aT3 ?_; clear F; intro W F) | refine aN3 ?_)
          exact bodyPost_ret (res_cs rfl rfl rfl (Fr.get F tL) (rowRC _ _)) rfl ⟨rfl, F.below⟩
        · by_cases hv0 : v = 0
          · subst hv0
            rw [if_pos ⟨rfl, rfl⟩] at hrf
            subst hrf
            have gs := fun w => rsignZ (x := 0) (by decide) w
            clear hT0 hTb hvb
            go_wp2_with (first | go_skip | ((go_at_call 135); (with_reducible refine fr_call F (gs _) ?_); (clear F; intro W F); (try dsimp only)) | refine aY3 ?_ | (refine aT3 ?_; clear F; intro W F) | refine aN3 ?_)
            exact bodyPost_ret (res_cs rfl rfl rfl (Fr.get F tL) (rowRC _ _)) rfl ⟨rfl, F.below⟩
          · rw [if_neg (fun h => hv0 h.2), if_pos rfl] at hrf
            try dsimp only at hrf
            have hnb : (-(v : Int)).natAbs < bp 15 := by rw [Int.natAbs_neg]; exact hvb
            have gm := fun w => rmakeZ (b15 hnb) (b15 hTb) (mkR_ok (n := -(v : Int)) (d := (T : Int)) (by omega) hnb hTb).1 w
            have gs := fun w => rsignZ (x := (v : Int)) (b15 hvb) w
            have gn := fun w => rneg_any (x := (v : Int)) (b15 hvb) w
            have hsv : (((v : Int).sign) == 0) = false := by
              rw [beq_eq_false_iff_ne]
              intro h
              have := Int.sign_eq_zero_iff_zero.1 h
              omega
            obtain ⟨sg, hsg⟩ : ∃ sg, (v : Int).sign = sg := ⟨_, rfl⟩
            rw [hsg] at gs hsv
            obtain ⟨q1, hq1⟩ : ∃ q, lowN (-(v : Int)) (T : Int) = q := ⟨_, rfl⟩
            obtain ⟨q2, hq2⟩ : ∃ q, lowD (-(v : Int)) (T : Int) = q := ⟨_, rfl⟩
            rw [hq1, hq2] at gm hrf
            subst hrf
            obtain ⟨z, hz⟩ : ∃ z, -(v : Int) = z := ⟨_, rfl⟩
            rw [hz] at gm gn
            clear hq1 hq2 hT0 hTb hvb hz hnb hsg hv0
            go_wp2_with (first | go_skip | ((go_at_call 135); (with_reducible refine fr_call F (gs _) ?_); (clear F; intro W F); (try dsimp only)) | ((go_at_call 136); (with_reducible refine fr_call F (gn _) ?_); (clear F; intro W F); (try dsimp only)) | refine aY3 ?_ | (refine aT3 ?_; clear F; intro W F) | refine aN3 ?_)
            try simp only [Act.put, z6, z1, z2]
            refine wp_region_slots mixP [18, 19, 117, 118, 119, 120, 121, 122, 123, 124] (fun l mm W => ∃ (s18 s19 s117 s118 s119 s120 s121 s122 s123 s124 : Value) (c_b18 : Array Value) (b18 : Nat), mm = [s18, s19, s117, s118, s119, s120, s121, s122, s123, s124] ∧ Fr w W ((b13, IC z, 29) :: (b6, RC 0 0, 31) :: (onl (l.getD 8 false) (b18, c_b18, 31))) ∧ On l 0 [s118 = .agg (IC z), s119 = .int .i64 (lf : Int), s120 = .agg (RC (T : Int) 1), s121 = .agg (IC (T : Int)), s122 = .tuple #[.agg (RC q1 q2), .int .i64 0], s117 = .tuple #[.agg (RC q1 q2), .int .i64 0], s123 = .agg (RC q1 q2), s124 = .int .i64 0, s18 = .pointer (some ⟨b18, 0, none⟩), c_b18 = RC q1 q2, s19 = .int .i64 0] ∧ Wt l [(9, 8)] ∧ c_b18.size = (RC q1 q2).size ∧ True) (by kernel_rfl) (putAll_self _ _) ?_ ?_ ?_
            · exact ⟨_, _, _, _, _, _, _, _, _, _, (RC 0 0), 0, rfl, F.drew, On.none _ _ _, Wt.none _ _, dT⟩
            · rintro listed mm W ii hi hsz hoff ⟨s18, s19, s117, s118, s119, s120, s121, s122, s123, s124, c_b18, b18, rfl, HF, hH, hw, hz0, -⟩ hd
              simp only [putAll, z1, z2]
              obtain rfl | rfl | rfl | rfl | rfl | rfl | rfl | rfl | rfl | rfl | rfl := dr_c11 hi
              · exact oY3
              · exact oP
              · obtain rfl : s119 = _ := dh 1 hH hd
                refine ow rfl rfl fun K hK => ?_
                refine ⟨?_⟩
                go_simp
                with_reducible refine fr_call HF (gp _) ?_
                exact oC
              · obtain rfl : s120 = _ := dh 2 hH hd
                refine ow rfl rfl fun K hK => ?_
                with_reducible apply gF_num
                · exact rfl
                exact oR
              · obtain rfl : s118 = _ := dh 0 hH hd
                obtain rfl : s121 = _ := dh 3 hH hd
                refine ow rfl rfl fun K hK => ?_
                refine ⟨?_⟩
                go_simp
                with_reducible refine fr_call HF (gm _) ?_
                exact oC
              · obtain rfl : s122 = _ := dh 4 hH hd
                exact oP
              · obtain rfl : s117 = _ := dh 5 hH hd
                exact oP
              · obtain rfl : s117 = _ := dh 5 hH hd
                exact oP
              · refine ow rfl rfl fun K hK => ?_
                rw [show listed.getD 8 false = false from hoff] at HF
                with_reducible apply gA_rat HF
                intro bN W HF
                go_simp
                exact hK _ _ ⟨_, dE, _, _, _, _, _, _, _, _, _, _, (RC 0 0), bN, rfl, by rw [getD_on (show 8 < listed.size by rw [hsz]; decide)]; exact Fr.mid (A := [(b13, IC z, 29), (b6, RC 0 0, 31)]) HF, onS (onV 9 hH (wtF hw hoff)) rfl rfl, dT⟩
              · obtain rfl : s123 = _ := dh 6 hH hd
                obtain rfl : s18 = _ := dh 8 hH hd
                have HG := hd 8 (by kernel_rfl)
                rw [HG] at HF
                simp only [onl, if_true, z7, z8] at HF
                exact oT3
              · obtain rfl : s124 = _ := dh 7 hH hd
                exact oP
            rintro listed mm W ⟨s18, s19, s117, s118, s119, s120, s121, s122, s123, s124, c_b18, b18, rfl, HF, hH, hw, hz0, -⟩ hall
            obtain ⟨rfl, rfl, rfl, rfl, rfl, rfl, rfl, rfl, rfl, e9, rfl⟩ := onA hH hall
            rw [hall 8 (by decide)] at HF
            simp only [onl, if_true, z7, z8] at HF
            rw [e9] at HF
            clear hall hH e9 hw hz0 F
            have F := HF
            clear HF
            simp only [putAll, z1, z2]
            go_wp2_with (first | go_skip | refine aY3 ?_ | (refine aT3 ?_; clear F; intro W F) | refine aN3 ?_)
            exact bodyPost_ret (res_cs rfl rfl rfl (Fr.get F tL) (rowRC _ _)) rfl ⟨rfl, F.below⟩
  · rw [if_pos rfl] at hr
    subst hr
    clear HR hB hn hnl
    go_wp2_with (first | go_skip | refine aY3 ?_ | (refine aT3 ?_; clear F; intro W F) | refine aN3 ?_)
    exact bodyPost_ret (res_cs rfl rfl rfl (Fr.get F tL) (rowRC _ _)) rfl ⟨rfl, F.below⟩
end
section
open Go.RowKit
set_option maxHeartbeats 4000000
theorem pad_t {D : List UInt8} {p j : Nat} (h1 : p < j + D.length) (h2 : j = 0 ∨ j + D.length ≤ p + 1) : List.replicate j 48 ++ D = (if D.length ≤ p then List.replicate (p + 1 - D.length) 48 ++ D else D) := by
  by_cases h : D.length ≤ p
  · rw [if_pos h]
    have : j = p + 1 - D.length := by rcases h2 with h2 | h2 <;> omega
    rw [this]
  · rw [if_neg h]
    have : j = 0 := by rcases h2 with h2 | h2 <;> omega
    rw [this]
    rfl
set_option maxRecDepth 100000 in
theorem rwritten_any {z : Int} {p : Nat} (hz : z.natAbs < bp 32) (hp : p ≤ 9) {r : List UInt8} (hr : fmtL z.natAbs (decide (z < 0)) p = r) (w : World) : Calls Tryz.prog 102 #[.agg (IC z), .int .i64 p] w (RetB (.string (bs r)) w) := by
  have F := Fr.start w
  have ga := fun w => rabs_any hz w
  have gf := fun w => rformat_any (z := ((z.natAbs : Nat) : Int)) (by rw [Int.natAbs_natCast]; exact hz) w
  rw [show Lib.itoa ((z.natAbs : Nat) : Int) = Lib.decDigits z.natAbs from by unfold Lib.itoa; rw [if_neg (by omega), Int.toNat_natCast]] at gf
  have gs := fun w => rsignZ hz w
  have hDl := dec_len_bp hz
  unfold fmtL pointL at hr
  obtain ⟨D, hD⟩ : ∃ D, Lib.decDigits z.natAbs = D := ⟨_, rfl⟩
  rw [hD] at gf hDl hr
  obtain ⟨A, hA⟩ : ∃ A : Int, ((z.natAbs : Nat) : Int) = A := ⟨_, rfl⟩
  rw [hA] at ga gf
  have hsg : decide (z < 0) = decide (z.sign < 0) := by rw [decide_eq_decide]; exact Int.sign_neg_iff.symm
  rw [hsg] at hr
  obtain ⟨s, hs⟩ : ∃ s, z.sign = s := ⟨_, rfl⟩
  rw [hs] at gs hr
  have HR := Lib.hid hr
  clear hr hs hsg hD hA hz
  go_enter Tryz.func102, Tryz.ntmps102
  go_wp2_with (first | go_skip | refine aY3 ?_ | refine aN3 ?_)
  (clear F; intro b2 W F; try simp only [Act.put, z6, z1, z2])
  go_wp2_with (first | go_skip | ((go_at_call 156); (with_reducible refine fr_call F (ga _) ?_); (clear F; intro W F); (try dsimp only)) | ((go_at_call 155); (with_reducible refine fr_call F (gf _) ?_); (clear F; intro W F); (try dsimp only)) | refine aY3 ?_ | refine aN3 ?_)
  clear ga gf
  go_loopw [5] (fun sv wr => ∃ j : Nat, sv = .string (bs (List.replicate j 48 ++ D)) ∧ (j = 0 ∨ j + D.length ≤ p + 1) ∧ Fr w wr [(b2, IC z, 29)]) (fun sv _ => p + 1 - (strOf sv).size)
  case atStart => exact ⟨0, rfl, .inl rfl, F⟩
  case round =>
    clear F
    obtain ⟨j, rfl, hj, F⟩ := hrel
    have hz := bs_size (List.replicate j 48 ++ D)
    rw [List.length_append, List.length_replicate] at hz
    obtain ⟨l, hl⟩ : ∃ l, j + D.length = l := ⟨_, rfl⟩
    rw [hl] at hz hj
    by_cases hlt : l ≤ p
    · have t1 : decide ((l : Int) ≤ (p : Int)) = true := decide_eq_true (by omega)
      have t2 : decide (l ≤ p) = true := decide_eq_true hlt
      have e1 : bs [48] ++ bs (List.replicate j 48 ++ D) = bs (List.replicate (j + 1) 48 ++ D) := by
        rw [bs_append]
        rfl
      have e0 : bs [48] = ⟨#[48]⟩ := rfl
      rw [e0] at e1
      have k1 : (9223372036854775807 < 1 + l) = False := by rw [eq_iff_iff, iff_false]; omega
      obtain ⟨S1, hS1⟩ : ∃ S, bs (List.replicate j 48 ++ D) = S := ⟨_, rfl⟩
      obtain ⟨S2, hS2⟩ : ∃ S, bs (List.replicate (j + 1) 48 ++ D) = S := ⟨_, rfl⟩
      have hz2 : S2.size = l + 1 := by rw [← hS2, bs_size, List.length_append, List.length_replicate, ← hl]; omega
      rw [hS1] at hz e1 ⊢
      rw [hS2] at e1
      have HN := Lib.hid (And.intro hS2 (And.intro (show j + 1 = 0 ∨ j + 1 + D.length ≤ p + 1 by omega) (show p + 1 - S2.size < p + 1 - S1.size by omega)))
      clear hS1 hS2 hz2 hj hl hlt HR hDl
      go_wp2_with fail
      go_roundw
      case rel => exact ⟨j + 1, congrArg Value.string HN.out.1.symm, HN.out.2.1, F⟩
      case measure => exact HN.out.2.2
    · have hr := HR.out
      rw [← pad_t (j := j) (by omega) (by rcases hj with h | h; exact .inl h; exact .inr (by omega))] at hr
      try dsimp only at hr
      rw [List.length_append, List.length_replicate, hl] at hr
      have hlb : l ≤ 400 := by
        rcases hj with h | h
        · subst h; omega
        · omega
      have t1 : decide ((l : Int) ≤ (p : Int)) = false := decide_eq_false (by omega)
      have t2 : decide (l ≤ p) = false := decide_eq_false hlt
      obtain ⟨T, hT⟩ : ∃ T, List.replicate j 48 ++ D = T := ⟨_, rfl⟩
      have hTl : T.length = l := by rw [← hT, List.length_append, List.length_replicate, hl]
      rw [hT] at hz hr ⊢
      clear hT hl hj HR hDl
      by_cases hp0 : p = 0
      · have t4 : decide (0 < (p : Int)) = false := decide_eq_false (by omega)
        have t5 : decide (0 < p) = false := decide_eq_false (by omega)
        rw [hp0, Nat.sub_zero, ← hTl, List.drop_length, List.take_length, if_pos rfl] at hr
        clear hlt hTl hp0 hp
        have k1 : (9223372036854775807 < 1 + l) = False := by rw [eq_iff_iff, iff_false]; omega
        have e1 : bs [45] ++ bs T = bs (45 :: T) := bs_append [45] T
        rw [show bs [45] = ⟨#[45]⟩ from rfl] at e1
        by_cases hs : s < 0
        · have t3 : decide (s < 0) = true := decide_eq_true hs
          rw [decide_eq_true hs, if_pos rfl] at hr
          subst hr
          clear hs
          go_wp2_with (first | go_skip | ((go_at_call 135); (with_reducible refine fr_call F (gs _) ?_); (clear F; intro W F); (try dsimp only)) | refine aY3 ?_ | refine aN3 ?_)
          go_ret
          exact ⟨rfl, F.below⟩
        · have t3 : decide (s < 0) = false := decide_eq_false hs
          rw [decide_eq_false hs, if_neg (by decide), List.nil_append] at hr
          subst hr
          clear hs
          go_wp2_with (first | go_skip | ((go_at_call 135); (with_reducible refine fr_call F (gs _) ?_); (clear F; intro W F); (try dsimp only)) | refine aY3 ?_ | refine aN3 ?_)
          go_ret
          exact ⟨rfl, F.below⟩
      · obtain ⟨m, hm⟩ : ∃ m, l - p = m := ⟨_, rfl⟩
        obtain ⟨a, ha⟩ : ∃ a, T.take m = a := ⟨_, rfl⟩
        obtain ⟨b, hb⟩ : ∃ b, T.drop m = b := ⟨_, rfl⟩
        have hal : a.length = m := by rw [← ha, List.length_take]; omega
        have hbl : b.length = p := by rw [← hb, List.length_drop]; omega
        have hbn : b ≠ [] := by rintro rfl; rw [List.length_nil] at hbl; omega
        rw [hm, ha, hb, if_neg hbn] at hr
        have e1 : (bs T).extract 0 m = bs a := by rw [bs_extract, List.drop_zero, Nat.sub_zero, ha]
        have e2 : (bs T).extract m l = bs b := by rw [bs_extract, ← hTl, ← List.length_drop, List.take_length, hb]
        have e3 : bs a ++ bs [46] = bs (a ++ [46]) := bs_append _ _
        have e4 : bs (a ++ [46]) ++ bs b = bs (a ++ 46 :: b) := by rw [bs_append, List.append_assoc]; rfl
        have e5 : bs [45] ++ bs (a ++ 46 :: b) = bs (45 :: (a ++ 46 :: b)) := bs_append _ _
        rw [show bs [46] = ⟨#[46]⟩ from rfl] at e3
        rw [show bs [45] = ⟨#[45]⟩ from rfl] at e5
        have z1 := bs_size a
        have z2 := bs_size b
        have z3 := bs_size (a ++ [46])
        have z4 := bs_size (a ++ 46 :: b)
        rw [hal] at z1
        rw [hbl] at z2
        rw [List.length_append, hal, List.length_singleton] at z3
        rw [List.length_append, List.length_cons, hal, hbl] at z4
        have m1 : (l : Int) - (p : Int) = (m : Int) := by omega
        have hm5 : m ≤ 100000 := by omega
        have t4 : decide (0 < (p : Int)) = true := decide_eq_true (by omega)
        have t5 : decide (0 < p) = true := decide_eq_true (by omega)
        have l0 : (0 : Int) ≤ (m : Int) := by omega
        have l1 : (m : Int) ≤ (l : Int) := by omega
        have l2 : m ≤ l := by omega
        have k1 : (9223372036854775807 < m + 1) = False := by rw [eq_iff_iff, iff_false]; omega
        have k2 : (9223372036854775807 < m + 1 + p) = False := by rw [eq_iff_iff, iff_false]; omega
        have k3 : (9223372036854775807 < 1 + (m + (p + 1))) = False := by rw [eq_iff_iff, iff_false]; omega
        have HSG := Lib.hid (And.intro e5 (And.intro z4 k3))
        obtain ⟨m2, m3, -⟩ := wraps hm5
        clear hm ha hb hal hbl hbn hTl hlt hp0 hp e5 z4 k3 hm5 hlb
        go_wp2_with fail
        go_quiet (fail)
        replace F := F.drewN nq
        generalize wr.drewN nq = wq at *
        clear m1 m2 m3 t4 t5 l0 l1 l2 k1 k2 e1 e2 e3 e4 z1 z2 z3 t1 t2
        obtain ⟨e5, z4, k3⟩ := HSG.out
        by_cases hs : s < 0
        · have t3 : decide (s < 0) = true := decide_eq_true hs
          rw [decide_eq_true hs, if_pos rfl] at hr
          subst hr
          clear hs
          go_wp2_with (first | go_skip | ((go_at_call 135); (with_reducible refine fr_call F (gs _) ?_); (clear F; intro W F); (try dsimp only)) | refine aY3 ?_ | refine aN3 ?_)
          go_ret
          exact ⟨rfl, F.below⟩
        · have t3 : decide (s < 0) = false := decide_eq_false hs
          rw [decide_eq_false hs, if_neg (by decide), List.nil_append] at hr
          subst hr
          clear hs
          go_wp2_with (first | go_skip | ((go_at_call 135); (with_reducible refine fr_call F (gs _) ?_); (clear F; intro W F); (try dsimp only)) | refine aY3 ?_ | refine aN3 ?_)
          go_ret
          exact ⟨rfl, F.below⟩
end
section
open Go.RowKit
theorem trim_nil : Lib.trimRightB [] 48 = [] := rfl
theorem trim_snoc (c : List UInt8) (x : UInt8) : Lib.trimRightB (c ++ [x]) 48 = if x = 48 then Lib.trimRightB c 48 else c ++ [x] := by
  unfold Lib.trimRightB
  rw [List.reverse_append, List.reverse_singleton, List.singleton_append, List.dropWhile_cons]
  by_cases h : x = 48
  · rw [if_pos (by simpa using h), if_pos h]
  · rw [if_neg (by simpa using h), if_neg h, List.reverse_cons, List.reverse_reverse]
theorem last_at {Y : List UInt8} {x : UInt8} {L : Nat} (hL : Y.length = L) (h : L < (bs (Y ++ [x])).size) : (bs (Y ++ [x]))[L] = x :=
  (bs_at (l := Y ++ [x]) (i := L) h (by rw [List.length_append, hL, List.length_singleton]; omega)).trans (by subst hL; simp)
theorem last_cut {Y : List UInt8} {x : UInt8} {L : Nat} (hL : Y.length = L) : (bs (Y ++ [x])).extract 0 L = bs Y := by
  rw [bs_extract, List.drop_zero, Nat.sub_zero, ← hL, List.take_left' rfl]
theorem txt_rd {z : Int} {p : Nat} {a b t : List UInt8} (h : pointL (Lib.decDigits z.natAbs) p = (a, b)) (ht : Lib.trimRightB b 48 = t) :
    rdR (txtS (decide (z < 0)) a t) p true = (if 15 < a.length then (0, 0, false) else rdF (a ++ t) t.length (decide (z < 0))) ∧ (rdF (a ++ t) t.length (decide (z < 0))).2.2 = true ∧ numL (a ++ t) * 10 ^ (p - t.length) = z.natAbs ∧ t.length ≤ p := by
  obtain ⟨h1, h2, h3, h4, h5, h6⟩ := point_facts _ h
  obtain ⟨k, hk⟩ := trim_zeros b
  rw [ht] at hk
  have htl : t.length + k = p := by rw [← h5, hk, List.length_append, List.length_replicate]
  have htd : t.all isD = true := by
    rw [hk, List.all_append, Bool.and_eq_true] at h2
    exact h2.1
  have hnum : numL (a ++ t) * 10 ^ k = z.natAbs := by rw [← h6, hk, ← List.append_assoc, numL_tail]
  have hG := fun neg : Bool => rdG_ok (a := a) (b := t) (p := p) (neg := neg) h1 htd h3 h4 (by omega)
  refine ⟨?_, ?_, by rw [show p - t.length = k by omega]; exact hnum, by omega⟩
  · unfold rdR txtS
    by_cases hz : z < 0
    · rw [decide_eq_true hz, if_pos rfl, List.singleton_append, List.head?_cons, List.tail_cons, if_pos ⟨rfl, rfl⟩]
      exact hG true
    · rw [decide_eq_false hz, show (if false = true then [45] else ([] : List UInt8)) = [] from rfl, List.nil_append, if_neg]
      · exact hG false
      · rintro ⟨-, hh⟩
        have e : (if t = [] then a else a ++ 46 :: t).head? = a.head? := by
          split
          · rfl
          · cases a with
            | nil => exact absurd rfl h3
            | cons c l => rfl
        rw [e] at hh
        cases a with
        | nil => exact absurd rfl h3
        | cons c l =>
          rw [List.head?_cons, Option.some.injEq] at hh
          subst hh
          rw [List.all_cons] at h1
          exact absurd h1 (by simp [isD])
  · rw [rdF_ok]
    by_cases hz : z < 0
    · rw [decide_eq_false (p := numL (a ++ t) = 0)]
      · simp
      · intro h0
        rw [h0, Nat.zero_mul] at hnum
        omega
    · rw [decide_eq_false hz]
      rfl
end
section
open Go.RowKit
set_option maxHeartbeats 4000000
theorem rnd_down {v : Prop} [Decidable v] {n d p : Int} (h : exR v n d p = ((exR v n d p).1, 0)) : ∃ z, rndR v n d p 1 = (z, 0) ∧ ((exR v n d p).1 = true → z = n * ((10 ^ p.toNat : Nat) : Int) / d) := by
  unfold exR at h ⊢
  by_cases he : chkE v p = 0
  · obtain ⟨hv, h0, h9⟩ := chkE_ok he
    rw [if_neg (by rw [Classical.not_not]; exact he)]
    unfold rndR
    rw [if_neg (by rw [Classical.not_not]; exact hv), if_neg (by omega), if_neg (by decide)]
    dsimp only
    split
    · exact ⟨_, rfl, fun _ => rfl⟩
    · rename_i hne
      split
      · exact ⟨_, rfl, fun h => absurd (by simpa using h) hne⟩
      · exact ⟨_, rfl, fun h => absurd (by simpa using h) hne⟩
  · rw [if_pos he] at h
    exact absurd (congrArg Prod.snd h) he
theorem pre_if (u a b : List UInt8) : u ++ (if b = [] then a else a ++ 46 :: b) = if b = [] then u ++ a else (u ++ a) ++ 46 :: b := by
  split
  · rfl
  · rw [List.append_assoc]
theorem txtR_ex {v : Prop} [Decidable v] {n d p : Int} : txtR v n d p = if (exR v n d p).2 ≠ 0 then ([], (exR v n d p).2) else if (exR v n d p).1 = true then txtZ (n * ((10 ^ p.toNat : Nat) : Int) / d) p.toNat else ([], 32) := by
  unfold txtR exR
  by_cases he : chkE v p = 0
  · by_cases hm : n * ((10 ^ p.toNat : Nat) : Int) % d = 0
    · simp [he, hm]
    · simp [he, hm]
  · simp [he]
set_option maxRecDepth 100000 in
theorem rtext_any {x : Bool} {a : Nat} {y : Bool} {b : Nat} (ha : a < bp 32) (hb : b < bp 32) {p : Int} {r : List UInt8 × Int} (hr : txtR (okR x a y b) (sZ x a) (sZ y b) p = r) (w : World) : Calls Tryz.prog 56 #[.agg (ratC x a y b), .int .i64 p] w (RetB (.tuple #[.string (bs r.1), .int .i64 r.2]) w) := by
  have F := Fr.start w
  rw [txtR_ex] at hr
  have hdn := rnd_down (v := okR x a y b) (n := sZ x a) (d := sZ y b) (p := p)
  have hp := chkE_ok (v := okR x a y b) (p := p)
  have hec : (exR (okR x a y b) (sZ x a) (sZ y b) p).2 = chkE (okR x a y b) p := by
    unfold exR
    split
    · rfl
    · rename_i h
      rw [Classical.not_not] at h
      exact h.symm
  have hl := rnd_lt (x := x) (a := a) (y := y) (b := b) (p := p) (m := 1)
  obtain ⟨q, hq⟩ : ∃ q, exR (okR x a y b) (sZ x a) (sZ y b) p = q := ⟨_, rfl⟩
  have g1 := fun w => rexact_any ha hb hq w
  rw [hq] at hr hdn hec
  obtain ⟨f, e⟩ := q
  dsimp only at hr hdn hec g1
  by_cases he : e ≠ 0
  · rw [if_pos he] at hr
    subst hr
    have t0 : (e == 0) = false := by rw [beq_eq_false_iff_ne]; exact he
    clear hdn hp hec hl hq ha hb
    go_enter Tryz.func56, Tryz.ntmps56
    go_wp2_with (first | go_skip | refine aY3 ?_ | (refine aT3 ?_; clear F; intro W F) | refine aN3 ?_)
    (clear F; intro b2 W F; try simp only [Act.put, z6, z1, z2])
    go_wp2_with (first | go_skip | ((go_at_call 100); (with_reducible refine fr_call F (g1 _) ?_); (clear F; intro W F); (try dsimp only)) | refine aY3 ?_ | (refine aT3 ?_; clear F; intro W F) | refine aN3 ?_)
    go_ret2
    exact ⟨rfl, F.below⟩
  rw [Classical.not_not] at he
  subst he
  rw [if_neg (by decide)] at hr
  obtain ⟨hv, hp0, hp9⟩ := hp hec.symm
  obtain ⟨z, hz, hzq⟩ := hdn rfl
  have g2 := fun w => rround_any ha hb hz w
  rw [hz] at hl
  dsimp only at hl g2
  obtain ⟨n, rfl⟩ : ∃ n : Nat, p = (n : Int) := ⟨p.toNat, by omega⟩
  have hn9 : n ≤ 9 := by omega
  rw [Int.toNat_natCast] at hr hzq
  have hz32 : z.natAbs < bp 32 := Nat.lt_of_lt_of_le hl (bp_le (by decide))
  have g3 := fun w => rwritten_any hz32 hn9 rfl w
  obtain ⟨A, hA⟩ : ∃ A, pointL (Lib.decDigits z.natAbs) n = A := ⟨_, rfl⟩
  obtain ⟨a1, b1⟩ := A
  obtain ⟨t, ht⟩ : ∃ t, Lib.trimRightB b1 48 = t := ⟨_, rfl⟩
  obtain ⟨hrd, hrf, -, htl⟩ := txt_rd hA ht
  obtain ⟨ha1, hb1, han, -, hbl, -⟩ := point_facts _ hA
  have hal : a1.length ≤ 400 := by
    have h1 := point_len (s := Lib.decDigits z.natAbs) (p := n)
    have h2 := dec_len_bp hl
    have h3 : a1.length + b1.length ≤ 400 := by
      have h4 := hA
      unfold pointL at h4
      dsimp only at h4
      rw [Prod.mk.injEq] at h4
      rw [← h4.1, ← h4.2, List.length_take, List.length_drop]
      split
      · rw [List.length_append, List.length_replicate]
        omega
      · omega
    omega
  obtain ⟨neg, hneg⟩ : ∃ g, decide (z < 0) = g := ⟨_, rfl⟩
  unfold fmtL at g3
  rw [hA, hneg] at g3
  dsimp only at g3
  rw [hneg] at hrd hrf
  obtain ⟨X, hX⟩ : ∃ X, (if neg = true then [45] else []) ++ a1 = X := ⟨_, rfl⟩
  have hXl : X.length ≤ 401 := by
    rw [← hX, List.length_append]
    cases neg
    · simp; omega
    · simp; omega
  have hw : (if neg = true then [45] else []) ++ (if b1 = [] then a1 else a1 ++ 46 :: b1) = if b1 = [] then X else X ++ 46 :: b1 := by
    rw [← hX]
    exact pre_if _ _ _
  have hS : txtS neg a1 t = if t = [] then X else X ++ 46 :: t := by
    unfold txtS
    rw [← hX]
    exact pre_if _ _ _
  rw [hw] at g3
  obtain ⟨W0, hW0⟩ : ∃ W0, (if b1 = [] then X else X ++ 46 :: b1) = W0 := ⟨_, rfl⟩
  rw [hW0] at g3
  have HW := Lib.hid hW0
  clear hW0
  have hXlast : ∃ Y c, X = Y ++ [c] ∧ isD c = true := by
    rcases List.eq_nil_or_concat a1 with rfl | ⟨Y, c, rfl⟩
    · exact absurd rfl han
    · refine ⟨(if neg = true then [45] else []) ++ Y, c, by rw [← hX, List.concat_eq_append, List.append_assoc], ?_⟩
      rw [List.concat_eq_append, List.all_append, Bool.and_eq_true] at ha1
      simpa using ha1.2
  obtain ⟨Sx, hSx⟩ : ∃ s, txtS neg a1 t = s := ⟨_, rfl⟩
  rw [hSx] at hrd hS
  have hSl : Sx.length ≤ 9223372036854775807 := by
    rw [hS]
    split
    · omega
    · rw [List.length_append, List.length_cons]
      omega
  have g5 := fun w => rread_any Sx (n : Int) true (by omega) hSl hrd w
  obtain ⟨ok, hok⟩ : ∃ ok, decide (¬ 15 < a1.length) = ok := ⟨_, rfl⟩
  have hrr : r = if (f && ok) = true then (Sx, 0) else ([], 32) := by
    rw [← hr, ← hok]
    cases f
    · rw [if_neg (by decide), Bool.false_and, if_neg (by decide)]
    · rw [if_pos rfl, ← hzq rfl, Bool.true_and]
      unfold txtZ
      rw [hA]
      dsimp only
      rw [ht]
      by_cases h15 : 15 < a1.length
      · rw [if_pos h15, if_neg (by rw [decide_eq_false (by omega)]; decide)]
      · rw [if_neg h15, if_pos (decide_eq_true h15), ← hSx]
        unfold txtS
        rw [← hneg]
        by_cases hz0 : z < 0
        · simp only [hz0, decide_true, if_true]
        · simp only [hz0, decide_false, if_false, Bool.false_eq_true]
  obtain ⟨R1, hR1⟩ : ∃ R1 : Int × Int × Bool, (if 15 < a1.length then (0, 0, false) else rdF (a1 ++ t) t.length neg) = R1 := ⟨_, rfl⟩
  rw [hR1] at g5
  have hR2 : R1.2.2 = ok := by
    rw [← hR1, ← hok]
    by_cases h15 : 15 < a1.length
    · rw [if_pos h15, decide_eq_false (by omega)]
    · rw [if_neg h15, hrf, decide_eq_true h15]
  rw [hR2] at g5
  obtain ⟨r1, hr1⟩ : ∃ q, R1.1 = q := ⟨_, rfl⟩
  obtain ⟨r2, hr2⟩ : ∃ q, R1.2.1 = q := ⟨_, rfl⟩
  rw [hr1, hr2] at g5
  have HR := Lib.hid hrr.symm
  have HBD := Lib.hid hb1
  have HX := Lib.hid (And.intro hXl (And.intro hXlast (And.intro hS (And.intro hbl (And.intro ht htl)))))
  clear hr hdn hec hl hq ha hb hp hv hzq hz hz32 hA ht hrd hrf htl ha1 hb1 han hbl hal hneg hX hXl hw hS hXlast hSx hSl hok hrr hR1 hp0 hp9 hR2 hr1 hr2
  go_enter Tryz.func56, Tryz.ntmps56
  go_wp2_with (first | go_skip | refine aY3 ?_ | (refine aT3 ?_; clear F; intro W F) | refine aN3 ?_)
  (clear F; intro b2 W F; try simp only [Act.put, z6, z1, z2])
  go_wp2_with (first | go_skip | ((go_at_call 100); (with_reducible refine fr_call F (g1 _) ?_); (clear F; intro W F); (try dsimp only)) | ((go_at_call 101); (with_reducible refine fr_call F (g2 _) ?_); (clear F; intro W F); (try dsimp only)) | refine aY3 ?_ | (refine aT3 ?_; clear F; intro W F) | refine aN3 ?_)
  (clear F; intro b8 W F; try simp only [Act.put, z6, z1, z2])
  go_wp2_with (first | go_skip | ((go_at_call 102); (with_reducible refine fr_call F (g3 _) ?_); (clear F; intro W F); (try dsimp only)) | refine aY3 ?_ | (refine aT3 ?_; clear F; intro W F) | refine aN3 ?_)
  clear g1 g2 g3
  by_cases hn0 : n = 0
  · have hb0 : b1 = [] := List.eq_nil_of_length_eq_zero (by rw [HX.out.2.2.2.1]; exact hn0)
    have hW := HW.out
    rw [if_pos hb0] at hW
    subst hW
    have t1 : decide (0 < (n : Int)) = false := decide_eq_false (by omega)
    have t2 : decide (0 < n) = false := decide_eq_false (by omega)
    obtain ⟨hXl, ⟨Y, c, hY, hc⟩, hS, hbl, ht, htl⟩ := HX.out
    have hSX : Sx = X := by
      rw [hS, ← ht, hb0, if_pos trim_nil]
    subst hSX
    subst hY
    go_loopw [10] (fun sv wr => sv = .string (bs (Y ++ [c])) ∧ Fr w wr [(b8, IC z, 29), (b2, ratC x a y b, 31)]) (fun _ _ => 0)
    case atStart => exact ⟨rfl, F⟩
    case round =>
      clear F
      obtain ⟨rfl, F⟩ := hrel
      obtain ⟨L, hL⟩ : ∃ L, Y.length = L := ⟨_, rfl⟩
      have hz := bs_size (Y ++ [c])
      rw [List.length_append, hL, List.length_singleton] at hz hXl
      obtain ⟨M, hM⟩ : ∃ M, L + 1 = M := ⟨_, rfl⟩
      rw [hM] at hz hXl
      have hlt : L < (bs (Y ++ [c])).size := by rw [hz]; omega
      have e1 := last_at hL hlt
      have t3 : ((c.toNat : Int) == 46) = false := by
        rw [beq_eq_false_iff_ne]
        intro h
        have := (isD_iff.1 hc).1
        omega
      have m2 : (M : Int) - 1 = (L : Int) := by omega
      have l0 : (0 : Int) ≤ (L : Int) := by omega
      have l1 : (L : Int) < (M : Int) := by omega
      have hL5 : L ≤ 100000 := by omega
      obtain ⟨w1, w2, -⟩ := wraps hL5
      clear hXl hL hM hc hS hbl ht htl HX hn0 hb0 hL5 hn9
      cases f
      · have hr := HR.out
        rw [Bool.false_and, if_neg (by decide)] at hr
        subst hr
        go_wp2_with (first | go_skip | ((go_at_call 89); (with_reducible refine fr_call F (g5 _) ?_); (clear F; intro W F); (try dsimp only)) | refine aY3 ?_ | (refine aT3 ?_; clear F; intro W F) | refine aN3 ?_)
        (clear F; intro b11 W F; try simp only [Act.put, z6, z1, z2])
        go_wp2_with (first | go_skip | refine aY3 ?_ | (refine aT3 ?_; clear F; intro W F) | refine aN3 ?_)
        go_ret2
        exact ⟨rfl, F.below⟩
      · cases ok
        · have hr := HR.out
          rw [Bool.and_false, if_neg (by decide)] at hr
          subst hr
          go_wp2_with (first | go_skip | ((go_at_call 89); (with_reducible refine fr_call F (g5 _) ?_); (clear F; intro W F); (try dsimp only)) | refine aY3 ?_ | (refine aT3 ?_; clear F; intro W F) | refine aN3 ?_)
          (clear F; intro b11 W F; try simp only [Act.put, z6, z1, z2])
          go_wp2_with (first | go_skip | refine aY3 ?_ | (refine aT3 ?_; clear F; intro W F) | refine aN3 ?_)
          go_ret2
          exact ⟨rfl, F.below⟩
        · have hr := HR.out
          rw [Bool.and_self, if_pos rfl] at hr
          subst hr
          go_wp2_with (first | go_skip | ((go_at_call 89); (with_reducible refine fr_call F (g5 _) ?_); (clear F; intro W F); (try dsimp only)) | refine aY3 ?_ | (refine aT3 ?_; clear F; intro W F) | refine aN3 ?_)
          (clear F; intro b11 W F; try simp only [Act.put, z6, z1, z2])
          go_wp2_with (first | go_skip | refine aY3 ?_ | (refine aT3 ?_; clear F; intro W F) | refine aN3 ?_)
          go_ret2
          exact ⟨rfl, F.below⟩
  · have t1 : decide (0 < (n : Int)) = true := decide_eq_true (by omega)
    have t2 : decide (0 < n) = true := decide_eq_true (by omega)
    have hb0 : b1 ≠ [] := by
      intro h
      have := HX.out.2.2.2.1
      rw [h, List.length_nil] at this
      omega
    have hW := HW.out
    rw [if_neg hb0] at hW
    subst hW
    go_loopw [10] (fun sv wr => ∃ b' : List UInt8, sv = .string (bs (X ++ 46 :: b')) ∧ (b'.length ≤ 9 ∧ b'.all isD = true) ∧ Lib.trimRightB b' 48 = t ∧ Fr w wr [(b8, IC z, 29), (b2, ratC x a y b, 31)]) (fun sv _ => (strOf sv).size)
    case atStart => exact ⟨b1, rfl, ⟨by rw [HX.out.2.2.2.1]; exact hn9, HBD.out⟩, HX.out.2.2.2.2.1, F⟩
    case round =>
      clear F
      obtain ⟨b', rfl, ⟨hb9, hbd⟩, hbt, F⟩ := hrel
      obtain ⟨hXl, -, hS, -, -, -⟩ := HX.out
      have hYc : ∃ Y c, X ++ 46 :: b' = Y ++ [c] ∧ ((c = 46 ∧ t = [] ∧ Y = X) ∨ (c ≠ 46 ∧ c ≠ 48 ∧ t = b' ∧ t ≠ []) ∨ (c = 48 ∧ ∃ b2, Y = X ++ 46 :: b2 ∧ (b2.length ≤ 9 ∧ b2.all isD = true) ∧ Lib.trimRightB b2 48 = t)) := by
        rcases List.eq_nil_or_concat b' with rfl | ⟨b2, x, rfl⟩
        · exact ⟨X, 46, rfl, .inl ⟨rfl, by rw [← hbt]; rfl, rfl⟩⟩
        · rw [List.concat_eq_append] at hb9 hbd hbt ⊢
          rw [List.length_append, List.length_singleton] at hb9
          rw [List.all_append, Bool.and_eq_true] at hbd
          refine ⟨X ++ 46 :: b2, x, by rw [List.append_assoc]; rfl, ?_⟩
          rw [trim_snoc] at hbt
          by_cases hx : x = 48
          · rw [if_pos hx] at hbt
            exact .inr (.inr ⟨hx, b2, rfl, ⟨by omega, hbd.1⟩, hbt⟩)
          · rw [if_neg hx] at hbt
            refine .inr (.inl ⟨?_, hx, hbt.symm, by rw [← hbt]; simp⟩)
            rintro rfl
            exact absurd hbd.2 (by decide)
      obtain ⟨Y, c, hYY, hways⟩ := hYc
      have hYl : (Y ++ [c]).length ≤ 411 := by
        rw [← hYY, List.length_append, List.length_cons]
        omega
      rw [hYY]
      obtain ⟨L, hL⟩ : ∃ L, Y.length = L := ⟨_, rfl⟩
      have hz := bs_size (Y ++ [c])
      rw [List.length_append, hL, List.length_singleton] at hz hYl
      obtain ⟨M, hM⟩ : ∃ M, L + 1 = M := ⟨_, rfl⟩
      rw [hM] at hz hYl
      have hlt : L < (bs (Y ++ [c])).size := by rw [hz]; omega
      have e1 := last_at hL hlt
      have e2 := last_cut (x := c) hL
      have m2 : (M : Int) - 1 = (L : Int) := by omega
      have l0 : (0 : Int) ≤ (L : Int) := by omega
      have l1 : (L : Int) < (M : Int) := by omega
      have l2 : (L : Int) ≤ (M : Int) := by omega
      have hL5 : L ≤ 100000 := by omega
      rcases hways with ⟨hc, ht0, hYX⟩ | ⟨hc, hc2, htb, htn⟩ | ⟨hc, b2, hYX, hb2, hbt2⟩
      · have t3 : ((c.toNat : Int) == 46) = true := by rw [hc]; rfl
        have t4 : ((c.toNat : Int) == 48) = false := by rw [hc]; rfl
        rw [if_pos ht0, ← hYX] at hS
        subst hS
        obtain ⟨w1, w2, -⟩ := wraps hL5
        clear hXl hL hM hc HX hb0 hL5 hn9 hYX ht0 hYl hb9 hbd hbt hYY hn0 HBD HW
        cases f
        · have hr := HR.out
          rw [Bool.false_and, if_neg (by decide)] at hr
          subst hr
          go_wp2_with (first | go_skip | ((go_at_call 89); (with_reducible refine fr_call F (g5 _) ?_); (clear F; intro W F); (try dsimp only)) | refine aY3 ?_ | (refine aT3 ?_; clear F; intro W F) | refine aN3 ?_)
          (clear F; intro b11 W F; try simp only [Act.put, z6, z1, z2])
          go_wp2_with (first | go_skip | refine aY3 ?_ | (refine aT3 ?_; clear F; intro W F) | refine aN3 ?_)
          go_ret2
          exact ⟨rfl, F.below⟩
        · cases ok
          · have hr := HR.out
            rw [Bool.and_false, if_neg (by decide)] at hr
            subst hr
            go_wp2_with (first | go_skip | ((go_at_call 89); (with_reducible refine fr_call F (g5 _) ?_); (clear F; intro W F); (try dsimp only)) | refine aY3 ?_ | (refine aT3 ?_; clear F; intro W F) | refine aN3 ?_)
            (clear F; intro b11 W F; try simp only [Act.put, z6, z1, z2])
            go_wp2_with (first | go_skip | refine aY3 ?_ | (refine aT3 ?_; clear F; intro W F) | refine aN3 ?_)
            go_ret2
            exact ⟨rfl, F.below⟩
          · have hr := HR.out
            rw [Bool.and_self, if_pos rfl] at hr
            subst hr
            go_wp2_with (first | go_skip | ((go_at_call 89); (with_reducible refine fr_call F (g5 _) ?_); (clear F; intro W F); (try dsimp only)) | refine aY3 ?_ | (refine aT3 ?_; clear F; intro W F) | refine aN3 ?_)
            (clear F; intro b11 W F; try simp only [Act.put, z6, z1, z2])
            go_wp2_with (first | go_skip | refine aY3 ?_ | (refine aT3 ?_; clear F; intro W F) | refine aN3 ?_)
            go_ret2
            exact ⟨rfl, F.below⟩
      · have t3 : ((c.toNat : Int) == 46) = false := by
          rw [beq_eq_false_iff_ne]
          intro h
          exact hc (UInt8.toNat_inj.1 (show c.toNat = (46 : UInt8).toNat by rw [show UInt8.toNat 46 = 46 from rfl]; omega))
        have t4 : ((c.toNat : Int) == 48) = false := by
          rw [beq_eq_false_iff_ne]
          intro h
          exact hc2 (UInt8.toNat_inj.1 (show c.toNat = (48 : UInt8).toNat by rw [show UInt8.toNat 48 = 48 from rfl]; omega))
        rw [if_neg htn, htb, hYY] at hS
        subst hS
        obtain ⟨w1, w2, -⟩ := wraps hL5
        clear hXl hL hM hc hc2 HX hb0 hL5 hn9 htb htn hYl hb9 hbd hbt hYY hn0 HBD HW
        cases f
        · have hr := HR.out
          rw [Bool.false_and, if_neg (by decide)] at hr
          subst hr
          go_wp2_with (first | go_skip | ((go_at_call 89); (with_reducible refine fr_call F (g5 _) ?_); (clear F; intro W F); (try dsimp only)) | refine aY3 ?_ | (refine aT3 ?_; clear F; intro W F) | refine aN3 ?_)
          (clear F; intro b11 W F; try simp only [Act.put, z6, z1, z2])
          go_wp2_with (first | go_skip | refine aY3 ?_ | (refine aT3 ?_; clear F; intro W F) | refine aN3 ?_)
          go_ret2
          exact ⟨rfl, F.below⟩
        · cases ok
          · have hr := HR.out
            rw [Bool.and_false, if_neg (by decide)] at hr
            subst hr
            go_wp2_with (first | go_skip | ((go_at_call 89); (with_reducible refine fr_call F (g5 _) ?_); (clear F; intro W F); (try dsimp only)) | refine aY3 ?_ | (refine aT3 ?_; clear F; intro W F) | refine aN3 ?_)
            (clear F; intro b11 W F; try simp only [Act.put, z6, z1, z2])
            go_wp2_with (first | go_skip | refine aY3 ?_ | (refine aT3 ?_; clear F; intro W F) | refine aN3 ?_)
            go_ret2
            exact ⟨rfl, F.below⟩
          · have hr := HR.out
            rw [Bool.and_self, if_pos rfl] at hr
            subst hr
            go_wp2_with (first | go_skip | ((go_at_call 89); (with_reducible refine fr_call F (g5 _) ?_); (clear F; intro W F); (try dsimp only)) | refine aY3 ?_ | (refine aT3 ?_; clear F; intro W F) | refine aN3 ?_)
            (clear F; intro b11 W F; try simp only [Act.put, z6, z1, z2])
            go_wp2_with (first | go_skip | refine aY3 ?_ | (refine aT3 ?_; clear F; intro W F) | refine aN3 ?_)
            go_ret2
            exact ⟨rfl, F.below⟩
      · have t4 : ((c.toNat : Int) == 48) = true := by rw [hc]; rfl
        have HN := Lib.hid (And.intro hYX (And.intro hb2 (And.intro hbt2 (show (bs Y).size < (bs (Y ++ [c])).size by rw [hz, bs_size, hL]; omega))))
        obtain ⟨w1, w2, -⟩ := wraps hL5
        clear hXl hL hM hc HX hb0 hL5 hn9 hYX hYl hb9 hbd hbt hYY hn0 HBD HW hS hb2 hbt2
        go_wp2_with fail
        go_roundw
        case rel => exact ⟨b2, by first | rw [HN.out.1] | rw [← HN.out.1], HN.out.2.1, HN.out.2.2.1, F⟩
        case measure => exact HN.out.2.2.2
end
end Go.Proofs.YteaahhokaffmdaaGreatDoor
