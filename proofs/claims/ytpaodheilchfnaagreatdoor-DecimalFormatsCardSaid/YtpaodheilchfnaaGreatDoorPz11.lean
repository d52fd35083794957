/- What the laws lean on. -/
import Derived.Test.YtpaodheilchfnaaGreatDoorPz7
import Derived.Test.YtpaodheilchfnaaGreatDoorPz9
import Derived.Test.YtpaodheilchfnaaGreatDoorShelf3
import Derived.Lib.SmallJoins
import Derived.Lib.SlBytesRow
import Derived.Deep.OwnRows
import Derived.Great.BuildSlice
import Derived.Deep.Fields
import Derived.Deep.Strs
import Derived.ShutString
import Derived.ChangeOld
import Derived.LaidMore
import Derived.Stop.Joined
import Derived.SevenTiedAt
import Derived.Test.YtpaodheilchfnaaGreatDoorTie
import Derived.KernelRfl
namespace Go.Proofs.YtpaodheilchfnaaGreatDoor
set_option linter.unusedVariables false
set_option linter.unusedSimpArgs false
section
open Go.RowKit
set_option maxHeartbeats 2000000
def Tab (w : World) : Prop := Lib.TabIs Tryz.prog w "internal/strconv.uint64pow10" .u64 Lib.pow10Tab
theorem Tab.next {w W : World} (h : Tab w) (hb : Below w.heap.size w W) : Tab W := by
  unfold Tab Lib.TabIs at h ⊢
  have hg : Tryz.prog.globalNamed "internal/strconv.uint64pow10" = some 4 := by kernel_rfl
  exact Joins.var_stays hg h hb (Nat.le_refl _)
theorem below_grow (w : World) (os : Array Obj) : Below w.heap.size w (Sort.grow w os) := ⟨rfl, rfl, rfl, by simp, fun k hk => Sort.heap_grow_old w os hk⟩
theorem itoa_any {n : Int} (h0 : -9223372036854775808 ≤ n) (h1 : n ≤ 9223372036854775807) {w : World} (ht : Tab w) : Calls Tryz.prog 89 #[.int .i64 n] w (RetB (.string (bs (Lib.itoa n))) w) := by
  refine (Tryz.strconv_Itoa n h0 h1 w ht).mono ?_
  rintro e W ⟨rfl, k, os, rfl⟩
  exact ⟨rfl, bnext (bdn w k) (below_grow _ _)⟩
theorem repeat_zeros (c : Nat) (hc : c ≤ 1000) (w : World) : Calls Tryz.prog 134 #[.string ⟨#[48]⟩, .int .i64 c] w (RetB (.string (bs (List.replicate c 48))) w) := by
  refine (Tryz.strings_Repeat ⟨#[48]⟩ c w (by omega) (by rw [show (⟨#[48]⟩ : ByteArray).size = 1 from rfl]; omega)).mono ?_
  rintro e W ⟨rfl, h⟩
  refine ⟨?_, h⟩
  have e : ∀ c, Lib.repeatL ([48] : List UInt8) c = List.replicate c 48 := by
    intro c
    induction c with
    | zero => rfl
    | succ c ih => rw [Lib.repeatL, ih, List.replicate_succ]; rfl
  rw [show (⟨#[48]⟩ : ByteArray).data.toList = [48] from rfl, e]
  rfl
def pointL (s : List UInt8) (p : Nat) : List UInt8 × List UInt8 :=
  let t := if s.length ≤ p then List.replicate (p + 1 - s.length) 48 ++ s else s
  (t.take (t.length - p), t.drop (t.length - p))
set_option maxRecDepth 100000 in
theorem point_any (s : List UInt8) {p : Nat} (hp : p ≤ 9) (hs : s.length ≤ 1000) {r : List UInt8 × List UInt8} (hr : pointL s p = r) (w : World) : Calls Tryz.prog 88 #[.string (bs s), .int .i64 p] w (RetB (.tuple #[.string (bs r.1), .string (bs r.2)]) w) := by
  have F := Fr.start w
  unfold pointL at hr
  obtain ⟨t, ht⟩ : ∃ t, (if s.length ≤ p then List.replicate (p + 1 - s.length) 48 ++ s else s) = t := ⟨_, rfl⟩
  rw [ht] at hr
  dsimp only at hr
  subst hr
  have hl1 : p ≤ t.length ∧ t.length ≤ 2000 := by
    rw [← ht]
    split
    · rw [List.length_append, List.length_replicate]; omega
    · omega
  obtain ⟨len, hlen⟩ : ∃ len, t.length = len := ⟨_, rfl⟩
  obtain ⟨x, hx⟩ : ∃ x, len - p = x := ⟨_, rfl⟩
  have s2 := bs_size t
  have x1 := bs_extract t 0 x
  have x2 := bs_extract t x len
  rw [Nat.sub_zero, List.drop_zero] at x1
  rw [List.take_of_length_le (by rw [List.length_drop, hlen]; omega)] at x2
  rw [hlen] at s2 hl1
  rw [hlen, hx]
  have y1 : (len : Int) - (p : Int) = (x : Int) := by omega
  have y2 : x ≤ len := by omega
  have y3 : (x : Int) ≤ (len : Int) := by omega
  have y4 : (0 : Int) ≤ (x : Int) := by omega
  have y5 : IntKind.i64.wrap (x : Int) = (x : Int) := IntWalk.i64_in _ (by omega)
  dsimp only
  obtain ⟨k, hk⟩ : ∃ k, s.length = k := ⟨_, rfl⟩
  by_cases h : s.length ≤ p
  · rw [if_pos h] at ht
    obtain ⟨c, hc⟩ : ∃ c, p + 1 - s.length = c := ⟨_, rfl⟩
    have g1 := fun w => repeat_zeros c (by omega) w
    have e1 := bs_append (List.replicate c 48) s
    rw [hc] at ht
    rw [ht] at e1
    have s1 := bs_size s
    have s3 := bs_size (List.replicate c (48 : UInt8))
    rw [List.length_replicate] at s3
    rw [hk] at s1 h hc hs
    have hcc : (p : Int) + 1 - (k : Int) = (c : Int) := by omega
    have k1 : (9223372036854775807 < c + k) = False := by rw [eq_iff_iff, iff_false]; omega
    clear ht hlen hs hc hk hx hl1
    go_enter Tryz.func88, Tryz.ntmps88
    go_wp2_with ((go_at_call 134); (with_reducible refine fr_call F (g1 _) ?_); (clear F; intro W F); (try dsimp only))
    go_quiet (fail)
    go_wp2_with fail
    go_ret2
    exact ⟨rfl, bnext F.below (bdn _ _)⟩
  · rw [if_neg h] at ht
    subst ht
    rw [hk] at h
    obtain rfl : k = len := by omega
    clear hlen hs hk hx hl1
    go_enter Tryz.func88, Tryz.ntmps88
    go_wp2_with fail
    go_quiet (fail)
    go_wp2_with fail
    go_ret2
    exact ⟨rfl, bnext F.below (bdn _ _)⟩
theorem dec_len (k : Nat) : ∀ u : Nat, u < 10 ^ (k + 1) → (Lib.decDigits u).length ≤ k + 1 := by
  induction k with
  | zero =>
    intro u h
    rw [Lib.decDigits, dif_pos (by omega)]
    exact Nat.le_refl _
  | succ k ih =>
    intro u h
    rw [Lib.decDigits]
    split
    · simp
    · rw [List.length_append, List.length_singleton]
      have := ih (u / 10) (by rw [Nat.pow_succ] at h; omega)
      omega
def fmtL (n : Nat) (neg : Bool) (p : Nat) : List UInt8 :=
  let q := pointL (Lib.decDigits n) p
  (if neg = true then [45] else []) ++ (if q.2 = [] then q.1 else q.1 ++ 46 :: q.2)
def fmtR (n p : Int) : List UInt8 × Int :=
  if p < 0 ∨ 9 < p then ([], 30) else if n < -1000000000000000 ∨ 1000000000000000 < n then ([], 33) else (fmtL n.natAbs (decide (n < 0)) p.toNat, 0)
theorem point_len {s : List UInt8} {p : Nat} (hs : s.length ≤ 400) (hp : p ≤ 9) : (pointL s p).1.length ≤ 500 ∧ (pointL s p).2.length ≤ 500 := by
  unfold pointL
  dsimp only
  rw [List.length_take, List.length_drop]
  split
  · rw [List.length_append, List.length_replicate]
    omega
  · omega
set_option maxRecDepth 100000 in
theorem format_any (n p : Int) {r : List UInt8 × Int} (hr : fmtR n p = r) {w : World} (ht : Tab w) : Calls Tryz.prog 41 #[.int .i64 n, .int .i64 p] w (RetB (.tuple #[.string (bs r.1), .int .i64 r.2]) w) := by
  have F := Fr.start w
  have HT := Lib.hid ht
  unfold fmtR at hr
  clear ht
  by_cases hp : p < 0 ∨ 9 < p
  · rw [if_pos hp] at hr
    subst hr
    by_cases hp1 : p < 0
    · clear hp
      go_enter Tryz.func41, Tryz.ntmps41
      go_wp2_with fail
      go_ret2
      exact ⟨rfl, F.below⟩
    · have hp2 : 9 < p := by omega
      clear hp
      go_enter Tryz.func41, Tryz.ntmps41
      go_wp2_with fail
      go_ret2
      exact ⟨rfl, F.below⟩
  rw [if_neg hp] at hr
  have t1 : decide (p < 0) = false := decide_eq_false (by omega)
  have t2 : decide (9 < p) = false := decide_eq_false (by omega)
  by_cases hn : n < -1000000000000000 ∨ 1000000000000000 < n
  · rw [if_pos hn] at hr
    subst hr
    clear hp
    by_cases hn1 : n < -1000000000000000
    · have t3 : decide (n < -1000000000000000) = true := decide_eq_true hn1
      clear hn hn1
      go_enter Tryz.func41, Tryz.ntmps41
      go_wp2_with fail
      go_ret2
      exact ⟨rfl, F.below⟩
    · have t3 : decide (n < -1000000000000000) = false := decide_eq_false hn1
      have t4 : decide (1000000000000000 < n) = true := decide_eq_true (by omega)
      clear hn hn1
      go_enter Tryz.func41, Tryz.ntmps41
      go_wp2_with fail
      go_ret2
      exact ⟨rfl, F.below⟩
  rw [if_neg hn] at hr
  have t3 : decide (n < -1000000000000000) = false := decide_eq_false (by omega)
  have t4 : decide (1000000000000000 < n) = false := decide_eq_false (by omega)
  obtain ⟨q, rfl⟩ : ∃ q : Nat, p = (q : Int) := ⟨p.toNat, by omega⟩
  have hq : q ≤ 9 := by omega
  rw [Int.toNat_natCast] at hr
  obtain ⟨u, hu⟩ : ∃ u, n.natAbs = u := ⟨_, rfl⟩
  have hu1 : u ≤ 1000000000000000 := by omega
  have hn1 : n < 0 → -n = (u : Int) := by omega
  have hn2 : ¬ n < 0 → n = (u : Int) := by omega
  have g1 : ∀ W, Fr w W [] → Calls Tryz.prog 89 #[.int .i64 u] W (RetB (.string (bs (Lib.decDigits u))) W) := fun W F => by
    have h := itoa_any (n := (u : Int)) (by omega) (by omega) (HT.out.next F.below)
    rwa [show Lib.itoa (u : Int) = Lib.decDigits u from by unfold Lib.itoa; rw [if_neg (by omega), Int.toNat_natCast]] at h
  have hdl := dec_len 15 u (by omega)
  have hpl := point_len (s := Lib.decDigits u) (p := q) (by omega) hq
  unfold fmtL at hr
  rw [hu] at hr
  obtain ⟨D, hD⟩ : ∃ D, Lib.decDigits u = D := ⟨_, rfl⟩
  rw [hD] at g1 hdl hpl hr
  have g2 := fun w => point_any D hq (by omega) rfl w
  obtain ⟨c, hc⟩ : ∃ c, pointL D q = c := ⟨_, rfl⟩
  rw [hc] at g2 hr hpl
  obtain ⟨a, b⟩ := c
  dsimp only at g2 hr hpl
  have e1 : bs [46] ++ bs b = bs (46 :: b) := bs_append [46] b
  have e2 := bs_append a (46 :: b)
  have e0 : bs [46] = ⟨#[46]⟩ := rfl
  have sa := bs_size a
  have sb := bs_size b
  have sB := bs_size (46 :: b)
  rw [e0] at e1
  have z1 : (bs b).toList = b := bs_toList b
  obtain ⟨la, hla⟩ : ∃ k, a.length = k := ⟨_, rfl⟩
  obtain ⟨lb, hlb⟩ : ∃ k, b.length = k := ⟨_, rfl⟩
  rw [List.length_cons, hlb, Nat.add_comm] at sB
  rw [hla] at sa hpl
  rw [hlb] at sb hpl
  have k1 : (9223372036854775807 < 1 + lb) = False := by rw [eq_iff_iff, iff_false]; omega
  have k2 : (9223372036854775807 < la + (1 + lb)) = False := by rw [eq_iff_iff, iff_false]; omega
  have e3 : bs [45] ++ bs a = bs (45 :: a) := bs_append [45] a
  have e4 : bs [45] ++ bs (a ++ 46 :: b) = bs (45 :: (a ++ 46 :: b)) := bs_append [45] (a ++ 46 :: b)
  have e5 : bs [45] = ⟨#[45]⟩ := rfl
  have e6 : bs [] ++ bs a = bs a := bs_append [] a
  have e7 : bs [] ++ bs (a ++ 46 :: b) = bs (a ++ 46 :: b) := bs_append [] (a ++ 46 :: b)
  rw [bs_nil] at e6 e7
  rw [e5] at e3 e4
  have sC := bs_size (a ++ 46 :: b)
  rw [List.length_append, List.length_cons, hla, hlb, Nat.add_comm lb] at sC
  have w64 : RowKit.wrap64 (u : Int) = (u : Int) := by rw [RowKit.wrap64]; omega
  have k3 : (9223372036854775807 < 1 + la) = False := by rw [eq_iff_iff, iff_false]; omega
  have k4 : (9223372036854775807 < 1 + (la + (1 + lb))) = False := by rw [eq_iff_iff, iff_false]; omega
  have k5 : (9223372036854775807 < la) = False := by rw [eq_iff_iff, iff_false]; omega
  have k6 : (9223372036854775807 < la + (1 + lb)) = False := by rw [eq_iff_iff, iff_false]; omega
  by_cases hneg : n < 0
  · rw [decide_eq_true hneg, if_pos rfl] at hr
    have hnn := hn1 hneg
    by_cases hb : b = []
    · subst hb
      rw [if_pos rfl] at hr
      subst hr
      have t5 : decide (n < 0) = true := decide_eq_true hneg
      clear hla hlb hp hn hn1 hn2 hneg hu hu1 hq hc hD hdl hpl
      go_enter Tryz.func41, Tryz.ntmps41
      go_wp2_with (first | ((go_at_call 89); (with_reducible refine fr_call F (g1 _ F) ?_); (clear F; intro W F); (try dsimp only)) | ((go_at_call 88); (with_reducible refine fr_call F (g2 _) ?_); (clear F; intro W F); (try dsimp only)))
      go_ret2
      exact ⟨rfl, F.below⟩
    · have hb2 : (b == []) = false := by rw [beq_eq_false_iff_ne]; exact hb
      rw [if_neg hb] at hr
      subst hr
      have t5 : decide (n < 0) = true := decide_eq_true hneg
      clear hla hlb hp hn hn1 hn2 hneg hu hu1 hq hc hD hdl hpl hb
      go_enter Tryz.func41, Tryz.ntmps41
      go_wp2_with (first | ((go_at_call 89); (with_reducible refine fr_call F (g1 _ F) ?_); (clear F; intro W F); (try dsimp only)) | ((go_at_call 88); (with_reducible refine fr_call F (g2 _) ?_); (clear F; intro W F); (try dsimp only)))
      go_ret2
      exact ⟨rfl, F.below⟩
  · rw [decide_eq_false hneg, if_neg (by decide)] at hr
    obtain rfl := hn2 hneg
    by_cases hb : b = []
    · subst hb
      rw [if_pos rfl] at hr
      subst hr
      have t5 : decide ((u : Int) < 0) = false := decide_eq_false hneg
      clear hla hlb hp hn hn1 hn2 hneg hu hu1 hq hc hD hdl hpl
      go_enter Tryz.func41, Tryz.ntmps41
      go_wp2_with (first | ((go_at_call 89); (with_reducible refine fr_call F (g1 _ F) ?_); (clear F; intro W F); (try dsimp only)) | ((go_at_call 88); (with_reducible refine fr_call F (g2 _) ?_); (clear F; intro W F); (try dsimp only)))
      go_ret2
      exact ⟨rfl, F.below⟩
    · have hb2 : (b == []) = false := by rw [beq_eq_false_iff_ne]; exact hb
      rw [if_neg hb] at hr
      subst hr
      have t5 : decide ((u : Int) < 0) = false := decide_eq_false hneg
      clear hla hlb hp hn hn1 hn2 hneg hu hu1 hq hc hD hdl hpl hb
      go_enter Tryz.func41, Tryz.ntmps41
      go_wp2_with (first | ((go_at_call 89); (with_reducible refine fr_call F (g1 _ F) ?_); (clear F; intro W F); (try dsimp only)) | ((go_at_call 88); (with_reducible refine fr_call F (g2 _) ?_); (clear F; intro W F); (try dsimp only)))
      go_ret2
      exact ⟨rfl, F.below⟩
end
section
open Go.RowKit
theorem okZ_b {n d : Int} (h : okZ n d) : n.natAbs < bp 32 ∧ d.natAbs < bp 32 := ⟨b15 (okZ_iff.1 h).1.1, b15 (okZ_iff.1 h).1.2⟩
section
variable {n d m e : Int} {r : Int × Int × Int}
theorem addZR (h : okZ n d) (k : okZ m e) (hr : mkR (n * e + m * d) (d * e) = r) (w : World) : Calls Tryz.prog 61 #[.agg (RC n d), .agg (RC m e)] w (RetB (.tuple #[.agg (RC r.1 r.2.1), .int .i64 r.2.2]) w) :=
  addR (okZ_b h).1 (okZ_b h).2 (okZ_b k).1 (okZ_b k).2 w (by rw [if_pos ⟨h, k⟩, sZ_z, sZ_z, sZ_z, sZ_z]; exact hr)
theorem quoZR (h : okZ n d) (k : okZ m e) (hr : mkR (n * e) (d * m) = r) (w : World) : Calls Tryz.prog 67 #[.agg (RC n d), .agg (RC m e)] w (RetB (.tuple #[.agg (RC r.1 r.2.1), .int .i64 r.2.2]) w) :=
  quoR (okZ_b h).1 (okZ_b h).2 (okZ_b k).1 (okZ_b k).2 w (by rw [if_pos ⟨h, k⟩, sZ_z, sZ_z, sZ_z, sZ_z]; exact hr)
theorem negZR (h : okZ n d) (w : World) : Calls Tryz.prog 63 #[.agg (RC n d)] w (RetB (.tuple #[.agg (RC (-n) d), .int .i64 0]) w) := negR h w
end
theorem okZ_one {n : Int} (h : n.natAbs < bp 15) : okZ n 1 := okZ_iff.2 ⟨⟨h, by unfold bp; decide⟩, by decide, Int.gcd_one⟩
theorem bp15_big : 10 ^ 30 < bp 15 := by unfold bp; decide
theorem sum_low {n m t : Int} (ht : 0 < t) : mkR (n * lowD m t + lowN m t * 1) (1 * lowD m t) = mkR (n * t + m) t := by
  obtain ⟨h1, h2⟩ := low_mul (n := m) ht
  have h3 := gcd_pos (n := m) ht
  rw [← mkR_scale (n := n * lowD m t + lowN m t * 1) (c := (Int.gcd m t : Int)) (by rw [Int.one_mul]; exact lowD_pos ht) (by omega)]
  rw [Int.one_mul, Int.mul_one, Int.add_mul, Int.mul_assoc, h1, h2]
end
section
open Go.RowKit
set_option maxHeartbeats 4000000
theorem ediv_sign {g d : Int} (hg : 0 < g) (hd : g ∣ d) : (d / g < 0 ↔ d < 0) := by
  have h := Int.ediv_mul_cancel hd
  generalize d / g = k at *
  subst h
  constructor
  · intro h
    exact Int.mul_neg_of_neg_of_pos h hg
  · intro h
    rcases Int.lt_or_le k 0 with h2 | h2
    · exact h2
    · have := Int.mul_nonneg h2 (Int.le_of_lt hg)
      omega
set_option maxRecDepth 100000 in
theorem rmakeZ {n d : Int} (hn : n.natAbs < bp 32) (hd : d.natAbs < bp 32) {r : Int × Int × Int} (hr : mkR n d = r) (w : World) : Calls Tryz.prog 83 #[.agg (IC n), .agg (IC d)] w (RetB (.tuple #[.agg (RC r.1 r.2.1), .int .i64 r.2.2]) w) := by
  have F := Fr.start w
  have g1 := fun w => rsignZ hd w
  have g2 := fun w => rgcdZ hn hd w
  have hg := gcd_le hn hd
  have hgp : d ≠ 0 → Int.gcd n d ≠ 0 := fun h0 h => h0 (Int.gcd_eq_zero_iff.1 h).2
  have hdv : ((Int.gcd n d : Nat) : Int) ∣ d := Int.gcd_dvd_right ..
  obtain ⟨g, hgg⟩ : ∃ g, Int.gcd n d = g := ⟨_, rfl⟩
  unfold mkR at hr
  rw [hgg] at g2 hg hgp hr hdv
  have HR := Lib.hid hr
  obtain ⟨s, hs⟩ : ∃ s, d.sign = s := ⟨_, rfl⟩
  rw [hs] at g1
  have HS := Lib.hid hs
  clear hr hs hgg
  go_enter Tryz.func83, Tryz.ntmps83
  go_wp2_with (first | go_skip | ((with_reducible apply fL F); exact rfl; exact rfl; (exact tL); (exact tR3)) | ((with_reducible apply fA_int F); exact rfl) | ((with_reducible apply fX_int F); exact rfl; exact rfl) | ((with_reducible apply fA_rat F); exact rfl) | ((with_reducible apply fS F); exact rfl; exact rfl; exact rfl; (exact tL); (exact tR3); (exact tS2); clear F; intro W F; simp only [z7, z8] at F) | ((with_reducible apply fB_rat0); exact rfl) | ((with_reducible apply fB_rat); exact rfl; exact rfl; exact rfl))
  (clear F; intro b2 W F; try simp only [Act.put, z6, z1, z2])
  go_wp2_with (first | go_skip | ((with_reducible apply fL F); exact rfl; exact rfl; (exact tL); (exact tR3)) | ((with_reducible apply fA_int F); exact rfl) | ((with_reducible apply fX_int F); exact rfl; exact rfl) | ((with_reducible apply fA_rat F); exact rfl) | ((with_reducible apply fS F); exact rfl; exact rfl; exact rfl; (exact tL); (exact tR3); (exact tS2); clear F; intro W F; simp only [z7, z8] at F) | ((with_reducible apply fB_rat0); exact rfl) | ((with_reducible apply fB_rat); exact rfl; exact rfl; exact rfl))
  (clear F; intro b3 W F; try simp only [Act.put, z6, z1, z2])
  go_wp2_with (first | go_skip | ((with_reducible apply fL F); exact rfl; exact rfl; (exact tL); (exact tR3)) | ((with_reducible apply fA_int F); exact rfl) | ((with_reducible apply fX_int F); exact rfl; exact rfl) | ((with_reducible apply fA_rat F); exact rfl) | ((with_reducible apply fS F); exact rfl; exact rfl; exact rfl; (exact tL); (exact tR3); (exact tS2); clear F; intro W F; simp only [z7, z8] at F) | ((with_reducible apply fB_rat0); exact rfl) | ((with_reducible apply fB_rat); exact rfl; exact rfl; exact rfl))
  (clear F; intro b4 W F; try simp only [Act.put, z6, z1, z2])
  by_cases h0 : d = 0
  · have hs0 : s = 0 := by rw [← HS.out, h0, Int.sign_zero]
    have hr := HR.out
    rw [if_pos h0] at hr
    subst hr
    subst hs0
    clear h0 hd hn hg hgp g2 HR HS hdv
    go_wp2_with (first | go_skip | ((go_at_call 77); (with_reducible refine fr_call F (g1 _) ?_); (clear F; intro W F); (try dsimp only)) | ((with_reducible apply fL F); exact rfl; exact rfl; (exact tL); (exact tR3)) | ((with_reducible apply fA_int F); exact rfl) | ((with_reducible apply fX_int F); exact rfl; exact rfl) | ((with_reducible apply fA_rat F); exact rfl) | ((with_reducible apply fS F); exact rfl; exact rfl; exact rfl; (exact tL); (exact tR3); (exact tS2); clear F; intro W F; simp only [z7, z8] at F) | ((with_reducible apply fB_rat0); exact rfl) | ((with_reducible apply fB_rat); exact rfl; exact rfl; exact rfl))
    exact bodyPost_ret (res_cs rfl rfl rfl (Fr.get F tL) (rowRC _ _)) rfl ⟨rfl, F.below⟩
  have hs0 : (s == 0) = false := by rw [beq_eq_false_iff_ne, ← HS.out]; exact fun h => h0 (Int.sign_eq_zero_iff_zero.1 h)
  have hr := HR.out
  rw [if_neg h0] at hr
  have hgz : (g : Int) ≠ 0 := by have := hgp h0; omega
  have g3 := fun w => rdivmodZ (y := (g : Int)) hn hg hgz w
  have g4 := fun w => rdivmodZ (y := (g : Int)) hd hg hgz w
  have hb1 : (n / (g : Int)).natAbs < bp 32 := Nat.lt_of_le_of_lt (div_le_abs n g) hn
  have hb2 : (d / (g : Int)).natAbs < bp 32 := Nat.lt_of_le_of_lt (div_le_abs d g) hd
  have hsg := ediv_sign (by omega : 0 < (g : Int)) hdv
  simp only [apply_ite (fun s : Int => n / s), apply_ite (fun s : Int => d / s), Int.ediv_neg] at hr
  obtain ⟨N, hN⟩ : ∃ N, n / (g : Int) = N := ⟨_, rfl⟩
  obtain ⟨D, hD⟩ : ∃ D, d / (g : Int) = D := ⟨_, rfl⟩
  obtain ⟨M1, hM1⟩ : ∃ M1, n % (g : Int) = M1 := ⟨_, rfl⟩
  obtain ⟨M2, hM2⟩ : ∃ M2, d % (g : Int) = M2 := ⟨_, rfl⟩
  rw [hN] at g3 hr hb1
  rw [hM1] at g3
  rw [hD] at g4 hr hb2 hsg
  rw [hM2] at g4
  have g5 := fun w => rsignZ hb2 w
  have gn1 := fun w => rneg_any hb1 w
  have gn2 := fun w => rneg_any hb2 w
  obtain ⟨e, he⟩ : ∃ e, D.sign = e := ⟨_, rfl⟩
  rw [he] at g5
  have HE := Lib.hid he
  have HRR := Lib.hid hr
  have HB := Lib.hid (And.intro hb1 hb2)
  clear hr hN hD hM1 hM2 he hn hd hg hgp h0 HR hgz HS hdv hb1 hb2
  go_wp2_with (first | go_skip | ((go_at_call 77); (with_reducible refine fr_call F (g1 _) ?_); (clear F; intro W F); (try dsimp only)) | ((go_at_call 98); (with_reducible refine fr_call F (g2 _) ?_); (clear F; intro W F); (try dsimp only)) | ((with_reducible apply fL F); exact rfl; exact rfl; (exact tL); (exact tR3)) | ((with_reducible apply fA_int F); exact rfl) | ((with_reducible apply fX_int F); exact rfl; exact rfl) | ((with_reducible apply fA_rat F); exact rfl) | ((with_reducible apply fS F); exact rfl; exact rfl; exact rfl; (exact tL); (exact tR3); (exact tS2); clear F; intro W F; simp only [z7, z8] at F) | ((with_reducible apply fB_rat0); exact rfl) | ((with_reducible apply fB_rat); exact rfl; exact rfl; exact rfl))
  (clear F; intro b6 W F; try simp only [Act.put, z6, z1, z2])
  go_wp2_with (first | go_skip | ((go_at_call 76); (with_reducible refine fr_call F (g3 _) ?_); (clear F; intro W F); (try dsimp only)) | ((with_reducible apply fL F); exact rfl; exact rfl; (exact tL); (exact tR3)) | ((with_reducible apply fA_int F); exact rfl) | ((with_reducible apply fX_int F); exact rfl; exact rfl) | ((with_reducible apply fA_rat F); exact rfl) | ((with_reducible apply fS F); exact rfl; exact rfl; exact rfl; (exact tL); (exact tR3); (exact tS2); clear F; intro W F; simp only [z7, z8] at F) | ((with_reducible apply fB_rat0); exact rfl) | ((with_reducible apply fB_rat); exact rfl; exact rfl; exact rfl))
  (clear F; intro b7 W F; try simp only [Act.put, z6, z1, z2])
  go_wp2_with (first | go_skip | ((with_reducible apply fL F); exact rfl; exact rfl; (exact tL); (exact tR3)) | ((with_reducible apply fA_int F); exact rfl) | ((with_reducible apply fX_int F); exact rfl; exact rfl) | ((with_reducible apply fA_rat F); exact rfl) | ((with_reducible apply fS F); exact rfl; exact rfl; exact rfl; (exact tL); (exact tR3); (exact tS2); clear F; intro W F; simp only [z7, z8] at F) | ((with_reducible apply fB_rat0); exact rfl) | ((with_reducible apply fB_rat); exact rfl; exact rfl; exact rfl))
  (clear F; intro b8 W F; try simp only [Act.put, z6, z1, z2])
  go_wp2_with (first | go_skip | ((go_at_call 76); (with_reducible refine fr_call F (g4 _) ?_); (clear F; intro W F); (try dsimp only)) | ((with_reducible apply fL F); exact rfl; exact rfl; (exact tL); (exact tR3)) | ((with_reducible apply fA_int F); exact rfl) | ((with_reducible apply fX_int F); exact rfl; exact rfl) | ((with_reducible apply fA_rat F); exact rfl) | ((with_reducible apply fS F); exact rfl; exact rfl; exact rfl; (exact tL); (exact tR3); (exact tS2); clear F; intro W F; simp only [z7, z8] at F) | ((with_reducible apply fB_rat0); exact rfl) | ((with_reducible apply fB_rat); exact rfl; exact rfl; exact rfl))
  (clear F; intro b10 W F; try simp only [Act.put, z6, z1, z2])
  go_wp2_with (first | go_skip | ((with_reducible apply fL F); exact rfl; exact rfl; (exact tL); (exact tR3)) | ((with_reducible apply fA_int F); exact rfl) | ((with_reducible apply fX_int F); exact rfl; exact rfl) | ((with_reducible apply fA_rat F); exact rfl) | ((with_reducible apply fS F); exact rfl; exact rfl; exact rfl; (exact tL); (exact tR3); (exact tS2); clear F; intro W F; simp only [z7, z8] at F) | ((with_reducible apply fB_rat0); exact rfl) | ((with_reducible apply fB_rat); exact rfl; exact rfl; exact rfl))
  (clear F; intro b11 W F; try simp only [Act.put, z6, z1, z2])
  by_cases hneg : d < 0
  · have t0 : decide (e < 0) = true := decide_eq_true (by rw [← HE.out]; exact Int.sign_neg_iff.2 (hsg.2 hneg))
    have hr := HRR.out
    simp only [if_pos hneg] at hr
    have g6 := fun w => rbits_any (neg := decide (-N < 0)) (m := (-N).natAbs) (by have := HB.out.1; omega) w
    have g7 := fun w => rbits_any (neg := decide (-D < 0)) (m := (-D).natAbs) (by have := HB.out.2; omega) w
    obtain ⟨u, hu⟩ : ∃ u, -N = u := ⟨_, rfl⟩
    obtain ⟨v, hv⟩ : ∃ v, -D = v := ⟨_, rfl⟩
    rw [hu] at g6 hr gn1
    rw [hv] at g7 hr gn2
    obtain ⟨A, hA⟩ : ∃ A, bl u.natAbs = A := ⟨_, rfl⟩
    obtain ⟨B, hB⟩ : ∃ B, bl v.natAbs = B := ⟨_, rfl⟩
    rw [hA] at g6 hr
    rw [hB] at g7 hr
    have g6 : ∀ w, Calls Tryz.prog 97 #[.agg (IC u)] w (RetB (.int .i64 A) w) := g6
    have g7 : ∀ w, Calls Tryz.prog 97 #[.agg (IC v)] w (RetB (.int .i64 B) w) := g7
    have HR2 := Lib.hid hr.symm
    clear hu hv hA hB hr HRR HE HB hsg hneg
    go_wp2_with (first | go_skip | ((go_at_call 77); (with_reducible refine fr_call F (g5 _) ?_); (clear F; intro W F); (try dsimp only)) | ((with_reducible apply fL F); exact rfl; exact rfl; (exact tL); (exact tR3)) | ((with_reducible apply fA_int F); exact rfl) | ((with_reducible apply fX_int F); exact rfl; exact rfl) | ((with_reducible apply fA_rat F); exact rfl) | ((with_reducible apply fS F); exact rfl; exact rfl; exact rfl; (exact tL); (exact tR3); (exact tS2); clear F; intro W F; simp only [z7, z8] at F) | ((with_reducible apply fB_rat0); exact rfl) | ((with_reducible apply fB_rat); exact rfl; exact rfl; exact rfl))
    try simp only [Act.put, z6, z1, z2]
    refine wp_region_slots mixP [37, 38, 39, 40] (fun l mm W => ∃ (s37 s38 s39 s40 : Value) (c_b7 c_b10 : Array Value), mm = [s37, s38, s39, s40] ∧ (l.getD 0 false = true → s37 = .agg (IC N)) ∧ (l.getD 1 false = true → s38 = .agg (IC u)) ∧ (l.getD 2 false = true → s39 = .agg (IC D)) ∧ (l.getD 3 false = true → s40 = .agg (IC v)) ∧ (l.getD 4 false = true → c_b7 = IC u) ∧ (l.getD 5 false = true → c_b10 = IC v) ∧ (l.getD 4 false = false → c_b7 = IC N) ∧ (l.getD 4 false = true → l.getD 0 false = true) ∧ (l.getD 5 false = false → c_b10 = IC D) ∧ (l.getD 5 false = true → l.getD 2 false = true) ∧ c_b7.size = (IC u).size ∧ c_b10.size = (IC v).size ∧ Fr w W [(b11, IC M2, 29), (b10, c_b10, 29), (b8, IC M1, 29), (b7, c_b7, 29), (b6, IC (g : Int), 29), (b4, RC 0 0, 31), (b3, IC d, 29), (b2, IC n, 29)]) (by kernel_rfl) (putAll_self _ _) ?_ ?_ ?_
    · exact ⟨_, _, _, _, (IC N), (IC D), rfl, nf, nf, nf, nf, nf, nf, fun _ => rfl, nf, fun _ => rfl, nf, by exact tS2, by exact tS2, F.drew⟩
    · rintro listed mm W ii hi hsz hoff ⟨s37, s38, s39, s40, c_b7, c_b10, rfl, h0, h1, h2, h3, h4, h5, hO_b7, hW_b7_0, hO_b10, hW_b10_2, hz0, hz1, HF⟩ hd
      have hc := dr_c6 hi
      have hsz2 : listed.size = 6 := hsz
      clear hi hsz
      rcases hc with rfl | rfl | rfl | rfl | rfl | rfl
      · refine wpOp_want rfl rfl (fun K hK => ?_)
        simp only [putAll, z1, z2, z3, z4, z5]
        have hold := hO_b7 (by cases hx : listed.getD 4 false with | false => rfl | true => exact absurd (hW_b7_0 hx) (by rw [hoff]; decide))
        rw [hold] at HF
        with_reducible apply gL HF
        · exact rfl
        · (exact tL)
        · (first | (exact tR3))
        rw [← hold] at HF
        go_simp
        exact hK _ _ ⟨[(.agg (IC N)), s38, s39, s40], by simp only [putAll, z1, z2], (.agg (IC N)), s38, s39, s40, c_b7, c_b10, rfl, fun _ => rfl, lk h1, lk h2, lk h3, lk h4, lk h5, listed_keepF (by decide) hO_b7, fun _ => getD_on (by rw [hsz2]; decide), listed_keepF (by decide) hO_b10, fun h => by rw [getD_keep (show 0 ≠ 5 by decide)] at h; rw [getD_keep (show 0 ≠ 2 by decide)]; exact hW_b10_2 h, hz0, hz1, HF⟩
      · have d0 := h0 (hd 0 (by kernel_rfl))
        obtain rfl := d0
        refine wpOp_want rfl rfl (fun K hK => ?_)
        simp only [putAll, z1, z2, z3, z4, z5]
        refine ⟨?_⟩
        go_simp
        with_reducible refine fr_call HF (gn1 _) ?_
        clear HF
        intro W HF
        (try dsimp only)
        exact hK _ _ ⟨[(.agg (IC N)), (.agg (IC u)), s39, s40], by simp only [putAll, z1, z2], (.agg (IC N)), (.agg (IC u)), s39, s40, c_b7, c_b10, rfl, lk h0, fun _ => rfl, lk h2, lk h3, lk h4, lk h5, listed_keepF (by decide) hO_b7, fun h => by rw [getD_keep (show 1 ≠ 4 by decide)] at h; rw [getD_keep (show 1 ≠ 0 by decide)]; exact hW_b7_0 h, listed_keepF (by decide) hO_b10, fun h => by rw [getD_keep (show 1 ≠ 5 by decide)] at h; rw [getD_keep (show 1 ≠ 2 by decide)]; exact hW_b10_2 h, hz0, hz1, HF⟩
      · refine wpOp_want rfl rfl (fun K hK => ?_)
        simp only [putAll, z1, z2, z3, z4, z5]
        have hold := hO_b10 (by cases hx : listed.getD 5 false with | false => rfl | true => exact absurd (hW_b10_2 hx) (by rw [hoff]; decide))
        rw [hold] at HF
        with_reducible apply gL HF
        · exact rfl
        · (exact tL)
        · (first | (exact tR3))
        rw [← hold] at HF
        go_simp
        exact hK _ _ ⟨[s37, s38, (.agg (IC D)), s40], by simp only [putAll, z1, z2], s37, s38, (.agg (IC D)), s40, c_b7, c_b10, rfl, lk h0, lk h1, fun _ => rfl, lk h3, lk h4, lk h5, listed_keepF (by decide) hO_b7, fun h => by rw [getD_keep (show 2 ≠ 4 by decide)] at h; rw [getD_keep (show 2 ≠ 0 by decide)]; exact hW_b7_0 h, listed_keepF (by decide) hO_b10, fun _ => getD_on (by rw [hsz2]; decide), hz0, hz1, HF⟩
      · have d2 := h2 (hd 2 (by kernel_rfl))
        obtain rfl := d2
        refine wpOp_want rfl rfl (fun K hK => ?_)
        simp only [putAll, z1, z2, z3, z4, z5]
        refine ⟨?_⟩
        go_simp
        with_reducible refine fr_call HF (gn2 _) ?_
        clear HF
        intro W HF
        (try dsimp only)
        exact hK _ _ ⟨[s37, s38, (.agg (IC D)), (.agg (IC v))], by simp only [putAll, z1, z2], s37, s38, (.agg (IC D)), (.agg (IC v)), c_b7, c_b10, rfl, lk h0, lk h1, lk h2, fun _ => rfl, lk h4, lk h5, listed_keepF (by decide) hO_b7, fun h => by rw [getD_keep (show 3 ≠ 4 by decide)] at h; rw [getD_keep (show 3 ≠ 0 by decide)]; exact hW_b7_0 h, listed_keepF (by decide) hO_b10, fun h => by rw [getD_keep (show 3 ≠ 5 by decide)] at h; rw [getD_keep (show 3 ≠ 2 by decide)]; exact hW_b10_2 h, hz0, hz1, HF⟩
      · have d1 := h1 (hd 1 (by kernel_rfl))
        obtain rfl := d1
        refine wpOp_want rfl rfl (fun K hK => ?_)
        simp only [putAll, z1, z2, z3, z4, z5]
        with_reducible apply gS HF
        · exact rfl
        · exact rfl
        · (exact tL)
        · (first | (exact tR3))
        · first | exact hz0 | exact tS2
        clear HF
        intro W HF
        simp only [z7, z8, List.append_assoc, List.append_nil] at HF
        go_simp
        exact hK _ _ ⟨[s37, (.agg (IC u)), s39, s40], by simp only [putAll, z1, z2], s37, (.agg (IC u)), s39, s40, (IC u), c_b10, rfl, lk h0, lk h1, lk h2, lk h3, fun _ => rfl, lk h5, fun h => absurd h (by rw [getD_on (show 4 < listed.size by rw [hsz2]; decide)]; decide), fun _ => by rw [getD_keep (show 4 ≠ 0 by decide)]; exact hd 0 (by kernel_rfl), listed_keepF (by decide) hO_b10, fun h => by rw [getD_keep (show 4 ≠ 5 by decide)] at h; rw [getD_keep (show 4 ≠ 2 by decide)]; exact hW_b10_2 h, rfl, hz1, HF⟩
      · have d3 := h3 (hd 3 (by kernel_rfl))
        obtain rfl := d3
        refine wpOp_want rfl rfl (fun K hK => ?_)
        simp only [putAll, z1, z2, z3, z4, z5]
        with_reducible apply gS HF
        · exact rfl
        · exact rfl
        · (exact tL)
        · (first | (exact tR3))
        · first | exact hz1 | exact tS2
        clear HF
        intro W HF
        simp only [z7, z8, List.append_assoc, List.append_nil] at HF
        go_simp
        exact hK _ _ ⟨[s37, s38, s39, (.agg (IC v))], by simp only [putAll, z1, z2], s37, s38, s39, (.agg (IC v)), c_b7, (IC v), rfl, lk h0, lk h1, lk h2, lk h3, lk h4, fun _ => rfl, listed_keepF (by decide) hO_b7, fun h => by rw [getD_keep (show 5 ≠ 4 by decide)] at h; rw [getD_keep (show 5 ≠ 0 by decide)]; exact hW_b7_0 h, fun h => absurd h (by rw [getD_on (show 5 < listed.size by rw [hsz2]; decide)]; decide), fun _ => by rw [getD_keep (show 5 ≠ 2 by decide)]; exact hd 2 (by kernel_rfl), hz0, rfl, HF⟩
    rintro listed mm W ⟨s37, s38, s39, s40, c_b7, c_b10, rfl, h0, h1, h2, h3, h4, h5, hO_b7, hW_b7_0, hO_b10, hW_b10_2, hz0, hz1, HF⟩ hall
    obtain rfl := h0 (hall 0 (by decide))
    obtain rfl := h1 (hall 1 (by decide))
    obtain rfl := h2 (hall 2 (by decide))
    obtain rfl := h3 (hall 3 (by decide))
    rw [h4 (hall 4 (by decide))] at HF
    rw [h5 (hall 5 (by decide))] at HF
    clear hall h0 h1 h2 h3 h4 h5 hO_b7 hW_b7_0 hO_b10 hW_b10_2 hz0 hz1 F
    have F := HF
    clear HF
    simp only [putAll, z1, z2]
    cases hA : decide (A ≤ 480)
    · have hr : (0, 0, 10) = r := by
        rw [HR2.out, if_neg]
        intro h
        rw [decide_eq_true h.1] at hA
        exact absurd hA (by decide)
      subst hr
      have t1 : decide (480 < (A : Int)) = true := decide_eq_true (by have := of_decide_eq_false hA; omega)
      clear HR2 hA
      go_wp2_with (first | go_skip | ((go_at_call 97); (with_reducible refine fr_call F (g6 _) ?_); (clear F; intro W F); (try dsimp only)) | ((with_reducible apply fL F); exact rfl; exact rfl; (exact tL); (exact tR3)) | ((with_reducible apply fA_int F); exact rfl) | ((with_reducible apply fX_int F); exact rfl; exact rfl) | ((with_reducible apply fA_rat F); exact rfl) | ((with_reducible apply fS F); exact rfl; exact rfl; exact rfl; (exact tL); (exact tR3); (exact tS2); clear F; intro W F; simp only [z7, z8] at F) | ((with_reducible apply fB_rat0); exact rfl) | ((with_reducible apply fB_rat); exact rfl; exact rfl; exact rfl))
      exact bodyPost_ret (res_cs rfl rfl rfl (Fr.get F tL) (rowRC _ _)) rfl ⟨rfl, F.below⟩
    · have t1 : decide (480 < (A : Int)) = false := decide_eq_false (by have := of_decide_eq_true hA; omega)
      cases hB : decide (B ≤ 480)
      · have hr : (0, 0, 10) = r := by
          rw [HR2.out, if_neg]
          intro h
          rw [decide_eq_true h.2] at hB
          exact absurd hB (by decide)
        subst hr
        have t2 : decide (480 < (B : Int)) = true := decide_eq_true (by have := of_decide_eq_false hB; omega)
        clear HR2 hA hB
        go_wp2_with (first | go_skip | ((go_at_call 97); (with_reducible refine fr_call F (g6 _) ?_); (clear F; intro W F); (try dsimp only)) | ((go_at_call 97); (with_reducible refine fr_call F (g7 _) ?_); (clear F; intro W F); (try dsimp only)) | ((with_reducible apply fL F); exact rfl; exact rfl; (exact tL); (exact tR3)) | ((with_reducible apply fA_int F); exact rfl) | ((with_reducible apply fX_int F); exact rfl; exact rfl) | ((with_reducible apply fA_rat F); exact rfl) | ((with_reducible apply fS F); exact rfl; exact rfl; exact rfl; (exact tL); (exact tR3); (exact tS2); clear F; intro W F; simp only [z7, z8] at F) | ((with_reducible apply fB_rat0); exact rfl) | ((with_reducible apply fB_rat); exact rfl; exact rfl; exact rfl))
        exact bodyPost_ret (res_cs rfl rfl rfl (Fr.get F tL) (rowRC _ _)) rfl ⟨rfl, F.below⟩
      · have hr : (u, v, 0) = r := by
          rw [HR2.out, if_pos ⟨of_decide_eq_true hA, of_decide_eq_true hB⟩]
        subst hr
        have t2 : decide (480 < (B : Int)) = false := decide_eq_false (by have := of_decide_eq_true hB; omega)
        clear HR2 hA hB
        go_wp2_with (first | go_skip | ((go_at_call 97); (with_reducible refine fr_call F (g6 _) ?_); (clear F; intro W F); (try dsimp only)) | ((go_at_call 97); (with_reducible refine fr_call F (g7 _) ?_); (clear F; intro W F); (try dsimp only)) | ((with_reducible apply fL F); exact rfl; exact rfl; (exact tL); (exact tR3)) | ((with_reducible apply fA_int F); exact rfl) | ((with_reducible apply fX_int F); exact rfl; exact rfl) | ((with_reducible apply fA_rat F); exact rfl) | ((with_reducible apply fS F); exact rfl; exact rfl; exact rfl; (exact tL); (exact tR3); (exact tS2); clear F; intro W F; simp only [z7, z8] at F) | ((with_reducible apply fB_rat0); exact rfl) | ((with_reducible apply fB_rat); exact rfl; exact rfl; exact rfl))
        exact bodyPost_ret (res_cs rfl rfl rfl (Fr.get F tL) (rowRC _ _)) rfl ⟨rfl, F.below⟩
  · have t0 : decide (e < 0) = false := decide_eq_false (by rw [← HE.out]; exact fun h => hneg (hsg.1 (Int.sign_neg_iff.1 h)))
    have hr := HRR.out
    simp only [if_neg hneg] at hr
    have g6 := fun w => rbits_any (neg := decide (N < 0)) (m := N.natAbs) HB.out.1 w
    have g7 := fun w => rbits_any (neg := decide (D < 0)) (m := D.natAbs) HB.out.2 w
    obtain ⟨u, hu⟩ : ∃ u, N = u := ⟨_, rfl⟩
    obtain ⟨v, hv⟩ : ∃ v, D = v := ⟨_, rfl⟩
    obtain ⟨A, hA⟩ : ∃ A, bl N.natAbs = A := ⟨_, rfl⟩
    obtain ⟨B, hB⟩ : ∃ B, bl D.natAbs = B := ⟨_, rfl⟩
    rw [hA] at g6 hr
    rw [hB] at g7 hr
    have g6 : ∀ w, Calls Tryz.prog 97 #[.agg (IC N)] w (RetB (.int .i64 A) w) := g6
    have g7 : ∀ w, Calls Tryz.prog 97 #[.agg (IC D)] w (RetB (.int .i64 B) w) := g7
    have HR2 := Lib.hid hr.symm
    subst hu
    subst hv
    clear hA hB hr HRR HE HB hsg hneg
    go_wp2_with (first | go_skip | ((go_at_call 77); (with_reducible refine fr_call F (g5 _) ?_); (clear F; intro W F); (try dsimp only)) | ((with_reducible apply fL F); exact rfl; exact rfl; (exact tL); (exact tR3)) | ((with_reducible apply fA_int F); exact rfl) | ((with_reducible apply fX_int F); exact rfl; exact rfl) | ((with_reducible apply fA_rat F); exact rfl) | ((with_reducible apply fS F); exact rfl; exact rfl; exact rfl; (exact tL); (exact tR3); (exact tS2); clear F; intro W F; simp only [z7, z8] at F) | ((with_reducible apply fB_rat0); exact rfl) | ((with_reducible apply fB_rat); exact rfl; exact rfl; exact rfl))
    cases hA : decide (A ≤ 480)
    · have hr : (0, 0, 10) = r := by
        rw [HR2.out, if_neg]
        intro h
        rw [decide_eq_true h.1] at hA
        exact absurd hA (by decide)
      subst hr
      have t1 : decide (480 < (A : Int)) = true := decide_eq_true (by have := of_decide_eq_false hA; omega)
      clear HR2 hA
      go_wp2_with (first | go_skip | ((go_at_call 97); (with_reducible refine fr_call F (g6 _) ?_); (clear F; intro W F); (try dsimp only)) | ((with_reducible apply fL F); exact rfl; exact rfl; (exact tL); (exact tR3)) | ((with_reducible apply fA_int F); exact rfl) | ((with_reducible apply fX_int F); exact rfl; exact rfl) | ((with_reducible apply fA_rat F); exact rfl) | ((with_reducible apply fS F); exact rfl; exact rfl; exact rfl; (exact tL); (exact tR3); (exact tS2); clear F; intro W F; simp only [z7, z8] at F) | ((with_reducible apply fB_rat0); exact rfl) | ((with_reducible apply fB_rat); exact rfl; exact rfl; exact rfl))
      exact bodyPost_ret (res_cs rfl rfl rfl (Fr.get F tL) (rowRC _ _)) rfl ⟨rfl, F.below⟩
    · have t1 : decide (480 < (A : Int)) = false := decide_eq_false (by have := of_decide_eq_true hA; omega)
      cases hB : decide (B ≤ 480)
      · have hr : (0, 0, 10) = r := by
          rw [HR2.out, if_neg]
          intro h
          rw [decide_eq_true h.2] at hB
          exact absurd hB (by decide)
        subst hr
        have t2 : decide (480 < (B : Int)) = true := decide_eq_true (by have := of_decide_eq_false hB; omega)
        clear HR2 hA hB
        go_wp2_with (first | go_skip | ((go_at_call 97); (with_reducible refine fr_call F (g6 _) ?_); (clear F; intro W F); (try dsimp only)) | ((go_at_call 97); (with_reducible refine fr_call F (g7 _) ?_); (clear F; intro W F); (try dsimp only)) | ((with_reducible apply fL F); exact rfl; exact rfl; (exact tL); (exact tR3)) | ((with_reducible apply fA_int F); exact rfl) | ((with_reducible apply fX_int F); exact rfl; exact rfl) | ((with_reducible apply fA_rat F); exact rfl) | ((with_reducible apply fS F); exact rfl; exact rfl; exact rfl; (exact tL); (exact tR3); (exact tS2); clear F; intro W F; simp only [z7, z8] at F) | ((with_reducible apply fB_rat0); exact rfl) | ((with_reducible apply fB_rat); exact rfl; exact rfl; exact rfl))
        exact bodyPost_ret (res_cs rfl rfl rfl (Fr.get F tL) (rowRC _ _)) rfl ⟨rfl, F.below⟩
      · have hr : (N, D, 0) = r := by
          rw [HR2.out, if_pos ⟨of_decide_eq_true hA, of_decide_eq_true hB⟩]
        subst hr
        have t2 : decide (480 < (B : Int)) = false := decide_eq_false (by have := of_decide_eq_true hB; omega)
        clear HR2 hA hB
        go_wp2_with (first | go_skip | ((go_at_call 97); (with_reducible refine fr_call F (g6 _) ?_); (clear F; intro W F); (try dsimp only)) | ((go_at_call 97); (with_reducible refine fr_call F (g7 _) ?_); (clear F; intro W F); (try dsimp only)) | ((with_reducible apply fL F); exact rfl; exact rfl; (exact tL); (exact tR3)) | ((with_reducible apply fA_int F); exact rfl) | ((with_reducible apply fX_int F); exact rfl; exact rfl) | ((with_reducible apply fA_rat F); exact rfl) | ((with_reducible apply fS F); exact rfl; exact rfl; exact rfl; (exact tL); (exact tR3); (exact tS2); clear F; intro W F; simp only [z7, z8] at F) | ((with_reducible apply fB_rat0); exact rfl) | ((with_reducible apply fB_rat); exact rfl; exact rfl; exact rfl))
        exact bodyPost_ret (res_cs rfl rfl rfl (Fr.get F tL) (rowRC _ _)) rfl ⟨rfl, F.below⟩
end
section
open Go.RowKit
set_option maxHeartbeats 4000000
section
variable {n d m e : Int} {r : Int × Int × Int}
theorem rofR (h1 : -9223372036854775808 ≤ n) (h2 : n < 9223372036854775808) (h3 : -9223372036854775808 ≤ d) (h4 : d < 9223372036854775808) (hr : mkR n d = r) (w : World) : Calls Tryz.prog 48 #[.int .i64 n, .int .i64 d] w (RetB (.tuple #[.agg (RC r.1 r.2.1), .int .i64 r.2.2]) w) := by
  have F := Fr.start w
  have g1 := fun w => rfromZ h1 h2 w
  have g2 := fun w => rfromZ h3 h4 w
  have b0 : ∀ k : Int, -9223372036854775808 ≤ k → k < 9223372036854775808 → k.natAbs < bp 32 := fun k h5 h6 => by
    have : 9223372036854775808 < bp 32 := by unfold bp; decide
    omega
  have g3 := fun w => rmakeZ (b0 n h1 h2) (b0 d h3 h4) hr w
  clear h1 h2 h3 h4 hr b0
  go_enter Tryz.func48, Tryz.ntmps48
  go_wp2_with (first | go_skip | ((with_reducible apply fA_rat F); exact rfl) | ((with_reducible apply fS F); exact rfl; exact rfl; exact rfl; (exact tL); (exact tR3); (exact tS2); clear F; intro W F; simp only [z7, z8] at F))
  (clear F; intro b4 W F; try simp only [Act.put, z6, z1, z2])
  go_wp2_with (first | go_skip | ((go_at_call 80); (with_reducible refine fr_call F (g1 _) ?_); (clear F; intro W F); (try dsimp only)) | ((go_at_call 80); (with_reducible refine fr_call F (g2 _) ?_); (clear F; intro W F); (try dsimp only)) | ((go_at_call 83); (with_reducible refine fr_call F (g3 _) ?_); (clear F; intro W F); (try dsimp only)) | ((with_reducible apply fA_rat F); exact rfl) | ((with_reducible apply fS F); exact rfl; exact rfl; exact rfl; (exact tL); (exact tR3); (exact tS2); clear F; intro W F; simp only [z7, z8] at F))
  exact bodyPost_ret (res_cs rfl rfl rfl (Fr.get F tL) (rowRC _ _)) rfl ⟨rfl, F.below⟩
end
end
section
open Go.RowKit
set_option maxHeartbeats 2000000
theorem bp1_ten {v k : Nat} (hv : v < 10 ^ 24) (hk : k ≤ 9) : (v : Int).natAbs < bp 15 ∧ ((10 ^ k : Nat) : Int).natAbs < bp 15 := by
  have h1 := ten_le hk
  have h2 : (10 : Nat) ^ 24 < bp 15 := by unfold bp; decide
  rw [Int.natAbs_natCast, Int.natAbs_natCast]
  omega
set_option maxRecDepth 100000 in
theorem parse_any (s : List UInt8) (p : Int) (hs : s.length ≤ 9223372036854775807) {r : Int × Int × Int} (hr : prsR s p = r) (w : World) : Calls Tryz.prog 19 #[.string (bs s), .int .i64 p] w (RetB (.tuple #[.agg (RC r.1 r.2.1), .int .i64 r.2.2]) w) := by
  have F := Fr.start w
  unfold prsR at hr
  have HR := Lib.hid hr
  clear hr
  go_enter Tryz.func19, Tryz.ntmps19
  go_wp2_with (first | go_skip | ((with_reducible apply fL F); exact rfl; exact rfl; (exact tL); (exact tR2)) | ((with_reducible apply fA_rat F); exact rfl) | ((with_reducible apply fS F); exact rfl; exact rfl; exact rfl; (exact tL); (exact tR2); (exact tS2); clear F; intro W F; simp only [z7, z8] at F) | ((with_reducible apply fB_rat0); exact rfl))
  (clear F; intro b4 W F; try simp only [Act.put, z6, z1, z2])
  by_cases hp : p < 0 ∨ 9 < p
  · have hr := HR.out
    rw [if_pos hp] at hr
    subst hr
    clear HR
    by_cases hp1 : p < 0
    · clear hp
      go_wp2_with (first | go_skip | ((with_reducible apply fL F); exact rfl; exact rfl; (exact tL); (exact tR2)) | ((with_reducible apply fA_rat F); exact rfl) | ((with_reducible apply fS F); exact rfl; exact rfl; exact rfl; (exact tL); (exact tR2); (exact tS2); clear F; intro W F; simp only [z7, z8] at F) | ((with_reducible apply fB_rat0); exact rfl))
      exact bodyPost_ret (res_cs rfl rfl rfl (Fr.get F tL) (rowRC _ _)) rfl ⟨rfl, F.below⟩
    · have hp2 : 9 < p := by omega
      clear hp
      go_wp2_with (first | go_skip | ((with_reducible apply fL F); exact rfl; exact rfl; (exact tL); (exact tR2)) | ((with_reducible apply fA_rat F); exact rfl) | ((with_reducible apply fS F); exact rfl; exact rfl; exact rfl; (exact tL); (exact tR2); (exact tS2); clear F; intro W F; simp only [z7, z8] at F) | ((with_reducible apply fB_rat0); exact rfl))
      exact bodyPost_ret (res_cs rfl rfl rfl (Fr.get F tL) (rowRC _ _)) rfl ⟨rfl, F.below⟩
  have hr := HR.out
  rw [if_neg hp] at hr
  have t1 : decide (p < 0) = false := decide_eq_false (by omega)
  have t2 : decide (9 < p) = false := decide_eq_false (by omega)
  have hp9 : p ≤ 9 := by omega
  have g1 := fun w => cutPrefix_any s 45 w
  have hl := trim_len s [45]
  obtain ⟨t, ht⟩ : ∃ t, Lib.trimPrefix s [45] = t := ⟨_, rfl⟩
  obtain ⟨neg, hneg⟩ : ∃ neg, Lib.hasPrefix s [45] = neg := ⟨_, rfl⟩
  rw [ht] at g1 hr hl
  rw [hneg] at g1 hr
  have g2 := fun w => cut_any t 46 (by omega) rfl w
  have hl2 := cut1_len t 46
  have hno := cut1_no (l := t) (c := 46)
  obtain ⟨c, hc⟩ : ∃ c, cut1 t 46 = c := ⟨_, rfl⟩
  rw [hc] at g2 hr hl2 hno
  obtain ⟨a, b, pt⟩ := c
  dsimp only at g2 hr hl2 hno
  have g3 := fun w => digits_any a (lo := 1) (hi := 15) (by omega) (show _ = dgs a 1 15 from rfl) w
  have g4 := fun w => digits_any b (lo := 1) (hi := p) (by omega) (show _ = dgs b 1 p from rfl) w
  have d1i := dgs_iff (l := a) (lo := 1) (hi := 15)
  have d2i := dgs_iff (l := b) (lo := 1) (hi := p)
  obtain ⟨d1, hd1⟩ : ∃ d, dgs a 1 15 = d := ⟨_, rfl⟩
  obtain ⟨d2, hd2⟩ : ∃ d, dgs b 1 p = d := ⟨_, rfl⟩
  rw [hd1] at g3 hr d1i
  rw [hd2] at g4 hr d2i
  have HR := Lib.hid hr
  have H1 := Lib.hid d1i
  have H2 := Lib.hid (And.intro d2i hno)
  have sa := bs_size a
  have sb := bs_size b
  clear hr hp ht hneg hc hd1 hd2 d1i d2i hl hl2 hs hno
  cases d1
  · have hr := HR.out
    rw [if_pos (.inl rfl)] at hr
    subst hr
    clear HR H1 H2 g4 hp9
    go_wp2_with (first | go_skip | ((go_at_call 56); (with_reducible refine fr_call F (g1 _) ?_); (clear F; intro W F); (try dsimp only)) | ((go_at_call 57); (with_reducible refine fr_call F (g2 _) ?_); (clear F; intro W F); (try dsimp only)) | ((go_at_call 58); (with_reducible refine fr_call F (g3 _) ?_); (clear F; intro W F); (try dsimp only)) | ((with_reducible apply fL F); exact rfl; exact rfl; (exact tL); (exact tR2)) | ((with_reducible apply fA_rat F); exact rfl) | ((with_reducible apply fS F); exact rfl; exact rfl; exact rfl; (exact tL); (exact tR2); (exact tS2); clear F; intro W F; simp only [z7, z8] at F) | ((with_reducible apply fB_rat0); exact rfl))
    exact bodyPost_ret (res_cs rfl rfl rfl (Fr.get F tL) (rowRC _ _)) rfl ⟨rfl, F.below⟩
  obtain ⟨a1, a2, a3⟩ := H1.out.1 rfl
  cases a with
  | nil => exact absurd a1 (by decide)
  | cons x a =>
  have e1 := bs_at (l := x :: a) (i := 0) (by rw [bs_size]; simp) (by simp)
  obtain ⟨y, hy⟩ : ∃ y : Nat, x.toNat = y := ⟨_, rfl⟩
  have e2 : ((bs (x :: a))[0]'(by rw [bs_size]; simp)).toNat = y := (congrArg UInt8.toNat e1).trans hy
  have hx : x = 48 ↔ y = 48 := by rw [← hy]; exact ⟨fun h => by rw [h]; rfl, fun h => UInt8.toNat_inj.1 h⟩
  have hlead : (1 < (x :: a).length ∧ (x :: a).head? = some 48) ↔ (1 < (x :: a).length ∧ y = 48) := by
    rw [List.head?_cons, Option.some_inj, hx]
  have HL := Lib.hid hlead
  have H1 := Lib.hid (And.intro a2 a3)
  obtain ⟨la, hla⟩ : ∃ la, (x :: a).length = la := ⟨_, rfl⟩
  have HLA := Lib.hid hla
  rw [hla] at sa a1
  have l0 : 0 < la := by omega
  have l0i : (0 : Int) < (la : Int) := by omega
  have l0n : ((la : Int) ≤ 0) = False := by rw [eq_iff_iff, iff_false]; omega
  have hA0 : x :: a ≠ [] := by simp
  clear hlead hx hy hla a2 a3 e1
  by_cases lead : 1 < la ∧ y = 48
  · have hr := HR.out
    rw [if_pos (.inr (.inl (HL.out.2 (by rw [HLA.out]; exact lead))))] at hr
    subst hr
    have tl : decide ((1 : Int) < (la : Int)) = true := decide_eq_true (by omega)
    have ty : ((y : Int) == 48) = true := by rw [beq_iff_eq]; omega
    clear HR H1 H2 HL g4 hp9 lead
    go_wp2_with (first | go_skip | ((go_at_call 56); (with_reducible refine fr_call F (g1 _) ?_); (clear F; intro W F); (try dsimp only)) | ((go_at_call 57); (with_reducible refine fr_call F (g2 _) ?_); (clear F; intro W F); (try dsimp only)) | ((go_at_call 58); (first | (with_reducible refine fr_call F (g3 _) ?_) | (with_reducible refine fr_call F (g4 _) ?_)); (clear F; intro W F); (try dsimp only)) | ((with_reducible apply fL F); exact rfl; exact rfl; (exact tL); (exact tR2)) | ((with_reducible apply fA_rat F); exact rfl) | ((with_reducible apply fS F); exact rfl; exact rfl; exact rfl; (exact tL); (exact tR2); (exact tS2); clear F; intro W F; simp only [z7, z8] at F) | ((with_reducible apply fB_rat0); exact rfl))
    exact bodyPost_ret (res_cs rfl rfl rfl (Fr.get F tL) (rowRC _ _)) rfl ⟨rfl, F.below⟩
  have HN := Lib.hid (show ¬ (1 < (x :: a).length ∧ (x :: a).head? = some 48) from fun h => lead (by have := HL.out.1 h; rwa [HLA.out] at this))
  have hl2 : (decide ((1 : Int) < (la : Int)) = false) ∨ (decide ((1 : Int) < (la : Int)) = true ∧ ((y : Int) == 48) = false) := by
    by_cases h : 1 < la
    · right
      refine ⟨decide_eq_true (by omega), ?_⟩
      rw [beq_eq_false_iff_ne]
      intro h2
      exact lead ⟨h, by omega⟩
    · exact .inl (decide_eq_false (by omega))
  clear HL lead
  by_cases hd2 : pt = true ∧ d2 = false
  · have hr := HR.out
    rw [if_pos (.inr (.inr hd2))] at hr
    obtain ⟨rfl, rfl⟩ := hd2
    subst hr
    clear HR H1 H2 hp9 HN
    rcases hl2 with tl | ⟨tl, ty⟩
    all_goals
      go_wp2_with (first | go_skip | ((go_at_call 56); (with_reducible refine fr_call F (g1 _) ?_); (clear F; intro W F); (try dsimp only)) | ((go_at_call 57); (with_reducible refine fr_call F (g2 _) ?_); (clear F; intro W F); (try dsimp only)) | ((go_at_call 58); (first | (with_reducible refine fr_call F (g3 _) ?_) | (with_reducible refine fr_call F (g4 _) ?_)); (clear F; intro W F); (try dsimp only)) | ((with_reducible apply fL F); exact rfl; exact rfl; (exact tL); (exact tR2)) | ((with_reducible apply fA_rat F); exact rfl) | ((with_reducible apply fS F); exact rfl; exact rfl; exact rfl; (exact tL); (exact tR2); (exact tS2); clear F; intro W F; simp only [z7, z8] at F) | ((with_reducible apply fB_rat0); exact rfl))
      exact bodyPost_ret (res_cs rfl rfl rfl (Fr.get F tL) (rowRC _ _)) rfl ⟨rfl, F.below⟩
  have hr := HR.out
  rw [if_neg (by
    rintro (h | h | h)
    · exact absurd h (by decide)
    · exact HN.out h
    · exact hd2 h)] at hr
  have hb : b.all isD = true ∧ b.length ≤ 9 := by
    cases pt
    · rw [H2.out.2 rfl]
      exact ⟨rfl, Nat.zero_le _⟩
    · cases d2
      · exact absurd ⟨rfl, rfl⟩ hd2
      · obtain ⟨-, h2, h3⟩ := H2.out.1.1 rfl
        exact ⟨h3, by omega⟩
  have hp2 : pt = false ∨ (pt = true ∧ d2 = true) := by
    cases pt
    · exact .inl rfl
    · cases d2
      · exact absurd ⟨rfl, rfl⟩ hd2
      · exact .inr ⟨rfl, rfl⟩
  unfold prsB at hr
  have g5 := fun w => atoi_any H1.out.2 hA0 (by have := H1.out.1; omega) w
  have g6 := fun w => atoi_any (l := 48 :: b) (by rw [List.all_cons, hb.1]; rfl) (by simp) (by rw [List.length_cons]; omega) w
  have e3 : (⟨#[48]⟩ : ByteArray) ++ bs b = bs (48 :: b) := bs_append [48] b
  have hz : numL (48 :: b) = numL b := by
    unfold numL
    rw [numF_cons]
    rfl
  rw [hz] at g6
  have hn1 : numL (x :: a) < 10 ^ 15 := by
    have h1 := numL_lt (x :: a) H1.out.2
    have h2 : 10 ^ (x :: a).length ≤ 10 ^ 15 := Nat.pow_le_pow_right (by decide) (by have := H1.out.1; omega)
    omega
  have hm1 := numL_lt b hb.1
  have hk := hb.2
  have g7 := fun w => power_any hk w
  have ht1 := ten_le hk
  have ht0 : 0 < 10 ^ b.length := Nat.pow_pos (by decide)
  obtain ⟨n, hn⟩ : ∃ n, numL (x :: a) = n := ⟨_, rfl⟩
  obtain ⟨m, hm⟩ : ∃ m, numL b = m := ⟨_, rfl⟩
  obtain ⟨k, hkk⟩ : ∃ k, b.length = k := ⟨_, rfl⟩
  obtain ⟨T, hT⟩ : ∃ T : Nat, 10 ^ k = T := ⟨_, rfl⟩
  rw [hn] at g5 hr hn1
  rw [hm] at g6 hr hm1
  rw [hkk] at sb g7 ht0 ht1 hm1 hr
  rw [hT] at g7 ht0 ht1 hm1 hr
  obtain ⟨hb1, hb2⟩ := bp1_ten (v := m) (k := 0) (by omega) (by decide)
  have hTb : (T : Int).natAbs < bp 15 := by have := bp15_big; omega
  obtain ⟨q1, q2⟩ := mkR_ok (n := (m : Int)) (d := (T : Int)) (by omega) hb1 hTb
  have g8 := fun w => ofR (n := (m : Int)) (d := (T : Int)) (by omega) (by omega) (by omega) (by omega) q1 w
  have g9 := fun w => wholeR (n := (n : Int)) (by omega) (by omega) w
  have hv : (n : Int) * (T : Int) + (m : Int) = ((n * T + m : Nat) : Int) := by rw [Int.natCast_add, Int.natCast_mul]
  have hvb : n * T + m < 10 ^ 25 := by
    have := Nat.mul_le_mul (show n ≤ 10 ^ 15 by omega) ht1
    omega
  have hsum := sum_low (n := (n : Int)) (m := (m : Int)) (t := (T : Int)) (by omega)
  rw [hv] at hsum
  have hvv : n * T + m = 0 ↔ n = 0 ∧ m = 0 := by
    constructor
    · intro h
      have h1 := Nat.eq_zero_of_add_eq_zero h
      rcases Nat.mul_eq_zero.1 h1.1 with h2 | h2
      · exact ⟨h2, h1.2⟩
      · omega
    · rintro ⟨rfl, rfl⟩
      simp
  obtain ⟨v, hvd⟩ : ∃ v, n * T + m = v := ⟨_, rfl⟩
  rw [hvd] at hr hsum hvb hvv
  obtain ⟨q3, q4⟩ := mkR_ok (n := (v : Int)) (d := (T : Int)) (by omega) (by have := bp15_big; omega) hTb
  rw [q3] at hsum
  have g10 := fun w => addZR (okZ_one (n := (n : Int)) (by have := bp15_big; omega)) q2 hsum w
  have g11 := fun w => negZR q4 w
  obtain ⟨ln, ld⟩ := low_neg (n := (v : Int)) (d := (T : Int)) (by omega)
  rw [ln.symm] at g11
  dsimp only at g8 g10 g11
  obtain ⟨mn, hmn⟩ : ∃ z, lowN (m : Int) (T : Int) = z := ⟨_, rfl⟩
  obtain ⟨md, hmd⟩ : ∃ z, lowD (m : Int) (T : Int) = z := ⟨_, rfl⟩
  obtain ⟨vn, hvn⟩ : ∃ z, lowN (v : Int) (T : Int) = z := ⟨_, rfl⟩
  obtain ⟨vd, hvd2⟩ : ∃ z, lowD (v : Int) (T : Int) = z := ⟨_, rfl⟩
  obtain ⟨un, hun⟩ : ∃ z, lowN (-(v : Int)) (T : Int) = z := ⟨_, rfl⟩
  rw [hmn, hmd] at g8 g10
  rw [hvn, hvd2] at g10 g11
  rw [hun] at g11
  have k1 : (9223372036854775807 < 1 + k) = False := by rw [eq_iff_iff, iff_false]; omega
  have HR := Lib.hid (And.intro hr (And.intro hvv (And.intro hvn (And.intro hvd2 (And.intro hun ld)))))
  clear hr hvv hvn hvd2 hun ld ln hmn hmd q1 q2 q3 q4 hsum hvb hvd hv hTb hb1 hb2 ht0 ht1 hm1 hn1 hT hkk hm hn hz hk hb hd2 H1 H2 HN hp9 HLA a1
  cases neg
  · have hr : (vn, vd, 0) = r := by
      obtain ⟨h1, h2, h3, h4, h5, h6⟩ := HR.out
      dsimp only at h1
      rw [if_neg (by simp), if_neg (by decide), h3, h4] at h1
      exact h1
    subst hr
    clear HR
    rcases hl2 with tl | ⟨tl, ty⟩ <;> rcases hp2 with rfl | ⟨rfl, rfl⟩
    all_goals
      go_wp2_with (first | go_skip | ((go_at_call 56); (with_reducible refine fr_call F (g1 _) ?_); (clear F; intro W F); (try dsimp only)) | ((go_at_call 57); (with_reducible refine fr_call F (g2 _) ?_); (clear F; intro W F); (try dsimp only)) | ((go_at_call 58); (first | (with_reducible refine fr_call F (g3 _) ?_) | (with_reducible refine fr_call F (g4 _) ?_)); (clear F; intro W F); (try dsimp only)) | ((go_at_call 59); (first | (with_reducible refine fr_call F (g5 _) ?_) | (with_reducible refine fr_call F (g6 _) ?_)); (clear F; intro W F); (try dsimp only)) | ((go_at_call 60); (with_reducible refine fr_call F (g7 _) ?_); (clear F; intro W F); (try dsimp only)) | ((go_at_call 55); (with_reducible refine fr_call F (g8 _) ?_); (clear F; intro W F); (try dsimp only)) | ((with_reducible apply fL F); exact rfl; exact rfl; (exact tL); (exact tR2)) | ((with_reducible apply fA_rat F); exact rfl) | ((with_reducible apply fS F); exact rfl; exact rfl; exact rfl; (exact tL); (exact tR2); (exact tS2); clear F; intro W F; simp only [z7, z8] at F) | ((with_reducible apply fB_rat0); exact rfl))
      (clear F; intro b15 W F; try simp only [Act.put, z6, z1, z2])
      go_wp2_with (first | go_skip | ((go_at_call 60); (with_reducible refine fr_call F (g7 _) ?_); (clear F; intro W F); (try dsimp only)) | ((go_at_call 55); (with_reducible refine fr_call F (g8 _) ?_); (clear F; intro W F); (try dsimp only)) | ((with_reducible apply fL F); exact rfl; exact rfl; (exact tL); (exact tR2)) | ((with_reducible apply fA_rat F); exact rfl) | ((with_reducible apply fS F); exact rfl; exact rfl; exact rfl; (exact tL); (exact tR2); (exact tS2); clear F; intro W F; simp only [z7, z8] at F) | ((with_reducible apply fB_rat0); exact rfl))
      try simp only [Act.put, z6, z1, z2]
      refine wp_region_slots mixP [87, 88, 89, 90, 91, 92, 93] (fun l mm W => ∃ (s87 s88 s89 s90 s91 s92 s93 : Value) (c_b15 : Array Value), mm = [s87, s88, s89, s90, s91, s92, s93] ∧ (l.getD 0 false = true → s88 = .int .i64 (n : Int)) ∧ (l.getD 1 false = true → s89 = .agg (RC n 1)) ∧ (l.getD 2 false = true → s90 = .agg (RC mn md)) ∧ (l.getD 3 false = true → s91 = .tuple #[.agg (RC vn vd), .int .i64 0]) ∧ (l.getD 4 false = true → s87 = .tuple #[.agg (RC vn vd), .int .i64 0]) ∧ (l.getD 5 false = true → s92 = .agg (RC vn vd)) ∧ (l.getD 6 false = true → s93 = .int .i64 0) ∧ (l.getD 7 false = true → c_b15 = RC vn vd) ∧ (l.getD 7 false = false → c_b15 = RC mn md) ∧ (l.getD 7 false = true → l.getD 2 false = true) ∧ c_b15.size = (RC vn vd).size ∧ Fr w W [(b15, c_b15, 31), (b4, RC 0 0, 31)]) (by kernel_rfl) rfl ?_ ?_ ?_
      · exact ⟨_, _, _, _, _, _, _, (RC mn md), rfl, nf, nf, nf, nf, nf, nf, nf, nf, fun _ => rfl, nf, by exact tS2, F.drew⟩
      · rintro listed mm W ii hi hsz hoff ⟨s87, s88, s89, s90, s91, s92, s93, c_b15, rfl, h0, h1, h2, h3, h4, h5, h6, h7, hO_b15, hW_b15_2, hz0, HF⟩ hd
        have hc : ii = 0 ∨ ii = 1 ∨ ii = 2 ∨ ii = 3 ∨ ii = 4 ∨ ii = 5 ∨ ii = 6 ∨ ii = 7 := by
          have hi2 : ii < 8 := hi
          omega
        have hsz2 : listed.size = 8 := hsz
        clear hi hsz
        rcases hc with rfl | rfl | rfl | rfl | rfl | rfl | rfl | rfl
        · refine wpOp_want rfl rfl (fun K hK => ?_)
          simp only [putAll, z1, z2, z3, z4, z5]
          refine ⟨?_⟩
          go_simp
          exact hK _ _ ⟨[s87, (.int .i64 (n : Int)), s89, s90, s91, s92, s93], by simp only [putAll, z1, z2], s87, (.int .i64 (n : Int)), s89, s90, s91, s92, s93, c_b15, rfl, fun _ => rfl, lk h1, lk h2, lk h3, lk h4, lk h5, lk h6, lk h7, listed_keepF (by decide) hO_b15, fun h => by rw [getD_keep (show 0 ≠ 7 by decide)] at h; rw [getD_keep (show 0 ≠ 2 by decide)]; exact hW_b15_2 h, hz0, HF⟩
        · have d0 := h0 (hd 0 (by kernel_rfl))
          obtain rfl := d0
          refine wpOp_want rfl rfl (fun K hK => ?_)
          simp only [putAll, z1, z2, z3, z4, z5]
          refine ⟨?_⟩
          go_simp
          with_reducible refine fr_call HF (g9 _) ?_
          clear HF
          intro W HF
          (try dsimp only)
          exact hK _ _ ⟨[s87, (.int .i64 (n : Int)), (.agg (RC n 1)), s90, s91, s92, s93], by simp only [putAll, z1, z2], s87, (.int .i64 (n : Int)), (.agg (RC n 1)), s90, s91, s92, s93, c_b15, rfl, lk h0, fun _ => rfl, lk h2, lk h3, lk h4, lk h5, lk h6, lk h7, listed_keepF (by decide) hO_b15, fun h => by rw [getD_keep (show 1 ≠ 7 by decide)] at h; rw [getD_keep (show 1 ≠ 2 by decide)]; exact hW_b15_2 h, hz0, HF⟩
        · refine wpOp_want rfl rfl (fun K hK => ?_)
          simp only [putAll, z1, z2, z3, z4, z5]
          have hold := hO_b15 (by cases hx : listed.getD 7 false with | false => rfl | true => exact absurd (hW_b15_2 hx) (by rw [hoff]; decide))
          rw [hold] at HF
          with_reducible apply gL HF
          · exact rfl
          · (exact tL)
          · (first | (exact tR2))
          rw [← hold] at HF
          go_simp
          exact hK _ _ ⟨[s87, s88, s89, (.agg (RC mn md)), s91, s92, s93], by simp only [putAll, z1, z2], s87, s88, s89, (.agg (RC mn md)), s91, s92, s93, c_b15, rfl, lk h0, lk h1, fun _ => rfl, lk h3, lk h4, lk h5, lk h6, lk h7, listed_keepF (by decide) hO_b15, fun _ => getD_on (by omega), hz0, HF⟩
        · have d1 := h1 (hd 1 (by kernel_rfl))
          have d2 := h2 (hd 2 (by kernel_rfl))
          obtain rfl := d1
          obtain rfl := d2
          refine wpOp_want rfl rfl (fun K hK => ?_)
          simp only [putAll, z1, z2, z3, z4, z5]
          refine ⟨?_⟩
          go_simp
          with_reducible refine fr_call HF (g10 _) ?_
          clear HF
          intro W HF
          (try dsimp only)
          exact hK _ _ ⟨[s87, s88, (.agg (RC n 1)), (.agg (RC mn md)), (.tuple #[.agg (RC vn vd), .int .i64 0]), s92, s93], by simp only [putAll, z1, z2], s87, s88, (.agg (RC n 1)), (.agg (RC mn md)), (.tuple #[.agg (RC vn vd), .int .i64 0]), s92, s93, c_b15, rfl, lk h0, lk h1, lk h2, fun _ => rfl, lk h4, lk h5, lk h6, lk h7, listed_keepF (by decide) hO_b15, fun h => by rw [getD_keep (show 3 ≠ 7 by decide)] at h; rw [getD_keep (show 3 ≠ 2 by decide)]; exact hW_b15_2 h, hz0, HF⟩
        · have d3 := h3 (hd 3 (by kernel_rfl))
          obtain rfl := d3
          refine wpOp_want rfl rfl (fun K hK => ?_)
          simp only [putAll, z1, z2, z3, z4, z5]
          refine ⟨?_⟩
          go_simp
          exact hK _ _ ⟨[(.tuple #[.agg (RC vn vd), .int .i64 0]), s88, s89, s90, (.tuple #[.agg (RC vn vd), .int .i64 0]), s92, s93], by simp only [putAll, z1, z2], (.tuple #[.agg (RC vn vd), .int .i64 0]), s88, s89, s90, (.tuple #[.agg (RC vn vd), .int .i64 0]), s92, s93, c_b15, rfl, lk h0, lk h1, lk h2, lk h3, fun _ => rfl, lk h5, lk h6, lk h7, listed_keepF (by decide) hO_b15, fun h => by rw [getD_keep (show 4 ≠ 7 by decide)] at h; rw [getD_keep (show 4 ≠ 2 by decide)]; exact hW_b15_2 h, hz0, HF⟩
        · have d4 := h4 (hd 4 (by kernel_rfl))
          obtain rfl := d4
          refine wpOp_want rfl rfl (fun K hK => ?_)
          simp only [putAll, z1, z2, z3, z4, z5]
          refine ⟨?_⟩
          go_simp
          exact hK _ _ ⟨[(.tuple #[.agg (RC vn vd), .int .i64 0]), s88, s89, s90, s91, (.agg (RC vn vd)), s93], by simp only [putAll, z1, z2], (.tuple #[.agg (RC vn vd), .int .i64 0]), s88, s89, s90, s91, (.agg (RC vn vd)), s93, c_b15, rfl, lk h0, lk h1, lk h2, lk h3, lk h4, fun _ => rfl, lk h6, lk h7, listed_keepF (by decide) hO_b15, fun h => by rw [getD_keep (show 5 ≠ 7 by decide)] at h; rw [getD_keep (show 5 ≠ 2 by decide)]; exact hW_b15_2 h, hz0, HF⟩
        · have d4 := h4 (hd 4 (by kernel_rfl))
          obtain rfl := d4
          refine wpOp_want rfl rfl (fun K hK => ?_)
          simp only [putAll, z1, z2, z3, z4, z5]
          refine ⟨?_⟩
          go_simp
          exact hK _ _ ⟨[(.tuple #[.agg (RC vn vd), .int .i64 0]), s88, s89, s90, s91, s92, (.int .i64 0)], by simp only [putAll, z1, z2], (.tuple #[.agg (RC vn vd), .int .i64 0]), s88, s89, s90, s91, s92, (.int .i64 0), c_b15, rfl, lk h0, lk h1, lk h2, lk h3, lk h4, lk h5, fun _ => rfl, lk h7, listed_keepF (by decide) hO_b15, fun h => by rw [getD_keep (show 6 ≠ 7 by decide)] at h; rw [getD_keep (show 6 ≠ 2 by decide)]; exact hW_b15_2 h, hz0, HF⟩
        · have d5 := h5 (hd 5 (by kernel_rfl))
          obtain rfl := d5
          refine wpOp_want rfl rfl (fun K hK => ?_)
          simp only [putAll, z1, z2, z3, z4, z5]
          with_reducible apply gS HF
          · exact rfl
          · exact rfl
          · (exact tL)
          · (first | (exact tR2))
          · first | exact hz0 | exact tS2
          clear HF
          intro W HF
          simp only [z7, z8] at HF
          go_simp
          exact hK _ _ ⟨[s87, s88, s89, s90, s91, (.agg (RC vn vd)), s93], by simp only [putAll, z1, z2], s87, s88, s89, s90, s91, (.agg (RC vn vd)), s93, (RC vn vd), rfl, lk h0, lk h1, lk h2, lk h3, lk h4, lk h5, lk h6, fun _ => rfl, fun h => absurd h (by rw [getD_on (show 7 < listed.size by omega)]; decide), fun _ => by rw [getD_keep (show 7 ≠ 2 by decide)]; exact hd 2 (by kernel_rfl), rfl, HF⟩
      rintro listed mm W ⟨s87, s88, s89, s90, s91, s92, s93, c_b15, rfl, h0, h1, h2, h3, h4, h5, h6, h7, hO_b15, hW_b15_2, hz0, HF⟩ hall
      obtain rfl := h0 (hall 0 (by decide))
      obtain rfl := h1 (hall 1 (by decide))
      obtain rfl := h2 (hall 2 (by decide))
      obtain rfl := h3 (hall 3 (by decide))
      obtain rfl := h4 (hall 4 (by decide))
      obtain rfl := h5 (hall 5 (by decide))
      obtain rfl := h6 (hall 6 (by decide))
      rw [h7 (hall 7 (by decide))] at HF
      clear hall h0 h1 h2 h3 h4 h5 h6 h7 hO_b15 hW_b15_2 hz0 F
      have F := HF
      clear HF
      simp only [putAll, z1, z2]
      go_wp2_with (first | go_skip | ((with_reducible apply fL F); exact rfl; exact rfl; (exact tL); (exact tR2)) | ((with_reducible apply fA_rat F); exact rfl) | ((with_reducible apply fS F); exact rfl; exact rfl; exact rfl; (exact tL); (exact tR2); (exact tS2); clear F; intro W F; simp only [z7, z8] at F) | ((with_reducible apply fB_rat0); exact rfl))
      exact bodyPost_ret (res_cs rfl rfl rfl (Fr.get F tL) (rowRC _ _)) rfl ⟨rfl, F.below⟩
  by_cases hv0 : v = 0
  · have hr : (0, 0, 32) = r := by
      obtain ⟨h1, h2, h3, h4, h5, h6⟩ := HR.out
      dsimp only at h1
      rw [if_pos ⟨rfl, hv0⟩] at h1
      exact h1
    have tn : ((n : Int) == 0) = true := by rw [beq_iff_eq]; have := (HR.out.2.1.1 hv0).1; omega
    have tm : ((m : Int) == 0) = true := by rw [beq_iff_eq]; have := (HR.out.2.1.1 hv0).2; omega
    subst hr
    clear HR hv0 g7 g8 g9 g10 g11
    rcases hl2 with tl | ⟨tl, ty⟩ <;> rcases hp2 with rfl | ⟨rfl, rfl⟩
    all_goals
      go_wp2_with (first | go_skip | ((go_at_call 56); (with_reducible refine fr_call F (g1 _) ?_); (clear F; intro W F); (try dsimp only)) | ((go_at_call 57); (with_reducible refine fr_call F (g2 _) ?_); (clear F; intro W F); (try dsimp only)) | ((go_at_call 58); (first | (with_reducible refine fr_call F (g3 _) ?_) | (with_reducible refine fr_call F (g4 _) ?_)); (clear F; intro W F); (try dsimp only)) | ((go_at_call 59); (first | (with_reducible refine fr_call F (g5 _) ?_) | (with_reducible refine fr_call F (g6 _) ?_)); (clear F; intro W F); (try dsimp only)) | ((with_reducible apply fL F); exact rfl; exact rfl; (exact tL); (exact tR2)) | ((with_reducible apply fA_rat F); exact rfl) | ((with_reducible apply fS F); exact rfl; exact rfl; exact rfl; (exact tL); (exact tR2); (exact tS2); clear F; intro W F; simp only [z7, z8] at F) | ((with_reducible apply fB_rat0); exact rfl))
      exact bodyPost_ret (res_cs rfl rfl rfl (Fr.get F tL) (rowRC _ _)) rfl ⟨rfl, F.below⟩
  have hr : (un, vd, 0) = r := by
    obtain ⟨h1, h2, h3, h4, h5, h6⟩ := HR.out
    dsimp only at h1
    rw [if_neg (fun h => hv0 h.2), if_pos rfl, h5, h6, h4] at h1
    exact h1
  have tnm : ((n : Int) == 0) = false ∨ (((n : Int) == 0) = true ∧ ((m : Int) == 0) = false) := by
    by_cases h : n = 0
    · right
      refine ⟨by rw [beq_iff_eq]; omega, ?_⟩
      rw [beq_eq_false_iff_ne]
      intro h2
      exact hv0 (HR.out.2.1.2 ⟨h, by omega⟩)
    · left
      rw [beq_eq_false_iff_ne]
      omega
  subst hr
  clear HR hv0
  rcases hl2 with tl | ⟨tl, ty⟩ <;> rcases hp2 with rfl | ⟨rfl, rfl⟩ <;> rcases tnm with tn | ⟨tn, tm⟩
  all_goals
      go_wp2_with (first | go_skip | ((go_at_call 56); (with_reducible refine fr_call F (g1 _) ?_); (clear F; intro W F); (try dsimp only)) | ((go_at_call 57); (with_reducible refine fr_call F (g2 _) ?_); (clear F; intro W F); (try dsimp only)) | ((go_at_call 58); (first | (with_reducible refine fr_call F (g3 _) ?_) | (with_reducible refine fr_call F (g4 _) ?_)); (clear F; intro W F); (try dsimp only)) | ((go_at_call 59); (first | (with_reducible refine fr_call F (g5 _) ?_) | (with_reducible refine fr_call F (g6 _) ?_)); (clear F; intro W F); (try dsimp only)) | ((go_at_call 60); (with_reducible refine fr_call F (g7 _) ?_); (clear F; intro W F); (try dsimp only)) | ((go_at_call 55); (with_reducible refine fr_call F (g8 _) ?_); (clear F; intro W F); (try dsimp only)) | ((with_reducible apply fL F); exact rfl; exact rfl; (exact tL); (exact tR2)) | ((with_reducible apply fA_rat F); exact rfl) | ((with_reducible apply fS F); exact rfl; exact rfl; exact rfl; (exact tL); (exact tR2); (exact tS2); clear F; intro W F; simp only [z7, z8] at F) | ((with_reducible apply fB_rat0); exact rfl))
      (clear F; intro b15 W F; try simp only [Act.put, z6, z1, z2])
      go_wp2_with (first | go_skip | ((go_at_call 60); (with_reducible refine fr_call F (g7 _) ?_); (clear F; intro W F); (try dsimp only)) | ((go_at_call 55); (with_reducible refine fr_call F (g8 _) ?_); (clear F; intro W F); (try dsimp only)) | ((with_reducible apply fL F); exact rfl; exact rfl; (exact tL); (exact tR2)) | ((with_reducible apply fA_rat F); exact rfl) | ((with_reducible apply fS F); exact rfl; exact rfl; exact rfl; (exact tL); (exact tR2); (exact tS2); clear F; intro W F; simp only [z7, z8] at F) | ((with_reducible apply fB_rat0); exact rfl))
      try simp only [Act.put, z6, z1, z2]
      refine wp_region_slots mixP [87, 88, 89, 90, 91, 92, 93] (fun l mm W => ∃ (s87 s88 s89 s90 s91 s92 s93 : Value) (c_b15 : Array Value), mm = [s87, s88, s89, s90, s91, s92, s93] ∧ (l.getD 0 false = true → s88 = .int .i64 (n : Int)) ∧ (l.getD 1 false = true → s89 = .agg (RC n 1)) ∧ (l.getD 2 false = true → s90 = .agg (RC mn md)) ∧ (l.getD 3 false = true → s91 = .tuple #[.agg (RC vn vd), .int .i64 0]) ∧ (l.getD 4 false = true → s87 = .tuple #[.agg (RC vn vd), .int .i64 0]) ∧ (l.getD 5 false = true → s92 = .agg (RC vn vd)) ∧ (l.getD 6 false = true → s93 = .int .i64 0) ∧ (l.getD 7 false = true → c_b15 = RC vn vd) ∧ (l.getD 7 false = false → c_b15 = RC mn md) ∧ (l.getD 7 false = true → l.getD 2 false = true) ∧ c_b15.size = (RC vn vd).size ∧ Fr w W [(b15, c_b15, 31), (b4, RC 0 0, 31)]) (by kernel_rfl) rfl ?_ ?_ ?_
      · exact ⟨_, _, _, _, _, _, _, (RC mn md), rfl, nf, nf, nf, nf, nf, nf, nf, nf, fun _ => rfl, nf, by exact tS2, F.drew⟩
      · rintro listed mm W ii hi hsz hoff ⟨s87, s88, s89, s90, s91, s92, s93, c_b15, rfl, h0, h1, h2, h3, h4, h5, h6, h7, hO_b15, hW_b15_2, hz0, HF⟩ hd
        have hc : ii = 0 ∨ ii = 1 ∨ ii = 2 ∨ ii = 3 ∨ ii = 4 ∨ ii = 5 ∨ ii = 6 ∨ ii = 7 := by
          have hi2 : ii < 8 := hi
          omega
        have hsz2 : listed.size = 8 := hsz
        clear hi hsz
        rcases hc with rfl | rfl | rfl | rfl | rfl | rfl | rfl | rfl
        · refine wpOp_want rfl rfl (fun K hK => ?_)
          simp only [putAll, z1, z2, z3, z4, z5]
          refine ⟨?_⟩
          go_simp
          exact hK _ _ ⟨[s87, (.int .i64 (n : Int)), s89, s90, s91, s92, s93], by simp only [putAll, z1, z2], s87, (.int .i64 (n : Int)), s89, s90, s91, s92, s93, c_b15, rfl, fun _ => rfl, lk h1, lk h2, lk h3, lk h4, lk h5, lk h6, lk h7, listed_keepF (by decide) hO_b15, fun h => by rw [getD_keep (show 0 ≠ 7 by decide)] at h; rw [getD_keep (show 0 ≠ 2 by decide)]; exact hW_b15_2 h, hz0, HF⟩
        · have d0 := h0 (hd 0 (by kernel_rfl))
          obtain rfl := d0
          refine wpOp_want rfl rfl (fun K hK => ?_)
          simp only [putAll, z1, z2, z3, z4, z5]
          refine ⟨?_⟩
          go_simp
          with_reducible refine fr_call HF (g9 _) ?_
          clear HF
          intro W HF
          (try dsimp only)
          exact hK _ _ ⟨[s87, (.int .i64 (n : Int)), (.agg (RC n 1)), s90, s91, s92, s93], by simp only [putAll, z1, z2], s87, (.int .i64 (n : Int)), (.agg (RC n 1)), s90, s91, s92, s93, c_b15, rfl, lk h0, fun _ => rfl, lk h2, lk h3, lk h4, lk h5, lk h6, lk h7, listed_keepF (by decide) hO_b15, fun h => by rw [getD_keep (show 1 ≠ 7 by decide)] at h; rw [getD_keep (show 1 ≠ 2 by decide)]; exact hW_b15_2 h, hz0, HF⟩
        · refine wpOp_want rfl rfl (fun K hK => ?_)
          simp only [putAll, z1, z2, z3, z4, z5]
          have hold := hO_b15 (by cases hx : listed.getD 7 false with | false => rfl | true => exact absurd (hW_b15_2 hx) (by rw [hoff]; decide))
          rw [hold] at HF
          with_reducible apply gL HF
          · exact rfl
          · (exact tL)
          · (first | (exact tR2))
          rw [← hold] at HF
          go_simp
          exact hK _ _ ⟨[s87, s88, s89, (.agg (RC mn md)), s91, s92, s93], by simp only [putAll, z1, z2], s87, s88, s89, (.agg (RC mn md)), s91, s92, s93, c_b15, rfl, lk h0, lk h1, fun _ => rfl, lk h3, lk h4, lk h5, lk h6, lk h7, listed_keepF (by decide) hO_b15, fun _ => getD_on (by omega), hz0, HF⟩
        · have d1 := h1 (hd 1 (by kernel_rfl))
          have d2 := h2 (hd 2 (by kernel_rfl))
          obtain rfl := d1
          obtain rfl := d2
          refine wpOp_want rfl rfl (fun K hK => ?_)
          simp only [putAll, z1, z2, z3, z4, z5]
          refine ⟨?_⟩
          go_simp
          with_reducible refine fr_call HF (g10 _) ?_
          clear HF
          intro W HF
          (try dsimp only)
          exact hK _ _ ⟨[s87, s88, (.agg (RC n 1)), (.agg (RC mn md)), (.tuple #[.agg (RC vn vd), .int .i64 0]), s92, s93], by simp only [putAll, z1, z2], s87, s88, (.agg (RC n 1)), (.agg (RC mn md)), (.tuple #[.agg (RC vn vd), .int .i64 0]), s92, s93, c_b15, rfl, lk h0, lk h1, lk h2, fun _ => rfl, lk h4, lk h5, lk h6, lk h7, listed_keepF (by decide) hO_b15, fun h => by rw [getD_keep (show 3 ≠ 7 by decide)] at h; rw [getD_keep (show 3 ≠ 2 by decide)]; exact hW_b15_2 h, hz0, HF⟩
        · have d3 := h3 (hd 3 (by kernel_rfl))
          obtain rfl := d3
          refine wpOp_want rfl rfl (fun K hK => ?_)
          simp only [putAll, z1, z2, z3, z4, z5]
          refine ⟨?_⟩
          go_simp
          exact hK _ _ ⟨[(.tuple #[.agg (RC vn vd), .int .i64 0]), s88, s89, s90, (.tuple #[.agg (RC vn vd), .int .i64 0]), s92, s93], by simp only [putAll, z1, z2], (.tuple #[.agg (RC vn vd), .int .i64 0]), s88, s89, s90, (.tuple #[.agg (RC vn vd), .int .i64 0]), s92, s93, c_b15, rfl, lk h0, lk h1, lk h2, lk h3, fun _ => rfl, lk h5, lk h6, lk h7, listed_keepF (by decide) hO_b15, fun h => by rw [getD_keep (show 4 ≠ 7 by decide)] at h; rw [getD_keep (show 4 ≠ 2 by decide)]; exact hW_b15_2 h, hz0, HF⟩
        · have d4 := h4 (hd 4 (by kernel_rfl))
          obtain rfl := d4
          refine wpOp_want rfl rfl (fun K hK => ?_)
          simp only [putAll, z1, z2, z3, z4, z5]
          refine ⟨?_⟩
          go_simp
          exact hK _ _ ⟨[(.tuple #[.agg (RC vn vd), .int .i64 0]), s88, s89, s90, s91, (.agg (RC vn vd)), s93], by simp only [putAll, z1, z2], (.tuple #[.agg (RC vn vd), .int .i64 0]), s88, s89, s90, s91, (.agg (RC vn vd)), s93, c_b15, rfl, lk h0, lk h1, lk h2, lk h3, lk h4, fun _ => rfl, lk h6, lk h7, listed_keepF (by decide) hO_b15, fun h => by rw [getD_keep (show 5 ≠ 7 by decide)] at h; rw [getD_keep (show 5 ≠ 2 by decide)]; exact hW_b15_2 h, hz0, HF⟩
        · have d4 := h4 (hd 4 (by kernel_rfl))
          obtain rfl := d4
          refine wpOp_want rfl rfl (fun K hK => ?_)
          simp only [putAll, z1, z2, z3, z4, z5]
          refine ⟨?_⟩
          go_simp
          exact hK _ _ ⟨[(.tuple #[.agg (RC vn vd), .int .i64 0]), s88, s89, s90, s91, s92, (.int .i64 0)], by simp only [putAll, z1, z2], (.tuple #[.agg (RC vn vd), .int .i64 0]), s88, s89, s90, s91, s92, (.int .i64 0), c_b15, rfl, lk h0, lk h1, lk h2, lk h3, lk h4, lk h5, fun _ => rfl, lk h7, listed_keepF (by decide) hO_b15, fun h => by rw [getD_keep (show 6 ≠ 7 by decide)] at h; rw [getD_keep (show 6 ≠ 2 by decide)]; exact hW_b15_2 h, hz0, HF⟩
        · have d5 := h5 (hd 5 (by kernel_rfl))
          obtain rfl := d5
          refine wpOp_want rfl rfl (fun K hK => ?_)
          simp only [putAll, z1, z2, z3, z4, z5]
          with_reducible apply gS HF
          · exact rfl
          · exact rfl
          · (exact tL)
          · (first | (exact tR2))
          · first | exact hz0 | exact tS2
          clear HF
          intro W HF
          simp only [z7, z8] at HF
          go_simp
          exact hK _ _ ⟨[s87, s88, s89, s90, s91, (.agg (RC vn vd)), s93], by simp only [putAll, z1, z2], s87, s88, s89, s90, s91, (.agg (RC vn vd)), s93, (RC vn vd), rfl, lk h0, lk h1, lk h2, lk h3, lk h4, lk h5, lk h6, fun _ => rfl, fun h => absurd h (by rw [getD_on (show 7 < listed.size by omega)]; decide), fun _ => by rw [getD_keep (show 7 ≠ 2 by decide)]; exact hd 2 (by kernel_rfl), rfl, HF⟩
      rintro listed mm W ⟨s87, s88, s89, s90, s91, s92, s93, c_b15, rfl, h0, h1, h2, h3, h4, h5, h6, h7, hO_b15, hW_b15_2, hz0, HF⟩ hall
      obtain rfl := h0 (hall 0 (by decide))
      obtain rfl := h1 (hall 1 (by decide))
      obtain rfl := h2 (hall 2 (by decide))
      obtain rfl := h3 (hall 3 (by decide))
      obtain rfl := h4 (hall 4 (by decide))
      obtain rfl := h5 (hall 5 (by decide))
      obtain rfl := h6 (hall 6 (by decide))
      rw [h7 (hall 7 (by decide))] at HF
      clear hall h0 h1 h2 h3 h4 h5 h6 h7 hO_b15 hW_b15_2 hz0 F
      have F := HF
      clear HF
      simp only [putAll, z1, z2]
      go_wp2_with (first | go_skip | ((go_at_call 63); (with_reducible refine fr_call F (g11 _) ?_); (clear F; intro W F); (try dsimp only)) | ((with_reducible apply fL F); exact rfl; exact rfl; (exact tL); (exact tR2)) | ((with_reducible apply fA_rat F); exact rfl) | ((with_reducible apply fS F); exact rfl; exact rfl; exact rfl; (exact tL); (exact tR2); (exact tS2); clear F; intro W F; simp only [z7, z8] at F) | ((with_reducible apply fB_rat0); exact rfl))
      exact bodyPost_ret (res_cs rfl rfl rfl (Fr.get F tL) (rowRC _ _)) rfl ⟨rfl, F.below⟩
end
section
open Go.RowKit
set_option maxHeartbeats 4000000
theorem cutSuffix_any (s : List UInt8) (c : UInt8) (hs : s.length ≤ 9223372036854775807) (w : World) : Calls Tryz.prog 66 #[.string (bs s), .string ⟨#[c]⟩] w (RetB (.tuple #[.string (bs (Lib.trimSuffix s [c])), .bool (Lib.hasSuffix s [c])]) w) := by
  have h := Tryz.strings_CutSuffix (bs s) ⟨#[c]⟩ w (by rw [bs_size]; exact hs)
  rw [bs_list] at h
  refine h.mono ?_
  rintro e W ⟨rfl, rfl⟩
  exact ⟨rfl, Below.refl _ _⟩
theorem prs_valid {s : List UInt8} {p : Int} (h : (prsR s p).2.2 = 0) : okZ (prsR s p).1 (prsR s p).2.1 ∧ s ≠ [] := by
  unfold prsR at h ⊢
  by_cases hp : p < 0 ∨ 9 < p
  · rw [if_pos hp] at h
    exact absurd h (by decide)
  rw [if_neg hp] at h ⊢
  dsimp only at h ⊢
  by_cases hb : dgs (cut1 (Lib.trimPrefix s [45]) 46).1 1 15 = false ∨ (1 < (cut1 (Lib.trimPrefix s [45]) 46).1.length ∧ (cut1 (Lib.trimPrefix s [45]) 46).1.head? = some 48) ∨ ((cut1 (Lib.trimPrefix s [45]) 46).2.2 = true ∧ dgs (cut1 (Lib.trimPrefix s [45]) 46).2.1 1 p = false)
  · rw [if_pos hb] at h
    exact absurd h (by decide)
  rw [if_neg hb] at h ⊢
  have hno := cut1_no (l := Lib.trimPrefix s [45]) (c := 46)
  have hl := trim_len s [45]
  have hl2 := cut1_len (Lib.trimPrefix s [45]) 46
  obtain ⟨c, hc⟩ : ∃ c, cut1 (Lib.trimPrefix s [45]) 46 = c := ⟨_, rfl⟩
  rw [hc] at h hb hno hl2 ⊢
  obtain ⟨a, b, pt⟩ := c
  dsimp only at h hb hno hl2 ⊢
  have ha : dgs a 1 15 = true := by
    cases hd : dgs a 1 15
    · exact absurd (.inl hd) hb
    · rfl
  obtain ⟨a1, a2, a3⟩ := dgs_iff.1 ha
  have hbb : b.all isD = true ∧ b.length ≤ 9 := by
    cases pt
    · rw [hno rfl]
      exact ⟨rfl, Nat.zero_le _⟩
    · cases hd : dgs b 1 p
      · exact absurd (.inr (.inr ⟨rfl, hd⟩)) hb
      · obtain ⟨-, h2, h3⟩ := dgs_iff.1 hd
        exact ⟨h3, by omega⟩
  refine ⟨?_, fun h0 => by subst h0; rw [List.length_nil] at hl; omega⟩
  unfold prsB at h ⊢
  dsimp only at h ⊢
  by_cases hz : Lib.hasPrefix s [45] = true ∧ numL a * 10 ^ b.length + numL b = 0
  · rw [if_pos hz] at h
    exact absurd h (by decide)
  rw [if_neg hz]
  have hn1 : numL a < 10 ^ 15 := by
    have h1 := numL_lt a a3
    have h2 : 10 ^ a.length ≤ 10 ^ 15 := Nat.pow_le_pow_right (by decide) (by omega)
    omega
  have hm1 := numL_lt b hbb.1
  have ht := ten_le hbb.2
  have ht0 : 0 < 10 ^ b.length := Nat.pow_pos (by decide)
  generalize 10 ^ b.length = T at *
  have hv : numL a * T + numL b < 10 ^ 25 := by
    have := Nat.mul_le_mul (show numL a ≤ 10 ^ 15 by omega) ht
    omega
  have hbig := bp15_big
  split
  · exact (mkR_ok (by omega) (by omega) (by omega)).2
  · exact (mkR_ok (by omega) (by omega) (by omega)).2
def pctR (s : List UInt8) : Int × Int × Int :=
  let t := Lib.trimSuffix s [37]
  let r := prsR t 6
  if Lib.hasSuffix s [37] = false ∨ r.2.2 ≠ 0 ∨ t.head? = some 45 then (0, 0, 32) else mkR r.1 (r.2.1 * 100)
set_option maxRecDepth 100000 in
theorem percent_any (s : List UInt8) (hs : s.length ≤ 9223372036854775807) {r : Int × Int × Int} (hr : pctR s = r) (w : World) : Calls Tryz.prog 21 #[.string (bs s)] w (RetB (.tuple #[.agg (RC r.1 r.2.1), .int .i64 r.2.2]) w) := by
  have F := Fr.start w
  have g1 := fun w => cutSuffix_any s 37 hs w
  unfold pctR at hr
  dsimp only at hr
  have hl : (Lib.trimSuffix s [37]).length ≤ s.length := by
    unfold Lib.trimSuffix
    split
    · rw [List.length_take]; omega
    · omega
  obtain ⟨t, ht⟩ : ∃ t, Lib.trimSuffix s [37] = t := ⟨_, rfl⟩
  obtain ⟨ok, hok⟩ : ∃ ok, Lib.hasSuffix s [37] = ok := ⟨_, rfl⟩
  rw [ht] at g1 hr hl
  rw [hok] at g1 hr
  have g2 := fun w => parse_any t 6 (by omega) rfl w
  have hpv := prs_valid (s := t) (p := 6)
  obtain ⟨q, hq⟩ : ∃ q, prsR t 6 = q := ⟨_, rfl⟩
  rw [hq] at g2 hr hpv
  obtain ⟨n, d, e⟩ := q
  dsimp only at g2 hr hpv
  have HR := Lib.hid hr
  have HP := Lib.hid hpv
  clear hr hpv ht hok hq hl hs
  go_enter Tryz.func21, Tryz.ntmps21
  go_wp2_with (first | go_skip | ((with_reducible apply fL F); exact rfl; exact rfl; (exact tL); (exact tR2)) | ((with_reducible apply fA_rat F); exact rfl) | ((with_reducible apply fS F); exact rfl; exact rfl; exact rfl; (exact tL); (exact tR2); (exact tS2); clear F; intro W F; simp only [z7, z8] at F) | ((with_reducible apply fB_rat0); exact rfl))
  (clear F; intro b2 W F; try simp only [Act.put, z6, z1, z2])
  go_wp2_with (first | go_skip | ((go_at_call 66); (with_reducible refine fr_call F (g1 _) ?_); (clear F; intro W F); (try dsimp only)) | ((go_at_call 19); (with_reducible refine fr_call F (g2 _) ?_); (clear F; intro W F); (try dsimp only)) | ((with_reducible apply fL F); exact rfl; exact rfl; (exact tL); (exact tR2)) | ((with_reducible apply fA_rat F); exact rfl) | ((with_reducible apply fS F); exact rfl; exact rfl; exact rfl; (exact tL); (exact tR2); (exact tS2); clear F; intro W F; simp only [z7, z8] at F) | ((with_reducible apply fB_rat0); exact rfl))
  (clear F; intro b6 W F; try simp only [Act.put, z6, z1, z2])
  cases ok
  · have hr := HR.out
    rw [if_pos (.inl rfl)] at hr
    subst hr
    clear HR HP
    go_wp2_with (first | go_skip | ((with_reducible apply fL F); exact rfl; exact rfl; (exact tL); (exact tR2)) | ((with_reducible apply fA_rat F); exact rfl) | ((with_reducible apply fS F); exact rfl; exact rfl; exact rfl; (exact tL); (exact tR2); (exact tS2); clear F; intro W F; simp only [z7, z8] at F) | ((with_reducible apply fB_rat0); exact rfl))
    exact bodyPost_ret (res_cs rfl rfl rfl (Fr.get F tL) (rowRC _ _)) rfl ⟨rfl, F.below⟩
  by_cases he : ¬ e = 0
  · have hr := HR.out
    rw [if_pos (.inr (.inl he))] at hr
    subst hr
    clear HR HP
    go_wp2_with (first | go_skip | ((with_reducible apply fL F); exact rfl; exact rfl; (exact tL); (exact tR2)) | ((with_reducible apply fA_rat F); exact rfl) | ((with_reducible apply fS F); exact rfl; exact rfl; exact rfl; (exact tL); (exact tR2); (exact tS2); clear F; intro W F; simp only [z7, z8] at F) | ((with_reducible apply fB_rat0); exact rfl))
    exact bodyPost_ret (res_cs rfl rfl rfl (Fr.get F tL) (rowRC _ _)) rfl ⟨rfl, F.below⟩
  rw [Classical.not_not] at he
  obtain ⟨hv, h0⟩ := HP.out he
  subst he
  cases t with
  | nil => exact absurd rfl h0
  | cons x t =>
  have e1 := bs_at (l := x :: t) (i := 0) (by rw [bs_size]; simp) (by simp)
  obtain ⟨y, hy⟩ : ∃ y : Nat, x.toNat = y := ⟨_, rfl⟩
  have e2 : ((bs (x :: t))[0]'(by rw [bs_size]; simp)).toNat = y := (congrArg UInt8.toNat e1).trans hy
  have hx : (x :: t).head? = some 45 ↔ y = 45 := by
    rw [List.head?_cons, Option.some_inj, ← hy]
    exact ⟨fun h => by rw [h]; rfl, fun h => UInt8.toNat_inj.1 h⟩
  have HX := Lib.hid hx
  have sa := bs_size (x :: t)
  obtain ⟨la, hla⟩ : ∃ la, (x :: t).length = la := ⟨_, rfl⟩
  rw [hla] at sa
  have l0 : 0 < la := by rw [← hla]; simp
  have l0i : (0 : Int) < (la : Int) := by omega
  clear hx hy hla e1 h0 HP
  by_cases h45 : y = 45
  · have hr := HR.out
    rw [if_pos (.inr (.inr (HX.out.2 h45)))] at hr
    subst hr
    have ty : ((y : Int) == 45) = true := by rw [beq_iff_eq]; omega
    clear HR HX h45
    go_wp2_with (first | go_skip | ((with_reducible apply fL F); exact rfl; exact rfl; (exact tL); (exact tR2)) | ((with_reducible apply fA_rat F); exact rfl) | ((with_reducible apply fS F); exact rfl; exact rfl; exact rfl; (exact tL); (exact tR2); (exact tS2); clear F; intro W F; simp only [z7, z8] at F) | ((with_reducible apply fB_rat0); exact rfl))
    exact bodyPost_ret (res_cs rfl rfl rfl (Fr.get F tL) (rowRC _ _)) rfl ⟨rfl, F.below⟩
  have hr := HR.out
  rw [if_neg (by
    rintro (h | h | h)
    · exact absurd h (by decide)
    · exact h rfl
    · exact h45 (HX.out.1 h))] at hr
  have ty : ((y : Int) == 45) = false := by rw [beq_eq_false_iff_ne]; omega
  have g3 := fun w => wholeR (n := 100) (by decide) (by decide) w
  have g4 := fun w => quoZR hv (okZ_one (n := 100) (by unfold bp; decide)) (show mkR (n * 1) (d * 100) = r by rw [Int.mul_one]; exact hr) w
  clear HR HX h45 hr hv
  obtain ⟨rn, rd, re⟩ := r
  dsimp only at g4
  go_wp2_with (first | go_skip | ((with_reducible apply fL F); exact rfl; exact rfl; (exact tL); (exact tR2)) | ((with_reducible apply fA_rat F); exact rfl) | ((with_reducible apply fS F); exact rfl; exact rfl; exact rfl; (exact tL); (exact tR2); (exact tS2); clear F; intro W F; simp only [z7, z8] at F) | ((with_reducible apply fB_rat0); exact rfl))
  try simp only [Act.put, z6, z1, z2]
  refine wp_region_slots mixP [3, 30, 31, 32, 33, 34] (fun l mm W => ∃ (s3 s30 s31 s32 s33 s34 : Value) (c_b2 : Array Value), mm = [s3, s30, s31, s32, s33, s34] ∧ (l.getD 0 false = true → s30 = .agg (RC n d)) ∧ (l.getD 1 false = true → s31 = .agg (RC 100 1)) ∧ (l.getD 2 false = true → s32 = .tuple #[.agg (RC rn rd), .int .i64 re]) ∧ (l.getD 3 false = true → s33 = .agg (RC rn rd)) ∧ (l.getD 4 false = true → s34 = .int .i64 re) ∧ (l.getD 5 false = true → c_b2 = RC rn rd) ∧ (l.getD 6 false = true → s3 = .int .i64 re) ∧ c_b2.size = (RC rn rd).size ∧ Fr w W [(b6, RC n d, 31), (b2, c_b2, 31)]) (by kernel_rfl) rfl ?_ ?_ ?_
  · exact ⟨_, _, _, _, _, _, (RC 0 0), rfl, nf, nf, nf, nf, nf, nf, nf, by exact tS2, F.drew⟩
  · rintro listed mm W ii hi hsz hoff ⟨s3, s30, s31, s32, s33, s34, c_b2, rfl, h0, h1, h2, h3, h4, h5, h6, hz0, HF⟩ hd
    have hc : ii = 0 ∨ ii = 1 ∨ ii = 2 ∨ ii = 3 ∨ ii = 4 ∨ ii = 5 ∨ ii = 6 := by
      have hi2 : ii < 7 := hi
      omega
    have hsz2 : listed.size = 7 := hsz
    clear hi hsz
    rcases hc with rfl | rfl | rfl | rfl | rfl | rfl | rfl
    · refine wpOp_want rfl rfl (fun K hK => ?_)
      simp only [putAll, z1, z2, z3, z4, z5]
      with_reducible apply gL HF
      · exact rfl
      · (exact tL)
      · (first | (exact tR2))
      go_simp
      exact hK _ _ ⟨[s3, (.agg (RC n d)), s31, s32, s33, s34], by simp only [putAll, z1, z2], s3, (.agg (RC n d)), s31, s32, s33, s34, c_b2, rfl, fun _ => rfl, lk h1, lk h2, lk h3, lk h4, lk h5, lk h6, hz0, HF⟩
    · refine wpOp_want rfl rfl (fun K hK => ?_)
      simp only [putAll, z1, z2, z3, z4, z5]
      refine ⟨?_⟩
      go_simp
      with_reducible refine fr_call HF (g3 _) ?_
      clear HF
      intro W HF
      (try dsimp only)
      exact hK _ _ ⟨[s3, s30, (.agg (RC 100 1)), s32, s33, s34], by simp only [putAll, z1, z2], s3, s30, (.agg (RC 100 1)), s32, s33, s34, c_b2, rfl, lk h0, fun _ => rfl, lk h2, lk h3, lk h4, lk h5, lk h6, hz0, HF⟩
    · have d0 := h0 (hd 0 (by kernel_rfl))
      have d1 := h1 (hd 1 (by kernel_rfl))
      obtain rfl := d0
      obtain rfl := d1
      refine wpOp_want rfl rfl (fun K hK => ?_)
      simp only [putAll, z1, z2, z3, z4, z5]
      refine ⟨?_⟩
      go_simp
      with_reducible refine fr_call HF (g4 _) ?_
      clear HF
      intro W HF
      (try dsimp only)
      exact hK _ _ ⟨[s3, (.agg (RC n d)), (.agg (RC 100 1)), (.tuple #[.agg (RC rn rd), .int .i64 re]), s33, s34], by simp only [putAll, z1, z2], s3, (.agg (RC n d)), (.agg (RC 100 1)), (.tuple #[.agg (RC rn rd), .int .i64 re]), s33, s34, c_b2, rfl, lk h0, lk h1, fun _ => rfl, lk h3, lk h4, lk h5, lk h6, hz0, HF⟩
    · have d2 := h2 (hd 2 (by kernel_rfl))
      obtain rfl := d2
      refine wpOp_want rfl rfl (fun K hK => ?_)
      simp only [putAll, z1, z2, z3, z4, z5]
      refine ⟨?_⟩
      go_simp
      exact hK _ _ ⟨[s3, s30, s31, (.tuple #[.agg (RC rn rd), .int .i64 re]), (.agg (RC rn rd)), s34], by simp only [putAll, z1, z2], s3, s30, s31, (.tuple #[.agg (RC rn rd), .int .i64 re]), (.agg (RC rn rd)), s34, c_b2, rfl, lk h0, lk h1, lk h2, fun _ => rfl, lk h4, lk h5, lk h6, hz0, HF⟩
    · have d2 := h2 (hd 2 (by kernel_rfl))
      obtain rfl := d2
      refine wpOp_want rfl rfl (fun K hK => ?_)
      simp only [putAll, z1, z2, z3, z4, z5]
      refine ⟨?_⟩
      go_simp
      exact hK _ _ ⟨[s3, s30, s31, (.tuple #[.agg (RC rn rd), .int .i64 re]), s33, (.int .i64 re)], by simp only [putAll, z1, z2], s3, s30, s31, (.tuple #[.agg (RC rn rd), .int .i64 re]), s33, (.int .i64 re), c_b2, rfl, lk h0, lk h1, lk h2, lk h3, fun _ => rfl, lk h5, lk h6, hz0, HF⟩
    · have d3 := h3 (hd 3 (by kernel_rfl))
      obtain rfl := d3
      refine wpOp_want rfl rfl (fun K hK => ?_)
      simp only [putAll, z1, z2, z3, z4, z5]
      with_reducible apply gS HF
      · exact rfl
      · exact rfl
      · (exact tL)
      · (first | (exact tR2))
      · first | exact hz0 | exact tS2
      clear HF
      intro W HF
      simp only [z7, z8] at HF
      go_simp
      exact hK _ _ ⟨[s3, s30, s31, s32, (.agg (RC rn rd)), s34], by simp only [putAll, z1, z2], s3, s30, s31, s32, (.agg (RC rn rd)), s34, (RC rn rd), rfl, lk h0, lk h1, lk h2, lk h3, lk h4, fun _ => rfl, lk h6, rfl, HF⟩
    · have d4 := h4 (hd 4 (by kernel_rfl))
      obtain rfl := d4
      refine wpOp_want rfl rfl (fun K hK => ?_)
      simp only [putAll, z1, z2, z3, z4, z5]
      refine ⟨?_⟩
      go_simp
      exact hK _ _ ⟨[(.int .i64 re), s30, s31, s32, s33, (.int .i64 re)], by simp only [putAll, z1, z2], (.int .i64 re), s30, s31, s32, s33, (.int .i64 re), c_b2, rfl, lk h0, lk h1, lk h2, lk h3, lk h4, lk h5, fun _ => rfl, hz0, HF⟩
  rintro listed mm W ⟨s3, s30, s31, s32, s33, s34, c_b2, rfl, h0, h1, h2, h3, h4, h5, h6, hz0, HF⟩ hall
  obtain rfl := h0 (hall 0 (by decide))
  obtain rfl := h1 (hall 1 (by decide))
  obtain rfl := h2 (hall 2 (by decide))
  obtain rfl := h3 (hall 3 (by decide))
  obtain rfl := h4 (hall 4 (by decide))
  rw [h5 (hall 5 (by decide))] at HF
  obtain rfl := h6 (hall 6 (by decide))
  clear hall h0 h1 h2 h3 h4 h5 h6 hz0 F
  have F := HF
  clear HF
  simp only [putAll, z1, z2]
  go_wp2_with (first | go_skip | ((with_reducible apply fL F); exact rfl; exact rfl; (exact tL); (exact tR2)) | ((with_reducible apply fA_rat F); exact rfl) | ((with_reducible apply fS F); exact rfl; exact rfl; exact rfl; (exact tL); (exact tR2); (exact tS2); clear F; intro W F; simp only [z7, z8] at F) | ((with_reducible apply fB_rat0); exact rfl))
  exact bodyPost_ret (res_cs rfl rfl rfl (Fr.get F tL) (rowRC _ _)) rfl ⟨rfl, F.below⟩
end
section
section
open Go.RowKit
structure TapeAt (w : World) (B b n : Nat) : Prop where
  base : B ≤ b
  ex : ∃ (A : Option Addr) (L : List Int) (cap p : Nat), L.length ≤ 9223372036854775807 ∧ p + n ≤ 1000000000 ∧
    w.heap[b]? = some (.cells #[.slice A L.length cap, .int .i64 p] 25 (0, 0)) ∧
    ∀ k x, L[k]? = some x → ∃ bb o, A = some ⟨bb, o, none⟩ ∧ bb < B ∧ w.cell? ⟨bb, o + k, none⟩ = some (.int .i64 x)
theorem TapeAt.lt {w : World} {B b n : Nat} (h : TapeAt w B b n) : b < w.heap.size := by
  obtain ⟨_, A, L, cap, p, _, _, h, _⟩ := h
  exact (Array.getElem?_eq_some_iff.1 h).1
theorem TapeAt.keep {w w' : World} {B b n : Nat} (h : TapeAt w B b n) (h1 : ∀ k, k < B → w'.heap[k]? = w.heap[k]?) (h2 : w'.heap[b]? = w.heap[b]?) : TapeAt w' B b n := by
  obtain ⟨hb, A, L, cap, p, hl, hp, hc, he⟩ := h
  refine ⟨hb, A, L, cap, p, hl, hp, h2.trans hc, fun k x hx => ?_⟩
  obtain ⟨bb, o, hA, hlt, hcell⟩ := he k x hx
  exact ⟨bb, o, hA, hlt, (World.cell?_of_block (w := w) (h1 bb hlt)).trans hcell⟩
theorem TapeAt.below {w w' : World} {B b n : Nat} (h : TapeAt w B b n) (hb : Below w.heap.size w w') : TapeAt w' B b n :=
  h.keep (fun k hk => hb.block k (by have := h.lt; have := h.base; omega)) (hb.block b h.lt)
abbrev Only (b : Nat) (w w' : World) : Prop := w.grownBy w' (some b)
theorem only_refl (b : Nat) (w : World) : Only b w w := ⟨rfl, rfl, rfl, Nat.le_refl _, fun _ _ _ => rfl⟩
theorem only_trans {b : Nat} {x y z : World} (h : Only b x y) (k : Only b y z) : Only b x z :=
  ⟨k.os.trans h.os, k.tape.trans h.tape, k.output.trans h.output, Nat.le_trans h.size k.size, fun i hi hne => (k.block i (Nat.lt_of_lt_of_le hi h.size) hne).trans (h.block i hi hne)⟩
theorem only_below {b : Nat} {x y : World} (h : Below x.heap.size x y) : Only b x y := ⟨h.os, h.tape, h.output, h.size, fun i hi _ => h.block i hi⟩
theorem only_next {b : Nat} {x y z : World} (h : Only b x y) (k : Below y.heap.size y z) : Only b x z := only_trans h (only_below k)
end
end
section
open Go.RowKit
structure Tp (w0 u : World) (B b N : Nat) : Prop where
  only : Only b w0 u
  tape : TapeAt u B b N
section
variable {w0 u W W' : World} {L : List Ent} {B b N : Nat}
theorem Tp.start (h : TapeAt w0 B b N) : Tp w0 w0 B b N := ⟨only_refl _ _, h⟩
theorem Tp.out (h : Tp w0 u B b N) (F : Fr u W L) : Only b w0 W := only_next h.only F.below
end
end
section
open Go.RowKit
def bm (n m : Nat) : Array Bool := ⟨(List.range n).map fun i => m.testBit i⟩
theorem bm_none (n : Nat) : Array.replicate n false = bm n 0 := by
  apply Array.toList_inj.1
  unfold bm
  simp only [Array.toList_replicate, Nat.zero_testBit, List.map_const', List.length_range]
section
variable {P : Program} {md : Region.Mode} {ops : Array Oper} {Q : Exit → Act → World → Prop} {n m m' i fuel : Nat} {o : Oper} {a : Act} {w : World} {rs : List Nat}
theorem wp_region_bm {id : Nat} (n : Nat) (hm : P.follows .mixedOrders = true) (hn : ops.size = n) (h : wpAny P .any ops Q n (bm n 0) a w.drew) : (Code.region id ops true).wp P Q a w := by
  subst hn
  refine wp_region_any hm ?_
  rw [bm_none]
  exact h
theorem dg_ready (rs : List Nat) (hr : Region.ready md ops (bm n m) = rs) (hne : rs.isEmpty = false) (h : AllReady P md ops Q fuel (bm n m) a w rs) : wpAny P md ops Q (fuel + 1) (bm n m) a w :=
  wpAny_ready hr (by intro e; subst e; simp at hne) h
theorem dg_want (i m' : Nat) (ho : ops[i]? = some o) (hl : (bm n m).setIfInBounds i true = bm n m') (hw : Region.wanted o (yielded ops a.tmps) = true)
    (h : ∀ K : Act → World → Prop, (∀ a' w', wpAny P md ops Q fuel (bm n m') a' w' → K a' w') → OpW P o a w K Q) (hs : AllReady P md ops Q fuel (bm n m) a w rs) : AllReady P md ops Q fuel (bm n m) a w (i :: rs) :=
  AllReady.cons ho (fun K hK => by rw [if_pos hw]; rw [hl] at hK; exact (h K hK).out) hs
theorem dg_nil : AllReady P md ops Q fuel (bm n m) a w [] := AllReady.nil
theorem dg_one (i m' : Nat) (hr : Region.ready md ops (bm n m) = [i]) (ho : ops[i]? = some o) (hl : (bm n m).setIfInBounds i true = bm n m') (hw : Region.wanted o (yielded ops a.tmps) = true)
    (h : ∀ K : Act → World → Prop, (∀ a' w', wpAny P md ops Q fuel (bm n m') a' w' → K a' w') → OpW P o a w K Q) : wpAny P md ops Q (fuel + 1) (bm n m) a w :=
  dg_ready [i] hr rfl (dg_want i m' ho hl hw h dg_nil)
theorem dg_meet (f' m' : Nat) {w0 : World} {ts1 : List Value} {ds : List Deferred} {F' : List Ent} (h : (∀ W, Fr w0 W F' → wpAny P md ops Q f' (bm n m') ⟨⟨ts1⟩, ds⟩ W) → wpAny P md ops Q fuel (bm n m) a w) (hr : ∀ W, Fr w0 W F' → wpAny P md ops Q f' (bm n m') ⟨⟨ts1⟩, ds⟩ W) : wpAny P md ops Q fuel (bm n m) a w := h hr
theorem dg_end (hr : Region.ready md ops (bm n m) = []) (h : Q .normal a w) (f : Nat) : wpAny P md ops Q f (bm n m) a w := wpAny_done hr h f
end
end
section
open Go.RowKit
set_option maxHeartbeats 4000000
theorem makeOf_any {n d : Int} {r : Int × Int × Int} (h1 : -9223372036854775808 ≤ n) (h2 : n < 9223372036854775808) (h3 : -9223372036854775808 ≤ d) (h4 : d < 9223372036854775808) (hr : mkR n d = r) (w : World) : Calls Tryz.prog 11 #[.int .i64 n, .int .i64 d] w (RetB (.agg (RC r.1 r.2.1)) w) := by
  have F := Fr.start w
  have g1 := fun w => rofR h1 h2 h3 h4 hr w
  obtain ⟨rn, rd, re⟩ := r
  dsimp only at g1 ⊢
  clear h1 h2 h3 h4 hr
  go_enter Tryz.func11, Tryz.ntmps11
  go_wp2_with (first | go_skip | ((with_reducible apply fL F); exact rfl; exact rfl; (exact tL); (exact tR3)) | ((with_reducible apply fA_rat F); exact rfl) | ((with_reducible apply fS F); exact rfl; exact rfl; exact rfl; (exact tL); (exact tR3); (exact tS2); clear F; intro W F; simp only [z7, z8] at F))
  (clear F; intro b4 W F; try simp only [Act.put, z6, z1, z2])
  go_wp2_with (first | go_skip | ((go_at_call 48); (with_reducible refine fr_call F (g1 _) ?_); (clear F; intro W F); (try dsimp only)) | ((with_reducible apply fL F); exact rfl; exact rfl; (exact tL); (exact tR3)) | ((with_reducible apply fA_rat F); exact rfl) | ((with_reducible apply fS F); exact rfl; exact rfl; exact rfl; (exact tL); (exact tR3); (exact tS2); clear F; intro W F; simp only [z7, z8] at F))
  (clear F; intro b5 W F; try simp only [Act.put, z6, z1, z2])
  go_wp2_with (first | go_skip | ((with_reducible apply fL F); exact rfl; exact rfl; (exact tL); (exact tR3)) | ((with_reducible apply fA_rat F); exact rfl) | ((with_reducible apply fS F); exact rfl; exact rfl; exact rfl; (exact tL); (exact tR3); (exact tS2); clear F; intro W F; simp only [z7, z8] at F))
  exact bodyPost_ret (res_c rfl rfl (Fr.get F tL) (rowRC _ _)) rfl ⟨rfl, F.below⟩
end
section
open Go.RowKit
set_option maxHeartbeats 4000000
theorem k_of : mkR (-5) 2 = (-5, 2, 0) := by decide +kernel
theorem k_ri : rndI (okR (decide ((-5 : Int) < 0)) (Int.natAbs (-5)) (decide ((2 : Int) < 0)) (Int.natAbs 2)) (sZ (decide ((-5 : Int) < 0)) (Int.natAbs (-5))) (sZ (decide ((2 : Int) < 0)) (Int.natAbs 2)) 0 5 = (-3, 0) := by decide +kernel
theorem k_rj : rndI (okR (decide ((-5 : Int) < 0)) (Int.natAbs (-5)) (decide ((2 : Int) < 0)) (Int.natAbs 2)) (sZ (decide ((-5 : Int) < 0)) (Int.natAbs (-5))) (sZ (decide ((2 : Int) < 0)) (Int.natAbs 2)) 0 6 = (-2, 0) := by decide +kernel
theorem k_parse : prsR [48, 46, 53, 48] 2 = (1, 2, 0) := by decide +kernel
theorem k_pct : pctR [49, 46, 53, 37] = (3, 200, 0) := by decide +kernel
theorem k_fmt : fmtR (-5) 2 = ([45, 48, 46, 48, 53], 0) := by
  have h : Lib.decDigits 5 = [53] := Lib.decDigits_one (by decide)
  simp [fmtR, fmtL, h, pointL]
theorem k_o1 : mkR 1 2 = (1, 2, 0) := by decide +kernel
theorem k_o2 : mkR 3 200 = (3, 200, 0) := by decide +kernel
set_option maxRecDepth 100000 in
theorem known_any {w : World} (ht : Tab w) : Calls Tryz.prog 18 #[] w (RetB (.bool true) w) := by
  have F := Fr.start w
  have HT := Lib.hid ht
  clear ht
  have b1 : (Int.natAbs (-5)) < bp 32 := by decide
  have b2 : (Int.natAbs 2) < bp 32 := by decide
  have g1 := fun w => ofR (n := -5) (d := 2) (by decide) (by decide) (by decide) (by decide) k_of w
  have g2 : ∀ w, Calls Tryz.prog 17 #[.agg (RC (-5) 2), .int .i64 0, .int .i64 5] w (RetB (.tuple #[.int .i64 (-3), .int .i64 0]) w) := fun w => roundInt_any b1 b2 k_ri w
  have g3 : ∀ w, Calls Tryz.prog 17 #[.agg (RC (-5) 2), .int .i64 0, .int .i64 6] w (RetB (.tuple #[.int .i64 (-2), .int .i64 0]) w) := fun w => roundInt_any b1 b2 k_rj w
  have g4 : ∀ w, Calls Tryz.prog 19 #[.string ⟨#[48, 46, 53, 48]⟩, .int .i64 2] w (RetB (.tuple #[.agg (RC 1 2), .int .i64 0]) w) := fun w => parse_any [48, 46, 53, 48] 2 (by decide) k_parse w
  have g5 : ∀ W L, Fr w W L → Calls Tryz.prog 41 #[.int .i64 (-5), .int .i64 2] W (RetB (.tuple #[.string ⟨#[45, 48, 46, 48, 53]⟩, .int .i64 0]) W) := fun W L F => format_any (-5) 2 k_fmt (HT.out.next F.below)
  have g6 : ∀ w, Calls Tryz.prog 21 #[.string ⟨#[49, 46, 53, 37]⟩] w (RetB (.tuple #[.agg (RC 3 200), .int .i64 0]) w) := fun w => percent_any [49, 46, 53, 37] (by decide) k_pct w
  have g7 := fun w => makeOf_any (n := 1) (d := 2) (by decide) (by decide) (by decide) (by decide) k_o1 w
  have g8 := fun w => makeOf_any (n := 3) (d := 200) (by decide) (by decide) (by decide) (by decide) k_o2 w
  have q1 := fun w => eq_RC (n := 1) (d := 2) (n' := 1) (d' := 2) (by decide) (by decide) (by decide) (by decide) w
  have q2 := fun w => eq_RC (n := 3) (d := 200) (n' := 3) (d' := 200) (by decide) (by decide) (by decide) (by decide) w
  clear b1 b2
  go_enter Tryz.func18, Tryz.ntmps18
  go_wp2_with (first | go_skip | ((go_at_call 55); (with_reducible refine fr_call F (g1 _) ?_); (clear F; intro W F); (try dsimp only)) | ((with_reducible apply fL F); exact rfl; exact rfl; (exact tL); (exact tR3)) | ((with_reducible apply fA_rat F); exact rfl) | ((with_reducible apply fS F); exact rfl; exact rfl; exact rfl; (exact tL); (exact tR3); (exact tS2); clear F; intro W F; simp only [z7, z8] at F))
  (clear F; intro b1 W F; try simp only [Act.put, z6, z1, z2])
  go_wp2_with (first | go_skip | ((go_at_call 17); (with_reducible refine fr_call F (g2 _) ?_); (clear F; intro W F); (try dsimp only)) | ((go_at_call 17); (with_reducible refine fr_call F (g3 _) ?_); (clear F; intro W F); (try dsimp only)) | ((go_at_call 19); (with_reducible refine fr_call F (g4 _) ?_); (clear F; intro W F); (try dsimp only)) | ((with_reducible apply fL F); exact rfl; exact rfl; (exact tL); (exact tR3)) | ((with_reducible apply fA_rat F); exact rfl) | ((with_reducible apply fS F); exact rfl; exact rfl; exact rfl; (exact tL); (exact tR3); (exact tS2); clear F; intro W F; simp only [z7, z8] at F))
  (clear F; intro b7 W F; try simp only [Act.put, z6, z1, z2])
  go_wp2_with (first | go_skip | ((go_at_call 41); (with_reducible refine fr_call F (g5 _ _ F) ?_); (clear F; intro W F); (try dsimp only)) | ((go_at_call 21); (with_reducible refine fr_call F (g6 _) ?_); (clear F; intro W F); (try dsimp only)) | ((with_reducible apply fL F); exact rfl; exact rfl; (exact tL); (exact tR3)) | ((with_reducible apply fA_rat F); exact rfl) | ((with_reducible apply fS F); exact rfl; exact rfl; exact rfl; (exact tL); (exact tR3); (exact tS2); clear F; intro W F; simp only [z7, z8] at F))
  (clear F; intro b11 W F; try simp only [Act.put, z6, z1, z2])
  go_wp2_with (first | go_skip | ((with_reducible apply fL F); exact rfl; exact rfl; (exact tL); (exact tR3)) | ((with_reducible apply fA_rat F); exact rfl) | ((with_reducible apply fS F); exact rfl; exact rfl; exact rfl; (exact tL); (exact tR3); (exact tS2); clear F; intro W F; simp only [z7, z8] at F))
  try simp only [Act.put, z6, z1, z2]
  refine wp_region_bm 41 (by kernel_rfl) rfl ?_
  replace F := F.drew
  revert F
  generalize World.drew _ = W
  intro F
  refine dg_one 0 1 (by kernel_rfl) rfl (by kernel_rfl) rfl (fun K hK => ?_)
  (simp only [z3, z4, z5])
  ((refine ⟨?_⟩); go_simp)
  (refine hK _ _ ?_; clear hK K)
  refine dg_one 1 3 (by kernel_rfl) rfl (by kernel_rfl) rfl (fun K hK => ?_)
  (simp only [z3, z4, z5])
  ((refine ⟨?_⟩); go_simp)
  (refine hK _ _ ?_; clear hK K)
  refine dg_one 2 7 (by kernel_rfl) rfl (by kernel_rfl) rfl (fun K hK => ?_)
  (simp only [z3, z4, z5])
  ((refine ⟨?_⟩); go_simp)
  (refine hK _ _ ?_; clear hK K)
  refine dg_one 3 15 (by kernel_rfl) rfl (by kernel_rfl) rfl (fun K hK => ?_)
  (simp only [z3, z4, z5])
  ((refine ⟨?_⟩); go_simp)
  (refine hK _ _ ?_; clear hK K)
  refine dg_one 4 31 (by kernel_rfl) rfl (by kernel_rfl) rfl (fun K hK => ?_)
  (simp only [z3, z4, z5])
  ((refine ⟨?_⟩); go_simp)
  (refine hK _ _ ?_; clear hK K)
  refine dg_one 5 63 (by kernel_rfl) rfl (by kernel_rfl) rfl (fun K hK => ?_)
  (simp only [z3, z4, z5])
  ((refine ⟨?_⟩); go_simp)
  (refine hK _ _ ?_; clear hK K)
  refine dg_one 6 127 (by kernel_rfl) rfl (by kernel_rfl) rfl (fun K hK => ?_)
  (simp only [z3, z4, z5])
  ((refine ⟨?_⟩); go_simp)
  (refine hK _ _ ?_; clear hK K)
  refine dg_one 7 255 (by kernel_rfl) rfl (by kernel_rfl) rfl (fun K hK => ?_)
  (simp only [z3, z4, z5])
  ((refine ⟨?_⟩); go_simp)
  (refine hK _ _ ?_; clear hK K)
  refine dg_one 8 511 (by kernel_rfl) rfl (by kernel_rfl) rfl (fun K hK => ?_)
  (simp only [z3, z4, z5])
  ((refine ⟨?_⟩); go_simp)
  (refine hK _ _ ?_; clear hK K)
  refine dg_one 9 1023 (by kernel_rfl) rfl (by kernel_rfl) rfl (fun K hK => ?_)
  (simp only [z3, z4, z5])
  ((refine ⟨?_⟩); go_simp)
  (refine hK _ _ ?_; clear hK K)
  refine dg_one 10 2047 (by kernel_rfl) rfl (by kernel_rfl) rfl (fun K hK => ?_)
  (simp only [z3, z4, z5])
  ((refine ⟨?_⟩); go_simp)
  (refine hK _ _ ?_; clear hK K)
  refine dg_one 11 4095 (by kernel_rfl) rfl (by kernel_rfl) rfl (fun K hK => ?_)
  (simp only [z3, z4, z5])
  ((refine ⟨?_⟩); go_simp)
  (refine hK _ _ ?_; clear hK K)
  refine dg_one 12 8191 (by kernel_rfl) rfl (by kernel_rfl) rfl (fun K hK => ?_)
  (simp only [z3, z4, z5])
  ((refine ⟨?_⟩); go_simp)
  (refine hK _ _ ?_; clear hK K)
  refine dg_one 13 16383 (by kernel_rfl) rfl (by kernel_rfl) rfl (fun K hK => ?_)
  (simp only [z3, z4, z5])
  ((refine ⟨?_⟩); go_simp)
  (refine hK _ _ ?_; clear hK K)
  refine dg_one 14 32767 (by kernel_rfl) rfl (by kernel_rfl) rfl (fun K hK => ?_)
  (simp only [z3, z4, z5])
  ((refine ⟨?_⟩); go_simp)
  (refine hK _ _ ?_; clear hK K)
  refine dg_one 15 65535 (by kernel_rfl) rfl (by kernel_rfl) rfl (fun K hK => ?_)
  (simp only [z3, z4, z5])
  ((refine ⟨?_⟩); go_simp)
  (refine hK _ _ ?_; clear hK K)
  refine dg_one 16 131071 (by kernel_rfl) rfl (by kernel_rfl) rfl (fun K hK => ?_)
  (simp only [z3, z4, z5])
  ((refine ⟨?_⟩); go_simp)
  (refine hK _ _ ?_; clear hK K)
  refine dg_one 17 262143 (by kernel_rfl) rfl (by kernel_rfl) rfl (fun K hK => ?_)
  (simp only [z3, z4, z5])
  ((refine ⟨?_⟩); go_simp)
  (refine hK _ _ ?_; clear hK K)
  refine dg_one 18 524287 (by kernel_rfl) rfl (by kernel_rfl) rfl (fun K hK => ?_)
  (simp only [z3, z4, z5])
  ((refine ⟨?_⟩); go_simp)
  (refine hK _ _ ?_; clear hK K)
  apply dg_meet (f' := 20) (m' := 2097151)
  · intro M
    refine dg_ready [19, 20] (by kernel_rfl) rfl ?_
    refine dg_want 19 1048575 rfl (by kernel_rfl) rfl (fun K hK => ?_) ?_
    · skip
      (simp only [z3, z4, z5])
      (first | ((with_reducible apply gL F); exact rfl; (exact tL); (exact tR3); go_simp) | ((refine ⟨?_⟩); go_simp))
      (refine hK _ _ ?_; clear hK K)
      refine dg_one 20 2097151 (by kernel_rfl) rfl (by kernel_rfl) rfl (fun K hK => ?_)
      (simp only [z3, z4, z5])
      ((refine ⟨?_⟩); go_simp; (first | ((with_reducible refine fr_call F (g7 _) ?_); (try clear F); (intro W F); (try dsimp only)) | ((with_reducible refine fr_call F (g8 _) ?_); (try clear F); (intro W F); (try dsimp only)) | skip))
      (refine hK _ _ ?_; clear hK K)
      exact M _ F
    refine dg_want 20 1572863 rfl (by kernel_rfl) rfl (fun K hK => ?_) ?_
    · skip
      (simp only [z3, z4, z5])
      ((refine ⟨?_⟩); go_simp; (first | ((with_reducible refine fr_call F (g7 _) ?_); (try clear F); (intro W F); (try dsimp only)) | ((with_reducible refine fr_call F (g8 _) ?_); (try clear F); (intro W F); (try dsimp only)) | skip))
      (refine hK _ _ ?_; clear hK K)
      refine dg_one 19 2097151 (by kernel_rfl) rfl (by kernel_rfl) rfl (fun K hK => ?_)
      (simp only [z3, z4, z5])
      (first | ((with_reducible apply gL F); exact rfl; (exact tL); (exact tR3); go_simp) | ((refine ⟨?_⟩); go_simp))
      (refine hK _ _ ?_; clear hK K)
      exact M _ F
    exact dg_nil
  clear F
  intro W F
  refine dg_one 21 4194303 (by kernel_rfl) rfl (by kernel_rfl) rfl (fun K hK => ?_)
  (simp only [z3, z4, z5])
  ((refine ⟨?_⟩); go_simp)
  (refine hK _ _ ?_; clear hK K)
  refine dg_one 22 8388607 (by kernel_rfl) rfl (by kernel_rfl) rfl (fun K hK => ?_)
  (simp only [z3, z4, z5])
  ((refine ⟨?_⟩); go_simp)
  (refine hK _ _ ?_; clear hK K)
  refine dg_one 23 16777215 (by kernel_rfl) rfl (by kernel_rfl) rfl (fun K hK => ?_)
  (simp only [z3, z4, z5])
  ((refine ⟨?_⟩); go_simp)
  (refine hK _ _ ?_; clear hK K)
  refine dg_one 24 33554431 (by kernel_rfl) rfl (by kernel_rfl) rfl (fun K hK => ?_)
  (simp only [z3, z4, z5])
  ((refine ⟨?_⟩); go_simp)
  (refine hK _ _ ?_; clear hK K)
  refine dg_one 25 67108863 (by kernel_rfl) rfl (by kernel_rfl) rfl (fun K hK => ?_)
  (simp only [z3, z4, z5])
  ((refine ⟨?_⟩); go_simp)
  (refine hK _ _ ?_; clear hK K)
  refine dg_one 26 134217727 (by kernel_rfl) rfl (by kernel_rfl) rfl (fun K hK => ?_)
  (simp only [z3, z4, z5])
  ((refine ⟨?_⟩); go_simp)
  (refine hK _ _ ?_; clear hK K)
  refine dg_one 27 268435455 (by kernel_rfl) rfl (by kernel_rfl) rfl (fun K hK => ?_)
  (simp only [z3, z4, z5])
  ((refine ⟨?_⟩); go_simp)
  (refine hK _ _ ?_; clear hK K)
  refine dg_one 28 536870911 (by kernel_rfl) rfl (by kernel_rfl) rfl (fun K hK => ?_)
  (simp only [z3, z4, z5])
  ((refine ⟨?_⟩); go_simp)
  (refine hK _ _ ?_; clear hK K)
  refine dg_one 29 1073741823 (by kernel_rfl) rfl (by kernel_rfl) rfl (fun K hK => ?_)
  (simp only [z3, z4, z5])
  ((refine ⟨?_⟩); go_simp)
  (refine hK _ _ ?_; clear hK K)
  refine dg_one 30 2147483647 (by kernel_rfl) rfl (by kernel_rfl) rfl (fun K hK => ?_)
  (simp only [z3, z4, z5])
  ((refine ⟨?_⟩); go_simp)
  (refine hK _ _ ?_; clear hK K)
  refine dg_one 31 4294967295 (by kernel_rfl) rfl (by kernel_rfl) rfl (fun K hK => ?_)
  (simp only [z3, z4, z5])
  ((refine ⟨?_⟩); go_simp)
  (refine hK _ _ ?_; clear hK K)
  refine dg_one 32 8589934591 (by kernel_rfl) rfl (by kernel_rfl) rfl (fun K hK => ?_)
  (simp only [z3, z4, z5])
  ((refine ⟨?_⟩); go_simp)
  (refine hK _ _ ?_; clear hK K)
  refine dg_one 33 17179869183 (by kernel_rfl) rfl (by kernel_rfl) rfl (fun K hK => ?_)
  (simp only [z3, z4, z5])
  ((refine ⟨?_⟩); go_simp)
  (refine hK _ _ ?_; clear hK K)
  refine dg_one 34 34359738367 (by kernel_rfl) rfl (by kernel_rfl) rfl (fun K hK => ?_)
  (simp only [z3, z4, z5])
  ((refine ⟨?_⟩); go_simp)
  (refine hK _ _ ?_; clear hK K)
  refine dg_one 35 68719476735 (by kernel_rfl) rfl (by kernel_rfl) rfl (fun K hK => ?_)
  (simp only [z3, z4, z5])
  ((refine ⟨?_⟩); go_simp)
  (refine hK _ _ ?_; clear hK K)
  apply dg_meet (f' := 3) (m' := 274877906943)
  · intro M
    refine dg_ready [36, 37] (by kernel_rfl) rfl ?_
    refine dg_want 36 137438953471 rfl (by kernel_rfl) rfl (fun K hK => ?_) ?_
    · skip
      (simp only [z3, z4, z5])
      (first | ((with_reducible apply gL F); exact rfl; (exact tL); (exact tR3); go_simp) | ((refine ⟨?_⟩); go_simp))
      (refine hK _ _ ?_; clear hK K)
      refine dg_one 37 274877906943 (by kernel_rfl) rfl (by kernel_rfl) rfl (fun K hK => ?_)
      (simp only [z3, z4, z5])
      ((refine ⟨?_⟩); go_simp; (first | ((with_reducible refine fr_call F (g7 _) ?_); (try clear F); (intro W F); (try dsimp only)) | ((with_reducible refine fr_call F (g8 _) ?_); (try clear F); (intro W F); (try dsimp only)) | skip))
      (refine hK _ _ ?_; clear hK K)
      exact M _ F
    refine dg_want 37 206158430207 rfl (by kernel_rfl) rfl (fun K hK => ?_) ?_
    · skip
      (simp only [z3, z4, z5])
      ((refine ⟨?_⟩); go_simp; (first | ((with_reducible refine fr_call F (g7 _) ?_); (try clear F); (intro W F); (try dsimp only)) | ((with_reducible refine fr_call F (g8 _) ?_); (try clear F); (intro W F); (try dsimp only)) | skip))
      (refine hK _ _ ?_; clear hK K)
      refine dg_one 36 274877906943 (by kernel_rfl) rfl (by kernel_rfl) rfl (fun K hK => ?_)
      (simp only [z3, z4, z5])
      (first | ((with_reducible apply gL F); exact rfl; (exact tL); (exact tR3); go_simp) | ((refine ⟨?_⟩); go_simp))
      (refine hK _ _ ?_; clear hK K)
      exact M _ F
    exact dg_nil
  clear F
  intro W F
  refine dg_one 38 549755813887 (by kernel_rfl) rfl (by kernel_rfl) rfl (fun K hK => ?_)
  (simp only [z3, z4, z5])
  ((refine ⟨?_⟩); go_simp)
  (refine hK _ _ ?_; clear hK K)
  refine dg_one 39 1099511627775 (by kernel_rfl) rfl (by kernel_rfl) rfl (fun K hK => ?_)
  (simp only [z3, z4, z5])
  ((refine ⟨?_⟩); go_simp)
  (refine hK _ _ ?_; clear hK K)
  refine dg_one 40 2199023255551 (by kernel_rfl) rfl (by kernel_rfl) rfl (fun K hK => ?_)
  (simp only [z3, z4, z5])
  ((refine ⟨?_⟩); go_simp)
  (refine hK _ _ ?_; clear hK K)
  refine dg_end (by kernel_rfl) ?_ _
  go_wp2_with (first | go_skip | ((with_reducible apply fL F); exact rfl; exact rfl; (exact tL); (exact tR3)) | ((with_reducible apply fA_rat F); exact rfl) | ((with_reducible apply fS F); exact rfl; exact rfl; exact rfl; (exact tL); (exact tR3); (exact tS2); clear F; intro W F; simp only [z7, z8] at F))
  go_ret
  exact ⟨rfl, F.below⟩
end
section
section
open Go.ChangeShapes Go.WideShapes Go.ChangeAt Go.RowKit Go.Deep
theorem own : ownKnob Tryz.prog.godebug = none := by kernel_rfl
theorem laidOut : laidOutB Tryz.prog = true := by kernel_rfl
section
variable {H : Type} {enc : TypeId × Value → H}
theorem trodAll_below {P : Program} (hl : laidOutB P = true) {W W' : World} (hb : Below W.heap.size W W') : ∀ {ts : List TypeId} {vs : List Value} {ds : List (DataW H)} {ps : List MemPlace},
    (∀ t ∈ ts, P.readableRec t = true ∧ t < P.types.size) → DataW.TrodAll enc P W 0 (fun _ => true) true ts vs ds ps → (∀ x ∈ ps, x.block < W.heap.size) →
    DataW.TrodAll enc P W' 0 (fun b => decide (b < W.heap.size)) true ts vs ds ps
  | [], [], [], _, _, h, _ => h
  | t :: _, _ :: _, _ :: _, _, hT, ⟨p, q, h1, h2, e⟩, hs =>
    ⟨p, q, Below.trod hl (hT t (by simp)).1 (hT t (by simp)).2 h1 hb (fun x hx => hs x (by rw [e]; exact List.mem_append_left _ hx)),
      trodAll_below hl hb (fun u hu => hT u (by simp [hu])) h2 (fun x hx => hs x (by rw [e]; exact List.mem_append_right _ hx)), e⟩
theorem law_post {f : Func} {s : ChangeSpec} {W W' : World} {args : Array Value} {ds : List (DataW H)} {before : List MemPlace} {e : Ending}
    (hv : s.vars = []) (hs : s.fn H ds = { results := [.lit (.bool true)], args := ds })
    (hT0 : (f.params.toList.all fun t => Tryz.prog.readableRec t && decide (t < Tryz.prog.types.size)) = true) (hR : f.resultTypes = #[4])
    (hW : DataW.Whole enc Tryz.prog f.params.toList s.vars false W args.toList ds [] before) (h : RetB (.bool true) W e W') :
    ∃ v, e = .returned v ∧ s.post enc Tryz.prog f false true false false W args v W' := by
  have hT : ∀ t ∈ f.params.toList, Tryz.prog.readableRec t = true ∧ t < Tryz.prog.types.size := fun t ht => by
    have := List.all_eq_true.1 hT0 t ht
    simpa using this
  obtain ⟨he, hb⟩ := h
  have hlt := hW.lt
  refine ⟨_, he, ds, [], before, [], before, [], hW, ?_, ?_, ?_, ?_, fun h => by cases h⟩
  · rw [hR]
    simp only [List.append_nil, hs]
    exact trodAll_mk1 (shut_bool Tryz.underlying4 _)
  · obtain ⟨p, q, hA, hV, rfl, _, _⟩ := hW
    rw [hv] at hV
    obtain ⟨_, rfl⟩ := trodVars_none hV
    simp only [List.append_nil, hs]
    have hA' : DataW.TrodAll enc Tryz.prog W 0 (fun _ => true) true f.params.toList args.toList ds p := hA
    exact trodAll_below laidOut hb hT hA' (fun x hx => hlt x (by simpa using hx))
  · simp only [List.append_nil, hs, hv]
    rfl
  · exact hb.frame _
end
end
end
section
open Go.ChangeShapes Go.WideShapes Go.ChangeAt Go.RowKit Go.Deep
theorem gP10 : Tryz.prog.globalNamed "internal/strconv.uint64pow10" = some 4 := by kernel_rfl
end
section
def hH : List Char := [104, 97, 114, 110, 101, 115, 115].map Char.ofNat
def hS : List Char := [101, 49, 52, 102, 50, 101, 99, 98, 56, 48, 101, 53, 99, 50, 48, 48, 57, 50, 101, 55, 48, 53, 55, 53, 55, 50, 54, 50, 53, 56, 55, 54, 97, 50, 57, 49, 101, 48, 97, 53, 101, 98, 55, 51, 100, 101, 51, 99, 53, 100, 54, 54, 54, 54, 57, 50, 54, 55, 98, 50, 97, 49, 54, 56].map Char.ofNat
def hC : List Char := [99, 117, 116].map Char.ofNat
def hQ : List Char := [97, 116, 32, 102, 117, 110, 100, 97, 100, 109, 105, 110, 47, 102, 117, 110, 100, 97, 100, 109, 105, 110, 108, 97, 119, 48, 51, 46, 68, 101, 99, 105, 109, 97, 108, 77, 111, 110, 111, 116, 111, 110, 101, 32, 102, 117, 110, 100, 97, 100, 109, 105, 110, 47, 102, 117, 110, 100, 97, 100, 109, 105, 110, 108, 97, 119, 48, 51, 46, 68, 101, 99, 105, 109, 97, 108, 84, 101, 120, 116, 115, 32, 102, 117, 110, 100, 97, 100, 109, 105, 110, 47, 102, 117, 110, 100, 97, 100, 109, 105, 110, 108, 97, 119, 48, 51, 46, 68, 101, 99, 105, 109, 97, 108, 82, 101, 97, 100, 115, 32, 102, 117, 110, 100, 97, 100, 109, 105, 110, 47, 102, 117, 110, 100, 97, 100, 109, 105, 110, 108, 97, 119, 48, 51, 46, 68, 101, 99, 105, 109, 97, 108, 69, 120, 97, 99, 116, 32, 102, 117, 110, 100, 97, 100, 109, 105, 110, 47, 102, 117, 110, 100, 97, 100, 109, 105, 110, 108, 97, 119, 48, 51, 46, 68, 101, 99, 105, 109, 97, 108, 82, 111, 117, 110, 100, 115, 32, 102, 117, 110, 100, 97, 100, 109, 105, 110, 47, 102, 117, 110, 100, 97, 100, 109, 105, 110, 108, 97, 119, 48, 51, 46, 68, 101, 99, 105, 109, 97, 108, 78, 101, 97, 114, 32, 102, 117, 110, 100, 97, 100, 109, 105, 110, 47, 102, 117, 110, 100, 97, 100, 109, 105, 110, 108, 97, 119, 48, 51, 46, 68, 101, 99, 105, 109, 97, 108, 70, 111, 114, 109, 97, 116, 115, 32, 102, 117, 110, 100, 97, 100, 109, 105, 110, 47, 102, 117, 110, 100, 97, 100, 109, 105, 110, 108, 97, 119, 48, 51, 46, 68, 101, 99, 105, 109, 97, 108, 66, 97, 99, 107].map Char.ofNat
def hB : Char := Char.ofNat 32
theorem ord_eq : Tryz.prog.initOrder = String.ofList (hH ++ hB :: (hS ++ hB :: (hC ++ hB :: hQ))) := by kernel_rfl
theorem ord_list : Tryz.prog.initOrder.toList = hH ++ hB :: (hS ++ hB :: (hC ++ hB :: hQ)) := by rw [ord_eq]; exact String.toList_ofList
theorem words_app (p r : List Char) (h : p.all (fun c => decide (c ≠ hB)) = true) : wordsSigns (p ++ hB :: r) = p :: wordsSigns r := by
  induction p with
  | nil => rfl
  | cons c p ih =>
    simp only [List.all_cons, Bool.and_eq_true, decide_eq_true_eq] at h
    have ih' := ih h.2
    show wordsSigns (c :: (p ++ hB :: r)) = (c :: p) :: wordsSigns r
    rw [wordsSigns.eq_def]
    split
    · rename_i hh; cases hh
    · rename_i r' hh
      injection hh with h1 h2
      exact absurd h1 h.1
    · rename_i c' r' _ hh
      injection hh with h1 h2
      subst h1 h2
      rw [ih']
theorem behind_at (h : List Char) (t : List Char) (r : List (List Char)) (hh : ((h == "harness".toList || h == "ownmain".toList) && isSumSigns t) = true) : behindMainWord (h :: t :: r) = r := by
  show (if ((h == "harness".toList || h == "ownmain".toList) && isSumSigns t) = true then r else h :: t :: r) = r
  rw [if_pos hh]
theorem behind : behindMainWord (wordsSigns Tryz.prog.initOrder.toList) = hC :: wordsSigns hQ := by
  rw [ord_list, words_app _ _ (by decide +kernel), words_app _ _ (by decide +kernel), words_app _ _ (by decide +kernel)]
  exact behind_at _ _ _ (by decide +kernel)
theorem st1 (o : String) (os : List String) (w : List Char) (ws : List (List Char)) (h : (w == o.toList) = false) : stripLifts (o :: os) (w :: ws) = stripLifts os (w :: ws) := by
  rw [stripLifts, h]; rfl
theorem strip_cut (ws : List (List Char)) : stripLifts liftWords (hC :: ws) = ([], hC :: ws) := by
  show stripLifts ["finals", "reflectrows", "leanrows", "onebuild", "publicsums", "eqguard", "ownunsafe", "libbeside", "ownbeside", "reflbeside", "aliases", "afterinit", "crcplain", "roadunsafe", "fmthandon"] (hC :: ws) = _
  rw [st1 _ _ _ _ (by decide +kernel), st1 _ _ _ _ (by decide +kernel), st1 _ _ _ _ (by decide +kernel), st1 _ _ _ _ (by decide +kernel), st1 _ _ _ _ (by decide +kernel), st1 _ _ _ _ (by decide +kernel), st1 _ _ _ _ (by decide +kernel), st1 _ _ _ _ (by decide +kernel), st1 _ _ _ _ (by decide +kernel), st1 _ _ _ _ (by decide +kernel), st1 _ _ _ _ (by decide +kernel), st1 _ _ _ _ (by decide +kernel), st1 _ _ _ _ (by decide +kernel), st1 _ _ _ _ (by decide +kernel), st1 _ _ _ _ (by decide +kernel)]
  rfl
theorem mayEnter_of (P : Program) (ws : List (List Char)) (h : behindMainWord (wordsSigns P.initOrder.toList) = hC :: ws) (h1 : P.laysLater = false) (h2 : P.bearsReflect = false) (h3 : P.doorFits [] = true) : P.mayEnter = true := by
  unfold Program.mayEnter
  rw [h]
  simp only [strip_cut, h1, h2, h3]
  have e : ((List.head? (hC :: ws)) == some "cut".toList) = true := by
    show (hC == "cut".toList) = true
    decide +kernel
  rw [e]
  simp
theorem headLifts_of (P : Program) (ws : List (List Char)) (h : behindMainWord (wordsSigns P.initOrder.toList) = hC :: ws) : P.headLifts = [] := by
  unfold Program.headLifts
  rw [h]
  simp only [strip_cut]
  split <;> rfl
theorem liftsFinal_of (P : Program) (ws : List (List Char)) (h : behindMainWord (wordsSigns P.initOrder.toList) = hC :: ws) : P.liftsFinal = false := by
  unfold Program.liftsFinal
  rw [h, headLifts_of P ws h]
  have e : ((List.head? (hC :: ws)) == some "carried".toList) = false := by
    show (hC == "carried".toList) = false
    decide +kernel
  simp only [e]
  simp
theorem make_of (P : Program) (ws : List (List Char)) (h : behindMainWord (wordsSigns P.initOrder.toList) = hC :: ws) : P.make = some .cut := by
  unfold Program.make
  rw [h]
  have e1 : (hC == "gc".toList || hC == "spec".toList) = false := by decide +kernel
  have e2 : (hC == "cut".toList) = true := by decide +kernel
  simp only [e1, e2]
  simp
theorem mayEnter_eq : Tryz.prog.mayEnter = true := mayEnter_of _ _ behind (by kernel_rfl) (by kernel_rfl) (by kernel_rfl)
theorem liftsFinal_eq : Tryz.prog.liftsFinal = false := liftsFinal_of _ _ behind
theorem make_eq : Tryz.prog.make = some .cut := make_of _ _ behind
end
end Go.Proofs.YtpaodheilchfnaaGreatDoor
