/-
  The walks of dates: the text of a day.
-/
import Derived.Test.YtffmmkjoknghoaaGreatDateWalk
import Derived.Lib.SlBytesConst
import Derived.Lib.SlBytesRow
import Derived.Lib.SmallJoins
import Derived.RegionTactic
namespace Go.Proofs.YtffmmkjoknghoaaGreat
open Go.RowKit
set_option maxHeartbeats 4000000

/-- Byte i of the text, when the first k of its three numbers have been written. -/
def stg (y m d : Int) (k i : Nat) : Int :=
  if i = 4 ∨ i = 7 then 45 else
  if i ≤ 3 then (if 1 ≤ k then 48 + y / 10 ^ (3 - i) % 10 else 48) else
  if i ≤ 6 then (if 2 ≤ k then 48 + m / 10 ^ (6 - i) % 10 else 48) else
  if 3 ≤ k then 48 + d / 10 ^ (9 - i) % 10 else 48
/-- .. and j digits more of a number whose last digit is byte L. -/
def stj (C : Nat → Int) (v : Int) (L j i : Nat) : Int := if i ≤ L ∧ L < i + j then 48 + v / 10 ^ (L - i) % 10 else C i
def mkA (C : Nat → Int) : Array Value := ((List.range 10).map fun i => Value.int .u8 (C i)).toArray
/-- The text of a day. -/
def fmtS (y m d : Int) : ByteArray := ⟨((List.range 10).map fun i => UInt8.ofNat (stg y m d 3 i).toNat).toArray⟩
theorem mkA_at (C : Nat → Int) {i : Nat} (h : i < 10) : (mkA C)[i]? = some (.int .u8 (C i)) := by
  unfold mkA
  simp [h]
theorem mkA_congr {C C' : Nat → Int} (h : ∀ i, i < 10 → C i = C' i) : mkA C = mkA C' := by
  unfold mkA
  congr 1
  apply List.map_congr_left
  intro i hi
  rw [h i (by simpa using hi)]
theorem mkA_set (C : Nat → Int) (i : Nat) (v : Int) : (mkA C).setIfInBounds i (.int .u8 v) = mkA (fun k => if k = i then v else C k) := by
  unfold mkA
  apply Array.ext
  · simp
  · intro k h1 h2
    by_cases e : i = k
    · subst e; simp
    · simp [e]
      intro h
      exact absurd h.symm e
theorem stj_48 (C : Nat → Int) (v : Int) (L j : Nat) (x : Int) (h : L - j < 10) (hj : j ≤ L) (hx : C (L - j) = x) : (mkA (stj C v L j))[L - j]? = some (.int .u8 x) := by
  rw [mkA_at _ h]
  unfold stj
  rw [if_neg (by omega), hx]
theorem frozen_10 {w : World} {g i : Nat} {cs : Array Value} {t : TypeId} (h : w.heap[g]? = some (.cells cs t (10, 11))) (hi : i < 10) : w.frozen? ⟨g, i, none⟩ = false := by
  simp [World.frozen?, h]
  omega
theorem heap_al {w : World} {b : Nat} {r : Option Obj} (o : Obj) (h : b < w.heap.size) (hr : w.heap[b]? = r) : (w.alloc o).heap[b]? = r := by
  rw [← hr]
  show (w.heap.push o)[b]? = _
  rw [Array.getElem?_push, if_neg (by omega)]
theorem heap_far {w : World} {p : Addr} {b : Nat} {v : Value} {r : Option Obj} (h : b ≠ p.block) (hr : w.heap[b]? = r) : (w.setCell p v).heap[b]? = r := (Below.heap_setCell w p v b h).trans hr
theorem dig_zero {v : Int} {j e : Nat} (hv : 0 ≤ v) (h0 : v / 10 ^ j = 0) (h : j ≤ e) : v / 10 ^ e = 0 := by
  have h1 : (0 : Int) < 10 ^ j := Int.pow_pos (by decide)
  have h2 : v < 10 ^ j := by
    rcases Int.lt_or_le v (10 ^ j) with hx | hx
    · exact hx
    · have := Int.ediv_le_ediv h1 hx
      rw [Int.ediv_self (by omega)] at this
      omega
  have h3 : (10 : Int) ^ j ≤ 10 ^ e := by exact_mod_cast Nat.pow_le_pow_right (by omega) h
  exact Int.ediv_eq_zero_of_lt hv (by omega)
theorem dig_next {v q : Int} {j : Nat} (h : q = v / 10 ^ j) : q / 10 = v / 10 ^ (j + 1) := by
  rw [h, Int.ediv_ediv_of_nonneg (Int.le_of_lt (Int.pow_pos (by decide))), Int.pow_succ]
theorem dig_lt {v q : Int} {j J : Nat} (hv : 0 ≤ v) (hJ : v < 10 ^ J) (h : q = v / 10 ^ j) (hq : 0 < q) : j < J := by
  rcases Nat.lt_or_ge j J with hx | hx
  · exact hx
  · have := dig_zero (e := j) hv (Int.ediv_eq_zero_of_lt hv hJ) hx
    omega
theorem stj_step {C : Nat → Int} {v q : Int} {L j : Nat} (h : q = v / 10 ^ j) (hj : j ≤ L) (k : Nat) : (if k = L - j then 48 + q % 10 else stj C v L j k) = stj C v L (j + 1) k := by
  unfold stj
  by_cases e : k = L - j
  · rw [if_pos e, if_pos (by omega), show L - k = j by omega, h]
  · rw [if_neg e]
    by_cases c : k ≤ L ∧ L < k + j
    · rw [if_pos c, if_pos (by omega)]
    · rw [if_neg c, if_neg (by omega)]
theorem fmt_step {w wr : World} {B z i L : Nat} {C C' : Nat → Int} {v q q' l : Int} {S : Array Value} {T U : TypeId}
    (hb : wr.heap[B]? = some (.cells (mkA C) U (10, 11))) (hp : wr.heap[z]? = some (.cells #[.int .i64 q, .int .i64 l] T (0, 0))) (hs : wr.heap[B + 1]? = some (.cells S T (0, 0)))
    (hz : B + 1 < z) (hC : ∀ k, k < 10 → (if k = i then v else C k) = C' k) (hbel : Below L w wr) (hB : L ≤ B) :
    (((wr.setCell ⟨B, i, none⟩ (.int .u8 v)).drew).setCell ⟨z, 0, none⟩ (.int .i64 q')).heap[B]? = some (.cells (mkA C') U (10, 11)) ∧
    (((wr.setCell ⟨B, i, none⟩ (.int .u8 v)).drew).setCell ⟨z, 0, none⟩ (.int .i64 q')).heap[z]? = some (.cells #[.int .i64 q', .int .i64 l] T (0, 0)) ∧
    (((wr.setCell ⟨B, i, none⟩ (.int .u8 v)).drew).setCell ⟨z, 0, none⟩ (.int .i64 q')).heap[B + 1]? = some (.cells S T (0, 0)) ∧
    Below L w (((wr.setCell ⟨B, i, none⟩ (.int .u8 v)).drew).setCell ⟨z, 0, none⟩ (.int .i64 q')) := by
  refine ⟨heap_far (by show B ≠ z; omega) ?_, ?_, heap_far (by show B + 1 ≠ z; omega) ?_, ?_⟩
  · have := Joins.block_setCell (i := i) hb (.int .u8 v)
    rw [mkA_set, mkA_congr hC] at this
    exact this
  · exact Joins.block_setCell (w := (wr.setCell ⟨B, i, none⟩ (.int .u8 v)).drew) (i := 0) (heap_far (w := wr) (p := ⟨B, i, none⟩) (by show z ≠ B; omega) hp) (.int .i64 q')
  · exact heap_far (w := wr) (p := ⟨B, i, none⟩) (by show B + 1 ≠ B; omega) hs
  · exact ((hbel.setCell hB _).drew).setCell (show L ≤ (⟨z, 0, none⟩ : Addr).block by show L ≤ z; omega) _
theorem stg_next0 {y m d : Int} {j : Nat} (hv : 0 ≤ y) (h : y / 10 ^ j = 0) (i : Nat) (hi : i < 10) : stj (stg y m d 0) y 3 j i = stg y m d 1 i := by
  unfold stj stg
  by_cases a : i ≤ 3
  · by_cases c : 3 < i + j
    · simp [a, c, show ¬(i = 4 ∨ i = 7) by omega]
    · simp [a, c, show ¬(i = 4 ∨ i = 7) by omega, dig_zero hv h (show j ≤ 3 - i by omega)]
  · simp [a]
theorem stg_next1 {y m d : Int} {j : Nat} (hj : j ≤ 2) (hv : 0 ≤ m) (h : m / 10 ^ j = 0) (i : Nat) (hi : i < 10) : stj (stg y m d 1) m 6 j i = stg y m d 2 i := by
  unfold stj stg
  by_cases e : i = 4 ∨ i = 7
  · rw [if_neg (by omega), if_pos e, if_pos e]
  by_cases a : i ≤ 3
  · simp [a, e]
    omega
  · by_cases b : i ≤ 6
    · by_cases c : 6 < i + j
      · simp [a, b, c, e]
      · simp [a, b, c, e, dig_zero hv h (show j ≤ 6 - i by omega)]
    · simp [a, b, e]
theorem stg_next2 {y m d : Int} {j : Nat} (hj : j ≤ 2) (hv : 0 ≤ d) (h : d / 10 ^ j = 0) (i : Nat) (hi : i < 10) : stj (stg y m d 2) d 9 j i = stg y m d 3 i := by
  unfold stj stg
  by_cases e : i = 4 ∨ i = 7
  · rw [if_neg (by omega), if_pos e, if_pos e]
  by_cases a : i ≤ 3
  · simp [a, e]
    omega
  · by_cases b : i ≤ 6
    · simp [a, b, e]
      omega
    · by_cases c : 9 < i + j
      · simp [a, b, c, e]
        omega
      · simp [a, b, c, e, dig_zero hv h (show j ≤ 9 - i by omega)]
theorem fmtS_bytes {wr : World} {B : Nat} {U : TypeId} {y m d : Int} (hb : wr.heap[B]? = some (.cells (mkA (stg y m d 3)) U (10, 11))) : Lib.Bytes wr B 0 (fmtS y m d) := by
  intro i hi
  have hi10 : i < 10 := hi
  rw [Nat.zero_add, Joins.cell_of_block hb, mkA_at _ hi10]
  have h2 : (fmtS y m d)[i]'hi = UInt8.ofNat (stg y m d 3 i).toNat := by
    have e : (fmtS y m d)[i]'hi = ((List.range 10).map fun i => UInt8.ofNat (stg y m d 3 i).toNat)[i]'(by simpa using hi10) := rfl
    rw [e, List.getElem_map, List.getElem_range]
  have h1 : 0 ≤ stg y m d 3 i ∧ stg y m d 3 i < 256 := by
    unfold stg
    split
    · omega
    · split
      · rw [if_pos (by omega)]; omega
      · split
        · rw [if_pos (by omega)]; omega
        · rw [if_pos (by omega)]; omega
  have key : stg y m d 3 i = (((fmtS y m d)[i]'hi).toNat : Int) := by
    rw [h2, UInt8.toNat_ofNat']
    omega
  exact congrArg (fun x => some (Value.int .u8 x)) key

/-- Two digits. -/
def twoS (n : Int) : ByteArray := ⟨#[UInt8.ofNat (48 + n / 10).toNat, UInt8.ofNat (48 + n % 10).toNat]⟩
theorem ten_at (k : Nat) (h : k < 10) : (⟨#[48, 49, 50, 51, 52, 53, 54, 55, 56, 57]⟩ : ByteArray).extract k (k + 1) = ⟨#[UInt8.ofNat (48 + k)]⟩ := by
  have : k = 0 ∨ k = 1 ∨ k = 2 ∨ k = 3 ∨ k = 4 ∨ k = 5 ∨ k = 6 ∨ k = 7 ∨ k = 8 ∨ k = 9 := by omega
  rcases this with rfl | rfl | rfl | rfl | rfl | rfl | rfl | rfl | rfl | rfl <;> rfl
theorem two_eq (n : Int) (h1 : 0 ≤ n) (h2 : n ≤ 99) : (⟨#[48, 49, 50, 51, 52, 53, 54, 55, 56, 57]⟩ : ByteArray).extract (n / 10).toNat (n / 10 + 1).toNat ++ (⟨#[48, 49, 50, 51, 52, 53, 54, 55, 56, 57]⟩ : ByteArray).extract (n % 10).toNat (n % 10 + 1).toNat = twoS n := by
  rw [show (n / 10 + 1).toNat = (n / 10).toNat + 1 by omega, show (n % 10 + 1).toNat = (n % 10).toNat + 1 by omega, ten_at _ (by omega), ten_at _ (by omega)]
  unfold twoS
  rw [show (48 + n / 10).toNat = 48 + (n / 10).toNat by omega, show (48 + n % 10).toNat = 48 + (n % 10).toNat by omega]
  rfl
theorem fmt_eq (y m d : Int) (hy1 : 2000 ≤ y) (hy2 : y ≤ 2199) (hm1 : 1 ≤ m) (hm2 : m ≤ 12) (hd1 : 1 ≤ d) (hd2 : d ≤ 31) :
    twoS (y / 100) ++ twoS (y % 100) ++ ⟨#[45]⟩ ++ twoS m ++ ⟨#[45]⟩ ++ twoS d = fmtS y m d := by
  have e : fmtS y m d = ⟨#[UInt8.ofNat (48 + y / 1000 % 10).toNat, UInt8.ofNat (48 + y / 100 % 10).toNat, UInt8.ofNat (48 + y / 10 % 10).toNat, UInt8.ofNat (48 + y / 1 % 10).toNat, 45,
      UInt8.ofNat (48 + m / 10 % 10).toNat, UInt8.ofNat (48 + m / 1 % 10).toNat, 45, UInt8.ofNat (48 + d / 10 % 10).toNat, UInt8.ofNat (48 + d / 1 % 10).toNat]⟩ := rfl
  rw [e, show y / 1000 % 10 = y / 100 / 10 by omega, show y / 10 % 10 = y % 100 / 10 by omega, show y / 1 % 10 = y % 100 % 10 by omega, show m / 10 % 10 = m / 10 by omega, show m / 1 % 10 = m % 10 by omega,
    show d / 10 % 10 = d / 10 by omega, show d / 1 % 10 = d % 10 by omega]
  rfl
end Go.Proofs.YtffmmkjoknghoaaGreat
