/-
  What a monthly schedule says of the days of a month; plain.
-/
import Derived.Test.YtffmmkjoknghoaaSchedPlays3
import Derived.Test.YtffmmkjoknghoaaOwn
import Derived.Test.YtffmmkjoknghoaaPush
namespace Go.Proofs.Ytffmmkjoknghoaa
open Go.RowKit
set_option linter.unusedVariables false
set_option maxHeartbeats 8000000
/-- The days with p among the first k from a on. -/
def ods (p : Int → Bool) (a : Int) : Nat → List Int
  | 0 => []
  | k + 1 => ods p a k ++ (if p (a + k) = true then [a + (k : Int)] else [])
theorem ods_len (p : Int → Bool) (a : Int) : ∀ k : Nat, ((ods p a k).length : Int) = cntF p k a
  | 0 => rfl
  | k + 1 => by
    rw [cntF_succ, ← ods_len p a k, ods, List.length_append]
    split <;> simp
theorem ods_le (p : Int → Bool) (a : Int) : ∀ k : Nat, (ods p a k).length ≤ k
  | 0 => Nat.le_refl _
  | k + 1 => by
    have := ods_le p a k
    rw [ods, List.length_append]
    split <;> simp <;> omega
theorem cnt_add (p : Int → Bool) (a : Int) (k : Nat) : cnt p a (a + k) = cntF p k a := by
  unfold cnt
  rw [show (a + (k : Int) - a).toNat = k by omega]
/-- The i-th of them, -1 where there are fewer. -/
def fnd (p : Int → Bool) (a : Int) (i k : Nat) : Int := ((ods p a k)[i]?).getD (-1)
theorem fnd_no {p : Int → Bool} {a : Int} {i k : Nat} (h : p (a + k) = false) : fnd p a i (k + 1) = fnd p a i k := by
  unfold fnd
  rw [ods, h]
  simp
theorem fnd_other {p : Int → Bool} {a : Int} {i k : Nat} (h : (ods p a k).length ≠ i) : fnd p a i (k + 1) = fnd p a i k := by
  unfold fnd
  rw [ods]
  split
  · rcases Nat.lt_or_ge i (ods p a k).length with hlt | hge
    · rw [List.getElem?_append_left hlt]
    · rw [List.getElem?_eq_none hge, List.getElem?_eq_none (by simp; omega)]
  · simp
theorem fnd_hit {p : Int → Bool} {a : Int} {i k : Nat} (h : (ods p a k).length = i) (hp : p (a + k) = true) : fnd p a i k = -1 ∧ fnd p a i (k + 1) = a + k := by
  unfold fnd
  rw [ods, hp]
  subst h
  exact ⟨by simp, by simp⟩
theorem ods_yes {p : Int → Bool} {a : Int} {k : Nat} (h : p (a + k) = true) : ods p a (k + 1) = ods p a k ++ [a + (k : Int)] := by rw [ods, h]; rfl
theorem ods_no {p : Int → Bool} {a : Int} {k : Nat} (h : p (a + k) = false) : ods p a (k + 1) = ods p a k := by rw [ods, h]; simp
/-- What a monthly schedule says of the days of a month. -/
theorem month_round {c : CN} (hc : c.ok = true) {n d0 : Int} (hn0 : n ≠ 0) (hn1 : -23 ≤ n) (hn2 : n ≤ 23) (h0 : 0 ≤ d0) (h1 : d0 ≤ 73048) {k : Nat} (hk : mFrom d0 + k ≤ mTo d0) :
    ∃ b, DealsR ⟨3, n, 0, 0, 0⟩ zP c (mFrom d0 + k) b 0 ∧ (b = true → biz c (mFrom d0 + k) = true ∧ (ods (biz c) (mFrom d0) k).length = (monIdx n (cnt (biz c) (mFrom d0) (mTo d0 + 1))).toNat) ∧
      (b = false → biz c (mFrom d0 + k) = true → (ods (biz c) (mFrom d0) k).length ≠ (monIdx n (cnt (biz c) (mFrom d0) (mTo d0 + 1))).toNat) := by
  obtain ⟨m1, m2, m3, m4, m5⟩ := mBounds h0 h1
  obtain ⟨e1, e2⟩ := month_of (r := d0) (x := mFrom d0 + k) h0 h1 (by omega) hk
  have hs : SC.ok ⟨3, n, 0, 0, 0⟩ = true := mkOk (by simp [ruleOk]; omega) (by omega) (by omega) (by omega) (by omega) (by omega) (by omega)
  refine ⟨dealB ⟨3, n, 0, 0, 0⟩ c (mFrom d0 + k), .inr (.inr ⟨aErr_ok hs zP_ok hc, (dayB_iff _).2 (by omega), rfl, rfl⟩), ?_, ?_⟩
  · intro hb
    have hp : biz c (mFrom d0 + k) = true := by
      unfold dealB at hb
      simp only [Bool.and_eq_true] at hb
      exact hb.1
    have hm : monB (biz c) n (mFrom d0 + k) = true := by
      unfold dealB at hb
      simpa [hp, ruleB] using hb
    have := (mon_iff (by omega) (by omega) hp hn0).1 hm
    rw [e1, e2, cnt_add, ← ods_len] at this
    exact ⟨hp, by omega⟩
  · intro hb hp hl
    have hT : 1 ≤ cnt (biz c) (mFrom d0) (mTo d0 + 1) := by
      have s1 := cnt_split (biz c) (a := mFrom d0) (b := mFrom d0 + k) (e := mTo d0 + 1) (by omega) (by omega)
      have s2 := cnt_split (biz c) (a := mFrom d0 + k) (b := mFrom d0 + k + 1) (e := mTo d0 + 1) (by omega) (by omega)
      have s3 := cnt_yes (biz c) (Int.le_refl (mFrom d0 + k)) hp
      rw [cnt_self _ _ _ (Int.le_refl _)] at s3
      have b1 := cnt_bd2 (biz c) (a := mFrom d0) (b := mFrom d0 + k) (by omega)
      have b2 := cnt_bd2 (biz c) (a := mFrom d0 + k + 1) (b := mTo d0 + 1) (by omega)
      omega
    have h3 : 0 ≤ monIdx n (cnt (biz c) (mFrom d0) (mTo d0 + 1)) := by
      unfold monIdx
      split <;> omega
    have hm : monB (biz c) n (mFrom d0 + k) = true := (mon_iff (by omega) (by omega) hp hn0).2 (by rw [e1, e2, cnt_add, ← ods_len]; omega)
    rw [dealB_of hp (by simp [ruleB, hm])] at hb
    cases hb
/-- The end of the month. -/
theorem month_end {p : Int → Bool} {n a b : Int} (hn0 : n ≠ 0) {k : Nat} (hk : a + k = b + 1) :
    ((ods p a k).length = 0 → fnd p a (monIdx n (cnt p a (b + 1))).toNat k = -1) ∧
    (0 < (ods p a k).length → 0 ≤ monIdx n (ods p a k).length ∧ (monIdx n (ods p a k).length).toNat < (ods p a k).length ∧ (ods p a k)[(monIdx n (ods p a k).length).toNat]? = some (fnd p a (monIdx n (cnt p a (b + 1))).toNat k)) := by
  have hT : cnt p a (b + 1) = ((ods p a k).length : Int) := by rw [← hk, cnt_add, ods_len]
  rw [hT]
  unfold fnd
  refine ⟨fun h => ?_, fun h => ?_⟩
  · rw [List.length_eq_zero_iff.1 h]
    rfl
  · have h1 : 0 ≤ monIdx n (ods p a k).length := by
      unfold monIdx
      split <;> omega
    have h2 : (monIdx n (ods p a k).length).toNat < (ods p a k).length := by
      unfold monIdx
      split <;> omega
    exact ⟨h1, h2, by rw [List.getElem?_eq_getElem h2]; rfl⟩
theorem monIdx_neg {n T : Int} (h : n < 0) : monIdx n T = max 0 (T + n) := by unfold monIdx; rw [if_pos h]
theorem monIdx_pos {n T : Int} (h : ¬n < 0) : monIdx n T = min n T - 1 := by unfold monIdx; rw [if_neg h]
theorem OwnL.eqv' {W0 W : World} {e : TypeId} {sz : Nat} {v : Value} {n n' : Nat} {xs xs' : List Value} (h : OwnL W0 W e sz v n xs) (hn : n = n') (hx : xs = xs') : OwnL W0 W e sz v n' xs' := by
  subst hn hx
  exact h
end Go.Proofs.Ytffmmkjoknghoaa
