/-
  Suspensions in plain values: Move answers the first open dealing day; what became known later, and what is of other funds, changes nothing. No program in sight.
-/
import Derived.Test.YtffmmkjoknghoaaGreatSusMove
namespace Go.Proofs.YtffmmkjoknghoaaGreat
open Go.RowKit
set_option linter.unusedVariables false
theorem lastC_none {d : Int} : ∀ (r : List SU), ¬actB r d = true → lastC d r = 0
  | [], _ => rfl
  | y :: t, h => by
    simp [actB] at h
    unfold lastC
    rw [if_neg (by simp [h.1])]
    exact lastC_none t (by simp [actB]; exact h.2)
theorem lastC_hit {d : Int} : ∀ (l : List SU), (∀ x ∈ l, 0 ≤ x.til) → actB l d = true → openB l d = false → ∃ x ∈ l, covB x d = true ∧ x.til = lastC d l ∧ x.til ≠ 0
  | [], _, h, _ => by simp [actB] at h
  | x :: r, ht, h, ho => by
    have hx : covB x d = true → x.til ≠ 0 := fun hc e => by
      simp [openB, hc, e] at ho
    have hr : openB r d = false := by
      simp only [openB, List.any_cons, Bool.or_eq_false_iff] at ho
      exact ho.2
    have ht2 : ∀ y ∈ r, 0 ≤ y.til := fun y hy => ht y (by simp [hy])
    have hx0 := ht x (by simp)
    by_cases hc : covB x d = true
    · have hm : lastC d (x :: r) = max x.til (lastC d r) := by
        show (if covB x d = true then _ else _) = _
        rw [if_pos hc]
      rw [hm]
      by_cases ha : actB r d = true
      · obtain ⟨y, y1, y2, y3, y4⟩ := lastC_hit r ht2 ha hr
        by_cases hmx : x.til ≤ lastC d r
        · exact ⟨y, by simp [y1], y2, by omega, y4⟩
        · exact ⟨x, by simp, hc, by omega, hx hc⟩
      · exact ⟨x, by simp, hc, by rw [lastC_none r ha]; omega, hx hc⟩
    · have ha : actB r d = true := by
        simp only [actB, List.any_cons, Bool.or_eq_true] at h
        rcases h with h | h
        · exact absurd h hc
        · exact h
      obtain ⟨y, y1, y2, y3, y4⟩ := lastC_hit r ht2 ha hr
      refine ⟨y, by simp [y1], y2, ?_, y4⟩
      unfold lastC
      rw [if_neg hc]
      exact y3
/-- What is covered up to the last day of those that cover a day. -/
theorem act_till {l : List SU} {r x : Int} (ht : ∀ x ∈ l, 0 ≤ x.til) (h : actB l r = true) (ho : openB l r = false) (h1 : r ≤ x) (h2 : x ≤ lastC r l) : actB l x = true := by
  obtain ⟨y, y1, y2, y3, y4⟩ := lastC_hit l ht h ho
  unfold actB
  rw [List.any_eq_true]
  refine ⟨y, y1, ?_⟩
  simp [covB] at y2 ⊢
  omega
/-- What Move says, from day d on, where dealing days are those with p. -/
def PassR (l : List SU) (p : Int → Bool) (d v e : Int) : Prop :=
  (e = 281 ∧ v = 0) ∨ (e = 0 ∧ d ≤ v ∧ v ≤ 73048 ∧ p v = true ∧ actB l v = false ∧ ∀ x, d ≤ x → x < v → p x = true → actB l x = true)
theorem mov_pass {l : List SU} {p : Int → Bool} {nx : Int → Int × Int} (ht : ∀ x ∈ l, 0 ≤ x.til) (hl : ∀ x ∈ l, x.til ≤ 1000) (hn : ∀ d, (nx d).2 = 0 → d ≤ (nx d).1) (ho : ∀ d, 73048 < d → (nx d).2 ≠ 0)
    (hp : ∀ d, 0 ≤ d → d ≤ 1001 → (nx d).2 = 0 ∧ fromP p d = some (nx d).1) : ∀ (f : Nat) (d : Int), 0 ≤ d → d ≤ 1001 → (1001 - d).toNat ≤ f → PassR l p d (mov nx l d).1 (mov nx l d).2
  | f, d, h0, h1, hf => by
    obtain ⟨e0, hr⟩ := hp d h0 h1
    obtain ⟨r1, r2, r3, r4⟩ := fromP_spec hr
    have h4 := hn d e0
    cases hop : openB l (nx d).1
    · cases hac : actB l (nx d).1
      · rw [mov_stay (by omega) e0 hop hac]
        exact .inr ⟨rfl, h4, r2, r3, hac, fun x x1 x2 x3 => by rw [r4 x x1 x2] at x3; cases x3⟩
      · have hl2 : ∀ x ∈ l, x.til ≤ 73048 := fun x hx => by have := hl x hx; omega
        obtain ⟨m1, m2⟩ := mov_go hl2 hn ho e0 hop hac
        rw [m1]
        obtain ⟨y, y1, y2, y3, y4⟩ := lastC_hit l ht hac hop
        have hy := hl y y1
        have hdl : d ≤ lastC (nx d).1 l := m2
        have hge : (nx d).1 ≤ lastC (nx d).1 l := by rw [← y3]; exact cov_up y2 y4
        match f, hf with
        | 0, hf => 
          exfalso
          omega
        | f + 1, hf =>
          rcases mov_pass ht hl hn ho hp f (lastC (nx d).1 l + 1) (by omega) (by omega) (by omega) with h | ⟨k1, k2, k3, k4, k5, k6⟩
          · exact .inl h
          · refine .inr ⟨k1, by omega, k3, k4, k5, fun x x1 x2 x3 => ?_⟩
            rcases Int.lt_or_le x (nx d).1 with hx | hx
            · rw [r4 x x1 hx] at x3
              cases x3
            · rcases Int.lt_or_le (lastC (nx d).1 l) x with hz | hz
              · exact k6 x (by omega) x2 x3
              · exact act_till ht hac hop hx hz
    · rw [mov_open (by omega) e0 hop]
      exact .inl ⟨rfl, rfl⟩
  termination_by f => f
/-- The records that were known by k. -/
def kept (l : List SU) (k : Int) : List SU := l.filter fun x => decide (x.known ≤ k)
theorem susFrom_gt : ∀ (l : List SU) (last : Int), susFrom last l = true → ∀ x ∈ l, last < x.known
  | [], _, _, x, h => by simp at h
  | y :: r, last, h, x, hx => by
    simp only [susFrom, Bool.and_eq_true, decide_eq_true_eq] at h
    rcases List.mem_cons.1 hx with rfl | hx
    · exact h.1.2
    · have := susFrom_gt r _ h.2 x hx
      omega
/-- They are the first ones. -/
theorem kept_take (k : Int) : ∀ (l : List SU) (last : Int), susFrom last l = true → ∃ n, n ≤ l.length ∧ kept l k = l.take n ∧ (∀ x ∈ l.take n, x.known ≤ k) ∧ (∀ x, l[n]? = some x → k < x.known)
  | [], _, _ => ⟨0, Nat.le_refl _, rfl, by simp, by simp⟩
  | y :: r, last, h => by
    simp only [susFrom, Bool.and_eq_true, decide_eq_true_eq] at h
    by_cases hy : y.known ≤ k
    · obtain ⟨n, n1, n2, n3, n4⟩ := kept_take k r _ h.2
      refine ⟨n + 1, by simp; omega, ?_, ?_, by simpa using n4⟩
      · unfold kept at n2 ⊢
        rw [List.filter_cons, if_pos (by simpa using hy), n2, List.take_succ_cons]
      · intro x hx
        rw [List.take_succ_cons] at hx
        rcases List.mem_cons.1 hx with rfl | hx
        · exact hy
        · exact n3 x hx
    · refine ⟨0, by simp, ?_, by simp, ?_⟩
      · unfold kept
        rw [List.filter_cons, if_neg (by simpa using hy), List.take_zero, List.filter_eq_nil_iff]
        intro x hx
        have := susFrom_gt r _ h.2 x hx
        simp
        omega
      · intro x hx
        simp at hx
        subst hx
        omega
theorem susFrom_take : ∀ (l : List SU) (n : Nat) (last : Int), susFrom last l = true → susFrom last (l.take n) = true
  | [], n, _, _ => by simp [susFrom]
  | y :: r, 0, _, _ => rfl
  | y :: r, n + 1, last, h => by
    simp only [susFrom, Bool.and_eq_true] at h
    simp only [List.take_succ_cons, susFrom, Bool.and_eq_true]
    exact ⟨h.1, susFrom_take r n _ h.2⟩
theorem susB_take {l : List SU} (h : susB l = true) (n : Nat) : susB (l.take n) = true := by
  unfold susB at h ⊢
  simp only [Bool.and_eq_true, decide_eq_true_eq] at h ⊢
  exact ⟨by simp; omega, susFrom_take l n _ h.2⟩
/-- The last record of a key, in a list of which the first n are known by k, by K and no other one. -/
theorem lastF_take {ms : List MK} {k K : Int} {n : Nat} (h1 : ∀ m ∈ ms.take n, m.known ≤ k) (h2 : ∀ m ∈ ms.take n, m.known ≤ K) (key : ByteArray) : ∀ j : Nat, j ≤ n → lastF ms k key j = lastF (ms.take n) K key j
  | 0, _ => rfl
  | j + 1, hj => by
    have ih := lastF_take h1 h2 key j (by omega)
    have e : (ms.take n)[j]? = ms[j]? := List.getElem?_take_of_lt (by omega)
    cases hm : ms[j]? with
    | none =>
      simp only [lastF, e, hm]
      exact ih
    | some m =>
      have hin : m ∈ ms.take n := List.mem_of_getElem? (e.trans hm)
      have a := h1 m hin
      have b := h2 m hin
      simp only [lastF, e, hm, a, b, true_and]
      rw [ih]
theorem visF_take {ms : List MK} {k K : Int} {n : Nat} (hn : n ≤ ms.length) (hv : mksFrom 0 ms = true) (h1 : ∀ m ∈ ms.take n, m.known ≤ k) (h2 : ∀ m ∈ ms.take n, m.known ≤ K) (h3 : ∀ m, ms[n]? = some m → k < m.known) : vis ms k = vis (ms.take n) K := by
  have hlen : (ms.take n).length = n := by simp; omega
  have hlast : ∀ key, lastF ms k key ms.length = lastF (ms.take n) K key (ms.take n).length := fun key => by
    rw [hlen, ← lastF_take h1 h2 key n (Nat.le_refl _)]
    cases hm : ms[n]? with
    | none =>
      have : ms.length ≤ n := List.getElem?_eq_none_iff.1 hm
      rw [show ms.length = n by omega]
    | some m =>
      obtain ⟨j, hj⟩ : ∃ j, ms.length = n + j := ⟨ms.length - n, by omega⟩
      rw [hj]
      exact lastF_stop hv hm (h3 m hm) key j
  have key : ∀ j : Nat, j ≤ n → visF ms k j = visF (ms.take n) K j := fun j => by
    induction j with
    | zero => intro _; rfl
    | succ j ih =>
      intro hj
      rw [visF, visF, ih (by omega)]
      have e : (ms.take n)[j]? = ms[j]? := List.getElem?_take_of_lt (by omega)
      have : visAt ms k j = visAt (ms.take n) K j := by
        unfold visAt
        rw [e]
        cases hm : ms[j]? with
        | none => rfl
        | some m =>
          have hin : m ∈ ms.take n := List.mem_of_getElem? (e.trans hm)
          simp only [hlast, h1 m hin, h2 m hin]
      rw [this]
  have tail : ∀ j : Nat, visF ms k (n + j) = visF ms k n := fun j => by
    induction j with
    | zero => rfl
    | succ j ih =>
      rw [← Nat.add_assoc, visF, ih]
      have : visAt ms k (n + j) = false := by
        unfold visAt
        cases hm : ms[n + j]? with
        | none => rfl
        | some m =>
          have hk : k < m.known := by
            cases hn0 : ms[n]? with
            | none =>
              have h5 : ms.length ≤ n := List.getElem?_eq_none_iff.1 hn0
              have h6 := (List.getElem?_eq_some_iff.1 hm).1
              omega
            | some m0 =>
              have h5 := h3 m0 hn0
              rcases Nat.eq_zero_or_pos j with h0 | h0
              · subst h0
                rw [Nat.add_zero, hn0] at hm
                injection hm with hm
                subst hm
                exact h5
              · have := mksFrom_lt ms 0 n (n + j) m0 m hv hn0 hm (by omega)
                omega
          simp only [decide_eq_false (show ¬(m.known ≤ k) by omega), Bool.and_false, Bool.false_and]
      rw [this]
      simp
  unfold vis
  rw [hlen, show ms.length = n + (ms.length - n) by omega, tail, key n (Nat.le_refl _)]
theorem pickS_take {l : List SU} {fund : ByteArray} {n : Nat} : ∀ (a : List Int), (∀ i ∈ a, i.toNat < n) → pickS (l.take n) fund a = pickS l fund a
  | [], _ => rfl
  | i :: r, h => by
    rw [pickS, pickS, pickS_take r (fun j hj => h j (by simp [hj])), List.getElem?_take_of_lt (h i (by simp))]
/-- What became known after k changes nothing. -/
theorem visS_kept {l : List SU} (h : susB l = true) (k K : Int) (hK : ∀ x ∈ l, x.known ≤ K) (fund : ByteArray) : ∃ n, kept l k = l.take n ∧ visS l k fund = visS (l.take n) K fund := by
  have h' := h
  unfold susB at h'
  simp only [Bool.and_eq_true] at h'
  obtain ⟨n, n1, n2, n3, n4⟩ := kept_take k l 0 h'.2
  refine ⟨n, n2, ?_⟩
  have hms := mksFrom_of l 0 h'.2
  have e := visF_take (ms := l.map SU.mark) (k := k) (K := K) (n := n) (by simpa using n1) hms
    (by intro m hm; rw [← List.map_take] at hm; obtain ⟨x, x1, rfl⟩ := List.mem_map.1 hm; exact n3 x x1)
    (by intro m hm; rw [← List.map_take] at hm; obtain ⟨x, x1, rfl⟩ := List.mem_map.1 hm; exact hK x (List.mem_of_mem_take x1))
    (by intro m hm; rw [List.getElem?_map] at hm; cases hx : l[n]? with
      | none => rw [hx] at hm; cases hm
      | some x => rw [hx] at hm; injection hm with hm; subst hm; exact n4 x hx)
  unfold visS
  rw [e, ← List.map_take]
  symm
  refine pickS_take _ (fun i hi => ?_)
  obtain ⟨j, rfl, hj, -⟩ := (visF_mem i _).1 hi
  have hlen : ((l.take n).map SU.mark).length = n := by simp; omega
  rw [hlen] at hj
  omega
theorem visS_none {l : List SU} {fund : ByteArray} (h : ∀ x ∈ l, x.fund ≠ fund) (k : Int) : visS l k fund = [] := by
  cases hv : visS l k fund with
  | nil => rfl
  | cons x r =>
    obtain ⟨a, b⟩ := pickS_mem (l := l) (fund := fund) (x := x) (vis (l.map SU.mark) k) (by unfold visS at hv; rw [hv]; simp)
    exact absurd b (h x a)
theorem mov_nil {nx : Int → Int × Int} {d : Int} (hd : d ≤ 73050) (h : (nx d).2 = 0) : mov nx [] d = ((nx d).1, 0) := mov_stay hd h rfl rfl
end Go.Proofs.YtffmmkjoknghoaaGreat
