/-
  Dealing orders and their intake in plain values: which books are valid, what becomes of each version, which orders are left. No program in sight.
  What intake takes, by what the versions say alone: leaving out versions that change nothing changes nothing. No program in sight.
  Dealing orders in plain values: books of which some versions are left out; how many orders are taken.
-/
import Derived.Test.YtbfllcfjgpkpaaaGreatPlain
namespace Go.Proofs.YtbfllcfjgpkpaaaGreat
section
open Go.RowKit
set_option linter.unusedVariables false
/-- A version of an order. -/
structure OR where
  key : ByteArray
  nom : ByteArray
  hol : ByteArray
  fund : ByteArray
  cls : ByteArray
  kind : Int
  amt : Int
  units : Int
  t : Int
  known : Int
  void : Bool
def inB (n most : Int) : Bool := decide (1 ≤ n ∧ n ≤ most)
/-- Kind, amount and units belong together. -/
def OR.asks (o : OR) : Bool :=
  if o.kind = 1 ∨ o.kind = 4 then inB o.amt 1000000000000000 && decide (o.units = 0)
  else if o.kind = 2 ∨ o.kind = 3 then inB o.units 1000000000000000 && decide (o.amt = 0)
  else if o.kind = 5 then decide (o.amt = 0 ∧ o.units = 0) else false
def OR.acc (o : OR) : Bool := nmB o.hol && (decide (o.nom.toList = []) || nmB o.nom)
/-- Nothing is said but the key and the times. -/
def OR.bare (o : OR) : Bool := decide (o.nom.toList = []) && decide (o.hol.toList = []) && decide (o.fund.toList = []) && decide (o.cls.toList = []) && decide (o.kind = 0 ∧ o.amt = 0 ∧ o.units = 0)
def OR.ok (o : OR) : Bool := nmB o.key && decide (0 ≤ o.t ∧ o.t ≤ 105190559) && knB o.known && (if o.void = true then o.bare else o.acc && nmB o.fund && nmB o.cls && o.asks)
/-- The first error of versions behind one that was known at last. -/
def bookFrom : Int → List OR → Int
  | _, [] => 0
  | last, x :: r => if x.ok = false then 230 else if x.known ≤ last then 232 else bookFrom x.known r
def bookErr (l : List OR) : Int := if l.length ≤ 4096 then bookFrom 0 l else 232
theorem bookFrom_zero : ∀ (l : List OR) (last : Int), bookFrom last l = 0 ∨ bookFrom last l = 230 ∨ bookFrom last l = 232
  | [], _ => .inl rfl
  | x :: r, last => by
    unfold bookFrom
    split
    · exact .inr (.inl rfl)
    · split
      · exact .inr (.inr rfl)
      · exact bookFrom_zero r _
theorem book_get : ∀ (l : List OR) (last : Int) (i : Nat) (x : OR), bookFrom last l = 0 → l[i]? = some x → x.ok = true ∧ last < x.known
  | [], _, i, x, _, h => by simp at h
  | y :: r, last, i, x, h, hx => by
    unfold bookFrom at h
    split at h
    · cases h
    · split at h
      · cases h
      · rename_i h1 h2
        cases i with
        | zero =>
          simp at hx
          subst hx
          exact ⟨by simpa using h1, by omega⟩
        | succ i =>
          have := book_get r _ i x h (by simpa using hx)
          exact ⟨this.1, by omega⟩
theorem book_lt : ∀ (l : List OR) (last : Int) (i j : Nat) (x y : OR), bookFrom last l = 0 → l[i]? = some x → l[j]? = some y → i < j → x.known < y.known
  | [], _, i, _, x, _, _, h, _, _ => by simp at h
  | z :: r, last, i, j, x, y, h, hx, hy, hij => by
    unfold bookFrom at h
    split at h
    · cases h
    · split at h
      · cases h
      · cases j with
        | zero => omega
        | succ j =>
          cases i with
          | zero =>
            simp at hx
            subst hx
            exact (book_get r _ j y h (by simpa using hy)).2
          | succ i => exact book_lt r _ i j x y h (by simpa using hx) (by simpa using hy) (by omega)
theorem bookErr_zero {l : List OR} (h : bookErr l = 0) : l.length ≤ 4096 ∧ bookFrom 0 l = 0 := by
  unfold bookErr at h
  split at h
  · exact ⟨by assumption, h⟩
  · cases h
theorem book_drop (l : List OR) {i : Nat} {x : OR} (hx : l[i]? = some x) (last : Int) : bookFrom last (l.drop i) = if x.ok = false then 230 else if x.known ≤ last then 232 else bookFrom x.known (l.drop (i + 1)) := by
  obtain ⟨hi, he⟩ := List.getElem?_eq_some_iff.1 hx
  rw [List.drop_eq_getElem_cons hi, he]
  rfl
/-- The same again, but for the time at which it became known. -/
def repB (o w : OR) : Bool := decide (o.key.toList = w.key.toList) && decide (o.nom.toList = w.nom.toList) && decide (o.hol.toList = w.hol.toList) && decide (o.fund.toList = w.fund.toList) && decide (o.cls.toList = w.cls.toList) && decide (o.kind = w.kind) && decide (o.amt = w.amt) && decide (o.units = w.units) && decide (o.t = w.t) && decide (o.void = w.void)
/-- Another account, or another class. -/
def conB (o w : OR) : Bool := !(decide (o.nom.toList = w.nom.toList) && decide (o.hol.toList = w.hol.toList)) || !decide (o.cls.toList = w.cls.toList)
/-- Whether a version counts. -/
def cntO (k : Int) (fund : ByteArray) (o : OR) : Bool := decide (o.known ≤ k) && (o.void || decide (o.fund = fund))
section
variable (fr dl : Int → Int × Int) (l : List OR) (k : Int) (fund : ByteArray)
/-- One version of a key: what is current behind it, what becomes of it, what becomes of the one that was current (0: nothing). -/
def stepK (now : Option (Nat × Int)) (o : OR) (i : Nat) : Option (Nat × Int) × Int × Int :=
  match now with
  | none => if o.void = true then (none, 6, 0) else if (fr o.t).2 = 0 then (some (i, (fr o.t).1), 1, 0) else (none, 4, 0)
  | some (a, d) =>
    if (dl d).2 ≠ 0 ∨ (dl d).1 < o.t then (some (a, d), 4, 0)
    else if o.void = true then (none, 1, 3)
    else match l[a]? with
      | none => (some (a, d), 0, 0)
      | some w => if repB o w = true then (some (a, d), 7, 0) else if conB o w = true then (some (a, d), 5, 0) else if (fr o.t).2 = 0 then (some (i, (fr o.t).1), 1, 2) else (some (a, d), 4, 0)
/-- What is current of a key behind the first n versions. -/
def nowF (key : ByteArray) : Nat → Option (Nat × Int)
  | 0 => none
  | n + 1 => match l[n]? with
    | some o => if cntO k fund o = true ∧ o.key = key then (stepK fr dl l (nowF key n) o n).1 else nowF key n
    | none => nowF key n
/-- What has become of version j behind the first n. -/
def stF (j : Nat) : Nat → Int
  | 0 => 0
  | n + 1 => match l[n]? with
    | some o => if cntO k fund o = true then (if j = n then (stepK fr dl l (nowF fr dl l k fund o.key n) o n).2.1 else if (stepK fr dl l (nowF fr dl l k fund o.key n) o n).2.2 ≠ 0 ∧ (nowF fr dl l k fund o.key n).map (·.1) = some j then (stepK fr dl l (nowF fr dl l k fund o.key n) o n).2.2 else stF j n) else stF j n
    | none => stF j n
end
section
variable {fr dl : Int → Int × Int} {l : List OR} {k : Int} {fund : ByteArray}
theorem stepK_some {now : Option (Nat × Int)} {o : OR} {i a : Nat} {d : Int} (h : (stepK fr dl l now o i).1 = some (a, d)) : (a = i ∧ (fr o.t) = (d, 0) ∧ o.void = false) ∨ now = some (a, d) := by
  unfold stepK at h
  split at h
  · split at h
    · cases h
    · split at h
      · rename_i h1 h2
        simp at h
        exact .inl ⟨h.1.symm, Prod.ext h.2 h2, by simpa using h1⟩
      · cases h
  · split at h
    · exact .inr h
    · split at h
      · cases h
      · rename_i hv
        split at h
        · exact .inr h
        · split at h
          · exact .inr h
          · split at h
            · exact .inr h
            · split at h
              · rename_i h2
                simp at h
                exact .inl ⟨h.1.symm, Prod.ext h.2 h2, by simpa using hv⟩
              · exact .inr h
theorem nowF_succ {n : Nat} {o : OR} (ho : l[n]? = some o) (key : ByteArray) : nowF fr dl l k fund key (n + 1) = if cntO k fund o = true ∧ o.key = key then (stepK fr dl l (nowF fr dl l k fund key n) o n).1 else nowF fr dl l k fund key n := by
  rw [nowF, ho]
theorem stF_succ {n : Nat} {o : OR} (ho : l[n]? = some o) (j : Nat) : stF fr dl l k fund j (n + 1) = if cntO k fund o = true then (if j = n then (stepK fr dl l (nowF fr dl l k fund o.key n) o n).2.1 else if (stepK fr dl l (nowF fr dl l k fund o.key n) o n).2.2 ≠ 0 ∧ (nowF fr dl l k fund o.key n).map (·.1) = some j then (stepK fr dl l (nowF fr dl l k fund o.key n) o n).2.2 else stF fr dl l k fund j n) else stF fr dl l k fund j n := by
  rw [stF, ho]
/-- What is current is a version of the key that counts, and its day is that of its instant. -/
theorem nowF_is {key : ByteArray} : ∀ {n : Nat} {a : Nat} {d : Int}, nowF fr dl l k fund key n = some (a, d) → a < n ∧ ∃ o, l[a]? = some o ∧ o.key = key ∧ cntO k fund o = true ∧ o.void = false ∧ fr o.t = (d, 0)
  | 0, a, d, h => by cases h
  | n + 1, a, d, h => by
    cases ho : l[n]? with
    | none =>
      rw [nowF, ho] at h
      obtain ⟨h1, h2⟩ := nowF_is h
      exact ⟨by omega, h2⟩
    | some o =>
      rw [nowF_succ ho] at h
      split at h
      · rename_i hc
        rcases stepK_some h with ⟨rfl, h2, h3⟩ | h2
        · exact ⟨by omega, o, ho, hc.2, hc.1, h3, h2⟩
        · obtain ⟨h1, h2⟩ := nowF_is h2
          exact ⟨by omega, h2⟩
      · obtain ⟨h1, h2⟩ := nowF_is h
        exact ⟨by omega, h2⟩
theorem stF_zero {j : Nat} : ∀ {n : Nat}, n ≤ j → stF fr dl l k fund j n = 0
  | 0, _ => rfl
  | n + 1, h => by
    cases ho : l[n]? with
    | none =>
      rw [stF, ho]
      exact stF_zero (by omega)
    | some o =>
      rw [stF_succ ho]
      split
      · rw [if_neg (by omega)]
        split
        · rename_i hc
          cases hn : nowF fr dl l k fund o.key n with
          | none => rw [hn] at hc; simp at hc
          | some p =>
            obtain ⟨a, d⟩ := p
            rw [hn] at hc
            simp at hc
            have := (nowF_is hn).1
            omega
        · exact stF_zero (by omega)
      · exact stF_zero (by omega)
/-- A version of another key changes nothing of a key. -/
theorem stF_other {j n : Nat} {o x : OR} (ho : l[n]? = some o) (hj : l[j]? = some x) (hk : o.key ≠ x.key) : stF fr dl l k fund j (n + 1) = stF fr dl l k fund j n := by
  rw [stF_succ ho]
  split
  · rw [if_neg (by
      rintro rfl
      rw [ho] at hj
      injection hj with hj
      exact hk (by rw [hj]))]
    rw [if_neg]
    rintro ⟨-, h2⟩
    cases hn : nowF fr dl l k fund o.key n with
    | none => rw [hn] at h2; simp at h2
    | some p =>
      obtain ⟨a, d⟩ := p
      rw [hn] at h2
      simp at h2
      obtain ⟨-, w, w1, w2, -⟩ := nowF_is hn
      rw [h2, hj] at w1
      injection w1 with w1
      exact hk (by rw [w1, w2])
  · rfl
end
/-- Two lists in strict order with the same elements are the same. -/
theorem asc_eq {α : Type} {lt : α → α → Prop} (hirr : ∀ a, ¬lt a a) (htr : ∀ a b c, lt a b → lt b c → lt a c) : ∀ (xs ys : List α), xs.Pairwise lt → ys.Pairwise lt → (∀ a, a ∈ xs ↔ a ∈ ys) → xs = ys
  | [], [], _, _, _ => rfl
  | [], y :: ys, _, _, h => by have := (h y).2 (by simp); simp at this
  | x :: xs, [], _, _, h => by have := (h x).1 (by simp); simp at this
  | x :: xs, y :: ys, hx, hy, h => by
    rw [List.pairwise_cons] at hx hy
    have e : x = y := by
      have h1 := (h x).1 (by simp)
      have h2 := (h y).2 (by simp)
      rcases List.mem_cons.1 h1 with h1 | h1
      · exact h1
      · rcases List.mem_cons.1 h2 with h2 | h2
        · exact h2.symm
        · exact absurd (htr _ _ _ (hx.1 y h2) (hy.1 x h1)) (hirr x)
    subst e
    congr 1
    refine asc_eq hirr htr xs ys hx.2 hy.2 (fun a => ?_)
    have ha := h a
    simp only [List.mem_cons] at ha
    constructor
    · intro hm
      rcases ha.1 (.inr hm) with rfl | h2
      · exact absurd (hx.1 a hm) (hirr a)
      · exact h2
    · intro hm
      rcases ha.2 (.inr hm) with rfl | h2
      · exact absurd (hy.1 a hm) (hirr a)
      · exact h2
end
section
open Go.RowKit
set_option linter.unusedVariables false
section
variable (fr dl : Int → Int × Int) (k : Int) (fund : ByteArray)
/-- One version of a key: what is current behind it, and what becomes of it at first. -/
def stepC (now : Option (OR × Int)) (o : OR) : Option (OR × Int) × Int :=
  match now with
  | none => if o.void = true then (none, 6) else if (fr o.t).2 = 0 then (some (o, (fr o.t).1), 1) else (none, 4)
  | some (w, d) =>
    if (dl d).2 ≠ 0 ∨ (dl d).1 < o.t then (some (w, d), 4)
    else if o.void = true then (none, 1)
    else if repB o w = true then (some (w, d), 7) else if conB o w = true then (some (w, d), 5) else if (fr o.t).2 = 0 then (some (o, (fr o.t).1), 1) else (some (w, d), 4)
/-- What is current of a key behind versions. -/
def curC (key : ByteArray) : Option (OR × Int) → List OR → Option (OR × Int)
  | now, [] => now
  | now, o :: r => curC key (if cntO k fund o = true ∧ o.key = key then (stepC fr dl now o).1 else now) r
end
section
variable {fr dl : Int → Int × Int} {l : List OR} {k : Int} {fund : ByteArray}
theorem curC_append (key : ByteArray) : ∀ (l m : List OR) (now : Option (OR × Int)), curC fr dl k fund key now (l ++ m) = curC fr dl k fund key (curC fr dl k fund key now l) m
  | [], m, now => rfl
  | o :: r, m, now => by rw [List.cons_append, curC, curC, curC_append key r m]
theorem curC_snoc (key : ByteArray) (l : List OR) (o : OR) : curC fr dl k fund key none (l ++ [o]) = if cntO k fund o = true ∧ o.key = key then (stepC fr dl (curC fr dl k fund key none l) o).1 else curC fr dl k fund key none l := by
  rw [curC_append]
  rfl
/-- A place and what stands there. -/
def RelC (l : List OR) (p : Option (Nat × Int)) (q : Option (OR × Int)) : Prop :=
  match p, q with
  | none, none => True
  | some (a, d), some (w, d') => d = d' ∧ l[a]? = some w
  | _, _ => False
theorem step_rel {p : Option (Nat × Int)} {q : Option (OR × Int)} {o : OR} {n : Nat} (h : RelC l p q) (ho : l[n]? = some o) : RelC l (stepK fr dl l p o n).1 (stepC fr dl q o).1 ∧ (stepK fr dl l p o n).2.1 = (stepC fr dl q o).2 := by
  match p, q, h with
  | none, none, _ =>
    unfold stepK stepC
    simp only
    split
    · exact ⟨trivial, rfl⟩
    · split
      · exact ⟨⟨rfl, ho⟩, rfl⟩
      · exact ⟨trivial, rfl⟩
  | some (a, d), some (w, d'), ⟨hd, hw⟩ =>
    subst hd
    unfold stepK stepC
    simp only [hw]
    split
    · exact ⟨⟨rfl, hw⟩, rfl⟩
    · split
      · exact ⟨trivial, rfl⟩
      · split
        · exact ⟨⟨rfl, hw⟩, rfl⟩
        · split
          · exact ⟨⟨rfl, hw⟩, rfl⟩
          · split
            · exact ⟨⟨rfl, ho⟩, rfl⟩
            · exact ⟨⟨rfl, hw⟩, rfl⟩
theorem take_one {n : Nat} {o : OR} (ho : l[n]? = some o) : l.take (n + 1) = l.take n ++ [o] := by
  obtain ⟨hn, he⟩ := List.getElem?_eq_some_iff.1 ho
  rw [List.take_succ_eq_append_getElem hn, he]
theorem cur_rel (key : ByteArray) : ∀ n : Nat, n ≤ l.length → RelC l (nowF fr dl l k fund key n) (curC fr dl k fund key none (l.take n))
  | 0, _ => trivial
  | n + 1, h => by
    have ih := cur_rel key n (by omega)
    obtain ⟨o, ho⟩ : ∃ o, l[n]? = some o := ⟨l[n], List.getElem?_eq_getElem (by omega)⟩
    rw [nowF_succ ho, take_one ho, curC_snoc]
    split
    · exact (step_rel ih ho).1
    · exact ih
/-- A version that fails changes nothing. -/
theorem step_fails {q : Option (OR × Int)} {o : OR} (h : 4 ≤ (stepC fr dl q o).2) : (stepC fr dl q o).1 = q := by
  unfold stepC at h ⊢
  split
  · split
    · rfl
    · split
      · rename_i h1 h2
        simp [h1, h2] at h
      · rfl
  · split
    · rfl
    · split
      · rename_i h1 h2
        simp [h1, h2] at h
      · split
        · rfl
        · split
          · rfl
          · split
            · rename_i h1 h2 h3 h4 h5
              simp [h1, h2, h3, h4, h5] at h
            · rfl
theorem step_first {p : Option (Nat × Int)} {o : OR} {n : Nat} : 0 ≤ (stepK fr dl l p o n).2.1 ∧ ((stepK fr dl l p o n).2.2 = 0 ∨ (stepK fr dl l p o n).2.2 = 2 ∨ (stepK fr dl l p o n).2.2 = 3) := by
  unfold stepK
  split
  · split
    · exact ⟨by simp, .inl rfl⟩
    · split
      · exact ⟨by simp, .inl rfl⟩
      · exact ⟨by simp, .inl rfl⟩
  · split
    · exact ⟨by simp, .inl rfl⟩
    · split
      · exact ⟨by simp, .inr (.inr rfl)⟩
      · split
        · exact ⟨by simp, .inl rfl⟩
        · split
          · exact ⟨by simp, .inl rfl⟩
          · split
            · exact ⟨by simp, .inl rfl⟩
            · split
              · exact ⟨by simp, .inr (.inl rfl)⟩
              · exact ⟨by simp, .inl rfl⟩
/-- What has become of a version is what became of it at first, or it was replaced or withdrawn. -/
theorem stF_first {j : Nat} : ∀ n : Nat, j < n → stF fr dl l k fund j n = stF fr dl l k fund j (j + 1) ∨ stF fr dl l k fund j n = 2 ∨ stF fr dl l k fund j n = 3
  | 0, h => by omega
  | n + 1, h => by
    rcases Nat.lt_or_ge j n with hj | hj
    · have ih := stF_first n hj
      cases ho : l[n]? with
      | none =>
        have e : stF fr dl l k fund j (n + 1) = stF fr dl l k fund j n := by rw [stF, ho]
        rw [e]
        exact ih
      | some o =>
        rw [stF_succ ho]
        split
        · rw [if_neg (by omega)]
          split
          · rename_i hc
            rcases (step_first (fr := fr) (dl := dl) (l := l) (p := nowF fr dl l k fund o.key n) (o := o) (n := n)).2 with h0 | h0 | h0
            · exact absurd h0 hc.1
            · exact .inr (.inl h0)
            · exact .inr (.inr h0)
          · exact ih
        · exact ih
    · obtain rfl : j = n := by omega
      exact .inl rfl
/-- Versions that fail may be left out. -/
theorem rest_cur (hl : ∀ j, j < l.length → True) (key : ByteArray) : ∀ n : Nat, n ≤ l.length →
    curC fr dl k fund key none (((List.range n).filter fun j => decide (stF fr dl l k fund j l.length < 4)).filterMap fun j => l[j]?) = curC fr dl k fund key none (l.take n)
  | 0, _ => rfl
  | n + 1, h => by
    have ih := rest_cur hl key n (by omega)
    obtain ⟨o, ho⟩ : ∃ o, l[n]? = some o := ⟨l[n], List.getElem?_eq_getElem (by omega)⟩
    rw [take_one ho, curC_snoc, List.range_succ, List.filter_append, List.filterMap_append]
    by_cases hs : stF fr dl l k fund n l.length < 4
    · rw [show List.filter (fun j => decide (stF fr dl l k fund j l.length < 4)) [n] = [n] from by simp [hs], show List.filterMap (fun j => l[j]?) [n] = [o] from by simp [ho], curC_snoc, ih]
    · rw [show List.filter (fun j => decide (stF fr dl l k fund j l.length < 4)) [n] = [] from by simp [hs], List.filterMap_nil, List.append_nil, ih]
      split
      · rename_i hc
        symm
        refine step_fails ?_
        have h1 := stF_first (fr := fr) (dl := dl) (l := l) (k := k) (fund := fund) (j := n) l.length (by omega)
        have h2 : stF fr dl l k fund n (n + 1) = (stepK fr dl l (nowF fr dl l k fund o.key n) o n).2.1 := by
          rw [stF_succ ho, if_pos hc.1, if_pos rfl]
        have h3 := (step_rel (fr := fr) (dl := dl) (cur_rel (fr := fr) (dl := dl) (k := k) (fund := fund) o.key n (by omega)) ho).2
        rw [hc.2] at h3 h2
        rw [← h3, ← h2]
        omega
      · rfl
/-- Versions that do not count may be left out. -/
theorem known_cur (key : ByteArray) (f : OR → Bool) (hf : ∀ o ∈ l, f o = false → cntO k fund o = false) (k2 : Int) (hk : ∀ o ∈ l, f o = true → cntO k2 fund o = cntO k fund o) : ∀ now, curC fr dl k2 fund key now (l.filter f) = curC fr dl k fund key now l := by
  induction l with
  | nil => intro now; rfl
  | cons o r ih =>
    intro now
    have ih' := ih (fun x hx => hf x (by simp [hx])) (fun x hx => hk x (by simp [hx]))
    cases h : f o
    · rw [List.filter_cons_of_neg (by simp [h]), curC, hf o (by simp) h]
      simp only [Bool.false_eq_true, false_and, if_false]
      exact ih' now
    · rw [List.filter_cons_of_pos h, curC, curC, hk o (by simp) h]
      exact ih' _
theorem curC_is (key : ByteArray) : ∀ (l : List OR) (now : Option (OR × Int)) (o : OR) (d : Int), (∀ o d, now = some (o, d) → o.key = key ∧ cntO k fund o = true ∧ o.void = false ∧ fr o.t = (d, 0)) → curC fr dl k fund key now l = some (o, d) → o.key = key ∧ cntO k fund o = true ∧ o.void = false ∧ fr o.t = (d, 0) ∧ (o ∈ l ∨ now = some (o, d))
  | [], now, o, d, hn, h => by
    have := hn o d h
    exact ⟨this.1, this.2.1, this.2.2.1, this.2.2.2, .inr h⟩
  | x :: r, now, o, d, hn, h => by
    rw [curC] at h
    have hx : ∀ o d, (if cntO k fund x = true ∧ x.key = key then (stepC fr dl now x).1 else now) = some (o, d) → (o = x ∨ now = some (o, d)) ∧ o.key = key ∧ cntO k fund o = true ∧ o.void = false ∧ fr o.t = (d, 0) := fun o d he => by
      split at he
      · rename_i hc
        have key1 : (stepC fr dl now x).1 = some (o, d) → (o = x ∧ fr x.t = (d, 0) ∧ x.void = false) ∨ now = some (o, d) := fun he => by
          unfold stepC at he
          split at he
          · split at he
            · cases he
            · split at he
              · rename_i h1 h2
                simp at he
                exact .inl ⟨he.1.symm, Prod.ext he.2 h2, by simpa using h1⟩
              · cases he
          · split at he
            · exact .inr he
            · split at he
              · cases he
              · rename_i hv
                split at he
                · exact .inr he
                · split at he
                  · exact .inr he
                  · split at he
                    · rename_i h2
                      simp at he
                      exact .inl ⟨he.1.symm, Prod.ext he.2 h2, by simpa using hv⟩
                    · exact .inr he
        rcases key1 he with ⟨rfl, h2, h3⟩ | h2
        · exact ⟨.inl rfl, hc.2, hc.1, h3, h2⟩
        · exact ⟨.inr h2, hn o d h2⟩
      · exact ⟨.inr he, hn o d he⟩
    obtain ⟨a1, a2, a3, a4, a5⟩ := curC_is key r _ o d (fun o d he => (hx o d he).2) h
    refine ⟨a1, a2, a3, a4, ?_⟩
    rcases a5 with a5 | a5
    · exact .inl (by simp [a5])
    · rcases (hx o d a5).1 with h1 | h1
      · exact .inl (by simp [h1])
      · exact .inr h1
end
/-- What is taken, by day, then by the time at which it became known. -/
def tcLt (x y : OR × Int) : Prop := x.2 < y.2 ∨ (x.2 = y.2 ∧ x.1.known < y.1.known)
def TakenC (cur : ByteArray → Option (OR × Int)) (T : List (OR × Int)) : Prop := T.Pairwise tcLt ∧ ∀ o d, (o, d) ∈ T ↔ cur o.key = some (o, d)
theorem tcLt_irr (x : OR × Int) : ¬tcLt x x := by
  rintro (h | ⟨-, h⟩) <;> omega
theorem tcLt_tr (x y z : OR × Int) (h : tcLt x y) (g : tcLt y z) : tcLt x z := by
  rcases h with h | ⟨h1, h2⟩ <;> rcases g with g | ⟨g1, g2⟩
  · exact .inl (by omega)
  · exact .inl (by omega)
  · exact .inl (by omega)
  · exact .inr ⟨by omega, by omega⟩
theorem TakenC.unique {c1 c2 : ByteArray → Option (OR × Int)} {L M : List (OR × Int)} (h : TakenC c1 L) (g : TakenC c2 M) (hc : ∀ key, c1 key = c2 key) : L = M :=
  asc_eq tcLt_irr tcLt_tr L M h.1 g.1 (fun ⟨o, d⟩ => (h.2 o d).trans (by rw [hc]; exact (g.2 o d).symm))
end
section
open Go.RowKit
set_option linter.unusedVariables false
theorem book_less : ∀ (l : List OR) (last last' : Int), last' ≤ last → bookFrom last l = 0 → bookFrom last' l = 0
  | [], _, _, _, _ => rfl
  | x :: r, last, last', h, hb => by
    unfold bookFrom at hb ⊢
    split at hb
    · cases hb
    · rename_i a
      rw [if_neg a]
      split at hb
      · cases hb
      · rw [if_neg (by omega)]
        exact hb
theorem book_sub {r l : List OR} (h : r.Sublist l) : ∀ last : Int, bookFrom last l = 0 → bookFrom last r = 0 := by
  induction h with
  | slnil => intro last hb; exact hb
  | cons x h ih =>
    intro last hb
    unfold bookFrom at hb
    split at hb
    · cases hb
    · split at hb
      · cases hb
      · exact ih _ (book_less _ _ _ (by omega) hb)
  | cons_cons x h ih =>
    intro last hb
    unfold bookFrom at hb ⊢
    split at hb
    · cases hb
    · rename_i a
      rw [if_neg a]
      split at hb
      · cases hb
      · rename_i c
        rw [if_neg c]
        exact ih _ hb
theorem bookErr_sub {r l : List OR} (h : r.Sublist l) (hb : bookErr l = 0) : bookErr r = 0 := by
  obtain ⟨h1, h2⟩ := bookErr_zero hb
  unfold bookErr
  rw [if_pos (Nat.le_trans h.length_le h1)]
  exact book_sub h 0 h2
/-- The versions at some places. -/
def atP (l : List OR) (p : Nat → Bool) (n : Nat) : List OR := ((List.range n).filter p).filterMap fun j => l[j]?
theorem atP_succ {l : List OR} {p : Nat → Bool} {n : Nat} {o : OR} (ho : l[n]? = some o) : atP l p (n + 1) = if p n = true then atP l p n ++ [o] else atP l p n := by
  unfold atP
  rw [List.range_succ, List.filter_append, List.filterMap_append]
  cases h : p n
  · simp [h]
  · simp [h, ho]
theorem atP_all (l : List OR) : ∀ n, n ≤ l.length → (List.range n).filterMap (fun j => l[j]?) = l.take n
  | 0, _ => rfl
  | n + 1, h => by
    obtain ⟨o, ho⟩ : ∃ o, l[n]? = some o := ⟨l[n], List.getElem?_eq_getElem (by omega)⟩
    rw [take_one ho, List.range_succ, List.filterMap_append, atP_all l n (by omega)]
    simp [ho]
theorem atP_sub (l : List OR) (p : Nat → Bool) (n : Nat) (h : n ≤ l.length) : (atP l p n).Sublist l := by
  unfold atP
  have h1 : (((List.range n).filter p).filterMap fun j => l[j]?).Sublist ((List.range n).filterMap fun j => l[j]?) := (List.filter_sublist).filterMap _
  rw [atP_all l n h] at h1
  exact h1.trans (List.take_sublist _ _)
section
variable {fr dl : Int → Int × Int} {l : List OR} {k : Int} {fund : ByteArray}
/-- A version counts as taken. -/
def tknB (fr dl : Int → Int × Int) (l : List OR) (k : Int) (fund : ByteArray) (n j : Nat) : Bool :=
  match l[j]? with
  | none => false
  | some o => decide (stF fr dl l k fund j n = 1) && !o.void
theorem stepK_acc {now : Option (Nat × Int)} {o : OR} {i : Nat} (hin : ∀ a d, now = some (a, d) → a < i ∧ a < l.length) : ((stepK fr dl l now o i).2.1 = 1 ∧ o.void = false) ↔ ((stepK fr dl l now o i).1.map (·.1) = some i) := by
  unfold stepK
  cases now with
  | none =>
    simp only
    split
    · rename_i h
      simp [h]
    · split
      · rename_i h1 h2
        simp [h1]
      · simp
  | some p =>
    obtain ⟨a, d⟩ := p
    obtain ⟨h1, h2⟩ := hin a d rfl
    obtain ⟨w, hw⟩ : ∃ w, l[a]? = some w := ⟨l[a], List.getElem?_eq_getElem h2⟩
    have hne : a ≠ i := by omega
    simp only [hw]
    split
    · simp [hne]
    · split
      · rename_i hv
        simp [hv]
      · rename_i hv
        split
        · simp [hne]
        · split
          · simp [hne]
          · split
            · simpa using hv
            · simp [hne]
theorem step_kept {now : Option (Nat × Int)} {o : OR} {i : Nat} : ((stepK fr dl l now o i).2.2 ≠ 0 → ((stepK fr dl l now o i).1 = none ∨ ∃ d, (stepK fr dl l now o i).1 = some (i, d))) ∧ ((stepK fr dl l now o i).2.2 = 0 → ((stepK fr dl l now o i).1 = now ∨ (now = none ∧ ∃ d, (stepK fr dl l now o i).1 = some (i, d)))) := by
  unfold stepK
  cases now with
  | none =>
    simp only
    split
    · exact ⟨fun h => absurd rfl h, fun _ => .inl rfl⟩
    · split
      · exact ⟨fun h => absurd rfl h, fun _ => .inr ⟨by trivial, _, rfl⟩⟩
      · exact ⟨fun h => absurd rfl h, fun _ => .inl rfl⟩
  | some p =>
    obtain ⟨a, d⟩ := p
    simp only
    split
    · exact ⟨fun h => absurd rfl h, fun _ => .inl rfl⟩
    · split
      · exact ⟨fun _ => .inl rfl, fun h => by simp at h⟩
      · split
        · exact ⟨fun h => absurd rfl h, fun _ => .inl rfl⟩
        · split
          · exact ⟨fun h => absurd rfl h, fun _ => .inl rfl⟩
          · split
            · exact ⟨fun h => absurd rfl h, fun _ => .inl rfl⟩
            · split
              · exact ⟨fun _ => .inr ⟨_, rfl⟩, fun h => by simp at h⟩
              · exact ⟨fun h => absurd rfl h, fun _ => .inl rfl⟩
/-- What is current has been accepted, and nothing else that is not void. -/
theorem acc_now : ∀ (n : Nat), n ≤ l.length → ∀ (j : Nat) (o : OR), j < n → l[j]? = some o → ((stF fr dl l k fund j n = 1 ∧ o.void = false) ↔ (nowF fr dl l k fund o.key n).map (·.1) = some j)
  | 0, _, j, o, hj, _ => by omega
  | n + 1, hn, j, o, hj, ho => by
    obtain ⟨x, hx⟩ : ∃ x, l[n]? = some x := ⟨l[n], List.getElem?_eq_getElem (by omega)⟩
    rw [stF_succ hx, nowF_succ hx]
    have hin : ∀ key a d, nowF fr dl l k fund key n = some (a, d) → a < n ∧ a < l.length := fun key a d h => by
      have := (nowF_is h).1
      omega
    by_cases hc : cntO k fund x = true
    · rw [if_pos hc]
      by_cases hjn : j = n
      · subst hjn
        rw [hx] at ho
        injection ho with ho
        subst ho
        rw [if_pos rfl, if_pos ⟨hc, rfl⟩]
        exact stepK_acc (fun a d h => hin _ a d h)
      · rw [if_neg hjn]
        have ih := acc_now n (by omega) j o (by omega) ho
        by_cases hk : x.key = o.key
        · rw [if_pos (show cntO k fund x = true ∧ x.key = o.key from ⟨hc, hk⟩), hk]
          have h0 := step_kept (fr := fr) (dl := dl) (l := l) (now := nowF fr dl l k fund o.key n) (o := x) (i := n)
          split
          · rename_i h1
            have h2 := h0.1 h1.1
            constructor
            · rintro ⟨h3, -⟩
              have := (step_first (fr := fr) (dl := dl) (l := l) (p := nowF fr dl l k fund o.key n) (o := x) (n := n)).2
              omega
            · intro h3
              exact absurd h3 (by rcases h2 with h2 | ⟨d, h2⟩ <;> rw [h2] <;> simp; omega)
          · rename_i h1
            rw [ih]
            by_cases h2 : (stepK fr dl l (nowF fr dl l k fund o.key n) x n).2.2 = 0
            · rcases h0.2 h2 with h3 | ⟨h3, d, h4⟩
              · rw [h3]
              · rw [h4, h3]
                simp
                omega
            · have h4 : (nowF fr dl l k fund o.key n).map (·.1) ≠ some j := fun e => h1 ⟨h2, e⟩
              rcases h0.1 h2 with h3 | ⟨d, h3⟩
              · rw [h3]
                constructor
                · intro e; exact absurd e h4
                · intro e; simp at e
              · rw [h3]
                constructor
                · intro e; exact absurd e h4
                · intro e; simp at e; omega
        · rw [if_neg (show ¬ (cntO k fund x = true ∧ x.key = o.key) from fun h => hk h.2), if_neg (show ¬ ((stepK fr dl l (nowF fr dl l k fund x.key n) x n).2.2 ≠ 0 ∧ (nowF fr dl l k fund x.key n).map (·.1) = some j) from fun h => by
            have h2 := h.2
            cases hn2 : nowF fr dl l k fund x.key n with
            | none => rw [hn2] at h2; simp at h2
            | some p =>
              obtain ⟨a, d⟩ := p
              rw [hn2] at h2
              simp at h2
              obtain ⟨-, w, w1, w2, -⟩ := nowF_is hn2
              rw [h2, ho] at w1
              injection w1 with w1
              exact hk (by rw [w1, w2]))]
          exact ih
    · rw [if_neg hc, if_neg (show ¬ (cntO k fund x = true ∧ x.key = o.key) from fun h => hc h.1)]
      by_cases hjn : j = n
      · subst hjn
        rw [stF_zero (Nat.le_refl _)]
        rw [hx] at ho
        injection ho with ho
        subst ho
        constructor
        · rintro ⟨h, -⟩
          omega
        · intro h
          cases hn2 : nowF fr dl l k fund x.key j with
          | none => rw [hn2] at h; simp at h
          | some p =>
            obtain ⟨a, d⟩ := p
            rw [hn2] at h
            simp at h
            have := (nowF_is hn2).1
            omega
      · exact acc_now n (by omega) j o (by omega) ho
/-- The places of what has been accepted and is not void, with the days. -/
def tknL (fr dl : Int → Int × Int) (l : List OR) (k : Int) (fund : ByteArray) (n : Nat) : List (OR × Int) :=
  ((List.range n).filter (tknB fr dl l k fund n)).filterMap fun j => match l[j]? with
    | none => none
    | some o => (nowF fr dl l k fund o.key n).map fun q => (o, q.2)
theorem tknB_iff {n j : Nat} {o : OR} (hn : n ≤ l.length) (hj : j < n) (ho : l[j]? = some o) : tknB fr dl l k fund n j = true ↔ ∃ d, nowF fr dl l k fund o.key n = some (j, d) := by
  have h := acc_now (fr := fr) (dl := dl) (k := k) (fund := fund) n hn j o hj ho
  unfold tknB
  rw [ho]
  simp only [Bool.and_eq_true, decide_eq_true_eq, Bool.not_eq_true']
  rw [h]
  cases nowF fr dl l k fund o.key n with
  | none => simp
  | some q =>
    obtain ⟨a, d⟩ := q
    simp
theorem tknL_len {n : Nat} (hn : n ≤ l.length) : (tknL fr dl l k fund n).length = ((List.range n).filter (tknB fr dl l k fund n)).length := by
  unfold tknL
  rw [List.length_filterMap_eq_countP, List.countP_eq_length]
  intro j hj
  rw [List.mem_filter, List.mem_range] at hj
  obtain ⟨o, ho⟩ : ∃ o, l[j]? = some o := ⟨l[j], List.getElem?_eq_getElem (by omega)⟩
  obtain ⟨d, hd⟩ := (tknB_iff hn hj.1 ho).1 hj.2
  simp [ho, hd]
theorem tknL_mem {n : Nat} (hn : n ≤ l.length) (p : OR × Int) : p ∈ tknL fr dl l k fund n ↔ ∃ key a, nowF fr dl l k fund key n = some (a, p.2) ∧ l[a]? = some p.1 := by
  unfold tknL
  rw [List.mem_filterMap]
  constructor
  · rintro ⟨j, hj, hp⟩
    rw [List.mem_filter, List.mem_range] at hj
    obtain ⟨o, ho⟩ : ∃ o, l[j]? = some o := ⟨l[j], List.getElem?_eq_getElem (by omega)⟩
    obtain ⟨d, hd⟩ := (tknB_iff hn hj.1 ho).1 hj.2
    rw [ho] at hp
    simp only [hd, Option.map_some, Option.some.injEq] at hp
    subst hp
    exact ⟨o.key, j, hd, ho⟩
  · rintro ⟨key, a, h1, h2⟩
    obtain ⟨ha, o, h3, h4, -⟩ := nowF_is h1
    rw [h2] at h3
    injection h3 with h3
    subst h3
    rw [← h4] at h1
    refine ⟨a, ?_, ?_⟩
    · rw [List.mem_filter, List.mem_range]
      exact ⟨ha, (tknB_iff hn ha h2).2 ⟨_, h1⟩⟩
    · rw [h2]
      simp [h1]
theorem tknL_nodup {n : Nat} (hn : n ≤ l.length) (hb : bookFrom 0 l = 0) : (tknL fr dl l k fund n).Nodup := by
  unfold tknL
  rw [List.nodup_iff_pairwise_ne, List.pairwise_filterMap]
  refine List.Pairwise.imp_of_mem (R := fun a b => a < b) ?_ (List.Pairwise.filter _ (List.pairwise_lt_range))
  intro i j hi hj hij p hp q hq e
  rw [List.mem_filter, List.mem_range] at hi hj
  obtain ⟨x, hx⟩ : ∃ o, l[i]? = some o := ⟨l[i], List.getElem?_eq_getElem (by omega)⟩
  obtain ⟨y, hy⟩ : ∃ o, l[j]? = some o := ⟨l[j], List.getElem?_eq_getElem (by omega)⟩
  have hlt := book_lt _ _ _ _ _ _ hb hx hy hij
  simp only [hx, Option.map_eq_some_iff] at hp
  simp only [hy, Option.map_eq_some_iff] at hq
  obtain ⟨a, -, rfl⟩ := hp
  obtain ⟨c, -, rfl⟩ := hq
  injection e with e1 e2
  rw [e1] at hlt
  omega
end
end
end Go.Proofs.YtbfllcfjgpkpaaaGreat
