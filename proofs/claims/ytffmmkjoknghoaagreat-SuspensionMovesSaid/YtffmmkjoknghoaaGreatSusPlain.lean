/-
  Suspensions and marks in plain values: which lists are valid, which records count as known, what a day's cover is, what Move answers. No program in sight.
-/
import Derived.Test.YtffmmkjoknghoaaGreatZonePlain
import Derived.Test.YtffmmkjoknghoaaGreatSchedPlain
namespace Go.Proofs.YtffmmkjoknghoaaGreat
open Go.RowKit
/-- A suspension. -/
structure SU where
  key : ByteArray
  fund : ByteArray
  frm : Int
  til : Int
  known : Int
  void : Bool
/-- A mark. -/
structure MK where
  key : ByteArray
  known : Int
  void : Bool
def SU.mark (x : SU) : MK := ⟨x.key, x.known, x.void⟩
def knB (k : Int) : Bool := decide (1 ≤ k ∧ k ≤ 2147483647)
theorem knB_iff (k : Int) : knB k = true ↔ 1 ≤ k ∧ k ≤ 2147483647 := by simp [knB]
theorem knB_no {k : Int} (h : knB k = false) : k < 1 ∨ 2147483647 < k := by simp [knB] at h; omega
def nmB (s : ByteArray) : Bool := nameB s.data.toList
/-- The span of a suspension that is not void. -/
def spanB (x : SU) : Bool := decide (0 ≤ x.frm ∧ x.frm ≤ 73048) && (decide (x.til = 0) || decide (x.frm ≤ x.til ∧ x.til ≤ 73048))
def SU.ok (x : SU) : Bool := nmB x.key && knB x.known && (if x.void = true then decide (x.fund.toList = []) && decide (x.frm = 0 ∧ x.til = 0) else nmB x.fund && spanB x)
def susFrom : Int → List SU → Bool
  | _, [] => true
  | last, x :: r => x.ok && decide (last < x.known) && susFrom x.known r
def susB (l : List SU) : Bool := decide (l.length ≤ 4096) && susFrom 0 l
def susErr (l : List SU) : Int := if susB l = true then 0 else 280
theorem susErr_ok {l : List SU} (h : susB l = true) : susErr l = 0 := by simp [susErr, h]
theorem susErr_bad {l : List SU} (h : susB l = false) : susErr l = 280 := by simp [susErr, h]
/-- Marks that are valid. -/
def MK.ok (m : MK) : Bool := decide (1 ≤ m.key.size ∧ m.key.size ≤ 64) && decide (m.known ≤ 2147483647)
def mksFrom : Int → List MK → Bool
  | _, [] => true
  | last, x :: r => x.ok && decide (last < x.known) && mksFrom x.known r
def mksB (l : List MK) : Bool := decide (l.length ≤ 4096) && mksFrom 0 l
theorem nmB_size {s : ByteArray} (h : nmB s = true) : 1 ≤ s.size ∧ s.size ≤ 16 := by
  unfold nmB nameB at h
  simp at h
  have : s.data.toList.length = s.size := by simp
  omega
theorem SU.ok_mark {x : SU} (h : x.ok = true) : x.mark.ok = true := by
  unfold SU.ok at h
  simp only [Bool.and_eq_true] at h
  have h1 := nmB_size h.1.1
  have h2 := (knB_iff _).1 h.1.2
  simp only [SU.mark, MK.ok, Bool.and_eq_true]
  exact ⟨decide_eq_true (by omega), decide_eq_true (by omega)⟩
theorem mksFrom_of : ∀ (l : List SU) (last : Int), susFrom last l = true → mksFrom last (l.map SU.mark) = true
  | [], _, _ => rfl
  | x :: r, last, h => by
    simp only [susFrom, Bool.and_eq_true] at h
    simp only [List.map_cons, mksFrom, Bool.and_eq_true]
    exact ⟨⟨SU.ok_mark h.1.1, h.1.2⟩, mksFrom_of r _ h.2⟩
theorem mksB_of {l : List SU} (h : susB l = true) : mksB (l.map SU.mark) = true := by
  unfold susB at h
  simp only [Bool.and_eq_true, decide_eq_true_eq] at h
  simp only [mksB, Bool.and_eq_true, decide_eq_true_eq, List.length_map]
  exact ⟨h.1, mksFrom_of _ _ h.2⟩
theorem susFrom_get : ∀ (l : List SU) (last : Int) (i : Nat) (x : SU), susFrom last l = true → l[i]? = some x → x.ok = true ∧ last < x.known
  | [], _, i, x, _, h => by simp at h
  | y :: r, last, i, x, h, hx => by
    simp only [susFrom, Bool.and_eq_true, decide_eq_true_eq] at h
    cases i with
    | zero =>
      simp at hx
      subst hx
      exact ⟨h.1.1, h.1.2⟩
    | succ i =>
      have := susFrom_get r _ i x h.2 (by simpa using hx)
      exact ⟨this.1, by omega⟩
theorem mksFrom_get : ∀ (l : List MK) (last : Int) (i : Nat) (x : MK), mksFrom last l = true → l[i]? = some x → x.ok = true ∧ last < x.known
  | [], _, i, x, _, h => by simp at h
  | y :: r, last, i, x, h, hx => by
    simp only [mksFrom, Bool.and_eq_true, decide_eq_true_eq] at h
    cases i with
    | zero =>
      simp at hx
      subst hx
      exact ⟨h.1.1, h.1.2⟩
    | succ i =>
      have := mksFrom_get r _ i x h.2 (by simpa using hx)
      exact ⟨this.1, by omega⟩
theorem mksFrom_lt : ∀ (l : List MK) (last : Int) (i j : Nat) (x y : MK), mksFrom last l = true → l[i]? = some x → l[j]? = some y → i < j → x.known < y.known
  | [], _, i, _, x, _, _, h, _, _ => by simp at h
  | z :: r, last, i, j, x, y, h, hx, hy, hij => by
    simp only [mksFrom, Bool.and_eq_true, decide_eq_true_eq] at h
    cases j with
    | zero => omega
    | succ j =>
      cases i with
      | zero =>
        simp at hx
        subst hx
        exact (mksFrom_get r _ j y h.2 (by simpa using hy)).2
      | succ i => exact mksFrom_lt r _ i j x y h.2 (by simpa using hx) (by simpa using hy) (by omega)
/-- The last record of a key among the first n that became known by k. -/
def lastF (ms : List MK) (k : Int) (key : ByteArray) : Nat → Int
  | 0 => -1
  | n + 1 => match ms[n]? with
    | some m => if m.known ≤ k ∧ m.key = key then (n : Int) else lastF ms k key n
    | none => lastF ms k key n
def visAt (ms : List MK) (k : Int) (i : Nat) : Bool := match ms[i]? with
  | some m => !m.void && decide (m.known ≤ k) && decide (lastF ms k m.key ms.length = i)
  | none => false
def visF (ms : List MK) (k : Int) : Nat → List Int
  | 0 => []
  | n + 1 => visF ms k n ++ if visAt ms k n = true then [(n : Int)] else []
def vis (ms : List MK) (k : Int) : List Int := visF ms k ms.length
theorem lastF_bd (ms : List MK) (k : Int) (key : ByteArray) : ∀ n : Nat, -1 ≤ lastF ms k key n ∧ lastF ms k key n < n
  | 0 => by simp [lastF]
  | n + 1 => by
    have := lastF_bd ms k key n
    unfold lastF
    split
    · split <;> omega
    · omega
theorem lastF_hit {ms : List MK} {k : Int} {key : ByteArray} {n : Nat} {m : MK} (hm : ms[n]? = some m) (h1 : m.known ≤ k) (h2 : m.key = key) : lastF ms k key (n + 1) = n := by
  simp [lastF, hm, h1, h2]
theorem lastF_miss {ms : List MK} {k : Int} {key : ByteArray} {n : Nat} {m : MK} (hm : ms[n]? = some m) (h : ¬(m.known ≤ k ∧ m.key = key)) : lastF ms k key (n + 1) = lastF ms k key n := by
  simp only [lastF, hm]
  rw [if_neg h]
theorem lastF_is {ms : List MK} {k : Int} {key : ByteArray} : ∀ (n : Nat) (i : Nat), lastF ms k key n = i → ∃ m, ms[i]? = some m ∧ m.known ≤ k ∧ m.key = key
  | 0, i, h => by
    simp only [lastF] at h
    omega
  | n + 1, i, h => by
    cases hm : ms[n]? with
    | none =>
      simp only [lastF, hm] at h
      exact lastF_is n i h
    | some m =>
      by_cases hc : m.known ≤ k ∧ m.key = key
      · rw [lastF_hit hm hc.1 hc.2] at h
        obtain rfl : n = i := by omega
        exact ⟨m, hm, hc.1, hc.2⟩
      · rw [lastF_miss hm hc] at h
        exact lastF_is n i h
/-- Behind the first record that became known after k nothing counts. -/
theorem lastF_stop {ms : List MK} {k : Int} (hv : mksFrom 0 ms = true) {n : Nat} {m : MK} (hm : ms[n]? = some m) (hk : k < m.known) (key : ByteArray) : ∀ j : Nat, lastF ms k key (n + j) = lastF ms k key n
  | 0 => rfl
  | j + 1 => by
    have ih := lastF_stop hv hm hk key j
    rw [← Nat.add_assoc]
    cases hj : ms[n + j]? with
    | none =>
      rw [← ih]
      simp [lastF, hj]
    | some m2 =>
      rw [← ih]
      refine lastF_miss hj (fun h => ?_)
      rcases Nat.eq_zero_or_pos j with h0 | h0
      · subst h0
        rw [Nat.add_zero, hm] at hj
        injection hj with hj
        subst hj
        omega
      · have := mksFrom_lt ms 0 n (n + j) m m2 hv hm hj (by omega)
        omega
theorem visF_mem {ms : List MK} {k : Int} (i : Int) : ∀ n : Nat, i ∈ visF ms k n ↔ ∃ j : Nat, i = j ∧ j < n ∧ visAt ms k j = true
  | 0 => by simp [visF]
  | n + 1 => by
    rw [visF, List.mem_append, visF_mem i n]
    constructor
    · rintro (⟨j, h1, h2, h3⟩ | h)
      · exact ⟨j, h1, by omega, h3⟩
      · split at h
        · simp at h
          exact ⟨n, h, by omega, by assumption⟩
        · simp at h
    · rintro ⟨j, h1, h2, h3⟩
      rcases Nat.lt_or_ge j n with h | h
      · exact .inl ⟨j, h1, h, h3⟩
      · obtain rfl : j = n := by omega
        exact .inr (by rw [if_pos h3]; simp [h1])
theorem visF_asc {ms : List MK} {k : Int} : ∀ n : Nat, (visF ms k n).Pairwise (· < ·)
  | 0 => List.Pairwise.nil
  | n + 1 => by
    rw [visF, List.pairwise_append]
    refine ⟨visF_asc n, by split <;> simp, fun a ha b hb => ?_⟩
    obtain ⟨j, rfl, hj, -⟩ := (visF_mem a n).1 ha
    split at hb
    · simp at hb
      omega
    · simp at hb
theorem visF_len {ms : List MK} {k : Int} : ∀ n : Nat, (visF ms k n).length ≤ n
  | 0 => Nat.le_refl _
  | n + 1 => by
    have := visF_len (ms := ms) (k := k) n
    rw [visF, List.length_append]
    split <;> simp <;> omega
/-- What the program's map says of a key after n records: the index of its record, unless that record is void. -/
def cntN (ms : List MK) (k : Int) (key : ByteArray) (n : Nat) : Option Nat := match ms[(lastF ms k key n).toNat]? with
  | some m => if 0 ≤ lastF ms k key n ∧ m.void = false then some (lastF ms k key n).toNat else none
  | none => none
theorem cntN_zero (ms : List MK) (k : Int) (key : ByteArray) : cntN ms k key 0 = none := by
  have h : lastF ms k key 0 = -1 := rfl
  unfold cntN
  rw [h]
  split
  · rw [if_neg (by omega)]
  · rfl
theorem cntN_miss {ms : List MK} {k : Int} {key : ByteArray} {n : Nat} {m : MK} (hm : ms[n]? = some m) (h : m.key ≠ key) : cntN ms k key (n + 1) = cntN ms k key n := by
  unfold cntN
  rw [lastF_miss hm (fun e => h e.2)]
theorem cntN_void {ms : List MK} {k : Int} {n : Nat} {m : MK} (hm : ms[n]? = some m) (h1 : m.known ≤ k) (h2 : m.void = true) : cntN ms k m.key (n + 1) = none := by
  unfold cntN
  rw [lastF_hit hm h1 rfl]
  simp [hm, h2]
theorem cntN_set {ms : List MK} {k : Int} {n : Nat} {m : MK} (hm : ms[n]? = some m) (h1 : m.known ≤ k) (h2 : m.void = false) : cntN ms k m.key (n + 1) = some n := by
  unfold cntN
  rw [lastF_hit hm h1 rfl]
  simp [hm, h2]
theorem cntN_stop {ms : List MK} {k : Int} (hv : mksFrom 0 ms = true) {n : Nat} {m : MK} (hm : ms[n]? = some m) (hk : k < m.known) (hn : n ≤ ms.length) (key : ByteArray) : cntN ms k key ms.length = cntN ms k key n := by
  obtain ⟨j, hj⟩ : ∃ j, ms.length = n + j := ⟨ms.length - n, by omega⟩
  unfold cntN
  rw [hj, lastF_stop hv hm hk key j]
theorem cntN_key {ms : List MK} {k : Int} {key : ByteArray} {n i : Nat} (h : cntN ms k key n = some i) : ∃ m, ms[i]? = some m ∧ m.key = key ∧ m.void = false ∧ m.known ≤ k ∧ lastF ms k key n = i := by
  unfold cntN at h
  split at h
  · rename_i m hm
    split at h
    · rename_i hc
      injection h with h
      subst h
      have hi : lastF ms k key n = ((lastF ms k key n).toNat : Int) := by omega
      obtain ⟨m', h1, h2, h3⟩ := lastF_is n _ hi
      rw [hm] at h1
      injection h1 with h1
      subst h1
      exact ⟨m, hm, h3, hc.2, h2, hi⟩
    · cases h
  · cases h
/-- The indexes in the map are the visible ones. -/
theorem cntN_vis {ms : List MK} {k : Int} (i : Nat) : (∃ key, cntN ms k key ms.length = some i) ↔ (i : Int) ∈ vis ms k := by
  unfold vis
  rw [visF_mem]
  constructor
  · rintro ⟨key, h⟩
    obtain ⟨m, h1, h2, h3, h4, h5⟩ := cntN_key h
    refine ⟨i, rfl, ?_, ?_⟩
    · exact (List.getElem?_eq_some_iff.1 h1).1
    · simp [visAt, h1, h3, h4, h2, h5]
  · rintro ⟨j, h1, h2, h3⟩
    obtain rfl : j = i := by omega
    unfold visAt at h3
    split at h3
    · rename_i m hm
      simp only [Bool.and_eq_true, Bool.not_eq_true', decide_eq_true_eq] at h3
      refine ⟨m.key, ?_⟩
      unfold cntN
      rw [h3.2]
      simp [hm, h3.1.1]
    · cases h3
/-- The suspensions of a fund among those at some indexes. -/
def pickS (l : List SU) (fund : ByteArray) : List Int → List SU
  | [] => []
  | i :: r => (match l[i.toNat]? with | some x => if x.fund = fund then [x] else [] | none => []) ++ pickS l fund r
theorem pickS_append (l : List SU) (fund : ByteArray) (a b : List Int) : pickS l fund (a ++ b) = pickS l fund a ++ pickS l fund b := by
  induction a with
  | nil => rfl
  | cons i r ih => rw [List.cons_append, pickS, pickS, ih, List.append_assoc]
theorem pickS_len (l : List SU) (fund : ByteArray) : ∀ a : List Int, (pickS l fund a).length ≤ a.length
  | [] => Nat.le_refl _
  | i :: r => by
    have := pickS_len l fund r
    rw [pickS, List.length_append]
    have h : (match l[i.toNat]? with | some x => if x.fund = fund then [x] else [] | none => ([] : List SU)).length ≤ 1 := by
      split
      · split <;> simp
      · simp
    simp only [List.length_cons]
    omega
theorem pickS_mem {l : List SU} {fund : ByteArray} {x : SU} : ∀ a : List Int, x ∈ pickS l fund a → x ∈ l ∧ x.fund = fund
  | [], h => by simp [pickS] at h
  | i :: r, h => by
    rw [pickS, List.mem_append] at h
    rcases h with h | h
    · split at h
      · rename_i y hy
        split at h
        · simp at h
          subst h
          exact ⟨List.mem_of_getElem? hy, by assumption⟩
        · simp at h
      · simp at h
    · exact pickS_mem r h
/-- The visible suspensions of a fund. -/
def visS (l : List SU) (k : Int) (fund : ByteArray) : List SU := pickS l fund (vis (l.map SU.mark) k)
theorem visS_len (l : List SU) (k : Int) (fund : ByteArray) : (visS l k fund).length ≤ l.length := by
  have h1 := pickS_len l fund (vis (l.map SU.mark) k)
  have h2 := visF_len (ms := l.map SU.mark) (k := k) (l.map SU.mark).length
  have h3 : (vis (l.map SU.mark) k).length ≤ l.length := by
    rw [List.length_map] at h2
    unfold vis
    rw [List.length_map]
    exact h2
  exact Nat.le_trans h1 h3
/-- Whether a suspension covers a day. -/
def covB (x : SU) (d : Int) : Bool := decide (x.frm ≤ d) && (decide (x.til = 0) || decide (d ≤ x.til))
def actB (l : List SU) (d : Int) : Bool := l.any fun x => covB x d
def openB (l : List SU) (d : Int) : Bool := l.any fun x => covB x d && decide (x.til = 0)
/-- The last day of those that cover a day. -/
def lastC (d : Int) : List SU → Int
  | [] => 0
  | x :: r => if covB x d = true then max x.til (lastC d r) else lastC d r
theorem lastC_bd {d : Int} : ∀ (l : List SU), (∀ x ∈ l, x.til ≤ 73048) → 0 ≤ lastC d l ∧ lastC d l ≤ 73048
  | [], _ => by simp [lastC]
  | x :: r, h => by
    have := lastC_bd (d := d) r (fun y hy => h y (by simp [hy]))
    have hx := h x (by simp)
    unfold lastC
    split <;> omega
theorem lastC_ge {d : Int} : ∀ (l : List SU) (x : SU), x ∈ l → covB x d = true → x.til ≤ lastC d l
  | [], x, h, _ => by simp at h
  | y :: r, x, h, hc => by
    unfold lastC
    rcases List.mem_cons.1 h with rfl | h
    · rw [if_pos hc]; omega
    · have := lastC_ge r x h hc
      split <;> omega
theorem cov_up {x : SU} {d : Int} (h : covB x d = true) (h0 : x.til ≠ 0) : d ≤ x.til := by
  simp [covB] at h
  omega
/-- What Move answers, from a day on, where nx is the schedule's Next. -/
def movF (nx : Int → Int × Int) (l : List SU) : Nat → Int → Int × Int
  | 0, _ => (0, 50)
  | f + 1, d => if (nx d).2 ≠ 0 then (0, (nx d).2) else if openB l (nx d).1 = true then (0, 281) else if actB l (nx d).1 = true then movF nx l f (lastC (nx d).1 l + 1) else ((nx d).1, 0)
def mov (nx : Int → Int × Int) (l : List SU) (d : Int) : Int × Int := movF nx l (73051 - d).toNat d
theorem movF_fuel {nx : Int → Int × Int} {l : List SU} (hl : ∀ x ∈ l, x.til ≤ 73048) (hn : ∀ d, (nx d).2 = 0 → d ≤ (nx d).1) (ho : ∀ d, 73048 < d → (nx d).2 ≠ 0) :
    ∀ (f g : Nat) (d : Int), 73050 - d < f → 73050 - d < g → 0 < f → 0 < g → movF nx l f d = movF nx l g d
  | 0, _, _, _, _, h, _ => by omega
  | _, 0, _, _, _, _, h => by omega
  | f + 1, g + 1, d, hf, hg, _, _ => by
    unfold movF
    by_cases h1 : (nx d).2 ≠ 0
    · rw [if_pos h1, if_pos h1]
    · rw [if_neg h1, if_neg h1]
      by_cases h2 : openB l (nx d).1 = true
      · rw [if_pos h2, if_pos h2]
      · rw [if_neg h2, if_neg h2]
        by_cases h3 : actB l (nx d).1 = true
        · rw [if_pos h3, if_pos h3]
          have hd : d ≤ 73048 := by
            rcases Int.lt_or_le 73048 d with h | h
            · exact absurd (ho d h) h1
            · exact h
          have h4 := hn d (by omega)
          have h5 : (nx d).1 ≤ lastC (nx d).1 l := by
            unfold actB at h3
            rw [List.any_eq_true] at h3
            obtain ⟨x, hx, hc⟩ := h3
            have h6 := lastC_ge l x hx hc
            have h7 : x.til ≠ 0 := fun e => h2 (by
              unfold openB
              rw [List.any_eq_true]
              exact ⟨x, hx, by simp [hc, e]⟩)
            have := cov_up hc h7
            omega
          exact movF_fuel hl hn ho f g _ (by omega) (by omega) (by omega) (by omega)
        · rw [if_neg h3, if_neg h3]
theorem mov_err {nx : Int → Int × Int} {l : List SU} {d : Int} (hd : d ≤ 73050) (h : (nx d).2 ≠ 0) : mov nx l d = (0, (nx d).2) := by
  unfold mov
  obtain ⟨f, hf⟩ : ∃ f, (73051 - d).toNat = f + 1 := ⟨(73051 - d).toNat - 1, by omega⟩
  rw [hf, movF, if_pos h]
theorem mov_open {nx : Int → Int × Int} {l : List SU} {d : Int} (hd : d ≤ 73050) (h : (nx d).2 = 0) (h2 : openB l (nx d).1 = true) : mov nx l d = (0, 281) := by
  unfold mov
  obtain ⟨f, hf⟩ : ∃ f, (73051 - d).toNat = f + 1 := ⟨(73051 - d).toNat - 1, by omega⟩
  rw [hf, movF, if_neg (by simp [h]), if_pos h2]
theorem mov_stay {nx : Int → Int × Int} {l : List SU} {d : Int} (hd : d ≤ 73050) (h : (nx d).2 = 0) (h2 : openB l (nx d).1 = false) (h3 : actB l (nx d).1 = false) : mov nx l d = ((nx d).1, 0) := by
  unfold mov
  obtain ⟨f, hf⟩ : ∃ f, (73051 - d).toNat = f + 1 := ⟨(73051 - d).toNat - 1, by omega⟩
  rw [hf, movF, if_neg (by simp [h]), if_neg (by simp [h2]), if_neg (by simp [h3])]
theorem mov_go {nx : Int → Int × Int} {l : List SU} {d : Int} (hl : ∀ x ∈ l, x.til ≤ 73048) (hn : ∀ d, (nx d).2 = 0 → d ≤ (nx d).1) (ho : ∀ d, 73048 < d → (nx d).2 ≠ 0)
    (h : (nx d).2 = 0) (h2 : openB l (nx d).1 = false) (h3 : actB l (nx d).1 = true) : mov nx l d = mov nx l (lastC (nx d).1 l + 1) ∧ d ≤ lastC (nx d).1 l := by
  have hd : d ≤ 73048 := by
    rcases Int.lt_or_le 73048 d with hx | hx
    · exact absurd h (ho d hx)
    · exact hx
  have h4 := hn d h
  have h5 : (nx d).1 ≤ lastC (nx d).1 l := by
    have h3' := h3
    unfold actB at h3'
    rw [List.any_eq_true] at h3'
    obtain ⟨x, hx, hc⟩ := h3'
    have h6 := lastC_ge l x hx hc
    have h7 : x.til ≠ 0 := fun e => by
      have : openB l (nx d).1 = true := by
        unfold openB
        rw [List.any_eq_true]
        exact ⟨x, hx, by simp [hc, e]⟩
      rw [this] at h2
      cases h2
    have := cov_up hc h7
    omega
  have h8 := (lastC_bd (d := (nx d).1) l hl).2
  refine ⟨?_, by omega⟩
  have e : mov nx l d = movF nx l ((73050 - d).toNat + 1) d := by
    unfold mov
    rw [show (73051 - d).toNat = (73050 - d).toNat + 1 by omega]
  rw [e, movF, if_neg (by simp [h]), if_neg (by simp [h2]), if_pos h3]
  exact movF_fuel hl hn ho _ _ _ (by omega) (by omega) (by omega) (by omega)
end Go.Proofs.YtffmmkjoknghoaaGreat
