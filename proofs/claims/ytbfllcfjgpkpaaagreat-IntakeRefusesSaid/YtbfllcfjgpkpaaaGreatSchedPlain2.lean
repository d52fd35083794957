/-
  Schedules in plain words: the search for the first dealing day whose deadline is not before an instant.
  Schedules in plain words: business days and dealing days exist, steps and deadlines keep the order.
-/
import Derived.Test.YtbfllcfjgpkpaaaGreatSchedWalkF
import Derived.Test.YtbfllcfjgpkpaaaGreatPlain
import Derived.Test.YtbfllcfjgpkpaaaGreatCalWalk
namespace Go.Proofs.YtbfllcfjgpkpaaaGreat
section
open Go.RowKit
set_option linter.unusedVariables false

theorem okB_deal {s : SC} {z : ZN} {c : CN} {t d : Int} (h : okB s z c t d = true) : dealB s c d = true := by
  unfold okB at h
  simp only [Bool.and_eq_true] at h
  exact h.1
theorem okB_no {s : SC} {z : ZN} {c : CN} {t d : Int} (h : dealB s c d = false) : okB s z c t d = false := by simp [okB, h]
theorem okB_at {s : SC} {z : ZN} {c : CN} {t d v e : Int} (hd : dealB s c d = true) (h : DlR s z c d v e) : (e = 0 ∧ t ≤ v ∧ okB s z c t d = true) ∨ (e = 0 ∧ v < t ∧ okB s z c t d = false) ∨ (e ≠ 0 ∧ okB s z c t d = false) := by
  unfold okB
  rcases h.opt with ⟨h0, h1⟩ | ⟨h0, h1⟩
  · rw [hd, h1]
    by_cases ht : t ≤ v
    · exact .inl ⟨h0, ht, by simp [ht]⟩
    · exact .inr (.inl ⟨h0, by omega, by simp; omega⟩)
  · rw [hd, h1]
    exact .inr (.inr ⟨h0, rfl⟩)
/-- Where nothing deals, nothing is found. -/
theorem skip_some {p q : Int → Bool} (hpq : ∀ d, q d = true → p d = true) {d r : Int} (h : fromP p d = some r) : fromP q d = fromP q r := by
  obtain ⟨h1, h2, h3, h4⟩ := fromP_spec h
  cases hq : fromP q r with
  | none =>
    cases hd : fromP q d with
    | none => rfl
    | some y =>
      obtain ⟨a1, a2, a3, a4⟩ := fromP_spec hd
      by_cases hy : y < r
      · have := h4 y a1 hy; rw [hpq y a3] at this; cases this
      · have := fromP_none hq y (by omega) a2; rw [a3] at this; cases this
  | some y =>
    obtain ⟨a1, a2, a3, a4⟩ := fromP_spec hq
    refine fromP_is (by omega) a2 a3 (fun e e1 e2 => ?_)
    by_cases he : e < r
    · have := h4 e e1 he
      cases hx : q e
      · rfl
      · rw [hpq e hx] at this; cases this
    · exact a4 e (by omega) e2
theorem skip_none {p q : Int → Bool} (hpq : ∀ d, q d = true → p d = true) {d : Int} (h : fromP p d = none) : fromP q d = none := by
  cases hd : fromP q d with
  | none => rfl
  | some y =>
    obtain ⟨a1, a2, a3, a4⟩ := fromP_spec hd
    have := fromP_none h y a1 a2
    rw [hpq y a3] at this
    cases this
theorem inst_le {z : ZN} (h : z.ok = true) {l x : Int} (hx : instFrom 0 z.off z.cs l = some x) (h0 : 0 ≤ l) : x ≤ l + 900 := by
  obtain ⟨a1, a2, a3, a4⟩ := ZN.inst_spec h hx
  rcases Int.lt_or_le (l + 900) x with hl | hl
  · have := a4 (x - 1) (by omega) (by omega)
    have hb := ZN.offset_bd h (x - 1)
    unfold ZN.locN at this
    omega
  · exact hl
/-- A day that is two days older has its deadline before the instant. -/
theorem early_no {s : SC} {z : ZN} {c : CN} {t d : Int} (hs : s.ok = true) (hz : z.ok = true) (hd0 : 0 ≤ d) (hd : 1440 * (d + 2) ≤ t) : okB s z c t d = false := by
  obtain ⟨-, -, -, -, c1, c2⟩ := SC.ok_ranges hs
  unfold okB
  cases hv : dealB s c d
  · rfl
  · cases ho : dlO s z c d with
    | none => rfl
    | some x =>
      unfold dlO at ho
      cases hn : stepDn (biz c) s.notice.toNat d with
      | none => rw [hn] at ho; cases ho
      | some n =>
        rw [hn] at ho
        have hi : instFrom 0 z.off z.cs (1440 * n + s.cutoff) = some x := ho
        have h1 := stepDn_le _ _ _ hn
        have h2 := stepDn_bd _ _ _ hn hd0
        have h3 := inst_le hz hi (by omega)
        simp
        omega
theorem for_start {s : SC} {z : ZN} {c : CN} {t : Int} (hs : s.ok = true) (hz : z.ok = true) (ht0 : 0 ≤ t) (ht1 : t ≤ 105190559) : fromP (okB s z c t) (max 0 (t / 1440 - 3)) = fromP (okB s z c t) (max 0 (t / 1440 - 2)) := by
  by_cases h : t / 1440 ≤ 2
  · rw [show max 0 (t / 1440 - 3) = 0 by omega, show max 0 (t / 1440 - 2) = 0 by omega]
  · rw [show max 0 (t / 1440 - 3) = t / 1440 - 3 by omega, show max 0 (t / 1440 - 2) = t / 1440 - 3 + 1 by omega]
    exact fromP_no (by omega) (early_no hs hz (by omega) (by omega))
end
section
open Go.RowKit
set_option linter.unusedVariables false

/-- Among more values than a list has, one is not in it. -/
theorem pigeon : ∀ (hs : List Int) (f : Nat → Int), (∀ i j, f i = f j → i = j) → ∃ i, i ≤ hs.length ∧ f i ∉ hs
  | [], f, _ => ⟨0, by simp, by simp⟩
  | h :: t, f, hf => by
    by_cases hj : ∃ j, f j = h
    · obtain ⟨j, hj⟩ := hj
      obtain ⟨i, hi, hn⟩ := pigeon t (fun i => if i < j then f i else f (i + 1)) (fun a b hab => by
        split at hab <;> split at hab
        · exact hf _ _ hab
        · have := hf _ _ hab; omega
        · have := hf _ _ hab; omega
        · have := hf _ _ hab; omega)
      by_cases hij : i < j
      · rw [if_pos hij] at hn
        refine ⟨i, by simp; omega, fun hm => ?_⟩
        rcases List.mem_cons.1 hm with e | e
        · have := hf i j (e.trans hj.symm); omega
        · exact hn e
      · rw [if_neg hij] at hn
        refine ⟨i + 1, by simpa using hi, fun hm => ?_⟩
        rcases List.mem_cons.1 hm with e | e
        · have := hf (i + 1) j (e.trans hj.symm); omega
        · exact hn e
    · obtain ⟨i, hi, hn⟩ := pigeon t f hf
      refine ⟨i, by simp; omega, fun hm => ?_⟩
      rcases List.mem_cons.1 hm with e | e
      · exact hj ⟨i, e⟩
      · exact hn e
theorem CN.open_day {c : CN} (h : c.all = false) : ∃ j : Nat, j < 7 ∧ c.wk j = false := by
  unfold CN.all at h
  cases h0 : c.w0
  · exact ⟨0, by omega, h0⟩
  cases h1 : c.w1
  · exact ⟨1, by omega, h1⟩
  cases h2 : c.w2
  · exact ⟨2, by omega, h2⟩
  cases h3 : c.w3
  · exact ⟨3, by omega, h3⟩
  cases h4 : c.w4
  · exact ⟨4, by omega, h4⟩
  cases h5 : c.w5
  · exact ⟨5, by omega, h5⟩
  cases h6 : c.w6
  · exact ⟨6, by omega, h6⟩
  simp [h0, h1, h2, h3, h4, h5, h6] at h
/-- Within 21 weeks there is a business day. -/
theorem biz_near {c : CN} (h : c.all = false) (hl : c.hs.length ≤ 20) {d : Int} (h0 : 0 ≤ d) (h1 : d + 146 ≤ 73048) : ∃ x, d ≤ x ∧ x ≤ d + 146 ∧ biz c x = true := by
  obtain ⟨j, hj, hw⟩ := c.open_day h
  have hx0 : ∃ x0, d ≤ x0 ∧ x0 ≤ d + 6 ∧ (x0 + 5) % 7 = j := ⟨d + (j - (d + 5)) % 7, by omega, by omega, by omega⟩
  obtain ⟨x0, a1, a2, a3⟩ := hx0
  obtain ⟨i, hi, hn⟩ := pigeon c.hs (fun i => x0 + 7 * i) (fun a b e => by omega)
  refine ⟨x0 + 7 * i, by omega, by omega, ?_⟩
  unfold biz CN.off CN.hol
  have e : ((x0 + 7 * (i : Int) + 5) % 7).toNat = j := by omega
  rw [e, hw]
  simp only [Bool.and_eq_true, decide_eq_true_eq, Bool.not_eq_true', Bool.not_false, true_and, decide_eq_false_iff_not]
  exact ⟨by omega, hn⟩
theorem fromP_ex {p : Int → Bool} {d x : Int} (h1 : d ≤ x) (h2 : x ≤ 73048) (hp : p x = true) : ∃ r, fromP p d = some r ∧ r ≤ x := by
  cases h : fromP p d with
  | none => have := fromP_none h x h1 h2; rw [hp] at this; cases this
  | some r =>
    refine ⟨r, rfl, ?_⟩
    obtain ⟨a1, a2, a3, a4⟩ := fromP_spec h
    rcases Int.lt_or_le x r with hx | hx
    · have := a4 x h1 hx; rw [hp] at this; cases this
    · exact hx
theorem toP_ex {p : Int → Bool} {d x : Int} (h1 : x ≤ d) (h2 : 0 ≤ x) (hp : p x = true) : ∃ r, toP p d = some r ∧ x ≤ r := by
  cases h : toP p d with
  | none => have := toP_none h x h2 h1; rw [hp] at this; cases this
  | some r =>
    refine ⟨r, rfl, ?_⟩
    obtain ⟨a1, a2, a3, a4⟩ := toP_spec h
    rcases Int.lt_or_le r x with hx | hx
    · have := a4 x hx h1; rw [hp] at this; cases this
    · exact hx
theorem up_ex {c : CN} (h : c.all = false) (hl : c.hs.length ≤ 20) : ∀ (n : Nat) (d : Int), -1 ≤ d → d + 147 * n ≤ 73048 → ∃ r, stepUp (biz c) n d = some r ∧ r ≤ d + 147 * n
  | 0, d, _, _ => ⟨d, rfl, by omega⟩
  | n + 1, d, h0, h1 => by
    obtain ⟨x, x1, x2, x3⟩ := biz_near h hl (d := d + 1) (by omega) (by omega)
    obtain ⟨q, hq, hq2⟩ := fromP_ex x1 (by omega) x3
    have hq3 := (fromP_spec hq).1
    obtain ⟨r, hr, hr2⟩ := up_ex h hl n q (by omega) (by omega)
    exact ⟨r, by unfold stepUp; rw [hq]; exact hr, by omega⟩
theorem dn_ex {c : CN} (h : c.all = false) (hl : c.hs.length ≤ 20) : ∀ (n : Nat) (d : Int), 147 * n ≤ d → d ≤ 73049 → ∃ r, stepDn (biz c) n d = some r ∧ d - 147 * n ≤ r
  | 0, d, _, _ => ⟨d, rfl, by omega⟩
  | n + 1, d, h0, h1 => by
    obtain ⟨x, x1, x2, x3⟩ := biz_near h hl (d := d - 147) (by omega) (by omega)
    obtain ⟨q, hq, hq2⟩ := toP_ex (p := biz c) (d := d - 1) (x := x) (by omega) (by omega) x3
    have hq3 := (toP_spec hq).1
    obtain ⟨r, hr, hr2⟩ := dn_ex h hl n q (by omega) (by omega)
    exact ⟨r, by unfold stepDn; rw [hq]; exact hr, by omega⟩
theorem fromP_mono {p : Int → Bool} {a b x y : Int} (h : a ≤ b) (hx : fromP p a = some x) (hy : fromP p b = some y) : x ≤ y := by
  obtain ⟨a1, a2, a3, a4⟩ := fromP_spec hx
  obtain ⟨b1, b2, b3, b4⟩ := fromP_spec hy
  rcases Int.lt_or_le y x with hlt | hle
  · have := a4 y (by omega) hlt; rw [b3] at this; cases this
  · exact hle
theorem toP_mono {p : Int → Bool} {a b x y : Int} (h : a ≤ b) (hx : toP p a = some x) (hy : toP p b = some y) : x ≤ y := by
  obtain ⟨a1, a2, a3, a4⟩ := toP_spec hx
  obtain ⟨b1, b2, b3, b4⟩ := toP_spec hy
  rcases Int.lt_or_le y x with hlt | hle
  · have := b4 x hlt (by omega); rw [a3] at this; cases this
  · exact hle
theorem up_mono {p : Int → Bool} : ∀ (n : Nat) (a b x y : Int), a ≤ b → stepUp p n a = some x → stepUp p n b = some y → x ≤ y
  | 0, a, b, x, y, h, hx, hy => by injection hx with hx; injection hy with hy; omega
  | n + 1, a, b, x, y, h, hx, hy => by
    unfold stepUp at hx hy
    cases h1 : fromP p (a + 1) with
    | none => rw [h1] at hx; cases hx
    | some q =>
      cases h2 : fromP p (b + 1) with
      | none => rw [h2] at hy; cases hy
      | some r =>
        rw [h1] at hx
        rw [h2] at hy
        exact up_mono n q r x y (fromP_mono (by omega) h1 h2) hx hy
theorem dn_mono {p : Int → Bool} : ∀ (n : Nat) (a b x y : Int), a ≤ b → stepDn p n a = some x → stepDn p n b = some y → x ≤ y
  | 0, a, b, x, y, h, hx, hy => by injection hx with hx; injection hy with hy; omega
  | n + 1, a, b, x, y, h, hx, hy => by
    unfold stepDn at hx hy
    cases h1 : toP p (a - 1) with
    | none => rw [h1] at hx; cases hx
    | some q =>
      cases h2 : toP p (b - 1) with
      | none => rw [h2] at hy; cases hy
      | some r =>
        rw [h1] at hx
        rw [h2] at hy
        exact dn_mono n q r x y (toP_mono (by omega) h1 h2) hx hy
/-- The deadline of a day that is neither early nor late exists. -/
theorem dl_some {s : SC} {z : ZN} {c : CN} (hs : s.ok = true) (hz : z.ok = true) (h : c.all = false) (hl : c.hs.length ≤ 20) {d : Int} (h0 : 8820 ≤ d) (h1 : d ≤ 73000) : ∃ x, dlO s z c d = some x := by
  obtain ⟨n1, n2, n3, n4, c1, c2⟩ := SC.ok_ranges hs
  obtain ⟨r, hr, hr2⟩ := dn_ex h hl s.notice.toNat d (by omega) (by omega)
  have hr3 := stepDn_le _ _ _ hr
  obtain ⟨x, hx, -, -⟩ := ZN.inst_at hz (l := 1440 * r + s.cutoff) (by omega) (by omega)
  exact ⟨x, by unfold dlO; rw [hr]; exact hx⟩
theorem dl_mono {s : SC} {z : ZN} {c : CN} (hz : z.ok = true) {a b x y : Int} (h : a ≤ b) (hx : dlO s z c a = some x) (hy : dlO s z c b = some y) : x ≤ y := by
  unfold dlO at hx hy
  cases h1 : stepDn (biz c) s.notice.toNat a with
  | none => rw [h1] at hx; cases hx
  | some m =>
    cases h2 : stepDn (biz c) s.notice.toNat b with
    | none => rw [h2] at hy; cases hy
    | some n =>
      rw [h1] at hx
      rw [h2] at hy
      have := dn_mono _ _ _ _ _ h h1 h2
      exact ZN.inst_mono hz (l := 1440 * m + s.cutoff) (l' := 1440 * n + s.cutoff) (by omega) hx hy
/-- The first business day from a day with the weekday on deals. -/
theorem week_deal {p : Int → Bool} {nth x r : Int} (hx : (x + 5) % 7 = nth) (h0 : 0 ≤ x) (hr : fromP p x = some r) : weekB p nth r = true := by
  obtain ⟨a1, a2, a3, a4⟩ := fromP_spec hr
  have hlast : lastB p r < x := by
    unfold lastB
    cases h : toP p (r - 1) with
    | none => show (-1 : Int) < x; omega
    | some q =>
      obtain ⟨b1, b2, b3, b4⟩ := toP_spec h
      show q < x
      rcases Int.lt_or_le q x with hlt | hle
      · exact hlt
      · have := a4 q hle (by omega); rw [b3] at this; cases this
  have key : ∀ (k : Nat) (e : Int), x ≤ e → e - x < k → wkS nth k e = true := by
    intro k
    induction k with
    | zero => intro e h1 h2; omega
    | succ k ih =>
      intro e h1 h2
      unfold wkS
      by_cases he : e = x
      · subst he
        simp [hx]
      · rw [ih (e - 1) (by omega) (by omega)]
        simp
  unfold weekB
  exact key _ _ a1 (by omega)
/-- The place of an open day among those of its month, from 0 on: which deals. -/
def monIdx (n T : Int) : Int := if n < 0 then max 0 (T + n) else min n T - 1
theorem cntF_succ (p : Int → Bool) (k : Nat) (a : Int) : cntF p (k + 1) a = cntF p k a + if p (a + k) = true then 1 else 0 := rfl
theorem cntF_split (p : Int → Bool) (k : Nat) : ∀ (m : Nat) (a : Int), cntF p (k + m) a = cntF p k a + cntF p m (a + k)
  | 0, a => by simp [cntF]
  | m + 1, a => by
    rw [show k + (m + 1) = (k + m) + 1 by omega, cntF_succ, cntF_succ, cntF_split p k m a, show a + ((k + m : Nat) : Int) = a + k + m by omega]
    omega
theorem cnt_split (p : Int → Bool) {a b e : Int} (h1 : a ≤ b) (h2 : b ≤ e) : cnt p a e = cnt p a b + cnt p b e := by
  unfold cnt
  rw [show (e - a).toNat = (b - a).toNat + (e - b).toNat by omega, cntF_split, show a + ((b - a).toNat : Int) = b by omega]
theorem mon_iff {p : Int → Bool} {n d : Int} (hd0 : 0 ≤ d) (hd1 : d ≤ 73048) (hp : p d = true) (hn : n ≠ 0) :
    monB p n d = true ↔ cnt p (mFrom d) d = monIdx n (cnt p (mFrom d) (mTo d + 1)) := by
  obtain ⟨m1, m2, m3, m4, m5⟩ := mBounds hd0 hd1
  have h1 := cnt_split p (a := mFrom d) (b := d) (e := mTo d + 1) (by omega) (by omega)
  have h2 := cnt_split p (a := d) (b := d + 1) (e := mTo d + 1) (by omega) (by omega)
  have h3 := cnt_yes p (Int.le_refl d) hp
  rw [cnt_self p d d (Int.le_refl _)] at h3
  have b1 := cnt_bd2 p (a := mFrom d) (b := d) (by omega)
  have b2 := cnt_bd2 p (a := d + 1) (b := mTo d + 1) (by omega)
  unfold monB monIdx nthB
  generalize cnt p (mFrom d) d = u at *
  generalize cnt p (d + 1) (mTo d + 1) = v at *
  split
  · simp only [Bool.or_eq_true, Bool.and_eq_true, decide_eq_true_eq]
    omega
  · simp only [Bool.or_eq_true, Bool.and_eq_true, decide_eq_true_eq]
    omega
theorem cnt_find (p : Int → Bool) (a : Int) : ∀ (k : Nat) (i : Int), 0 ≤ i → i < cntF p k a → ∃ x, a ≤ x ∧ x < a + k ∧ p x = true ∧ cnt p a x = i
  | 0, i, h0, h1 => by simp [cntF] at h1; omega
  | k + 1, i, h0, h1 => by
    rw [cntF_succ] at h1
    by_cases hlt : i < cntF p k a
    · obtain ⟨x, x1, x2, x3, x4⟩ := cnt_find p a k i h0 hlt
      exact ⟨x, x1, by omega, x3, x4⟩
    · split at h1
      · rename_i hp
        refine ⟨a + k, by omega, by omega, hp, ?_⟩
        have e : cnt p a (a + k) = cntF p k a := by
          show cntF p (a + (k : Int) - a).toNat a = _
          rw [show (a + (k : Int) - a).toNat = k by omega]
        omega
      · omega
theorem mon_ex {p : Int → Bool} {n r : Int} (hr0 : 0 ≤ r) (hr1 : r ≤ 73048) (hp : p r = true) (hn : n ≠ 0) : ∃ x, mFrom r ≤ x ∧ x ≤ mTo r ∧ p x = true ∧ cnt p (mFrom r) x = monIdx n (cnt p (mFrom r) (mTo r + 1)) := by
  obtain ⟨m1, m2, m3, m4, m5⟩ := mBounds hr0 hr1
  have h1 := cnt_split p (a := mFrom r) (b := r) (e := mTo r + 1) (by omega) (by omega)
  have h2 := cnt_split p (a := r) (b := r + 1) (e := mTo r + 1) (by omega) (by omega)
  have h3 := cnt_yes p (Int.le_refl r) hp
  rw [cnt_self p r r (Int.le_refl _)] at h3
  have b1 := cnt_bd2 p (a := mFrom r) (b := r) (by omega)
  have b2 := cnt_bd2 p (a := r + 1) (b := mTo r + 1) (by omega)
  obtain ⟨x, x1, x2, x3, x4⟩ := cnt_find p (mFrom r) (mTo r + 1 - mFrom r).toNat (monIdx n (cnt p (mFrom r) (mTo r + 1))) (by unfold monIdx; split <;> omega) (by
    show monIdx n _ < cnt p (mFrom r) (mTo r + 1)
    unfold monIdx
    split <;> omega)
  exact ⟨x, x1, by omega, x3, x4⟩
/-- Days of one month have its bounds. -/
theorem month_of {r x : Int} (hr0 : 0 ≤ r) (hr1 : r ≤ 73048) (h1 : mFrom r ≤ x) (h2 : x ≤ mTo r) : mFrom x = mFrom r ∧ mTo x = mTo r := by
  have hc := civ_cv hr0 hr1
  have hl := len_bd (civY r) (civM r)
  have he := hc.eq
  have hx : CV x (civY r) (civM r) (x - mFrom r + 1) := ⟨hc.y1, hc.y2, hc.m1, hc.m2, by omega, by unfold mFrom mTo at *; omega, by unfold mFrom at *; omega⟩
  obtain ⟨e1, e2, e3⟩ := hx.civ
  unfold mFrom mTo at *
  rw [e1, e2, e3]
  omega
theorem dealB_of {s : SC} {c : CN} {d : Int} (h1 : biz c d = true) (h2 : ruleB s (biz c) d = true) : dealB s c d = true := by simp [dealB, h1, h2]
/-- A dealing day comes within seven months. -/
theorem deal_ex {s : SC} {c : CN} (hs : s.ok = true) (h : c.all = false) (hl : c.hs.length ≤ 20) {d : Int} (h0 : 0 ≤ d) (h1 : d + 400 ≤ 73048) : ∃ x, fromP (dealB s c) d = some x ∧ x ≤ d + 240 := by
  have hr := SC.ok_rule hs
  have key : ∃ x, d ≤ x ∧ x ≤ d + 240 ∧ dealB s c x = true := by
    unfold ruleOk at hr
    split at hr
    · rename_i hp
      obtain ⟨x, x1, x2, x3⟩ := biz_near h hl h0 (by omega)
      exact ⟨x, x1, by omega, dealB_of x3 (by simp [ruleB, hp])⟩
    · split at hr
      · rename_i hp
        have hn : 0 ≤ s.nth ∧ s.nth ≤ 6 := by simpa using hr
        have hx0 : ∃ x0, d ≤ x0 ∧ x0 ≤ d + 6 ∧ (x0 + 5) % 7 = s.nth := ⟨d + (s.nth - (d + 5)) % 7, by omega, by omega, by omega⟩
        obtain ⟨x0, a1, a2, a3⟩ := hx0
        obtain ⟨y, y1, y2, y3⟩ := biz_near h hl (d := x0) (by omega) (by omega)
        obtain ⟨r, hr1, hr2⟩ := fromP_ex y1 (by omega) y3
        have hsp := fromP_spec hr1
        have hw := week_deal a3 (by omega) hr1
        exact ⟨r, by omega, by omega, dealB_of hsp.2.2.1 (by simp [ruleB, hp, hw])⟩
      · split at hr
        · rename_i hq1 hq2 hp
          have hn : s.nth ≠ 0 := by
            have : s.nth ≠ 0 ∧ -23 ≤ s.nth ∧ s.nth ≤ 23 := by simpa using hr
            exact this.1
          obtain ⟨m1, m2, m3, m4, m5⟩ := mBounds h0 (show d ≤ 73048 by omega)
          obtain ⟨r, r1, r2, r3⟩ := biz_near h hl (d := mTo d + 1) (by omega) (by omega)
          obtain ⟨k1, k2, k3, k4, k5⟩ := mBounds (n := r) (by omega) (by omega)
          have hfr : mTo d < mFrom r := by
            rcases Int.lt_or_le (mTo d) (mFrom r) with hx | hx
            · exact hx
            · have e1 := (month_of (r := r) (x := mTo d) (by omega) (by omega) hx (by omega)).2
              have e2 := (month_of (r := d) (x := mTo d) h0 (by omega) (by omega) (Int.le_refl _)).2
              omega
          obtain ⟨x, x1, x2, x3, x4⟩ := mon_ex (n := s.nth) (by omega) (by omega) r3 hn
          obtain ⟨e1, e2⟩ := month_of (r := r) (by omega) (by omega) x1 x2
          have hm : monB (biz c) s.nth x = true := (mon_iff (by omega) (by omega) x3 hn).2 (by rw [e1, e2]; exact x4)
          exact ⟨x, by omega, by omega, dealB_of x3 (by simp [ruleB, hq1, hq2, hm])⟩
        · cases hr
  obtain ⟨x, x1, x2, x3⟩ := key
  obtain ⟨r, hr1, hr2⟩ := fromP_ex x1 (by omega) x3
  exact ⟨r, hr1, by omega⟩
end
end Go.Proofs.YtbfllcfjgpkpaaaGreat
