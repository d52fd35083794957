/-
  The plain law of zones: which are valid, the offset at an instant, the first instant of a local time. No program in sight.
  The plain law of zones, continued: what the first instant of a local time is; it is monotone; a zone without changes only shifts times.
  Calendars in plain words: business days, the next and the last one, steps; no program in sight.
  Dates in plain words: leap years, lengths of months, the number of a date.
  Schedules in plain words: which days deal, their deadlines.
  Suspensions and marks in plain values: which lists are valid, which records count as known, what a day's cover is, what Move answers. No program in sight.
-/
import Derived.Test.YtbfllcfjgpkpaaaGreatBase
namespace Go.Proofs.YtbfllcfjgpkpaaaGreat
section
section
open Go.RowKit

def maxMinute : Int := 105190559
def offB (n : Int) : Bool := decide (-900 ≤ n ∧ n ≤ 900)
def lowB (c : UInt8) : Bool := decide (97 ≤ c.toNat ∧ c.toNat ≤ 122)
def digB (c : UInt8) : Bool := decide (48 ≤ c.toNat ∧ c.toNat ≤ 57)
def nameChars (l : List UInt8) : Bool := l.all fun c => lowB c || digB c
def nameB (l : List UInt8) : Bool := decide (1 ≤ l.length) && decide (l.length ≤ 16) && (match l with | c :: _ => lowB c | [] => false) && nameChars l

/-- The changes from one on whose predecessor is at 'last'. -/
def chkFrom (last : Int) : List (Int × Int) → Bool
  | [] => true
  | (a, o) :: r => if a ≤ last ∨ 105190559 < a ∨ offB o = false then false else chkFrom a r

/-- A zone: its name, its offset, its changes. -/
structure ZN where
  name : ByteArray
  off : Int
  cs : List (Int × Int)
def ZN.ok (z : ZN) : Bool := nameB z.name.data.toList && decide (z.cs.length ≤ 400) && offB z.off && chkFrom (-1) z.cs
def ZN.err (z : ZN) : Int := if z.ok = true then 0 else 70

def offAt (off : Int) (cs : List (Int × Int)) (t : Int) : Int :=
  match cs with
  | [] => off
  | (a, o) :: r => if a ≤ t then offAt o r t else off

def instB (t : Int) : Bool := decide (0 ≤ t ∧ t ≤ 105190559)
def ZN.offsetV (z : ZN) (t : Int) : Int := if z.ok = true then (if instB t = true then offAt z.off z.cs t else 0) else 0
def ZN.offsetE (z : ZN) (t : Int) : Int := if z.ok = true then (if instB t = true then 0 else 71) else 70
def ZN.locN (z : ZN) (t : Int) : Int := t + offAt z.off z.cs t
def ZN.localE (z : ZN) (t : Int) : Int := if z.offsetE t = 0 then (if instB (z.locN t) = true then 0 else 50) else z.offsetE t
def ZN.localD (z : ZN) (t : Int) : Int := if z.localE t = 0 then z.locN t / 1440 else 0
def ZN.localM (z : ZN) (t : Int) : Int := if z.localE t = 0 then z.locN t % 1440 else 0

/-- The first instant from 'f' on whose local number is not less than 'l'; offsets: 'o' up to the next change. -/
def instFrom (f o : Int) (cs : List (Int × Int)) (l : Int) : Option Int :=
  match cs with
  | [] => if max f (l - o) < 105190560 then some (max f (l - o)) else none
  | (a, p) :: r => if max f (l - o) < a then some (max f (l - o)) else instFrom a p r l
def dayB (d : Int) : Bool := decide (0 ≤ d ∧ d ≤ 73048)
def minB (m : Int) : Bool := decide (0 ≤ m ∧ m ≤ 1439)
def ZN.instE (z : ZN) (d m : Int) : Int :=
  if z.ok = true then (if dayB d = true then (if minB m = true then (if (instFrom 0 z.off z.cs (1440 * d + m)).isSome = true then 0 else 71) else 72) else 50) else 70
def ZN.instV (z : ZN) (d m : Int) : Int := if z.instE d m = 0 then (instFrom 0 z.off z.cs (1440 * d + m)).getD 0 else 0

/-- The intervals of equal offset: from, to, offset. -/
def ivs (f o : Int) : List (Int × Int) → List (Int × Int × Int)
  | [] => [(f, 105190560, o)]
  | (a, p) :: r => (f, a, o) :: ivs a p r

/-- The head of interval k: where it begins, and its offset. -/
def ivHead (f o : Int) (cs : List (Int × Int)) : Nat → Int × Int
  | 0 => (f, o)
  | k + 1 => cs.getD k (0, 0)

theorem ivs_length (f o : Int) (cs : List (Int × Int)) : (ivs f o cs).length = cs.length + 1 := by
  induction cs generalizing f o with
  | nil => rfl
  | cons x r ih => obtain ⟨a, p⟩ := x; simp [ivs, ih]

theorem ivs_get (f o : Int) (cs : List (Int × Int)) (k : Nat) (hk : k < cs.length) :
    (ivs f o cs)[k]? = some ((ivHead f o cs k).1, (cs.getD k (0, 0)).1, (ivHead f o cs k).2) := by
  induction cs generalizing f o k with
  | nil => simp at hk
  | cons x r ih =>
    obtain ⟨a, p⟩ := x
    cases k with
    | zero => simp [ivs, ivHead]
    | succ k =>
      simp only [List.length_cons] at hk
      have := ih a p k (by omega)
      simp only [ivs, List.getElem?_cons_succ, this]
      cases k with
      | zero => simp [ivHead]
      | succ k => simp [ivHead]
theorem ivs_last (f o : Int) (cs : List (Int × Int)) :
    (ivs f o cs)[cs.length]? = some ((ivHead f o cs cs.length).1, 105190560, (ivHead f o cs cs.length).2) := by
  induction cs generalizing f o with
  | nil => simp [ivs, ivHead]
  | cons x r ih =>
    obtain ⟨a, p⟩ := x
    have := ih a p
    simp only [ivs, List.length_cons, List.getElem?_cons_succ, this]
    cases r with
    | nil => simp [ivHead]
    | cons y r => simp [ivHead]

theorem offAt_of_ivs (t : Int) (f o : Int) (cs : List (Int × Int)) (q : List (Int × Int × Int)) (x : Int × Int × Int) (h : q ++ [x] <+: ivs f o cs)
    (hq : ∀ y ∈ q, y.2.1 ≤ t) (hx : t < x.2.1) : offAt o cs t = x.2.2 := by
  induction cs generalizing f o q with
  | nil =>
    simp only [ivs] at h
    cases q with
    | nil => simp at h; subst h; simp [offAt]
    | cons y q => have := h.length_le; simp at this
  | cons c r ih =>
    obtain ⟨a, p⟩ := c
    simp only [ivs] at h
    cases q with
    | nil =>
      simp at h
      subst h
      simp only at hx
      simp only [offAt]
      rw [if_neg (by omega)]
    | cons y q =>
      simp only [List.cons_append, List.cons_prefix_cons] at h
      obtain ⟨rfl, h⟩ := h
      have h1 := hq _ (List.mem_cons_self)
      simp only at h1
      simp only [offAt]
      rw [if_pos h1]
      exact ih a p q h (fun z hz => hq z (List.mem_cons_of_mem _ hz))

theorem last_mem_ivs (f o : Int) (cs : List (Int × Int)) : ∃ x ∈ ivs f o cs, x.2.1 = 105190560 := by
  induction cs generalizing f o with
  | nil => exact ⟨_, List.mem_singleton.2 rfl, rfl⟩
  | cons c r ih =>
    obtain ⟨a, p⟩ := c
    obtain ⟨x, hx, h⟩ := ih a p
    exact ⟨x, List.mem_cons_of_mem _ hx, h⟩

theorem instFrom_of_ivs (l : Int) (f o : Int) (cs : List (Int × Int)) (q : List (Int × Int × Int)) (x : Int × Int × Int) (h : q ++ [x] <+: ivs f o cs)
    (hq : ∀ y ∈ q, y.2.1 ≤ max y.1 (l - y.2.2)) (hx : max x.1 (l - x.2.2) < x.2.1) : instFrom f o cs l = some (max x.1 (l - x.2.2)) := by
  induction cs generalizing f o q with
  | nil =>
    simp only [ivs] at h
    cases q with
    | nil => simp at h; subst h; simp only at hx; simp only [instFrom]; rw [if_pos hx]
    | cons y q => have := h.length_le; simp at this
  | cons c r ih =>
    obtain ⟨a, p⟩ := c
    simp only [ivs] at h
    cases q with
    | nil =>
      simp at h
      subst h
      simp only at hx
      simp only [instFrom]
      rw [if_pos hx]
    | cons y q =>
      simp only [List.cons_append, List.cons_prefix_cons] at h
      obtain ⟨rfl, h⟩ := h
      have h1 := hq _ (List.mem_cons_self)
      simp only at h1
      simp only [instFrom]
      rw [if_neg (by omega)]
      exact ih a p q h (fun z hz => hq z (List.mem_cons_of_mem _ hz))

theorem instFrom_none (l : Int) (f o : Int) (cs : List (Int × Int)) (hq : ∀ y ∈ ivs f o cs, y.2.1 ≤ max y.1 (l - y.2.2)) : instFrom f o cs l = none := by
  induction cs generalizing f o with
  | nil =>
    have := hq (f, 105190560, o) (by simp [ivs])
    simp only at this
    simp only [instFrom]
    rw [if_neg (by omega)]
  | cons c r ih =>
    obtain ⟨a, p⟩ := c
    have := hq (f, a, o) (by simp [ivs])
    simp only at this
    simp only [instFrom]
    rw [if_neg (by omega)]
    exact ih a p (fun y hy => hq y (by simp [ivs, hy]))

/-- A zone lies in memory: its changes two cells each, behind the address A. -/
structure ZAt (w : World) (z : ZN) (A : Option Addr) : Prop where
  nm : z.name.size ≤ maxLen
  ln : z.cs.length ≤ maxLen
  cells : ∀ k x, z.cs[k]? = some x → ∃ b o, A = some ⟨b, o, none⟩ ∧ b < w.heap.size ∧ w.cell? ⟨b, o + k*2, none⟩ = some (.int .i64 x.1) ∧ w.cell? ⟨b, o + k*2 + 1, none⟩ = some (.int .i64 x.2)
theorem ZAt.below {w w' : World} {z : ZN} {A : Option Addr} (h : ZAt w z A) (hb : Below w.heap.size w w') : ZAt w' z A :=
  ⟨h.nm, h.ln, fun k x hx => by
    obtain ⟨b, o, hA, hlt, h1, h2⟩ := h.cells k x hx
    exact ⟨b, o, hA, Nat.lt_of_lt_of_le hlt hb.size, (hb.cell (p := ⟨b, _, none⟩) hlt).trans h1, (hb.cell (p := ⟨b, _, none⟩) hlt).trans h2⟩⟩
theorem ZAt.at_ {w w' : World} {z : ZN} {A : Option Addr} (h : ZAt w z A) (hb : Below w.heap.size w w') (k : Nat) (hk : k < z.cs.length) :
    ∃ b o x1 x2, A = some ⟨b, o, none⟩ ∧ b < w.heap.size ∧ w'.cell? ⟨b, o + k*2, none⟩ = some (.int .i64 x1) ∧ w'.cell? ⟨b, o + k*2 + 1, none⟩ = some (.int .i64 x2) ∧
      z.cs.drop k = (x1, x2) :: z.cs.drop (k + 1) ∧ z.cs.getD k (0, 0) = (x1, x2) := by
  have hx : z.cs[k]? = some z.cs[k] := List.getElem?_eq_getElem hk
  obtain ⟨b, o, hA, hlt, h1, h2⟩ := h.cells k _ hx
  refine ⟨b, o, z.cs[k].1, z.cs[k].2, hA, hlt, (hb.cell (p := ⟨b, _, none⟩) hlt).trans h1, (hb.cell (p := ⟨b, _, none⟩) hlt).trans h2, ?_, ?_⟩
  · exact List.drop_eq_getElem_cons hk
  · simp [List.getD, hx]
theorem chkFrom_cons (last a o : Int) (r : List (Int × Int)) : chkFrom last ((a, o) :: r) = if a ≤ last ∨ 105190559 < a ∨ offB o = false then false else chkFrom a r := rfl
theorem ZN.err_name {z : ZN} (h : nameB z.name.data.toList = false) : z.err = 70 := by simp [ZN.err, ZN.ok, h]
theorem ZN.err_len {z : ZN} (h : ¬ z.cs.length ≤ 400) : z.err = 70 := by simp [ZN.err, ZN.ok, h]
theorem ZN.err_off {z : ZN} (h : offB z.off = false) : z.err = 70 := by simp [ZN.err, ZN.ok, h]
theorem ZN.err_chk {z : ZN} (h : chkFrom (-1) z.cs = false) : z.err = 70 := by simp [ZN.err, ZN.ok, h]
theorem ZN.err_ok {z : ZN} (h : nameB z.name.data.toList = true) (h2 : z.cs.length ≤ 400) (h3 : offB z.off = true) (h4 : chkFrom (-1) z.cs = true) : z.err = 0 := by simp [ZN.err, ZN.ok, h, h2, h3, h4]
theorem instB_iff (t : Int) : instB t = true ↔ 0 ≤ t ∧ t ≤ 105190559 := by simp [instB]
theorem instB_no {t : Int} (h : instB t = false) : ¬ (0 ≤ t) ∨ ¬ (t ≤ 105190559) := by simp [instB] at h; omega
theorem dayB_no {t : Int} (h : dayB t = false) : ¬ (0 ≤ t) ∨ ¬ (t ≤ 73048) := by simp [dayB] at h; omega
theorem minB_no {t : Int} (h : minB t = false) : ¬ (0 ≤ t) ∨ ¬ (t ≤ 1439) := by simp [minB] at h; omega
theorem dayB_iff (t : Int) : dayB t = true ↔ 0 ≤ t ∧ t ≤ 73048 := by simp [dayB]
theorem minB_iff (t : Int) : minB t = true ↔ 0 ≤ t ∧ t ≤ 1439 := by simp [minB]
def pair (a e : Int) : Value := .tuple #[.int .i64 a, .int .i64 e]
theorem ret_pair {a b a' b' : Int} (h : a = a') (h' : b = b') : Ending.returned (.tuple #[.int .i64 a, .int .i64 b]) = .returned (.tuple #[.int .i64 a', .int .i64 b']) := by rw [h, h']
theorem ret_triple {a b c a' b' c' : Int} (h : a = a') (h' : b = b') (h2 : c = c') : Ending.returned (.tuple #[.int .i64 a, .int .i64 b, .int .i64 c]) = .returned (.tuple #[.int .i64 a', .int .i64 b', .int .i64 c']) := by rw [h, h', h2]
theorem ret_four {a b c d a' b' c' d' : Int} (h : a = a') (h' : b = b') (h2 : c = c') (h3 : d = d') : Ending.returned (.tuple #[.int .i64 a, .int .i64 b, .int .i64 c, .int .i64 d]) = .returned (.tuple #[.int .i64 a', .int .i64 b', .int .i64 c', .int .i64 d']) := by rw [h, h', h2, h3]
theorem ZN.offset_bad {z : ZN} (h : z.ok = false) (t : Int) : z.offsetV t = 0 ∧ z.offsetE t = 70 := by simp [ZN.offsetV, ZN.offsetE, h]
theorem ZN.offset_inst {z : ZN} (h : z.ok = true) {t : Int} (h2 : instB t = false) : z.offsetV t = 0 ∧ z.offsetE t = 71 := by simp [ZN.offsetV, ZN.offsetE, h, h2]
theorem ZN.offset_good {z : ZN} (h : z.ok = true) {t : Int} (h2 : instB t = true) : z.offsetV t = offAt z.off z.cs t ∧ z.offsetE t = 0 := by simp [ZN.offsetV, ZN.offsetE, h, h2]
theorem ZN.local_err {z : ZN} {t : Int} (h : z.offsetE t ≠ 0) : z.localD t = 0 ∧ z.localM t = 0 ∧ z.localE t = z.offsetE t := by simp [ZN.localD, ZN.localM, ZN.localE, h]
theorem ZN.local_day {z : ZN} {t : Int} (h : z.offsetE t = 0) (h2 : instB (z.locN t) = false) : z.localD t = 0 ∧ z.localM t = 0 ∧ z.localE t = 50 := by simp [ZN.localD, ZN.localM, ZN.localE, h, h2]
theorem ZN.local_good {z : ZN} {t : Int} (h : z.offsetE t = 0) (h2 : instB (z.locN t) = true) : z.localD t = z.locN t / 1440 ∧ z.localM t = z.locN t % 1440 ∧ z.localE t = 0 := by simp [ZN.localD, ZN.localM, ZN.localE, h, h2]
theorem ZN.inst_zone {z : ZN} (h : z.ok = false) (d m : Int) : z.instV d m = 0 ∧ z.instE d m = 70 := by simp [ZN.instV, ZN.instE, h]
theorem ZN.inst_day {z : ZN} (h : z.ok = true) {d : Int} (h2 : dayB d = false) (m : Int) : z.instV d m = 0 ∧ z.instE d m = 50 := by simp [ZN.instV, ZN.instE, h, h2]
theorem ZN.inst_min {z : ZN} (h : z.ok = true) {d m : Int} (h2 : dayB d = true) (h3 : minB m = false) : z.instV d m = 0 ∧ z.instE d m = 72 := by simp [ZN.instV, ZN.instE, h, h2, h3]
theorem ZN.inst_none {z : ZN} (h : z.ok = true) {d m : Int} (h2 : dayB d = true) (h3 : minB m = true) (h4 : instFrom 0 z.off z.cs (1440 * d + m) = none) : z.instV d m = 0 ∧ z.instE d m = 71 := by simp [ZN.instV, ZN.instE, h, h2, h3, h4]
theorem ZN.inst_some {z : ZN} (h : z.ok = true) {d m x : Int} (h2 : dayB d = true) (h3 : minB m = true) (h4 : instFrom 0 z.off z.cs (1440 * d + m) = some x) : z.instV d m = x ∧ z.instE d m = 0 := by simp [ZN.instV, ZN.instE, h, h2, h3, h4]
theorem ZN.err_of_ok {z : ZN} (h : z.ok = true) : z.err = 0 := by simp [ZN.err, h]
theorem ZN.err_of_bad {z : ZN} (h : z.ok = false) : z.err = 70 := by simp [ZN.err, h]
theorem ZN.len_of_ok {z : ZN} (h : z.ok = true) : z.cs.length ≤ 400 := by
  unfold ZN.ok at h
  simp at h
  exact h.1.1.2
theorem ZN.off_of_ok {z : ZN} (h : z.ok = true) : -900 ≤ z.off ∧ z.off ≤ 900 := by
  unfold ZN.ok at h
  simp at h
  have := h.1.2
  unfold offB at this
  simpa using this
theorem chkFrom_mem (last : Int) (cs : List (Int × Int)) (h : chkFrom last cs = true) : ∀ x ∈ cs, last < x.1 ∧ x.1 ≤ 105190559 ∧ -900 ≤ x.2 ∧ x.2 ≤ 900 := by
  induction cs generalizing last with
  | nil => intro x hx; cases hx
  | cons y r ih =>
    obtain ⟨a, o⟩ := y
    rw [chkFrom_cons] at h
    split at h
    · cases h
    · rename_i hn
      have h2 : offB o = true := by cases ho : offB o <;> simp_all
      unfold offB at h2
      simp at h2
      intro x hx
      rcases List.mem_cons.1 hx with rfl | hx
      · simp only; omega
      · have := ih a h x hx; omega
theorem ZN.cs_of_ok {z : ZN} (h : z.ok = true) : ∀ x ∈ z.cs, -1 < x.1 ∧ x.1 ≤ 105190559 ∧ -900 ≤ x.2 ∧ x.2 ≤ 900 := by
  unfold ZN.ok at h
  simp at h
  exact chkFrom_mem (-1) z.cs h.2
theorem offAt_bd {off : Int} {cs : List (Int × Int)} {t : Int} (h0 : -900 ≤ off ∧ off ≤ 900) (hc : ∀ x ∈ cs, -1 < x.1 ∧ x.1 ≤ 105190559 ∧ -900 ≤ x.2 ∧ x.2 ≤ 900) : -900 ≤ offAt off cs t ∧ offAt off cs t ≤ 900 := by
  induction cs generalizing off with
  | nil => exact h0
  | cons y r ih =>
    obtain ⟨a, o⟩ := y
    have := hc (a, o) (by simp)
    simp only [offAt]
    split
    · exact ih ⟨this.2.2.1, this.2.2.2⟩ (fun x hx => hc x (by simp [hx]))
    · exact h0
theorem offAt_cons (off a o : Int) (r : List (Int × Int)) (t : Int) : offAt off ((a, o) :: r) t = if a ≤ t then offAt o r t else off := rfl
theorem ZN.offset_bd {z : ZN} (h : z.ok = true) (t : Int) : -900 ≤ offAt z.off z.cs t ∧ offAt z.off z.cs t ≤ 900 := offAt_bd (ZN.off_of_ok h) (ZN.cs_of_ok h)
theorem instFrom_cons (f o a p : Int) (r : List (Int × Int)) (l : Int) : instFrom f o ((a, p) :: r) l = if max f (l - o) < a then some (max f (l - o)) else instFrom a p r l := rfl
theorem instFrom_nil (f o l : Int) : instFrom f o [] l = if max f (l - o) < 105190560 then some (max f (l - o)) else none := rfl
end
section
open Go.RowKit

theorem instFrom_ge {f o l x : Int} {cs : List (Int × Int)} (hs : ∀ a p r, cs = (a, p) :: r → f ≤ a) (hc : chkFrom (f - 1) cs = true ∨ chkFrom f cs = true) (h : instFrom f o cs l = some x) : f ≤ x := by
  induction cs generalizing f o with
  | nil => rw [instFrom_nil] at h; split at h <;> simp at h; omega
  | cons c r ih =>
    obtain ⟨a, p⟩ := c
    rw [instFrom_cons] at h
    split at h
    · simp at h; omega
    · have h1 : f ≤ a := hs a p r rfl
      have h2 : chkFrom a r = true := by
        rcases hc with hc | hc <;> (rw [chkFrom_cons] at hc; split at hc <;> simp_all)
      have h3 : ∀ b q r', r = (b, q) :: r' → a ≤ b := by
        intro b q r' hr
        subst hr
        rw [chkFrom_cons] at h2
        split at h2
        · cases h2
        · omega
      have := ih (f := a) (o := p) h3 (.inr h2) h
      omega
theorem chk_tail {last a p : Int} {r : List (Int × Int)} (h : chkFrom last ((a, p) :: r) = true) : last < a ∧ a ≤ 105190559 ∧ offB p = true ∧ chkFrom a r = true := by
  rw [chkFrom_cons] at h
  split at h
  · cases h
  · rename_i hn
    have h2 : offB p = true := by cases ho : offB p <;> simp_all
    exact ⟨by omega, by omega, h2, h⟩
theorem chk_head {last : Int} {cs : List (Int × Int)} (h : chkFrom last cs = true) : ∀ b q r', cs = (b, q) :: r' → last + 1 ≤ b := by
  intro b q r' hr
  subst hr
  have := (chk_tail h).1
  omega
theorem instFrom_some {last f o l : Int} {cs : List (Int × Int)} (hc : chkFrom last cs = true) (hf : f ≤ 105190559) (ho : -900 ≤ o) (hl : l ≤ 105189000) : ∃ x, instFrom f o cs l = some x := by
  induction cs generalizing last f o with
  | nil => exact ⟨max f (l - o), by rw [instFrom_nil, if_pos (by omega)]⟩
  | cons c r ih =>
    obtain ⟨a, p⟩ := c
    obtain ⟨h1, h2, h3, h4⟩ := chk_tail hc
    rw [instFrom_cons]
    split
    · exact ⟨_, rfl⟩
    · exact ih h4 h2 (by unfold offB at h3; simp at h3; omega)
theorem instFrom_mono {last f o l l' x y : Int} {cs : List (Int × Int)} (hc : chkFrom last cs = true) (hlf : last ≤ f) (hl : l ≤ l') (h : instFrom f o cs l = some x) (h' : instFrom f o cs l' = some y) : x ≤ y := by
  induction cs generalizing last f o with
  | nil =>
    rw [instFrom_nil] at h h'
    split at h <;> split at h' <;> simp at h h'
    omega
  | cons c r ih =>
    obtain ⟨a, p⟩ := c
    obtain ⟨h1, h2, h3, h4⟩ := chk_tail hc
    rw [instFrom_cons] at h h'
    split at h
    · split at h'
      · simp at h h'; omega
      · simp at h
        have := instFrom_ge (f := a) (fun b q r' hr => by have := chk_head h4 b q r' hr; omega) (.inr h4) h'
        omega
    · split at h'
      · omega
      · exact ih h4 (Int.le_refl _) h h'
/-- The first instant from f on whose local number is not less than l. -/
theorem instFrom_spec {f o l x : Int} {cs : List (Int × Int)} (hs : ∀ b q r', cs = (b, q) :: r' → f ≤ b) (hc : chkFrom (f - 1) cs = true ∨ chkFrom f cs = true) (h : instFrom f o cs l = some x) :
    f ≤ x ∧ x ≤ 105190559 ∧ l ≤ x + offAt o cs x ∧ ∀ t, f ≤ t → t < x → t + offAt o cs t < l := by
  induction cs generalizing f o with
  | nil =>
    rw [instFrom_nil] at h
    split at h
    · simp at h
      subst h
      refine ⟨by omega, by omega, by simp only [offAt]; omega, fun t h1 h2 => by simp only [offAt]; omega⟩
    · simp at h
  | cons c r ih =>
    obtain ⟨a, p⟩ := c
    have hfa := hs a p r rfl
    have h4 : a ≤ 105190559 ∧ chkFrom a r = true := by
      rcases hc with hc | hc
      · exact ⟨(chk_tail hc).2.1, (chk_tail hc).2.2.2⟩
      · exact ⟨(chk_tail hc).2.1, (chk_tail hc).2.2.2⟩
    rw [instFrom_cons] at h
    split at h
    · simp at h
      subst h
      refine ⟨by omega, by omega, ?_, fun t h1 h2 => ?_⟩
      · rw [offAt_cons, if_neg (by omega)]; omega
      · rw [offAt_cons, if_neg (by omega)]; omega
    · obtain ⟨g1, g2, g3, g4⟩ := ih (f := a) (o := p) (fun b q r' hr => by have := chk_head h4.2 b q r' hr; omega) (.inr h4.2) h
      refine ⟨by omega, g2, ?_, fun t h1 h2 => ?_⟩
      · rw [offAt_cons, if_pos (by omega)]; exact g3
      · by_cases hta : a ≤ t
        · rw [offAt_cons, if_pos hta]; exact g4 t hta h2
        · rw [offAt_cons, if_neg hta]; omega

theorem ZN.chk {z : ZN} (h : z.ok = true) : chkFrom (-1) z.cs = true := by
  unfold ZN.ok at h
  simp at h
  exact h.2
/-- At a local time well within the days there is an instant. -/
theorem ZN.inst_at {z : ZN} (h : z.ok = true) {l : Int} (h0 : 0 ≤ l) (h1 : l ≤ 105189000) : ∃ x, instFrom 0 z.off z.cs l = some x ∧ z.instV (l / 1440) (l % 1440) = x ∧ z.instE (l / 1440) (l % 1440) = 0 := by
  obtain ⟨x, hx⟩ := instFrom_some (f := 0) (o := z.off) (l := l) (ZN.chk h) (by omega) (ZN.off_of_ok h).1 h1
  have e : 1440 * (l / 1440) + l % 1440 = l := by omega
  have := ZN.inst_some h (d := l / 1440) (m := l % 1440) (x := x) ((dayB_iff _).2 (by omega)) ((minB_iff _).2 (by omega)) (by rw [e]; exact hx)
  exact ⟨x, hx, this.1, this.2⟩
theorem ZN.inst_mono {z : ZN} (h : z.ok = true) {l l' x y : Int} (hl : l ≤ l') (hx : instFrom 0 z.off z.cs l = some x) (hy : instFrom 0 z.off z.cs l' = some y) : x ≤ y :=
  instFrom_mono (ZN.chk h) (by omega) hl hx hy
theorem ZN.inst_spec {z : ZN} (h : z.ok = true) {l x : Int} (hx : instFrom 0 z.off z.cs l = some x) :
    0 ≤ x ∧ x ≤ 105190559 ∧ l ≤ z.locN x ∧ ∀ t, 0 ≤ t → t < x → z.locN t < l :=
  instFrom_spec (f := 0) (fun b q r' hr => by have := chk_head (ZN.chk h) b q r' hr; omega) (.inl (ZN.chk h)) hx
end
end
section
open Go.RowKit
set_option linter.unusedVariables false

/-- A calendar: its name, its weekend, its holidays. -/
structure CN where
  name : ByteArray
  w0 : Bool
  w1 : Bool
  w2 : Bool
  w3 : Bool
  w4 : Bool
  w5 : Bool
  w6 : Bool
  hs : List Int
def CN.wk (c : CN) : Nat → Bool
  | 0 => c.w0
  | 1 => c.w1
  | 2 => c.w2
  | 3 => c.w3
  | 4 => c.w4
  | 5 => c.w5
  | 6 => c.w6
  | _ => false
/-- Is the weekday of a day free? -/
def CN.off (c : CN) (d : Int) : Bool := c.wk ((d + 5) % 7).toNat
def CN.hol (c : CN) (d : Int) : Bool := decide (d ∈ c.hs)
def biz (c : CN) (d : Int) : Bool := decide (0 ≤ d ∧ d ≤ 73048) && (!c.off d && !c.hol d)
theorem biz_of {c : CN} {d : Int} (h : biz c d = true) : 0 ≤ d ∧ d ≤ 73048 := by
  unfold biz at h
  simp only [Bool.and_eq_true, decide_eq_true_eq] at h
  exact h.1
theorem biz_out {c : CN} {d : Int} (h : ¬(0 ≤ d ∧ d ≤ 73048)) : biz c d = false := by
  cases hb : biz c d
  · rfl
  · exact absurd (biz_of hb) h

/-- The first day from d on that p holds of. -/
def fromF (p : Int → Bool) : Nat → Int → Option Int
  | 0, _ => none
  | k + 1, d => if p d = true then some d else fromF p k (d + 1)
def fromP (p : Int → Bool) (d : Int) : Option Int := fromF p (73049 - d).toNat d
theorem fromP_out {p : Int → Bool} {d : Int} (h : 73048 < d) : fromP p d = none := by
  unfold fromP
  rw [show (73049 - d).toNat = 0 by omega]
  rfl
theorem fromP_in {p : Int → Bool} {d : Int} (h : d ≤ 73048) : fromP p d = if p d = true then some d else fromP p (d + 1) := by
  unfold fromP
  rw [show (73049 - d).toNat = (73049 - (d + 1)).toNat + 1 by omega]
  rfl
theorem fromP_yes {p : Int → Bool} {d : Int} (h : d ≤ 73048) (hp : p d = true) : fromP p d = some d := by rw [fromP_in h, if_pos hp]
theorem fromP_no {p : Int → Bool} {d : Int} (h : d ≤ 73048) (hp : p d = false) : fromP p d = fromP p (d + 1) := by rw [fromP_in h, if_neg (by simp [hp])]
theorem fromF_spec {p : Int → Bool} : ∀ (k : Nat) (d r : Int), fromF p k d = some r → d ≤ r ∧ r < d + k ∧ p r = true ∧ ∀ e, d ≤ e → e < r → p e = false
  | 0, _, _, h => by cases h
  | k + 1, d, r, h => by
    unfold fromF at h
    by_cases hp : p d = true
    · rw [if_pos hp] at h
      injection h with h
      subst h
      exact ⟨Int.le_refl _, by omega, hp, fun e h1 h2 => by omega⟩
    · rw [if_neg hp] at h
      obtain ⟨h1, h2, h3, h4⟩ := fromF_spec k (d + 1) r h
      refine ⟨by omega, by omega, h3, fun e e1 e2 => ?_⟩
      by_cases he : e = d
      · subst he
        simpa using hp
      · exact h4 e (by omega) e2
theorem fromP_spec {p : Int → Bool} {d r : Int} (h : fromP p d = some r) : d ≤ r ∧ r ≤ 73048 ∧ p r = true ∧ ∀ e, d ≤ e → e < r → p e = false := by
  obtain ⟨h1, h2, h3, h4⟩ := fromF_spec _ _ _ h
  exact ⟨h1, by omega, h3, h4⟩
theorem fromF_none {p : Int → Bool} : ∀ (k : Nat) (d : Int), fromF p k d = none → ∀ e, d ≤ e → e < d + k → p e = false
  | 0, _, _ => fun e h1 h2 => by omega
  | k + 1, d, h => fun e h1 h2 => by
    unfold fromF at h
    by_cases hp : p d = true
    · rw [if_pos hp] at h
      cases h
    · rw [if_neg hp] at h
      by_cases he : e = d
      · subst he
        simpa using hp
      · exact fromF_none k (d + 1) h e (by omega) (by omega)
theorem fromP_none {p : Int → Bool} {d : Int} (h : fromP p d = none) : ∀ e, d ≤ e → e ≤ 73048 → p e = false := fun e h1 h2 => fromF_none _ _ h e h1 (by omega)
theorem fromP_is {p : Int → Bool} {d r : Int} (h1 : d ≤ r) (h2 : r ≤ 73048) (h3 : p r = true) (h4 : ∀ e, d ≤ e → e < r → p e = false) : fromP p d = some r := by
  cases h : fromP p d with
  | none => have := fromP_none h r h1 h2; rw [h3] at this; cases this
  | some q =>
    obtain ⟨a1, a2, a3, a4⟩ := fromP_spec h
    rcases Int.lt_trichotomy q r with hx | hx | hx
    · have := h4 q a1 hx; rw [a3] at this; cases this
    · rw [hx]
    · have := a4 r h1 hx; rw [h3] at this; cases this
theorem fromP_congr {p q : Int → Bool} (h : ∀ e, p e = q e) (d : Int) : fromP p d = fromP q d := by rw [show p = q from funext h]

/-- The last day up to d that p holds of. -/
def toF (p : Int → Bool) : Nat → Int → Option Int
  | 0, _ => none
  | k + 1, d => if p d = true then some d else toF p k (d - 1)
def toP (p : Int → Bool) (d : Int) : Option Int := toF p (d + 1).toNat d
theorem toP_out {p : Int → Bool} {d : Int} (h : d < 0) : toP p d = none := by
  unfold toP
  rw [show (d + 1).toNat = 0 by omega]
  rfl
theorem toP_in {p : Int → Bool} {d : Int} (h : 0 ≤ d) : toP p d = if p d = true then some d else toP p (d - 1) := by
  unfold toP
  rw [show (d + 1).toNat = (d - 1 + 1).toNat + 1 by omega]
  rfl
theorem toP_yes {p : Int → Bool} {d : Int} (h : 0 ≤ d) (hp : p d = true) : toP p d = some d := by rw [toP_in h, if_pos hp]
theorem toP_no {p : Int → Bool} {d : Int} (h : 0 ≤ d) (hp : p d = false) : toP p d = toP p (d - 1) := by rw [toP_in h, if_neg (by simp [hp])]
theorem toF_spec {p : Int → Bool} : ∀ (k : Nat) (d r : Int), toF p k d = some r → r ≤ d ∧ d < r + k ∧ p r = true ∧ ∀ e, r < e → e ≤ d → p e = false
  | 0, _, _, h => by cases h
  | k + 1, d, r, h => by
    unfold toF at h
    by_cases hp : p d = true
    · rw [if_pos hp] at h
      injection h with h
      subst h
      exact ⟨Int.le_refl _, by omega, hp, fun e h1 h2 => by omega⟩
    · rw [if_neg hp] at h
      obtain ⟨h1, h2, h3, h4⟩ := toF_spec k (d - 1) r h
      refine ⟨by omega, by omega, h3, fun e e1 e2 => ?_⟩
      by_cases he : e = d
      · subst he
        simpa using hp
      · exact h4 e e1 (by omega)
theorem toP_spec {p : Int → Bool} {d r : Int} (h : toP p d = some r) : r ≤ d ∧ 0 ≤ r ∧ p r = true ∧ ∀ e, r < e → e ≤ d → p e = false := by
  obtain ⟨h1, h2, h3, h4⟩ := toF_spec _ _ _ h
  exact ⟨h1, by omega, h3, h4⟩
theorem toF_none {p : Int → Bool} : ∀ (k : Nat) (d : Int), toF p k d = none → ∀ e, e ≤ d → d < e + k → p e = false
  | 0, _, _ => fun e h1 h2 => by omega
  | k + 1, d, h => fun e h1 h2 => by
    unfold toF at h
    by_cases hp : p d = true
    · rw [if_pos hp] at h
      cases h
    · rw [if_neg hp] at h
      by_cases he : e = d
      · subst he
        simpa using hp
      · exact toF_none k (d - 1) h e (by omega) (by omega)
theorem toP_none {p : Int → Bool} {d : Int} (h : toP p d = none) : ∀ e, 0 ≤ e → e ≤ d → p e = false := fun e h1 h2 => toF_none _ _ h e h2 (by omega)
theorem toP_is {p : Int → Bool} {d r : Int} (h1 : r ≤ d) (h2 : 0 ≤ r) (h3 : p r = true) (h4 : ∀ e, r < e → e ≤ d → p e = false) : toP p d = some r := by
  cases h : toP p d with
  | none => have := toP_none h r h2 h1; rw [h3] at this; cases this
  | some q =>
    obtain ⟨a1, a2, a3, a4⟩ := toP_spec h
    rcases Int.lt_trichotomy q r with hx | hx | hx
    · have := a4 r hx h1; rw [h3] at this; cases this
    · rw [hx]
    · have := h4 q hx a1; rw [a3] at this; cases this

/-- The n-th such day after d; d itself for 0. -/
def stepUp (p : Int → Bool) : Nat → Int → Option Int
  | 0, d => some d
  | n + 1, d => (fromP p (d + 1)).bind (stepUp p n)
/-- .. before d. -/
def stepDn (p : Int → Bool) : Nat → Int → Option Int
  | 0, d => some d
  | n + 1, d => (toP p (d - 1)).bind (stepDn p n)
theorem stepUp_ge {p : Int → Bool} : ∀ (n : Nat) (d r : Int), stepUp p n d = some r → d ≤ r
  | 0, d, r, h => by injection h with h; omega
  | n + 1, d, r, h => by
    unfold stepUp at h
    cases hf : fromP p (d + 1) with
    | none => rw [hf] at h; cases h
    | some q =>
      rw [hf] at h
      have h1 := (fromP_spec hf).1
      have h2 := stepUp_ge n q r h
      omega
theorem stepDn_le {p : Int → Bool} : ∀ (n : Nat) (d r : Int), stepDn p n d = some r → r ≤ d
  | 0, d, r, h => by injection h with h; omega
  | n + 1, d, r, h => by
    unfold stepDn at h
    cases hf : toP p (d - 1) with
    | none => rw [hf] at h; cases h
    | some q =>
      rw [hf] at h
      have h1 := (toP_spec hf).1
      have h2 := stepDn_le n q r h
      omega
theorem stepUp_bd {p : Int → Bool} : ∀ (n : Nat) (d r : Int), stepUp p n d = some r → d ≤ 73048 → r ≤ 73048
  | 0, d, r, h, hd => by injection h with h; omega
  | n + 1, d, r, h, hd => by
    unfold stepUp at h
    cases hf : fromP p (d + 1) with
    | none => rw [hf] at h; cases h
    | some q =>
      rw [hf] at h
      exact stepUp_bd n q r h (fromP_spec hf).2.1
theorem stepDn_bd {p : Int → Bool} : ∀ (n : Nat) (d r : Int), stepDn p n d = some r → 0 ≤ d → 0 ≤ r
  | 0, d, r, h, hd => by injection h with h; omega
  | n + 1, d, r, h, hd => by
    unfold stepDn at h
    cases hf : toP p (d - 1) with
    | none => rw [hf] at h; cases h
    | some q =>
      rw [hf] at h
      exact stepDn_bd n q r h (toP_spec hf).2.1

/-- Ascending days. -/
def ascB : Int → List Int → Bool
  | _, [] => true
  | last, h :: t => decide (last < h) && (decide (0 ≤ h ∧ h ≤ 73048) && ascB h t)
theorem asc_mem : ∀ (l : List Int) (last : Int), ascB last l = true → ∀ x ∈ l, last < x ∧ 0 ≤ x ∧ x ≤ 73048
  | [], _, _ => fun x hx => by cases hx
  | h :: t, last, ha => fun x hx => by
    unfold ascB at ha
    simp only [Bool.and_eq_true, decide_eq_true_eq] at ha
    rcases List.mem_cons.1 hx with rfl | hx
    · omega
    · have := asc_mem t h ha.2.2 x hx
      omega
theorem asc_take_drop : ∀ (l : List Int) (last : Int) (k : Nat) (x : Int), ascB last l = true → l[k]? = some x → ascB x (l.drop (k + 1)) = true
  | [], _, _, _, _, h => by cases h
  | h :: t, last, 0, x, ha, hx => by
    unfold ascB at ha
    simp only [Bool.and_eq_true] at ha
    injection hx with hx
    subst hx
    exact ha.2.2
  | h :: t, last, k + 1, x, ha, hx => by
    unfold ascB at ha
    simp only [Bool.and_eq_true] at ha
    exact asc_take_drop t h k x ha.2.2 hx
theorem asc_lt (l : List Int) (last : Int) (i k : Nat) (x y : Int) (ha : ascB last l = true) (hx : l[i]? = some x) (hy : l[k]? = some y) (hik : i < k) : x < y := by
  have h1 := asc_take_drop l last i x ha hx
  have h2 : (l.drop (i + 1))[k - (i + 1)]? = some y := by rw [List.getElem?_drop, show i + 1 + (k - (i + 1)) = k by omega]; exact hy
  exact (asc_mem _ _ h1 y (List.mem_of_getElem? h2)).1
end
section
open Go.RowKit

/-- 1 in a leap year of 2000 to 2199, else 0. -/
def lp (y : Int) : Int := if y % 4 = 0 ∧ y ≠ 2100 then 1 else 0
def daysY (y : Int) : Int := 365 + lp y
def lenM (y m : Int) : Int := if m = 2 then 28 + lp y else if m = 4 ∨ m = 6 ∨ m = 9 ∨ m = 11 then 30 else 31
def aheadM (y m : Int) : Int :=
  if m = 1 then 0 else if m = 2 then 31 else
  (if m = 3 then 59 else if m = 4 then 90 else if m = 5 then 120 else if m = 6 then 151 else if m = 7 then 181 else if m = 8 then 212 else
   if m = 9 then 243 else if m = 10 then 273 else if m = 11 then 304 else 334) + lp y
def ysI (y : Int) : Int := 365 * (y - 2000) + (y - 2000 + 3) / 4 - if y > 2100 then 1 else 0
theorem lp_bd (y : Int) : 0 ≤ lp y ∧ lp y ≤ 1 := by unfold lp; split <;> omega
theorem ys_succ (y : Int) (h : 2000 ≤ y) : ysI (y + 1) = ysI y + daysY y := by
  unfold ysI daysY lp
  split <;> split <;> split <;> omega
theorem ys_mono {a b : Int} (h : a ≤ b) : ysI a ≤ ysI b := by
  unfold ysI
  split <;> split <;> omega
theorem ys_lt {a b : Int} (h : a < b) : ysI a + 365 ≤ ysI b := by
  unfold ysI
  split <;> split <;> omega
theorem m12 {m : Int} (h1 : 1 ≤ m) (h2 : m ≤ 12) : m = 1 ∨ m = 2 ∨ m = 3 ∨ m = 4 ∨ m = 5 ∨ m = 6 ∨ m = 7 ∨ m = 8 ∨ m = 9 ∨ m = 10 ∨ m = 11 ∨ m = 12 := by omega
theorem ahead_succ (y : Int) {m : Int} (h1 : 1 ≤ m) (h2 : m < 12) : aheadM y (m + 1) = aheadM y m + lenM y m := by
  rcases m12 h1 (by omega) with rfl | rfl | rfl | rfl | rfl | rfl | rfl | rfl | rfl | rfl | rfl | rfl <;> simp [aheadM, lenM] <;> omega
theorem ahead_end (y : Int) : aheadM y 12 + 31 = daysY y := by simp [aheadM, daysY]; omega
theorem len_bd (y : Int) (m : Int) : 28 ≤ lenM y m ∧ lenM y m ≤ 31 := by
  have := lp_bd y
  unfold lenM
  split
  · omega
  · split <;> omega
theorem ahead_bd (y : Int) {m : Int} (h1 : 1 ≤ m) (h2 : m ≤ 12) : 0 ≤ aheadM y m ∧ aheadM y m + lenM y m ≤ daysY y := by
  have := lp_bd y
  rcases m12 h1 h2 with rfl | rfl | rfl | rfl | rfl | rfl | rfl | rfl | rfl | rfl | rfl | rfl <;> simp [aheadM, lenM, daysY] <;> omega
theorem ahead_mono (y : Int) {a b : Int} (h1 : 1 ≤ a) (h : a < b) (h2 : b ≤ 12) : aheadM y a + lenM y a ≤ aheadM y b := by
  have := lp_bd y
  rcases m12 h1 (by omega) with rfl | rfl | rfl | rfl | rfl | rfl | rfl | rfl | rfl | rfl | rfl | rfl <;>
    rcases m12 (m := b) (by omega) h2 with rfl | rfl | rfl | rfl | rfl | rfl | rfl | rfl | rfl | rfl | rfl | rfl <;> first | omega | (simp [aheadM, lenM] <;> omega)

/-- The date y-m-d is that of day n. -/
structure CV (n y m d : Int) : Prop where
  y1 : 2000 ≤ y
  y2 : y ≤ 2199
  m1 : 1 ≤ m
  m2 : m ≤ 12
  d1 : 1 ≤ d
  d2 : d ≤ lenM y m
  eq : n = ysI y + aheadM y m + d - 1
theorem CV.year {n y m d : Int} (h : CV n y m d) : ysI y ≤ n ∧ n < ysI (y + 1) := by
  have h1 := ys_succ y h.y1
  have h2 := ahead_bd y h.m1 h.m2
  have := h.eq; have := h.d1; have := h.d2
  omega
theorem CV.bd {n y m d : Int} (h : CV n y m d) : 0 ≤ n ∧ n ≤ 73048 := by
  obtain ⟨h1, h2⟩ := h.year
  have h3 := ys_mono h.y1
  have h4 := ys_mono (show y + 1 ≤ 2200 by have := h.y2; omega)
  have e1 : ysI 2000 = 0 := by decide
  have e2 : ysI 2200 = 73049 := by decide
  omega
theorem cv_year (n : Int) (h1 : 0 ≤ n) (h2 : n ≤ 73048) : ∃ y, 2000 ≤ y ∧ y ≤ 2199 ∧ ysI y ≤ n ∧ n < ysI (y + 1) := by
  have : ∀ k : Nat, n < ysI (2000 + k) → ∃ y : Int, 2000 ≤ y ∧ y < 2000 + k ∧ ysI y ≤ n ∧ n < ysI (y + 1) := by
    intro k
    induction k with
    | zero => intro h; have : ysI 2000 = 0 := by decide
              simp at h; omega
    | succ k ih =>
      intro h
      by_cases hk : n < ysI (2000 + k)
      · obtain ⟨y, a, b, c, d⟩ := ih hk
        exact ⟨y, a, by omega, c, d⟩
      · exact ⟨2000 + k, by omega, by omega, by omega, by rw [show (2000 : Int) + k + 1 = 2000 + (k + 1 : Nat) by omega]; exact h⟩
  obtain ⟨y, a, b, c, d⟩ := this 200 (by have : ysI 2200 = 73049 := by decide
                                         simp; omega)
  exact ⟨y, a, by omega, c, d⟩
theorem cv_month (y q : Int) (h1 : 0 ≤ q) (h2 : q < daysY y) : ∃ m, 1 ≤ m ∧ m ≤ 12 ∧ aheadM y m ≤ q ∧ q < aheadM y m + lenM y m := by
  have hl := lp_bd y
  have e : ∀ m, aheadM y m = aheadM y m := fun _ => rfl
  unfold daysY at h2
  by_cases a1 : q < 31; exact ⟨1, by omega, by omega, by simp [aheadM]; omega, by simp [aheadM, lenM]; omega⟩
  by_cases a2 : q < 59 + lp y; exact ⟨2, by omega, by omega, by simp [aheadM]; omega, by simp [aheadM, lenM]; omega⟩
  by_cases a3 : q < 90 + lp y; exact ⟨3, by omega, by omega, by simp [aheadM]; omega, by simp [aheadM, lenM]; omega⟩
  by_cases a4 : q < 120 + lp y; exact ⟨4, by omega, by omega, by simp [aheadM]; omega, by simp [aheadM, lenM]; omega⟩
  by_cases a5 : q < 151 + lp y; exact ⟨5, by omega, by omega, by simp [aheadM]; omega, by simp [aheadM, lenM]; omega⟩
  by_cases a6 : q < 181 + lp y; exact ⟨6, by omega, by omega, by simp [aheadM]; omega, by simp [aheadM, lenM]; omega⟩
  by_cases a7 : q < 212 + lp y; exact ⟨7, by omega, by omega, by simp [aheadM]; omega, by simp [aheadM, lenM]; omega⟩
  by_cases a8 : q < 243 + lp y; exact ⟨8, by omega, by omega, by simp [aheadM]; omega, by simp [aheadM, lenM]; omega⟩
  by_cases a9 : q < 273 + lp y; exact ⟨9, by omega, by omega, by simp [aheadM]; omega, by simp [aheadM, lenM]; omega⟩
  by_cases a10 : q < 304 + lp y; exact ⟨10, by omega, by omega, by simp [aheadM]; omega, by simp [aheadM, lenM]; omega⟩
  by_cases a11 : q < 334 + lp y; exact ⟨11, by omega, by omega, by simp [aheadM]; omega, by simp [aheadM, lenM]; omega⟩
  exact ⟨12, by omega, by omega, by simp [aheadM]; omega, by simp [aheadM, lenM]; omega⟩
/-- Each day has its date. -/
theorem cv_any (n : Int) (h1 : 0 ≤ n) (h2 : n ≤ 73048) : ∃ y m d, CV n y m d := by
  obtain ⟨y, a, b, c, d⟩ := cv_year n h1 h2
  rw [ys_succ y a] at d
  obtain ⟨m, m1, m2, m3, m4⟩ := cv_month y (n - ysI y) (by omega) (by omega)
  exact ⟨y, m, n - ysI y - aheadM y m + 1, a, b, m1, m2, by omega, by omega, by omega⟩
/-- A day has one date. -/
theorem CV.uniq {n y m d y' m' d' : Int} (h : CV n y m d) (h' : CV n y' m' d') : y = y' ∧ m = m' ∧ d = d' := by
  have e : y = y' := by
    obtain ⟨a1, a2⟩ := h.year
    obtain ⟨b1, b2⟩ := h'.year
    rcases Int.lt_trichotomy y y' with hl | hl | hl
    · have := ys_mono (show y + 1 ≤ y' by omega); omega
    · exact hl
    · have := ys_mono (show y' + 1 ≤ y by omega); omega
  subst e
  have a1 := h.eq; have b1 := h'.eq
  have a2 := h.d1; have b2 := h'.d1; have a3 := h.d2; have b3 := h'.d2
  have e : m = m' := by
    rcases Int.lt_trichotomy m m' with hl | hl | hl
    · have := ahead_mono y h.m1 hl h'.m2; omega
    · exact hl
    · have := ahead_mono y h'.m1 hl h.m2; omega
  subst e
  exact ⟨rfl, rfl, by omega⟩
/-- The first guess of the month is right, or one too low. -/
theorem month_guess (y q m : Int) (h1 : 1 ≤ m) (h2 : m ≤ 12) (h3 : aheadM y m ≤ q) (h4 : q < aheadM y m + lenM y m) :
    (1 + q / 31 = m ∧ (m = 12 ∨ q < aheadM y (m + 1))) ∨ (1 + q / 31 = m - 1 ∧ 2 ≤ m) := by
  have hl := lp_bd y
  rcases m12 h1 h2 with rfl | rfl | rfl | rfl | rfl | rfl | rfl | rfl | rfl | rfl | rfl | rfl <;> simp [aheadM, lenM] at h3 h4 ⊢ <;> omega
end
section
open Go.RowKit
set_option linter.unusedVariables false

structure SC where
  period : Int
  nth : Int
  notice : Int
  settle : Int
  cutoff : Int
def SC.cells (s : SC) : Array Value := #[.int .i64 s.period, .int .i64 s.nth, .int .i64 s.notice, .int .i64 s.settle, .int .i64 s.cutoff]
def ruleOk (p n : Int) : Bool := if p = 1 then decide (n = 0) else if p = 2 then decide (0 ≤ n ∧ n ≤ 6) else if p = 3 then decide (n ≠ 0 ∧ -23 ≤ n ∧ n ≤ 23) else false
def rangesOk (s : SC) : Bool := decide (0 ≤ s.notice ∧ s.notice ≤ 60 ∧ 0 ≤ s.settle ∧ s.settle ≤ 60 ∧ 0 ≤ s.cutoff ∧ s.cutoff ≤ 1439)
def SC.ok (s : SC) : Bool := rangesOk s && ruleOk s.period s.nth
def SC.err (s : SC) : Int := if s.ok = true then 0 else 90
theorem SC.err_of_ok {s : SC} (h : s.ok = true) : s.err = 0 := by simp [SC.err, h]
theorem SC.err_of_bad {s : SC} (h : s.ok = false) : s.err = 90 := by simp [SC.err, h]
theorem SC.ok_ranges {s : SC} (h : s.ok = true) : 0 ≤ s.notice ∧ s.notice ≤ 60 ∧ 0 ≤ s.settle ∧ s.settle ≤ 60 ∧ 0 ≤ s.cutoff ∧ s.cutoff ≤ 1439 := by
  unfold SC.ok rangesOk at h
  simp only [Bool.and_eq_true, decide_eq_true_eq] at h
  exact h.1
theorem SC.ok_rule {s : SC} (h : s.ok = true) : ruleOk s.period s.nth = true := by
  unfold SC.ok at h
  simp only [Bool.and_eq_true] at h
  exact h.2

/-- The date of a day, by search. -/
def yrF : Nat → Int → Int → Int
  | 0, y, _ => y
  | k + 1, y, n => if n < ysI (y + 1) then y else yrF k (y + 1) n
def civY (n : Int) : Int := yrF 200 2000 n
def moF (y q : Int) : Nat → Int → Int
  | 0, m => m
  | k + 1, m => if q < aheadM y m + lenM y m then m else moF y q k (m + 1)
def civM (n : Int) : Int := moF (civY n) (n - ysI (civY n)) 12 1
def civD (n : Int) : Int := n - ysI (civY n) - aheadM (civY n) (civM n) + 1
theorem yrF_eq {n y m d : Int} (h : CV n y m d) : ∀ (k : Nat) (y0 : Int), y0 ≤ y → y < y0 + k → yrF k y0 n = y
  | 0, y0, h1, h2 => by omega
  | k + 1, y0, h1, h2 => by
    unfold yrF
    by_cases e : y0 = y
    · subst e
      rw [if_pos h.year.2]
    · rw [if_neg (by
        have := ys_mono (show y0 + 1 ≤ y by omega)
        have := h.year.1
        omega)]
      exact yrF_eq h k (y0 + 1) (by omega) (by omega)
theorem moF_eq {n y m d : Int} (h : CV n y m d) : ∀ (k : Nat) (m0 : Int), 1 ≤ m0 → m0 ≤ m → m < m0 + k → moF y (n - ysI y) k m0 = m
  | 0, m0, _, h1, h2 => by omega
  | k + 1, m0, h0, h1, h2 => by
    have e1 := h.eq
    have e2 := h.d1
    have e3 := h.d2
    unfold moF
    by_cases e : m0 = m
    · subst e
      rw [if_pos (by omega)]
    · have := ahead_mono y h0 (show m0 < m by omega) h.m2
      rw [if_neg (by omega)]
      exact moF_eq h k (m0 + 1) (by omega) (by omega) (by omega)
theorem CV.civ {n y m d : Int} (h : CV n y m d) : civY n = y ∧ civM n = m ∧ civD n = d := by
  have e1 : civY n = y := yrF_eq h 200 2000 h.y1 (by have := h.y2; omega)
  have e2 : civM n = m := by
    unfold civM
    rw [e1]
    exact moF_eq h 12 1 (by omega) h.m1 (by have := h.m2; omega)
  refine ⟨e1, e2, ?_⟩
  unfold civD
  rw [e1, e2]
  have := h.eq
  omega
theorem civ_cv {n : Int} (h1 : 0 ≤ n) (h2 : n ≤ 73048) : CV n (civY n) (civM n) (civD n) := by
  obtain ⟨y, m, d, h⟩ := cv_any n h1 h2
  obtain ⟨e1, e2, e3⟩ := h.civ
  rw [e1, e2, e3]
  exact h
/-- The first and the last day of a day's month. -/
def mFrom (n : Int) : Int := n - civD n + 1
def mTo (n : Int) : Int := n + lenM (civY n) (civM n) - civD n
theorem mFrom_cv {n : Int} (h1 : 0 ≤ n) (h2 : n ≤ 73048) : CV (mFrom n) (civY n) (civM n) 1 := by
  have h := civ_cv h1 h2
  have := h.eq
  have hl := len_bd (civY n) (civM n)
  exact ⟨h.y1, h.y2, h.m1, h.m2, by omega, by omega, by unfold mFrom; omega⟩
theorem mTo_cv {n : Int} (h1 : 0 ≤ n) (h2 : n ≤ 73048) : CV (mTo n) (civY n) (civM n) (lenM (civY n) (civM n)) := by
  have h := civ_cv h1 h2
  have := h.eq
  have hl := len_bd (civY n) (civM n)
  exact ⟨h.y1, h.y2, h.m1, h.m2, by omega, by omega, by unfold mTo; omega⟩
theorem mBounds {n : Int} (h1 : 0 ≤ n) (h2 : n ≤ 73048) : 0 ≤ mFrom n ∧ mFrom n ≤ n ∧ n ≤ mTo n ∧ mTo n ≤ 73048 ∧ mTo n ≤ mFrom n + 30 := by
  have h := civ_cv h1 h2
  have a := (mFrom_cv h1 h2).bd
  have b := (mTo_cv h1 h2).bd
  have hl := len_bd (civY n) (civM n)
  have d1 := h.d1
  have d2 := h.d2
  unfold mFrom mTo at *
  omega

/-- How many of the days from a on, up to b, does p hold of? -/
def cntF (p : Int → Bool) : Nat → Int → Int
  | 0, _ => 0
  | k + 1, a => cntF p k a + if p (a + k) = true then 1 else 0
def cnt (p : Int → Bool) (a b : Int) : Int := cntF p (b - a).toNat a
theorem cnt_self (p : Int → Bool) (a b : Int) (h : b ≤ a) : cnt p a b = 0 := by
  unfold cnt
  rw [show (b - a).toNat = 0 by omega]
  rfl
theorem cnt_snoc (p : Int → Bool) {a b : Int} (h : a ≤ b) : cnt p a (b + 1) = cnt p a b + if p b = true then 1 else 0 := by
  unfold cnt
  rw [show (b + 1 - a).toNat = (b - a).toNat + 1 by omega]
  show cntF p (b - a).toNat a + (if p (a + ((b - a).toNat : Int)) = true then 1 else 0) = _
  rw [show a + ((b - a).toNat : Int) = b by omega]
theorem cnt_yes (p : Int → Bool) {a b : Int} (h : a ≤ b) (hp : p b = true) : cnt p a (b + 1) = cnt p a b + 1 := by rw [cnt_snoc p h, if_pos hp]
theorem cnt_no (p : Int → Bool) {a b : Int} (h : a ≤ b) (hp : p b = false) : cnt p a (b + 1) = cnt p a b := by rw [cnt_snoc p h, if_neg (by simp [hp])]; omega
theorem cnt_bd (p : Int → Bool) (a : Int) : ∀ (k : Nat), 0 ≤ cntF p k a ∧ cntF p k a ≤ k
  | 0 => by simp [cntF]
  | k + 1 => by
    have := cnt_bd p a k
    unfold cntF
    split <;> omega
theorem cnt_bd2 (p : Int → Bool) {a b : Int} (h : a ≤ b) : 0 ≤ cnt p a b ∧ cnt p a b ≤ b - a := by
  have := cnt_bd p a (b - a).toNat
  unfold cnt
  omega

/-- Has one of the last days, from e downwards, this weekday? -/
def wkS (nth : Int) : Nat → Int → Bool
  | 0, _ => false
  | k + 1, e => decide ((e + 5) % 7 = nth) || wkS nth k (e - 1)
def lastB (p : Int → Bool) (d : Int) : Int := (toP p (d - 1)).getD (-1)
def weekB (p : Int → Bool) (nth d : Int) : Bool := wkS nth (d - lastB p d).toNat d
def nthB (n a b : Int) : Bool := decide (a = n - 1) || (decide (a < n - 1) && decide (b = 0))
def monB (p : Int → Bool) (nth d : Int) : Bool :=
  if nth < 0 then nthB (-nth) (cnt p (d + 1) (mTo d + 1)) (cnt p (mFrom d) d) else nthB nth (cnt p (mFrom d) d) (cnt p (d + 1) (mTo d + 1))
def ruleB (s : SC) (p : Int → Bool) (d : Int) : Bool := if s.period = 1 then true else if s.period = 2 then weekB p s.nth d else monB p s.nth d
/-- Is d a dealing day? -/
def dealB (s : SC) (c : CN) (d : Int) : Bool := biz c d && ruleB s (biz c) d
theorem dealB_biz {s : SC} {c : CN} {d : Int} (h : dealB s c d = true) : biz c d = true := by
  unfold dealB at h
  simp only [Bool.and_eq_true] at h
  exact h.1
theorem dealB_no {s : SC} {c : CN} {d : Int} (h : biz c d = false) : dealB s c d = false := by simp [dealB, h]
/-- The deadline of a dealing day. -/
def dlO (s : SC) (z : ZN) (c : CN) (d : Int) : Option Int := (stepDn (biz c) s.notice.toNat d).bind fun n => instFrom 0 z.off z.cs (1440 * n + s.cutoff)
/-- Is the deadline of d, a dealing day, not before t? -/
def okB (s : SC) (z : ZN) (c : CN) (t d : Int) : Bool := dealB s c d && (match dlO s z c d with | some x => decide (t ≤ x) | none => false)
end
section
open Go.RowKit
/-- A suspension. -/
structure SU where
  key : ByteArray
  fund : ByteArray
  frm : Int
  til : Int
  known : Int
  void : Bool
/-- A mark. -/
structure MK where
  key : ByteArray
  known : Int
  void : Bool
def SU.mark (x : SU) : MK := ⟨x.key, x.known, x.void⟩
def knB (k : Int) : Bool := decide (1 ≤ k ∧ k ≤ 2147483647)
theorem knB_iff (k : Int) : knB k = true ↔ 1 ≤ k ∧ k ≤ 2147483647 := by simp [knB]
theorem knB_no {k : Int} (h : knB k = false) : k < 1 ∨ 2147483647 < k := by simp [knB] at h; omega
def nmB (s : ByteArray) : Bool := nameB s.data.toList
/-- The span of a suspension that is not void. -/
def spanB (x : SU) : Bool := decide (0 ≤ x.frm ∧ x.frm ≤ 73048) && (decide (x.til = 0) || decide (x.frm ≤ x.til ∧ x.til ≤ 73048))
def SU.ok (x : SU) : Bool := nmB x.key && knB x.known && (if x.void = true then decide (x.fund.toList = []) && decide (x.frm = 0 ∧ x.til = 0) else nmB x.fund && spanB x)
def susFrom : Int → List SU → Bool
  | _, [] => true
  | last, x :: r => x.ok && decide (last < x.known) && susFrom x.known r
def susB (l : List SU) : Bool := decide (l.length ≤ 4096) && susFrom 0 l
def susErr (l : List SU) : Int := if susB l = true then 0 else 280
theorem susErr_ok {l : List SU} (h : susB l = true) : susErr l = 0 := by simp [susErr, h]
theorem susErr_bad {l : List SU} (h : susB l = false) : susErr l = 280 := by simp [susErr, h]
/-- Marks that are valid. -/
def MK.ok (m : MK) : Bool := decide (1 ≤ m.key.size ∧ m.key.size ≤ 64) && decide (m.known ≤ 2147483647)
def mksFrom : Int → List MK → Bool
  | _, [] => true
  | last, x :: r => x.ok && decide (last < x.known) && mksFrom x.known r
def mksB (l : List MK) : Bool := decide (l.length ≤ 4096) && mksFrom 0 l
theorem nmB_size {s : ByteArray} (h : nmB s = true) : 1 ≤ s.size ∧ s.size ≤ 16 := by
  unfold nmB nameB at h
  simp at h
  have : s.data.toList.length = s.size := by simp
  omega
theorem SU.ok_mark {x : SU} (h : x.ok = true) : x.mark.ok = true := by
  unfold SU.ok at h
  simp only [Bool.and_eq_true] at h
  have h1 := nmB_size h.1.1
  have h2 := (knB_iff _).1 h.1.2
  simp only [SU.mark, MK.ok, Bool.and_eq_true]
  exact ⟨decide_eq_true (by omega), decide_eq_true (by omega)⟩
theorem mksFrom_of : ∀ (l : List SU) (last : Int), susFrom last l = true → mksFrom last (l.map SU.mark) = true
  | [], _, _ => rfl
  | x :: r, last, h => by
    simp only [susFrom, Bool.and_eq_true] at h
    simp only [List.map_cons, mksFrom, Bool.and_eq_true]
    exact ⟨⟨SU.ok_mark h.1.1, h.1.2⟩, mksFrom_of r _ h.2⟩
theorem mksB_of {l : List SU} (h : susB l = true) : mksB (l.map SU.mark) = true := by
  unfold susB at h
  simp only [Bool.and_eq_true, decide_eq_true_eq] at h
  simp only [mksB, Bool.and_eq_true, decide_eq_true_eq, List.length_map]
  exact ⟨h.1, mksFrom_of _ _ h.2⟩
theorem susFrom_get : ∀ (l : List SU) (last : Int) (i : Nat) (x : SU), susFrom last l = true → l[i]? = some x → x.ok = true ∧ last < x.known
  | [], _, i, x, _, h => by simp at h
  | y :: r, last, i, x, h, hx => by
    simp only [susFrom, Bool.and_eq_true, decide_eq_true_eq] at h
    cases i with
    | zero =>
      simp at hx
      subst hx
      exact ⟨h.1.1, h.1.2⟩
    | succ i =>
      have := susFrom_get r _ i x h.2 (by simpa using hx)
      exact ⟨this.1, by omega⟩
theorem mksFrom_get : ∀ (l : List MK) (last : Int) (i : Nat) (x : MK), mksFrom last l = true → l[i]? = some x → x.ok = true ∧ last < x.known
  | [], _, i, x, _, h => by simp at h
  | y :: r, last, i, x, h, hx => by
    simp only [mksFrom, Bool.and_eq_true, decide_eq_true_eq] at h
    cases i with
    | zero =>
      simp at hx
      subst hx
      exact ⟨h.1.1, h.1.2⟩
    | succ i =>
      have := mksFrom_get r _ i x h.2 (by simpa using hx)
      exact ⟨this.1, by omega⟩
theorem mksFrom_lt : ∀ (l : List MK) (last : Int) (i j : Nat) (x y : MK), mksFrom last l = true → l[i]? = some x → l[j]? = some y → i < j → x.known < y.known
  | [], _, i, _, x, _, _, h, _, _ => by simp at h
  | z :: r, last, i, j, x, y, h, hx, hy, hij => by
    simp only [mksFrom, Bool.and_eq_true, decide_eq_true_eq] at h
    cases j with
    | zero => omega
    | succ j =>
      cases i with
      | zero =>
        simp at hx
        subst hx
        exact (mksFrom_get r _ j y h.2 (by simpa using hy)).2
      | succ i => exact mksFrom_lt r _ i j x y h.2 (by simpa using hx) (by simpa using hy) (by omega)
/-- The last record of a key among the first n that became known by k. -/
def lastF (ms : List MK) (k : Int) (key : ByteArray) : Nat → Int
  | 0 => -1
  | n + 1 => match ms[n]? with
    | some m => if m.known ≤ k ∧ m.key = key then (n : Int) else lastF ms k key n
    | none => lastF ms k key n
def visAt (ms : List MK) (k : Int) (i : Nat) : Bool := match ms[i]? with
  | some m => !m.void && decide (m.known ≤ k) && decide (lastF ms k m.key ms.length = i)
  | none => false
def visF (ms : List MK) (k : Int) : Nat → List Int
  | 0 => []
  | n + 1 => visF ms k n ++ if visAt ms k n = true then [(n : Int)] else []
def vis (ms : List MK) (k : Int) : List Int := visF ms k ms.length
theorem lastF_bd (ms : List MK) (k : Int) (key : ByteArray) : ∀ n : Nat, -1 ≤ lastF ms k key n ∧ lastF ms k key n < n
  | 0 => by simp [lastF]
  | n + 1 => by
    have := lastF_bd ms k key n
    unfold lastF
    split
    · split <;> omega
    · omega
theorem lastF_hit {ms : List MK} {k : Int} {key : ByteArray} {n : Nat} {m : MK} (hm : ms[n]? = some m) (h1 : m.known ≤ k) (h2 : m.key = key) : lastF ms k key (n + 1) = n := by
  simp [lastF, hm, h1, h2]
theorem lastF_miss {ms : List MK} {k : Int} {key : ByteArray} {n : Nat} {m : MK} (hm : ms[n]? = some m) (h : ¬(m.known ≤ k ∧ m.key = key)) : lastF ms k key (n + 1) = lastF ms k key n := by
  simp only [lastF, hm]
  rw [if_neg h]
theorem lastF_is {ms : List MK} {k : Int} {key : ByteArray} : ∀ (n : Nat) (i : Nat), lastF ms k key n = i → ∃ m, ms[i]? = some m ∧ m.known ≤ k ∧ m.key = key
  | 0, i, h => by
    simp only [lastF] at h
    omega
  | n + 1, i, h => by
    cases hm : ms[n]? with
    | none =>
      simp only [lastF, hm] at h
      exact lastF_is n i h
    | some m =>
      by_cases hc : m.known ≤ k ∧ m.key = key
      · rw [lastF_hit hm hc.1 hc.2] at h
        obtain rfl : n = i := by omega
        exact ⟨m, hm, hc.1, hc.2⟩
      · rw [lastF_miss hm hc] at h
        exact lastF_is n i h
/-- Behind the first record that became known after k nothing counts. -/
theorem lastF_stop {ms : List MK} {k : Int} (hv : mksFrom 0 ms = true) {n : Nat} {m : MK} (hm : ms[n]? = some m) (hk : k < m.known) (key : ByteArray) : ∀ j : Nat, lastF ms k key (n + j) = lastF ms k key n
  | 0 => rfl
  | j + 1 => by
    have ih := lastF_stop hv hm hk key j
    rw [← Nat.add_assoc]
    cases hj : ms[n + j]? with
    | none =>
      rw [← ih]
      simp [lastF, hj]
    | some m2 =>
      rw [← ih]
      refine lastF_miss hj (fun h => ?_)
      rcases Nat.eq_zero_or_pos j with h0 | h0
      · subst h0
        rw [Nat.add_zero, hm] at hj
        injection hj with hj
        subst hj
        omega
      · have := mksFrom_lt ms 0 n (n + j) m m2 hv hm hj (by omega)
        omega
theorem visF_mem {ms : List MK} {k : Int} (i : Int) : ∀ n : Nat, i ∈ visF ms k n ↔ ∃ j : Nat, i = j ∧ j < n ∧ visAt ms k j = true
  | 0 => by simp [visF]
  | n + 1 => by
    rw [visF, List.mem_append, visF_mem i n]
    constructor
    · rintro (⟨j, h1, h2, h3⟩ | h)
      · exact ⟨j, h1, by omega, h3⟩
      · split at h
        · simp at h
          exact ⟨n, h, by omega, by assumption⟩
        · simp at h
    · rintro ⟨j, h1, h2, h3⟩
      rcases Nat.lt_or_ge j n with h | h
      · exact .inl ⟨j, h1, h, h3⟩
      · obtain rfl : j = n := by omega
        exact .inr (by rw [if_pos h3]; simp [h1])
theorem visF_asc {ms : List MK} {k : Int} : ∀ n : Nat, (visF ms k n).Pairwise (· < ·)
  | 0 => List.Pairwise.nil
  | n + 1 => by
    rw [visF, List.pairwise_append]
    refine ⟨visF_asc n, by split <;> simp, fun a ha b hb => ?_⟩
    obtain ⟨j, rfl, hj, -⟩ := (visF_mem a n).1 ha
    split at hb
    · simp at hb
      omega
    · simp at hb
theorem visF_len {ms : List MK} {k : Int} : ∀ n : Nat, (visF ms k n).length ≤ n
  | 0 => Nat.le_refl _
  | n + 1 => by
    have := visF_len (ms := ms) (k := k) n
    rw [visF, List.length_append]
    split <;> simp <;> omega
/-- What the program's map says of a key after n records: the index of its record, unless that record is void. -/
def cntN (ms : List MK) (k : Int) (key : ByteArray) (n : Nat) : Option Nat := match ms[(lastF ms k key n).toNat]? with
  | some m => if 0 ≤ lastF ms k key n ∧ m.void = false then some (lastF ms k key n).toNat else none
  | none => none
theorem cntN_zero (ms : List MK) (k : Int) (key : ByteArray) : cntN ms k key 0 = none := by
  have h : lastF ms k key 0 = -1 := rfl
  unfold cntN
  rw [h]
  split
  · rw [if_neg (by omega)]
  · rfl
theorem cntN_miss {ms : List MK} {k : Int} {key : ByteArray} {n : Nat} {m : MK} (hm : ms[n]? = some m) (h : m.key ≠ key) : cntN ms k key (n + 1) = cntN ms k key n := by
  unfold cntN
  rw [lastF_miss hm (fun e => h e.2)]
theorem cntN_void {ms : List MK} {k : Int} {n : Nat} {m : MK} (hm : ms[n]? = some m) (h1 : m.known ≤ k) (h2 : m.void = true) : cntN ms k m.key (n + 1) = none := by
  unfold cntN
  rw [lastF_hit hm h1 rfl]
  simp [hm, h2]
theorem cntN_set {ms : List MK} {k : Int} {n : Nat} {m : MK} (hm : ms[n]? = some m) (h1 : m.known ≤ k) (h2 : m.void = false) : cntN ms k m.key (n + 1) = some n := by
  unfold cntN
  rw [lastF_hit hm h1 rfl]
  simp [hm, h2]
theorem cntN_stop {ms : List MK} {k : Int} (hv : mksFrom 0 ms = true) {n : Nat} {m : MK} (hm : ms[n]? = some m) (hk : k < m.known) (hn : n ≤ ms.length) (key : ByteArray) : cntN ms k key ms.length = cntN ms k key n := by
  obtain ⟨j, hj⟩ : ∃ j, ms.length = n + j := ⟨ms.length - n, by omega⟩
  unfold cntN
  rw [hj, lastF_stop hv hm hk key j]
theorem cntN_key {ms : List MK} {k : Int} {key : ByteArray} {n i : Nat} (h : cntN ms k key n = some i) : ∃ m, ms[i]? = some m ∧ m.key = key ∧ m.void = false ∧ m.known ≤ k ∧ lastF ms k key n = i := by
  unfold cntN at h
  split at h
  · rename_i m hm
    split at h
    · rename_i hc
      injection h with h
      subst h
      have hi : lastF ms k key n = ((lastF ms k key n).toNat : Int) := by omega
      obtain ⟨m', h1, h2, h3⟩ := lastF_is n _ hi
      rw [hm] at h1
      injection h1 with h1
      subst h1
      exact ⟨m, hm, h3, hc.2, h2, hi⟩
    · cases h
  · cases h
/-- The indexes in the map are the visible ones. -/
theorem cntN_vis {ms : List MK} {k : Int} (i : Nat) : (∃ key, cntN ms k key ms.length = some i) ↔ (i : Int) ∈ vis ms k := by
  unfold vis
  rw [visF_mem]
  constructor
  · rintro ⟨key, h⟩
    obtain ⟨m, h1, h2, h3, h4, h5⟩ := cntN_key h
    refine ⟨i, rfl, ?_, ?_⟩
    · exact (List.getElem?_eq_some_iff.1 h1).1
    · simp [visAt, h1, h3, h4, h2, h5]
  · rintro ⟨j, h1, h2, h3⟩
    obtain rfl : j = i := by omega
    unfold visAt at h3
    split at h3
    · rename_i m hm
      simp only [Bool.and_eq_true, Bool.not_eq_true', decide_eq_true_eq] at h3
      refine ⟨m.key, ?_⟩
      unfold cntN
      rw [h3.2]
      simp [hm, h3.1.1]
    · cases h3
/-- The suspensions of a fund among those at some indexes. -/
def pickS (l : List SU) (fund : ByteArray) : List Int → List SU
  | [] => []
  | i :: r => (match l[i.toNat]? with | some x => if x.fund = fund then [x] else [] | none => []) ++ pickS l fund r
theorem pickS_append (l : List SU) (fund : ByteArray) (a b : List Int) : pickS l fund (a ++ b) = pickS l fund a ++ pickS l fund b := by
  induction a with
  | nil => rfl
  | cons i r ih => rw [List.cons_append, pickS, pickS, ih, List.append_assoc]
theorem pickS_len (l : List SU) (fund : ByteArray) : ∀ a : List Int, (pickS l fund a).length ≤ a.length
  | [] => Nat.le_refl _
  | i :: r => by
    have := pickS_len l fund r
    rw [pickS, List.length_append]
    have h : (match l[i.toNat]? with | some x => if x.fund = fund then [x] else [] | none => ([] : List SU)).length ≤ 1 := by
      split
      · split <;> simp
      · simp
    simp only [List.length_cons]
    omega
theorem pickS_mem {l : List SU} {fund : ByteArray} {x : SU} : ∀ a : List Int, x ∈ pickS l fund a → x ∈ l ∧ x.fund = fund
  | [], h => by simp [pickS] at h
  | i :: r, h => by
    rw [pickS, List.mem_append] at h
    rcases h with h | h
    · split at h
      · rename_i y hy
        split at h
        · simp at h
          subst h
          exact ⟨List.mem_of_getElem? hy, by assumption⟩
        · simp at h
      · simp at h
    · exact pickS_mem r h
/-- The visible suspensions of a fund. -/
def visS (l : List SU) (k : Int) (fund : ByteArray) : List SU := pickS l fund (vis (l.map SU.mark) k)
theorem visS_len (l : List SU) (k : Int) (fund : ByteArray) : (visS l k fund).length ≤ l.length := by
  have h1 := pickS_len l fund (vis (l.map SU.mark) k)
  have h2 := visF_len (ms := l.map SU.mark) (k := k) (l.map SU.mark).length
  have h3 : (vis (l.map SU.mark) k).length ≤ l.length := by
    rw [List.length_map] at h2
    unfold vis
    rw [List.length_map]
    exact h2
  exact Nat.le_trans h1 h3
/-- Whether a suspension covers a day. -/
def covB (x : SU) (d : Int) : Bool := decide (x.frm ≤ d) && (decide (x.til = 0) || decide (d ≤ x.til))
def actB (l : List SU) (d : Int) : Bool := l.any fun x => covB x d
def openB (l : List SU) (d : Int) : Bool := l.any fun x => covB x d && decide (x.til = 0)
/-- The last day of those that cover a day. -/
def lastC (d : Int) : List SU → Int
  | [] => 0
  | x :: r => if covB x d = true then max x.til (lastC d r) else lastC d r
theorem lastC_bd {d : Int} : ∀ (l : List SU), (∀ x ∈ l, x.til ≤ 73048) → 0 ≤ lastC d l ∧ lastC d l ≤ 73048
  | [], _ => by simp [lastC]
  | x :: r, h => by
    have := lastC_bd (d := d) r (fun y hy => h y (by simp [hy]))
    have hx := h x (by simp)
    unfold lastC
    split <;> omega
theorem lastC_ge {d : Int} : ∀ (l : List SU) (x : SU), x ∈ l → covB x d = true → x.til ≤ lastC d l
  | [], x, h, _ => by simp at h
  | y :: r, x, h, hc => by
    unfold lastC
    rcases List.mem_cons.1 h with rfl | h
    · rw [if_pos hc]; omega
    · have := lastC_ge r x h hc
      split <;> omega
theorem cov_up {x : SU} {d : Int} (h : covB x d = true) (h0 : x.til ≠ 0) : d ≤ x.til := by
  simp [covB] at h
  omega
/-- What Move answers, from a day on, where nx is the schedule's Next. -/
def movF (nx : Int → Int × Int) (l : List SU) : Nat → Int → Int × Int
  | 0, _ => (0, 50)
  | f + 1, d => if (nx d).2 ≠ 0 then (0, (nx d).2) else if openB l (nx d).1 = true then (0, 281) else if actB l (nx d).1 = true then movF nx l f (lastC (nx d).1 l + 1) else ((nx d).1, 0)
def mov (nx : Int → Int × Int) (l : List SU) (d : Int) : Int × Int := movF nx l (73051 - d).toNat d
theorem movF_fuel {nx : Int → Int × Int} {l : List SU} (hl : ∀ x ∈ l, x.til ≤ 73048) (hn : ∀ d, (nx d).2 = 0 → d ≤ (nx d).1) (ho : ∀ d, 73048 < d → (nx d).2 ≠ 0) :
    ∀ (f g : Nat) (d : Int), 73050 - d < f → 73050 - d < g → 0 < f → 0 < g → movF nx l f d = movF nx l g d
  | 0, _, _, _, _, h, _ => by omega
  | _, 0, _, _, _, _, h => by omega
  | f + 1, g + 1, d, hf, hg, _, _ => by
    unfold movF
    by_cases h1 : (nx d).2 ≠ 0
    · rw [if_pos h1, if_pos h1]
    · rw [if_neg h1, if_neg h1]
      by_cases h2 : openB l (nx d).1 = true
      · rw [if_pos h2, if_pos h2]
      · rw [if_neg h2, if_neg h2]
        by_cases h3 : actB l (nx d).1 = true
        · rw [if_pos h3, if_pos h3]
          have hd : d ≤ 73048 := by
            rcases Int.lt_or_le 73048 d with h | h
            · exact absurd (ho d h) h1
            · exact h
          have h4 := hn d (by omega)
          have h5 : (nx d).1 ≤ lastC (nx d).1 l := by
            unfold actB at h3
            rw [List.any_eq_true] at h3
            obtain ⟨x, hx, hc⟩ := h3
            have h6 := lastC_ge l x hx hc
            have h7 : x.til ≠ 0 := fun e => h2 (by
              unfold openB
              rw [List.any_eq_true]
              exact ⟨x, hx, by simp [hc, e]⟩)
            have := cov_up hc h7
            omega
          exact movF_fuel hl hn ho f g _ (by omega) (by omega) (by omega) (by omega)
        · rw [if_neg h3, if_neg h3]
theorem mov_err {nx : Int → Int × Int} {l : List SU} {d : Int} (hd : d ≤ 73050) (h : (nx d).2 ≠ 0) : mov nx l d = (0, (nx d).2) := by
  unfold mov
  obtain ⟨f, hf⟩ : ∃ f, (73051 - d).toNat = f + 1 := ⟨(73051 - d).toNat - 1, by omega⟩
  rw [hf, movF, if_pos h]
theorem mov_open {nx : Int → Int × Int} {l : List SU} {d : Int} (hd : d ≤ 73050) (h : (nx d).2 = 0) (h2 : openB l (nx d).1 = true) : mov nx l d = (0, 281) := by
  unfold mov
  obtain ⟨f, hf⟩ : ∃ f, (73051 - d).toNat = f + 1 := ⟨(73051 - d).toNat - 1, by omega⟩
  rw [hf, movF, if_neg (by simp [h]), if_pos h2]
theorem mov_stay {nx : Int → Int × Int} {l : List SU} {d : Int} (hd : d ≤ 73050) (h : (nx d).2 = 0) (h2 : openB l (nx d).1 = false) (h3 : actB l (nx d).1 = false) : mov nx l d = ((nx d).1, 0) := by
  unfold mov
  obtain ⟨f, hf⟩ : ∃ f, (73051 - d).toNat = f + 1 := ⟨(73051 - d).toNat - 1, by omega⟩
  rw [hf, movF, if_neg (by simp [h]), if_neg (by simp [h2]), if_neg (by simp [h3])]
theorem mov_go {nx : Int → Int × Int} {l : List SU} {d : Int} (hl : ∀ x ∈ l, x.til ≤ 73048) (hn : ∀ d, (nx d).2 = 0 → d ≤ (nx d).1) (ho : ∀ d, 73048 < d → (nx d).2 ≠ 0)
    (h : (nx d).2 = 0) (h2 : openB l (nx d).1 = false) (h3 : actB l (nx d).1 = true) : mov nx l d = mov nx l (lastC (nx d).1 l + 1) ∧ d ≤ lastC (nx d).1 l := by
  have hd : d ≤ 73048 := by
    rcases Int.lt_or_le 73048 d with hx | hx
    · exact absurd h (ho d hx)
    · exact hx
  have h4 := hn d h
  have h5 : (nx d).1 ≤ lastC (nx d).1 l := by
    have h3' := h3
    unfold actB at h3'
    rw [List.any_eq_true] at h3'
    obtain ⟨x, hx, hc⟩ := h3'
    have h6 := lastC_ge l x hx hc
    have h7 : x.til ≠ 0 := fun e => by
      have : openB l (nx d).1 = true := by
        unfold openB
        rw [List.any_eq_true]
        exact ⟨x, hx, by simp [hc, e]⟩
      rw [this] at h2
      cases h2
    have := cov_up hc h7
    omega
  have h8 := (lastC_bd (d := (nx d).1) l hl).2
  refine ⟨?_, by omega⟩
  have e : mov nx l d = movF nx l ((73050 - d).toNat + 1) d := by
    unfold mov
    rw [show (73051 - d).toNat = (73050 - d).toNat + 1 by omega]
  rw [e, movF, if_neg (by simp [h]), if_neg (by simp [h2]), if_pos h3]
  exact movF_fuel hl hn ho _ _ _ (by omega) (by omega) (by omega) (by omega)
end
end Go.Proofs.YtbfllcfjgpkpaaaGreat
