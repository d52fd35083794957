/-
  The plain law of zones: which are valid, the offset at an instant, the first instant of a local time. No program in sight.
  The plain law of zones, continued: what the first instant of a local time is; it is monotone; a zone without changes only shifts times.
-/
import Derived.Test.YtffmmkjoknghoaaGreatBase
namespace Go.Proofs.YtffmmkjoknghoaaGreat
section
open Go.RowKit

def maxMinute : Int := 105190559
def offB (n : Int) : Bool := decide (-900 ≤ n ∧ n ≤ 900)
def lowB (c : UInt8) : Bool := decide (97 ≤ c.toNat ∧ c.toNat ≤ 122)
def digB (c : UInt8) : Bool := decide (48 ≤ c.toNat ∧ c.toNat ≤ 57)
def nameChars (l : List UInt8) : Bool := l.all fun c => lowB c || digB c
def nameB (l : List UInt8) : Bool := decide (1 ≤ l.length) && decide (l.length ≤ 16) && (match l with | c :: _ => lowB c | [] => false) && nameChars l

/-- The changes from one on whose predecessor is at 'last'. -/
def chkFrom (last : Int) : List (Int × Int) → Bool
  | [] => true
  | (a, o) :: r => if a ≤ last ∨ 105190559 < a ∨ offB o = false then false else chkFrom a r

/-- A zone: its name, its offset, its changes. -/
structure ZN where
  name : ByteArray
  off : Int
  cs : List (Int × Int)
def ZN.ok (z : ZN) : Bool := nameB z.name.data.toList && decide (z.cs.length ≤ 400) && offB z.off && chkFrom (-1) z.cs
def ZN.err (z : ZN) : Int := if z.ok = true then 0 else 70

def offAt (off : Int) (cs : List (Int × Int)) (t : Int) : Int :=
  match cs with
  | [] => off
  | (a, o) :: r => if a ≤ t then offAt o r t else off

def instB (t : Int) : Bool := decide (0 ≤ t ∧ t ≤ 105190559)
def ZN.offsetV (z : ZN) (t : Int) : Int := if z.ok = true then (if instB t = true then offAt z.off z.cs t else 0) else 0
def ZN.offsetE (z : ZN) (t : Int) : Int := if z.ok = true then (if instB t = true then 0 else 71) else 70
def ZN.locN (z : ZN) (t : Int) : Int := t + offAt z.off z.cs t
def ZN.localE (z : ZN) (t : Int) : Int := if z.offsetE t = 0 then (if instB (z.locN t) = true then 0 else 50) else z.offsetE t
def ZN.localD (z : ZN) (t : Int) : Int := if z.localE t = 0 then z.locN t / 1440 else 0
def ZN.localM (z : ZN) (t : Int) : Int := if z.localE t = 0 then z.locN t % 1440 else 0

/-- The first instant from 'f' on whose local number is not less than 'l'; offsets: 'o' up to the next change. -/
def instFrom (f o : Int) (cs : List (Int × Int)) (l : Int) : Option Int :=
  match cs with
  | [] => if max f (l - o) < 105190560 then some (max f (l - o)) else none
  | (a, p) :: r => if max f (l - o) < a then some (max f (l - o)) else instFrom a p r l
def dayB (d : Int) : Bool := decide (0 ≤ d ∧ d ≤ 73048)
def minB (m : Int) : Bool := decide (0 ≤ m ∧ m ≤ 1439)
def ZN.instE (z : ZN) (d m : Int) : Int :=
  if z.ok = true then (if dayB d = true then (if minB m = true then (if (instFrom 0 z.off z.cs (1440 * d + m)).isSome = true then 0 else 71) else 72) else 50) else 70
def ZN.instV (z : ZN) (d m : Int) : Int := if z.instE d m = 0 then (instFrom 0 z.off z.cs (1440 * d + m)).getD 0 else 0

/-- The intervals of equal offset: from, to, offset. -/
def ivs (f o : Int) : List (Int × Int) → List (Int × Int × Int)
  | [] => [(f, 105190560, o)]
  | (a, p) :: r => (f, a, o) :: ivs a p r

/-- The head of interval k: where it begins, and its offset. -/
def ivHead (f o : Int) (cs : List (Int × Int)) : Nat → Int × Int
  | 0 => (f, o)
  | k + 1 => cs.getD k (0, 0)

theorem ivs_length (f o : Int) (cs : List (Int × Int)) : (ivs f o cs).length = cs.length + 1 := by
  induction cs generalizing f o with
  | nil => rfl
  | cons x r ih => obtain ⟨a, p⟩ := x; simp [ivs, ih]

theorem ivs_get (f o : Int) (cs : List (Int × Int)) (k : Nat) (hk : k < cs.length) :
    (ivs f o cs)[k]? = some ((ivHead f o cs k).1, (cs.getD k (0, 0)).1, (ivHead f o cs k).2) := by
  induction cs generalizing f o k with
  | nil => simp at hk
  | cons x r ih =>
    obtain ⟨a, p⟩ := x
    cases k with
    | zero => simp [ivs, ivHead]
    | succ k =>
      simp only [List.length_cons] at hk
      have := ih a p k (by omega)
      simp only [ivs, List.getElem?_cons_succ, this]
      cases k with
      | zero => simp [ivHead]
      | succ k => simp [ivHead]
theorem ivs_last (f o : Int) (cs : List (Int × Int)) :
    (ivs f o cs)[cs.length]? = some ((ivHead f o cs cs.length).1, 105190560, (ivHead f o cs cs.length).2) := by
  induction cs generalizing f o with
  | nil => simp [ivs, ivHead]
  | cons x r ih =>
    obtain ⟨a, p⟩ := x
    have := ih a p
    simp only [ivs, List.length_cons, List.getElem?_cons_succ, this]
    cases r with
    | nil => simp [ivHead]
    | cons y r => simp [ivHead]

theorem offAt_of_ivs (t : Int) (f o : Int) (cs : List (Int × Int)) (q : List (Int × Int × Int)) (x : Int × Int × Int) (h : q ++ [x] <+: ivs f o cs)
    (hq : ∀ y ∈ q, y.2.1 ≤ t) (hx : t < x.2.1) : offAt o cs t = x.2.2 := by
  induction cs generalizing f o q with
  | nil =>
    simp only [ivs] at h
    cases q with
    | nil => simp at h; subst h; simp [offAt]
    | cons y q => have := h.length_le; simp at this
  | cons c r ih =>
    obtain ⟨a, p⟩ := c
    simp only [ivs] at h
    cases q with
    | nil =>
      simp at h
      subst h
      simp only at hx
      simp only [offAt]
      rw [if_neg (by omega)]
    | cons y q =>
      simp only [List.cons_append, List.cons_prefix_cons] at h
      obtain ⟨rfl, h⟩ := h
      have h1 := hq _ (List.mem_cons_self)
      simp only at h1
      simp only [offAt]
      rw [if_pos h1]
      exact ih a p q h (fun z hz => hq z (List.mem_cons_of_mem _ hz))

theorem last_mem_ivs (f o : Int) (cs : List (Int × Int)) : ∃ x ∈ ivs f o cs, x.2.1 = 105190560 := by
  induction cs generalizing f o with
  | nil => exact ⟨_, List.mem_singleton.2 rfl, rfl⟩
  | cons c r ih =>
    obtain ⟨a, p⟩ := c
    obtain ⟨x, hx, h⟩ := ih a p
    exact ⟨x, List.mem_cons_of_mem _ hx, h⟩

theorem instFrom_of_ivs (l : Int) (f o : Int) (cs : List (Int × Int)) (q : List (Int × Int × Int)) (x : Int × Int × Int) (h : q ++ [x] <+: ivs f o cs)
    (hq : ∀ y ∈ q, y.2.1 ≤ max y.1 (l - y.2.2)) (hx : max x.1 (l - x.2.2) < x.2.1) : instFrom f o cs l = some (max x.1 (l - x.2.2)) := by
  induction cs generalizing f o q with
  | nil =>
    simp only [ivs] at h
    cases q with
    | nil => simp at h; subst h; simp only at hx; simp only [instFrom]; rw [if_pos hx]
    | cons y q => have := h.length_le; simp at this
  | cons c r ih =>
    obtain ⟨a, p⟩ := c
    simp only [ivs] at h
    cases q with
    | nil =>
      simp at h
      subst h
      simp only at hx
      simp only [instFrom]
      rw [if_pos hx]
    | cons y q =>
      simp only [List.cons_append, List.cons_prefix_cons] at h
      obtain ⟨rfl, h⟩ := h
      have h1 := hq _ (List.mem_cons_self)
      simp only at h1
      simp only [instFrom]
      rw [if_neg (by omega)]
      exact ih a p q h (fun z hz => hq z (List.mem_cons_of_mem _ hz))

theorem instFrom_none (l : Int) (f o : Int) (cs : List (Int × Int)) (hq : ∀ y ∈ ivs f o cs, y.2.1 ≤ max y.1 (l - y.2.2)) : instFrom f o cs l = none := by
  induction cs generalizing f o with
  | nil =>
    have := hq (f, 105190560, o) (by simp [ivs])
    simp only at this
    simp only [instFrom]
    rw [if_neg (by omega)]
  | cons c r ih =>
    obtain ⟨a, p⟩ := c
    have := hq (f, a, o) (by simp [ivs])
    simp only at this
    simp only [instFrom]
    rw [if_neg (by omega)]
    exact ih a p (fun y hy => hq y (by simp [ivs, hy]))

/-- A zone lies in memory: its changes two cells each, behind the address A. -/
structure ZAt (w : World) (z : ZN) (A : Option Addr) : Prop where
  nm : z.name.size ≤ maxLen
  ln : z.cs.length ≤ maxLen
  cells : ∀ k x, z.cs[k]? = some x → ∃ b o, A = some ⟨b, o, none⟩ ∧ b < w.heap.size ∧ w.cell? ⟨b, o + k*2, none⟩ = some (.int .i64 x.1) ∧ w.cell? ⟨b, o + k*2 + 1, none⟩ = some (.int .i64 x.2)
theorem ZAt.below {w w' : World} {z : ZN} {A : Option Addr} (h : ZAt w z A) (hb : Below w.heap.size w w') : ZAt w' z A :=
  ⟨h.nm, h.ln, fun k x hx => by
    obtain ⟨b, o, hA, hlt, h1, h2⟩ := h.cells k x hx
    exact ⟨b, o, hA, Nat.lt_of_lt_of_le hlt hb.size, (hb.cell (p := ⟨b, _, none⟩) hlt).trans h1, (hb.cell (p := ⟨b, _, none⟩) hlt).trans h2⟩⟩
theorem ZAt.at_ {w w' : World} {z : ZN} {A : Option Addr} (h : ZAt w z A) (hb : Below w.heap.size w w') (k : Nat) (hk : k < z.cs.length) :
    ∃ b o x1 x2, A = some ⟨b, o, none⟩ ∧ b < w.heap.size ∧ w'.cell? ⟨b, o + k*2, none⟩ = some (.int .i64 x1) ∧ w'.cell? ⟨b, o + k*2 + 1, none⟩ = some (.int .i64 x2) ∧
      z.cs.drop k = (x1, x2) :: z.cs.drop (k + 1) ∧ z.cs.getD k (0, 0) = (x1, x2) := by
  have hx : z.cs[k]? = some z.cs[k] := List.getElem?_eq_getElem hk
  obtain ⟨b, o, hA, hlt, h1, h2⟩ := h.cells k _ hx
  refine ⟨b, o, z.cs[k].1, z.cs[k].2, hA, hlt, (hb.cell (p := ⟨b, _, none⟩) hlt).trans h1, (hb.cell (p := ⟨b, _, none⟩) hlt).trans h2, ?_, ?_⟩
  · exact List.drop_eq_getElem_cons hk
  · simp [List.getD, hx]
theorem chkFrom_cons (last a o : Int) (r : List (Int × Int)) : chkFrom last ((a, o) :: r) = if a ≤ last ∨ 105190559 < a ∨ offB o = false then false else chkFrom a r := rfl
theorem ZN.err_name {z : ZN} (h : nameB z.name.data.toList = false) : z.err = 70 := by simp [ZN.err, ZN.ok, h]
theorem ZN.err_len {z : ZN} (h : ¬ z.cs.length ≤ 400) : z.err = 70 := by simp [ZN.err, ZN.ok, h]
theorem ZN.err_off {z : ZN} (h : offB z.off = false) : z.err = 70 := by simp [ZN.err, ZN.ok, h]
theorem ZN.err_chk {z : ZN} (h : chkFrom (-1) z.cs = false) : z.err = 70 := by simp [ZN.err, ZN.ok, h]
theorem ZN.err_ok {z : ZN} (h : nameB z.name.data.toList = true) (h2 : z.cs.length ≤ 400) (h3 : offB z.off = true) (h4 : chkFrom (-1) z.cs = true) : z.err = 0 := by simp [ZN.err, ZN.ok, h, h2, h3, h4]
theorem instB_iff (t : Int) : instB t = true ↔ 0 ≤ t ∧ t ≤ 105190559 := by simp [instB]
theorem instB_no {t : Int} (h : instB t = false) : ¬ (0 ≤ t) ∨ ¬ (t ≤ 105190559) := by simp [instB] at h; omega
theorem dayB_no {t : Int} (h : dayB t = false) : ¬ (0 ≤ t) ∨ ¬ (t ≤ 73048) := by simp [dayB] at h; omega
theorem minB_no {t : Int} (h : minB t = false) : ¬ (0 ≤ t) ∨ ¬ (t ≤ 1439) := by simp [minB] at h; omega
theorem dayB_iff (t : Int) : dayB t = true ↔ 0 ≤ t ∧ t ≤ 73048 := by simp [dayB]
theorem minB_iff (t : Int) : minB t = true ↔ 0 ≤ t ∧ t ≤ 1439 := by simp [minB]
def pair (a e : Int) : Value := .tuple #[.int .i64 a, .int .i64 e]
theorem ret_pair {a b a' b' : Int} (h : a = a') (h' : b = b') : Ending.returned (.tuple #[.int .i64 a, .int .i64 b]) = .returned (.tuple #[.int .i64 a', .int .i64 b']) := by rw [h, h']
theorem ret_triple {a b c a' b' c' : Int} (h : a = a') (h' : b = b') (h2 : c = c') : Ending.returned (.tuple #[.int .i64 a, .int .i64 b, .int .i64 c]) = .returned (.tuple #[.int .i64 a', .int .i64 b', .int .i64 c']) := by rw [h, h', h2]
theorem ret_four {a b c d a' b' c' d' : Int} (h : a = a') (h' : b = b') (h2 : c = c') (h3 : d = d') : Ending.returned (.tuple #[.int .i64 a, .int .i64 b, .int .i64 c, .int .i64 d]) = .returned (.tuple #[.int .i64 a', .int .i64 b', .int .i64 c', .int .i64 d']) := by rw [h, h', h2, h3]
theorem ZN.offset_bad {z : ZN} (h : z.ok = false) (t : Int) : z.offsetV t = 0 ∧ z.offsetE t = 70 := by simp [ZN.offsetV, ZN.offsetE, h]
theorem ZN.offset_inst {z : ZN} (h : z.ok = true) {t : Int} (h2 : instB t = false) : z.offsetV t = 0 ∧ z.offsetE t = 71 := by simp [ZN.offsetV, ZN.offsetE, h, h2]
theorem ZN.offset_good {z : ZN} (h : z.ok = true) {t : Int} (h2 : instB t = true) : z.offsetV t = offAt z.off z.cs t ∧ z.offsetE t = 0 := by simp [ZN.offsetV, ZN.offsetE, h, h2]
theorem ZN.local_err {z : ZN} {t : Int} (h : z.offsetE t ≠ 0) : z.localD t = 0 ∧ z.localM t = 0 ∧ z.localE t = z.offsetE t := by simp [ZN.localD, ZN.localM, ZN.localE, h]
theorem ZN.local_day {z : ZN} {t : Int} (h : z.offsetE t = 0) (h2 : instB (z.locN t) = false) : z.localD t = 0 ∧ z.localM t = 0 ∧ z.localE t = 50 := by simp [ZN.localD, ZN.localM, ZN.localE, h, h2]
theorem ZN.local_good {z : ZN} {t : Int} (h : z.offsetE t = 0) (h2 : instB (z.locN t) = true) : z.localD t = z.locN t / 1440 ∧ z.localM t = z.locN t % 1440 ∧ z.localE t = 0 := by simp [ZN.localD, ZN.localM, ZN.localE, h, h2]
theorem ZN.inst_zone {z : ZN} (h : z.ok = false) (d m : Int) : z.instV d m = 0 ∧ z.instE d m = 70 := by simp [ZN.instV, ZN.instE, h]
theorem ZN.inst_day {z : ZN} (h : z.ok = true) {d : Int} (h2 : dayB d = false) (m : Int) : z.instV d m = 0 ∧ z.instE d m = 50 := by simp [ZN.instV, ZN.instE, h, h2]
theorem ZN.inst_min {z : ZN} (h : z.ok = true) {d m : Int} (h2 : dayB d = true) (h3 : minB m = false) : z.instV d m = 0 ∧ z.instE d m = 72 := by simp [ZN.instV, ZN.instE, h, h2, h3]
theorem ZN.inst_none {z : ZN} (h : z.ok = true) {d m : Int} (h2 : dayB d = true) (h3 : minB m = true) (h4 : instFrom 0 z.off z.cs (1440 * d + m) = none) : z.instV d m = 0 ∧ z.instE d m = 71 := by simp [ZN.instV, ZN.instE, h, h2, h3, h4]
theorem ZN.inst_some {z : ZN} (h : z.ok = true) {d m x : Int} (h2 : dayB d = true) (h3 : minB m = true) (h4 : instFrom 0 z.off z.cs (1440 * d + m) = some x) : z.instV d m = x ∧ z.instE d m = 0 := by simp [ZN.instV, ZN.instE, h, h2, h3, h4]
theorem ZN.err_of_ok {z : ZN} (h : z.ok = true) : z.err = 0 := by simp [ZN.err, h]
theorem ZN.err_of_bad {z : ZN} (h : z.ok = false) : z.err = 70 := by simp [ZN.err, h]
theorem ZN.len_of_ok {z : ZN} (h : z.ok = true) : z.cs.length ≤ 400 := by
  unfold ZN.ok at h
  simp at h
  exact h.1.1.2
theorem ZN.off_of_ok {z : ZN} (h : z.ok = true) : -900 ≤ z.off ∧ z.off ≤ 900 := by
  unfold ZN.ok at h
  simp at h
  have := h.1.2
  unfold offB at this
  simpa using this
theorem chkFrom_mem (last : Int) (cs : List (Int × Int)) (h : chkFrom last cs = true) : ∀ x ∈ cs, last < x.1 ∧ x.1 ≤ 105190559 ∧ -900 ≤ x.2 ∧ x.2 ≤ 900 := by
  induction cs generalizing last with
  | nil => intro x hx; cases hx
  | cons y r ih =>
    obtain ⟨a, o⟩ := y
    rw [chkFrom_cons] at h
    split at h
    · cases h
    · rename_i hn
      have h2 : offB o = true := by cases ho : offB o <;> simp_all
      unfold offB at h2
      simp at h2
      intro x hx
      rcases List.mem_cons.1 hx with rfl | hx
      · simp only; omega
      · have := ih a h x hx; omega
theorem ZN.cs_of_ok {z : ZN} (h : z.ok = true) : ∀ x ∈ z.cs, -1 < x.1 ∧ x.1 ≤ 105190559 ∧ -900 ≤ x.2 ∧ x.2 ≤ 900 := by
  unfold ZN.ok at h
  simp at h
  exact chkFrom_mem (-1) z.cs h.2
theorem offAt_bd {off : Int} {cs : List (Int × Int)} {t : Int} (h0 : -900 ≤ off ∧ off ≤ 900) (hc : ∀ x ∈ cs, -1 < x.1 ∧ x.1 ≤ 105190559 ∧ -900 ≤ x.2 ∧ x.2 ≤ 900) : -900 ≤ offAt off cs t ∧ offAt off cs t ≤ 900 := by
  induction cs generalizing off with
  | nil => exact h0
  | cons y r ih =>
    obtain ⟨a, o⟩ := y
    have := hc (a, o) (by simp)
    simp only [offAt]
    split
    · exact ih ⟨this.2.2.1, this.2.2.2⟩ (fun x hx => hc x (by simp [hx]))
    · exact h0
theorem offAt_cons (off a o : Int) (r : List (Int × Int)) (t : Int) : offAt off ((a, o) :: r) t = if a ≤ t then offAt o r t else off := rfl
theorem ZN.offset_bd {z : ZN} (h : z.ok = true) (t : Int) : -900 ≤ offAt z.off z.cs t ∧ offAt z.off z.cs t ≤ 900 := offAt_bd (ZN.off_of_ok h) (ZN.cs_of_ok h)
theorem instFrom_cons (f o a p : Int) (r : List (Int × Int)) (l : Int) : instFrom f o ((a, p) :: r) l = if max f (l - o) < a then some (max f (l - o)) else instFrom a p r l := rfl
theorem instFrom_nil (f o l : Int) : instFrom f o [] l = if max f (l - o) < 105190560 then some (max f (l - o)) else none := rfl
end
section
open Go.RowKit

theorem instFrom_ge {f o l x : Int} {cs : List (Int × Int)} (hs : ∀ a p r, cs = (a, p) :: r → f ≤ a) (hc : chkFrom (f - 1) cs = true ∨ chkFrom f cs = true) (h : instFrom f o cs l = some x) : f ≤ x := by
  induction cs generalizing f o with
  | nil => rw [instFrom_nil] at h; split at h <;> simp at h; omega
  | cons c r ih =>
    obtain ⟨a, p⟩ := c
    rw [instFrom_cons] at h
    split at h
    · simp at h; omega
    · have h1 : f ≤ a := hs a p r rfl
      have h2 : chkFrom a r = true := by
        rcases hc with hc | hc <;> (rw [chkFrom_cons] at hc; split at hc <;> simp_all)
      have h3 : ∀ b q r', r = (b, q) :: r' → a ≤ b := by
        intro b q r' hr
        subst hr
        rw [chkFrom_cons] at h2
        split at h2
        · cases h2
        · omega
      have := ih (f := a) (o := p) h3 (.inr h2) h
      omega
theorem chk_tail {last a p : Int} {r : List (Int × Int)} (h : chkFrom last ((a, p) :: r) = true) : last < a ∧ a ≤ 105190559 ∧ offB p = true ∧ chkFrom a r = true := by
  rw [chkFrom_cons] at h
  split at h
  · cases h
  · rename_i hn
    have h2 : offB p = true := by cases ho : offB p <;> simp_all
    exact ⟨by omega, by omega, h2, h⟩
theorem chk_head {last : Int} {cs : List (Int × Int)} (h : chkFrom last cs = true) : ∀ b q r', cs = (b, q) :: r' → last + 1 ≤ b := by
  intro b q r' hr
  subst hr
  have := (chk_tail h).1
  omega
theorem instFrom_some {last f o l : Int} {cs : List (Int × Int)} (hc : chkFrom last cs = true) (hf : f ≤ 105190559) (ho : -900 ≤ o) (hl : l ≤ 105189000) : ∃ x, instFrom f o cs l = some x := by
  induction cs generalizing last f o with
  | nil => exact ⟨max f (l - o), by rw [instFrom_nil, if_pos (by omega)]⟩
  | cons c r ih =>
    obtain ⟨a, p⟩ := c
    obtain ⟨h1, h2, h3, h4⟩ := chk_tail hc
    rw [instFrom_cons]
    split
    · exact ⟨_, rfl⟩
    · exact ih h4 h2 (by unfold offB at h3; simp at h3; omega)
theorem instFrom_mono {last f o l l' x y : Int} {cs : List (Int × Int)} (hc : chkFrom last cs = true) (hlf : last ≤ f) (hl : l ≤ l') (h : instFrom f o cs l = some x) (h' : instFrom f o cs l' = some y) : x ≤ y := by
  induction cs generalizing last f o with
  | nil =>
    rw [instFrom_nil] at h h'
    split at h <;> split at h' <;> simp at h h'
    omega
  | cons c r ih =>
    obtain ⟨a, p⟩ := c
    obtain ⟨h1, h2, h3, h4⟩ := chk_tail hc
    rw [instFrom_cons] at h h'
    split at h
    · split at h'
      · simp at h h'; omega
      · simp at h
        have := instFrom_ge (f := a) (fun b q r' hr => by have := chk_head h4 b q r' hr; omega) (.inr h4) h'
        omega
    · split at h'
      · omega
      · exact ih h4 (Int.le_refl _) h h'
/-- The first instant from f on whose local number is not less than l. -/
theorem instFrom_spec {f o l x : Int} {cs : List (Int × Int)} (hs : ∀ b q r', cs = (b, q) :: r' → f ≤ b) (hc : chkFrom (f - 1) cs = true ∨ chkFrom f cs = true) (h : instFrom f o cs l = some x) :
    f ≤ x ∧ x ≤ 105190559 ∧ l ≤ x + offAt o cs x ∧ ∀ t, f ≤ t → t < x → t + offAt o cs t < l := by
  induction cs generalizing f o with
  | nil =>
    rw [instFrom_nil] at h
    split at h
    · simp at h
      subst h
      refine ⟨by omega, by omega, by simp only [offAt]; omega, fun t h1 h2 => by simp only [offAt]; omega⟩
    · simp at h
  | cons c r ih =>
    obtain ⟨a, p⟩ := c
    have hfa := hs a p r rfl
    have h4 : a ≤ 105190559 ∧ chkFrom a r = true := by
      rcases hc with hc | hc
      · exact ⟨(chk_tail hc).2.1, (chk_tail hc).2.2.2⟩
      · exact ⟨(chk_tail hc).2.1, (chk_tail hc).2.2.2⟩
    rw [instFrom_cons] at h
    split at h
    · simp at h
      subst h
      refine ⟨by omega, by omega, ?_, fun t h1 h2 => ?_⟩
      · rw [offAt_cons, if_neg (by omega)]; omega
      · rw [offAt_cons, if_neg (by omega)]; omega
    · obtain ⟨g1, g2, g3, g4⟩ := ih (f := a) (o := p) (fun b q r' hr => by have := chk_head h4.2 b q r' hr; omega) (.inr h4.2) h
      refine ⟨by omega, g2, ?_, fun t h1 h2 => ?_⟩
      · rw [offAt_cons, if_pos (by omega)]; exact g3
      · by_cases hta : a ≤ t
        · rw [offAt_cons, if_pos hta]; exact g4 t hta h2
        · rw [offAt_cons, if_neg hta]; omega

theorem ZN.chk {z : ZN} (h : z.ok = true) : chkFrom (-1) z.cs = true := by
  unfold ZN.ok at h
  simp at h
  exact h.2
/-- At a local time well within the days there is an instant. -/
theorem ZN.inst_at {z : ZN} (h : z.ok = true) {l : Int} (h0 : 0 ≤ l) (h1 : l ≤ 105189000) : ∃ x, instFrom 0 z.off z.cs l = some x ∧ z.instV (l / 1440) (l % 1440) = x ∧ z.instE (l / 1440) (l % 1440) = 0 := by
  obtain ⟨x, hx⟩ := instFrom_some (f := 0) (o := z.off) (l := l) (ZN.chk h) (by omega) (ZN.off_of_ok h).1 h1
  have e : 1440 * (l / 1440) + l % 1440 = l := by omega
  have := ZN.inst_some h (d := l / 1440) (m := l % 1440) (x := x) ((dayB_iff _).2 (by omega)) ((minB_iff _).2 (by omega)) (by rw [e]; exact hx)
  exact ⟨x, hx, this.1, this.2⟩
theorem ZN.inst_mono {z : ZN} (h : z.ok = true) {l l' x y : Int} (hl : l ≤ l') (hx : instFrom 0 z.off z.cs l = some x) (hy : instFrom 0 z.off z.cs l' = some y) : x ≤ y :=
  instFrom_mono (ZN.chk h) (by omega) hl hx hy
theorem ZN.inst_spec {z : ZN} (h : z.ok = true) {l x : Int} (hx : instFrom 0 z.off z.cs l = some x) :
    0 ≤ x ∧ x ≤ 105190559 ∧ l ≤ z.locN x ∧ ∀ t, 0 ≤ t → t < x → z.locN t < l :=
  instFrom_spec (f := 0) (fun b q r' hr => by have := chk_head (ZN.chk h) b q r' hr; omega) (.inl (ZN.chk h)) hx
end
end Go.Proofs.YtffmmkjoknghoaaGreat
