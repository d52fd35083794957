/-
  Suspensions in plain values: Move answers the first open dealing day; what became known later, and what is of other funds, changes nothing. No program in sight.
  Suspensions: the examples of the chapter; the law SuspensionTells.
  Suspensions: where Move is refused; the law SuspensionRefuses.
  The laws of suspensions over a tape.
-/
import Derived.Test.YtbfllcfjgpkpaaaGreatSusAct
import Derived.Test.YtbfllcfjgpkpaaaGreatScene3
import Derived.Test.YtbfllcfjgpkpaaaGreatScene4
import Derived.Test.YtbfllcfjgpkpaaaGreatSchedPlays
namespace Go.Proofs.YtbfllcfjgpkpaaaGreat
section
open Go.RowKit
set_option linter.unusedVariables false
theorem lastC_none {d : Int} : ∀ (r : List SU), ¬actB r d = true → lastC d r = 0
  | [], _ => rfl
  | y :: t, h => by
    simp [actB] at h
    unfold lastC
    rw [if_neg (by simp [h.1])]
    exact lastC_none t (by simp [actB]; exact h.2)
theorem lastC_hit {d : Int} : ∀ (l : List SU), (∀ x ∈ l, 0 ≤ x.til) → actB l d = true → openB l d = false → ∃ x ∈ l, covB x d = true ∧ x.til = lastC d l ∧ x.til ≠ 0
  | [], _, h, _ => by simp [actB] at h
  | x :: r, ht, h, ho => by
    have hx : covB x d = true → x.til ≠ 0 := fun hc e => by
      simp [openB, hc, e] at ho
    have hr : openB r d = false := by
      simp only [openB, List.any_cons, Bool.or_eq_false_iff] at ho
      exact ho.2
    have ht2 : ∀ y ∈ r, 0 ≤ y.til := fun y hy => ht y (by simp [hy])
    have hx0 := ht x (by simp)
    by_cases hc : covB x d = true
    · have hm : lastC d (x :: r) = max x.til (lastC d r) := by
        show (if covB x d = true then _ else _) = _
        rw [if_pos hc]
      rw [hm]
      by_cases ha : actB r d = true
      · obtain ⟨y, y1, y2, y3, y4⟩ := lastC_hit r ht2 ha hr
        by_cases hmx : x.til ≤ lastC d r
        · exact ⟨y, by simp [y1], y2, by omega, y4⟩
        · exact ⟨x, by simp, hc, by omega, hx hc⟩
      · exact ⟨x, by simp, hc, by rw [lastC_none r ha]; omega, hx hc⟩
    · have ha : actB r d = true := by
        simp only [actB, List.any_cons, Bool.or_eq_true] at h
        rcases h with h | h
        · exact absurd h hc
        · exact h
      obtain ⟨y, y1, y2, y3, y4⟩ := lastC_hit r ht2 ha hr
      refine ⟨y, by simp [y1], y2, ?_, y4⟩
      unfold lastC
      rw [if_neg hc]
      exact y3
/-- What is covered up to the last day of those that cover a day. -/
theorem act_till {l : List SU} {r x : Int} (ht : ∀ x ∈ l, 0 ≤ x.til) (h : actB l r = true) (ho : openB l r = false) (h1 : r ≤ x) (h2 : x ≤ lastC r l) : actB l x = true := by
  obtain ⟨y, y1, y2, y3, y4⟩ := lastC_hit l ht h ho
  unfold actB
  rw [List.any_eq_true]
  refine ⟨y, y1, ?_⟩
  simp [covB] at y2 ⊢
  omega
/-- What Move says, from day d on, where dealing days are those with p. -/
def PassR (l : List SU) (p : Int → Bool) (d v e : Int) : Prop :=
  (e = 281 ∧ v = 0) ∨ (e = 0 ∧ d ≤ v ∧ v ≤ 73048 ∧ p v = true ∧ actB l v = false ∧ ∀ x, d ≤ x → x < v → p x = true → actB l x = true)
theorem mov_pass {l : List SU} {p : Int → Bool} {nx : Int → Int × Int} (ht : ∀ x ∈ l, 0 ≤ x.til) (hl : ∀ x ∈ l, x.til ≤ 1000) (hn : ∀ d, (nx d).2 = 0 → d ≤ (nx d).1) (ho : ∀ d, 73048 < d → (nx d).2 ≠ 0)
    (hp : ∀ d, 0 ≤ d → d ≤ 1001 → (nx d).2 = 0 ∧ fromP p d = some (nx d).1) : ∀ (f : Nat) (d : Int), 0 ≤ d → d ≤ 1001 → (1001 - d).toNat ≤ f → PassR l p d (mov nx l d).1 (mov nx l d).2
  | f, d, h0, h1, hf => by
    obtain ⟨e0, hr⟩ := hp d h0 h1
    obtain ⟨r1, r2, r3, r4⟩ := fromP_spec hr
    have h4 := hn d e0
    cases hop : openB l (nx d).1
    · cases hac : actB l (nx d).1
      · rw [mov_stay (by omega) e0 hop hac]
        exact .inr ⟨rfl, h4, r2, r3, hac, fun x x1 x2 x3 => by rw [r4 x x1 x2] at x3; cases x3⟩
      · have hl2 : ∀ x ∈ l, x.til ≤ 73048 := fun x hx => by have := hl x hx; omega
        obtain ⟨m1, m2⟩ := mov_go hl2 hn ho e0 hop hac
        rw [m1]
        obtain ⟨y, y1, y2, y3, y4⟩ := lastC_hit l ht hac hop
        have hy := hl y y1
        have hdl : d ≤ lastC (nx d).1 l := m2
        have hge : (nx d).1 ≤ lastC (nx d).1 l := by rw [← y3]; exact cov_up y2 y4
        match f, hf with
        | 0, hf => 
          exfalso
          omega
        | f + 1, hf =>
          rcases mov_pass ht hl hn ho hp f (lastC (nx d).1 l + 1) (by omega) (by omega) (by omega) with h | ⟨k1, k2, k3, k4, k5, k6⟩
          · exact .inl h
          · refine .inr ⟨k1, by omega, k3, k4, k5, fun x x1 x2 x3 => ?_⟩
            rcases Int.lt_or_le x (nx d).1 with hx | hx
            · rw [r4 x x1 hx] at x3
              cases x3
            · rcases Int.lt_or_le (lastC (nx d).1 l) x with hz | hz
              · exact k6 x (by omega) x2 x3
              · exact act_till ht hac hop hx hz
    · rw [mov_open (by omega) e0 hop]
      exact .inl ⟨rfl, rfl⟩
  termination_by f => f
/-- The records that were known by k. -/
def kept (l : List SU) (k : Int) : List SU := l.filter fun x => decide (x.known ≤ k)
theorem susFrom_gt : ∀ (l : List SU) (last : Int), susFrom last l = true → ∀ x ∈ l, last < x.known
  | [], _, _, x, h => by simp at h
  | y :: r, last, h, x, hx => by
    simp only [susFrom, Bool.and_eq_true, decide_eq_true_eq] at h
    rcases List.mem_cons.1 hx with rfl | hx
    · exact h.1.2
    · have := susFrom_gt r _ h.2 x hx
      omega
/-- They are the first ones. -/
theorem kept_take (k : Int) : ∀ (l : List SU) (last : Int), susFrom last l = true → ∃ n, n ≤ l.length ∧ kept l k = l.take n ∧ (∀ x ∈ l.take n, x.known ≤ k) ∧ (∀ x, l[n]? = some x → k < x.known)
  | [], _, _ => ⟨0, Nat.le_refl _, rfl, by simp, by simp⟩
  | y :: r, last, h => by
    simp only [susFrom, Bool.and_eq_true, decide_eq_true_eq] at h
    by_cases hy : y.known ≤ k
    · obtain ⟨n, n1, n2, n3, n4⟩ := kept_take k r _ h.2
      refine ⟨n + 1, by simp; omega, ?_, ?_, by simpa using n4⟩
      · unfold kept at n2 ⊢
        rw [List.filter_cons, if_pos (by simpa using hy), n2, List.take_succ_cons]
      · intro x hx
        rw [List.take_succ_cons] at hx
        rcases List.mem_cons.1 hx with rfl | hx
        · exact hy
        · exact n3 x hx
    · refine ⟨0, by simp, ?_, by simp, ?_⟩
      · unfold kept
        rw [List.filter_cons, if_neg (by simpa using hy), List.take_zero, List.filter_eq_nil_iff]
        intro x hx
        have := susFrom_gt r _ h.2 x hx
        simp
        omega
      · intro x hx
        simp at hx
        subst hx
        omega
theorem susFrom_take : ∀ (l : List SU) (n : Nat) (last : Int), susFrom last l = true → susFrom last (l.take n) = true
  | [], n, _, _ => by simp [susFrom]
  | y :: r, 0, _, _ => rfl
  | y :: r, n + 1, last, h => by
    simp only [susFrom, Bool.and_eq_true] at h
    simp only [List.take_succ_cons, susFrom, Bool.and_eq_true]
    exact ⟨h.1, susFrom_take r n _ h.2⟩
theorem susB_take {l : List SU} (h : susB l = true) (n : Nat) : susB (l.take n) = true := by
  unfold susB at h ⊢
  simp only [Bool.and_eq_true, decide_eq_true_eq] at h ⊢
  exact ⟨by simp; omega, susFrom_take l n _ h.2⟩
/-- The last record of a key, in a list of which the first n are known by k, by K and no other one. -/
theorem lastF_take {ms : List MK} {k K : Int} {n : Nat} (h1 : ∀ m ∈ ms.take n, m.known ≤ k) (h2 : ∀ m ∈ ms.take n, m.known ≤ K) (key : ByteArray) : ∀ j : Nat, j ≤ n → lastF ms k key j = lastF (ms.take n) K key j
  | 0, _ => rfl
  | j + 1, hj => by
    have ih := lastF_take h1 h2 key j (by omega)
    have e : (ms.take n)[j]? = ms[j]? := List.getElem?_take_of_lt (by omega)
    cases hm : ms[j]? with
    | none =>
      simp only [lastF, e, hm]
      exact ih
    | some m =>
      have hin : m ∈ ms.take n := List.mem_of_getElem? (e.trans hm)
      have a := h1 m hin
      have b := h2 m hin
      simp only [lastF, e, hm, a, b, true_and]
      rw [ih]
theorem visF_take {ms : List MK} {k K : Int} {n : Nat} (hn : n ≤ ms.length) (hv : mksFrom 0 ms = true) (h1 : ∀ m ∈ ms.take n, m.known ≤ k) (h2 : ∀ m ∈ ms.take n, m.known ≤ K) (h3 : ∀ m, ms[n]? = some m → k < m.known) : vis ms k = vis (ms.take n) K := by
  have hlen : (ms.take n).length = n := by simp; omega
  have hlast : ∀ key, lastF ms k key ms.length = lastF (ms.take n) K key (ms.take n).length := fun key => by
    rw [hlen, ← lastF_take h1 h2 key n (Nat.le_refl _)]
    cases hm : ms[n]? with
    | none =>
      have : ms.length ≤ n := List.getElem?_eq_none_iff.1 hm
      rw [show ms.length = n by omega]
    | some m =>
      obtain ⟨j, hj⟩ : ∃ j, ms.length = n + j := ⟨ms.length - n, by omega⟩
      rw [hj]
      exact lastF_stop hv hm (h3 m hm) key j
  have key : ∀ j : Nat, j ≤ n → visF ms k j = visF (ms.take n) K j := fun j => by
    induction j with
    | zero => intro _; rfl
    | succ j ih =>
      intro hj
      rw [visF, visF, ih (by omega)]
      have e : (ms.take n)[j]? = ms[j]? := List.getElem?_take_of_lt (by omega)
      have : visAt ms k j = visAt (ms.take n) K j := by
        unfold visAt
        rw [e]
        cases hm : ms[j]? with
        | none => rfl
        | some m =>
          have hin : m ∈ ms.take n := List.mem_of_getElem? (e.trans hm)
          simp only [hlast, h1 m hin, h2 m hin]
      rw [this]
  have tail : ∀ j : Nat, visF ms k (n + j) = visF ms k n := fun j => by
    induction j with
    | zero => rfl
    | succ j ih =>
      rw [← Nat.add_assoc, visF, ih]
      have : visAt ms k (n + j) = false := by
        unfold visAt
        cases hm : ms[n + j]? with
        | none => rfl
        | some m =>
          have hk : k < m.known := by
            cases hn0 : ms[n]? with
            | none =>
              have h5 : ms.length ≤ n := List.getElem?_eq_none_iff.1 hn0
              have h6 := (List.getElem?_eq_some_iff.1 hm).1
              omega
            | some m0 =>
              have h5 := h3 m0 hn0
              rcases Nat.eq_zero_or_pos j with h0 | h0
              · subst h0
                rw [Nat.add_zero, hn0] at hm
                injection hm with hm
                subst hm
                exact h5
              · have := mksFrom_lt ms 0 n (n + j) m0 m hv hn0 hm (by omega)
                omega
          simp only [decide_eq_false (show ¬(m.known ≤ k) by omega), Bool.and_false, Bool.false_and]
      rw [this]
      simp
  unfold vis
  rw [hlen, show ms.length = n + (ms.length - n) by omega, tail, key n (Nat.le_refl _)]
theorem pickS_take {l : List SU} {fund : ByteArray} {n : Nat} : ∀ (a : List Int), (∀ i ∈ a, i.toNat < n) → pickS (l.take n) fund a = pickS l fund a
  | [], _ => rfl
  | i :: r, h => by
    rw [pickS, pickS, pickS_take r (fun j hj => h j (by simp [hj])), List.getElem?_take_of_lt (h i (by simp))]
/-- What became known after k changes nothing. -/
theorem visS_kept {l : List SU} (h : susB l = true) (k K : Int) (hK : ∀ x ∈ l, x.known ≤ K) (fund : ByteArray) : ∃ n, kept l k = l.take n ∧ visS l k fund = visS (l.take n) K fund := by
  have h' := h
  unfold susB at h'
  simp only [Bool.and_eq_true] at h'
  obtain ⟨n, n1, n2, n3, n4⟩ := kept_take k l 0 h'.2
  refine ⟨n, n2, ?_⟩
  have hms := mksFrom_of l 0 h'.2
  have e := visF_take (ms := l.map SU.mark) (k := k) (K := K) (n := n) (by simpa using n1) hms
    (by intro m hm; rw [← List.map_take] at hm; obtain ⟨x, x1, rfl⟩ := List.mem_map.1 hm; exact n3 x x1)
    (by intro m hm; rw [← List.map_take] at hm; obtain ⟨x, x1, rfl⟩ := List.mem_map.1 hm; exact hK x (List.mem_of_mem_take x1))
    (by intro m hm; rw [List.getElem?_map] at hm; cases hx : l[n]? with
      | none => rw [hx] at hm; cases hm
      | some x => rw [hx] at hm; injection hm with hm; subst hm; exact n4 x hx)
  unfold visS
  rw [e, ← List.map_take]
  symm
  refine pickS_take _ (fun i hi => ?_)
  obtain ⟨j, rfl, hj, -⟩ := (visF_mem i _).1 hi
  have hlen : ((l.take n).map SU.mark).length = n := by simp; omega
  rw [hlen] at hj
  omega
theorem visS_none {l : List SU} {fund : ByteArray} (h : ∀ x ∈ l, x.fund ≠ fund) (k : Int) : visS l k fund = [] := by
  cases hv : visS l k fund with
  | nil => rfl
  | cons x r =>
    obtain ⟨a, b⟩ := pickS_mem (l := l) (fund := fund) (x := x) (vis (l.map SU.mark) k) (by unfold visS at hv; rw [hv]; simp)
    exact absurd b (h x a)
theorem mov_nil {nx : Int → Int × Int} {d : Int} (hd : d ≤ 73050) (h : (nx d).2 = 0) : mov nx [] d = ((nx d).1, 0) := mov_stay hd h rfl rfl
end
section
section
open Go.RowKit
set_option linter.unusedVariables false
set_option maxHeartbeats 8000000
def sAw : SC := ⟨1, 0, 0, 0, 0⟩
def zAw : ZN := ⟨⟨#[104, 111, 109, 101]⟩, 0, []⟩
def cAw : CN := ⟨⟨#[100, 97, 121, 115]⟩, false, false, false, false, false, true, true, []⟩
def alpha : ByteArray := ⟨#[97, 108, 112, 104, 97]⟩
def xAw (til : Int) : SU := ⟨⟨#[97]⟩, alpha, 10, til, 1, false⟩
theorem zAw_ok : zAw.ok = true := by decide +kernel
theorem cAw_ok : cAw.ok = true := by decide +kernel
theorem sAw_ok : sAw.ok = true := by decide +kernel
theorem zAw_at (W : World) : ZAt W zAw none := ⟨by decide, by decide, fun k x h => by simp [zAw] at h⟩
theorem cAw_at (W : World) : CAt W cAw none := ⟨by decide, by decide, fun k x h => by simp [cAw] at h⟩
theorem aw12 : dealB sAw cAw 12 = true := by decide +kernel
theorem aw20 : dealB sAw cAw 20 = true := by decide +kernel
theorem next_det {s : SC} {z : ZN} {c : CN} {d v e r : Int} (h : NextR s z c d v e) (h0 : aErr s z c = 0) (hd : dayB d = true) (hf : fromP (dealB s c) d = some r) : v = r ∧ e = 0 := by
  rcases h with ⟨h1, h2, -⟩ | ⟨-, h1, -⟩ | ⟨-, -, ⟨h1, -⟩ | ⟨h1, h2⟩⟩
  · exact absurd (h1.symm.trans h0) h2
  · rw [hd] at h1
    cases h1
  · rw [hf] at h1
    cases h1
  · rw [hf] at h1
    injection h1 with h1
    exact ⟨h1.symm, h2⟩
theorem aw_nx {nx : Int → Int × Int} (h : NxR sAw zAw cAw nx) : nx 12 = (12, 0) ∧ nx 20 = (20, 0) := by
  have h0 : aErr sAw zAw cAw = 0 := aErr_ok sAw_ok zAw_ok cAw_ok
  have a := next_det (h 12) h0 (by decide) (fromP_yes (by omega) aw12)
  have b := next_det (h 20) h0 (by decide) (fromP_yes (by omega) aw20)
  exact ⟨Prod.ext a.1 a.2, Prod.ext b.1 b.2⟩
theorem aw_sus (til : Int) (h : til = 0 ∨ til = 19) : susB [xAw til] = true := by
  rcases h with rfl | rfl
  · decide +kernel
  · decide +kernel
theorem aw_vis (til : Int) : visS [xAw til] 1 alpha = [xAw til] := by kernel_rfl
theorem aw_chk (til : Int) (h : til = 0 ∨ til = 19) : ChkR [xAw til] 1 alpha 12 0 := .inr (.inr (.inr (.inr ⟨aw_sus til h, by decide, by decide +kernel, by decide, rfl⟩)))
end
section
open Go.RowKit
set_option linter.unusedVariables false
set_option maxHeartbeats 8000000
end
end
section
open Go.RowKit
set_option linter.unusedVariables false
set_option maxHeartbeats 8000000
/-- A schedule, a place and suspensions, as a law holds them. -/
structure LS (w W : World) (gs gp : Nat) (s : SC) (z : ZN) (A : Option Addr) (kz : Nat) (c : CN) (Ac : Option Addr) (kc : Nat) (l : List SU) (Al : Option Addr) : Prop where
  sb : BlkAt W gs (sV s) 28
  pb : BlkAt W gp (pV z A kz c Ac kc) 37
  za : ZAt W z A
  ca : CAt W c Ac
  su : SuAt W Al l
  below : Below w.heap.size w W
section
variable {w W W' : World} {gs gp : Nat} {s : SC} {z : ZN} {A : Option Addr} {kz : Nat} {c : CN} {Ac : Option Addr} {kc : Nat} {l : List SU} {Al : Option Addr}
theorem LS.next (h : LS w W gs gp s z A kz c Ac kc l Al) (hb : Below W.heap.size W W') : LS w W' gs gp s z A kz c Ac kc l Al := ⟨h.sb.next hb, h.pb.next hb, h.za.below hb, h.ca.below hb, h.su.below hb, bnext h.below hb⟩
theorem LS.new (s : SC) (k kc : Nat) {o1 o2 : Array Value} (hz : ZAt W z A) (hc : CAt W c Ac) (hs : SuAt W Al l) (hb : Below w.heap.size w W) :
    LS w ((((W.alloc (.cells o1 28)).alloc (.cells o2 37)).setRow W.heap.size (sV s)).setRow (W.heap.size + 1) (pV z A k c Ac kc)) W.heap.size (W.heap.size + 1) s z A k c Ac kc l Al := by
  have hB : Below W.heap.size W ((((W.alloc (.cells o1 28)).alloc (.cells o2 37)).setRow W.heap.size (sV s)).setRow (W.heap.size + 1) (pV z A k c Ac kc)) :=
    Below.setRow (Below.setRow (bal (bal0 W _) _) (Nat.le_refl _) _) (by omega) _
  have b1 : BlkAt ((W.alloc (.cells o1 28)).alloc (.cells o2 37)) W.heap.size o1 28 := (BlkAt.new _ _ _).al _
  have b2 : BlkAt ((W.alloc (.cells o1 28)).alloc (.cells o2 37)) (W.heap.size + 1) o2 37 := BlkAt.newAt _ _ _ (by simp)
  exact ⟨(b1.set _).setFar _ (by omega), (b2.setFar _ (by omega)).set _, hz.below hB, hc.below hB, hs.below hB, bnext hb hB⟩
end
theorem alpha_nm : nmB alpha = true := by decide
theorem alpha_sz : alpha.size ≤ maxLen := by decide
theorem gamma_nm : nmB gammaB = true := by decide
theorem gamma_sz : gammaB.size ≤ maxLen := by decide
/-- What Move says of what has been made. -/
theorem made_mov {L : List SU} {kn : Int} (hM : MadeS L kn) (hl : L.length ≤ 6) {s : SC} {z : ZN} {c : CN} (hs : s.ok = true) (hz : z.ok = true) (hc : c.ok = true) (ha : c.all = false) (hh : c.hs.length ≤ 20) {nx : Int → Int × Int} (hnx : NxR s z c nx) {k d : Int} (hk0 : 1 ≤ k) (hk1 : k ≤ 1000) (hd0 : 0 ≤ d) (hd1 : d ≤ 69) {fund : ByteArray} (hf : nmB fund = true) :
    (nx d).2 = 0 ∧ ∃ v e, mov nx (visS L k fund) d = (v, e) ∧ MovR L k fund s z c nx d v e ∧ PassR (visS L k fund) (dealB s c) d v e := by
  have hsus := hM.susB hl
  have he := aErr_ok hs hz hc
  have hp : ∀ x : Int, 0 ≤ x → x ≤ 1001 → (nx x).2 = 0 ∧ fromP (dealB s c) x = some (nx x).1 := fun x x0 x1 => by
    obtain ⟨y, y1, y2⟩ := deal_ex hs ha hh (d := x) x0 (by omega)
    have := next_det (hnx x) he ((dayB_iff x).2 (by omega)) y1
    exact ⟨this.2, by rw [this.1]; exact y1⟩
  have ht : ∀ x ∈ visS L k fund, 0 ≤ x.til ∧ x.til ≤ 60 := fun x hx => (hM.each x (pickS_mem _ hx).1).til
  have hpass := mov_pass (l := visS L k fund) (p := dealB s c) (fun x hx => (ht x hx).1) (fun x hx => by have := ht x hx; omega) (fun d h => hnx.le d h) (fun d h => hnx.hi d h) hp (1001 - d).toNat d hd0 (by omega) (Nat.le_refl _)
  have hkn : knB k = true := (knB_iff k).2 (by omega)
  refine ⟨(hp d hd0 (by omega)).1, _, _, rfl, .inr (.inr (.inr (.inr ⟨.inr (.inr (.inr (.inr ⟨hsus, hkn, hf, (dayB_iff d).2 (by omega), rfl⟩))), hz, hc, hs, rfl⟩))), hpass⟩
theorem act_made {L : List SU} {kn : Int} (hM : MadeS L kn) (hl : L.length ≤ 6) {k d : Int} (hk0 : 1 ≤ k) (hk1 : k ≤ 1000) (hd0 : 0 ≤ d) (hd1 : d ≤ 73048) {fund : ByteArray} (hf : nmB fund = true) :
    ActR L k fund d (actB (visS L k fund) d) 0 :=
  .inr (.inr (.inr (.inr ⟨hM.susB hl, (knB_iff k).2 (by omega), hf, (dayB_iff d).2 (by omega), rfl, rfl⟩)))
theorem modI_lt (x n : Int) (h : 1 ≤ n) : ∃ k : Int, modI x n = k ∧ 0 ≤ k ∧ k < n := ⟨_, rfl, (modI_bd x n).1, by have := (modI_bd x n).2; omega⟩
end
end Go.Proofs.YtbfllcfjgpkpaaaGreat
