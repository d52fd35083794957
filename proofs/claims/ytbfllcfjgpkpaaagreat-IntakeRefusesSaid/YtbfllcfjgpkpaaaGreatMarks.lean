/-
  Marks that are valid: what the program and the document say of which count as known.
  Marks that are valid: the document's list of those that count as known.
  Marks that are valid: the program's map of those that count as known, and its list.
  Marks that are valid: the program's list of those that count as known.
-/
import Derived.Test.YtbfllcfjgpkpaaaGreatMem
import Derived.Deep.RegionHeld3
import Derived.IntWalk
import Derived.Lib.Strings
import Derived.Test.YtbfllcfjgpkpaaaGreatShelf
import Derived.Maps.OwnSet
import Derived.Maps.OwnOps
import Derived.Maps.RangeWalk
import Derived.Maps.AppendAt
import Derived.Deep.AppendLies
import Derived.Sort.KeysCollected
import Derived.Sort.OwnSorted
import Derived.Sort.OwnSortedInts
namespace Go.Proofs.YtbfllcfjgpkpaaaGreat
section
section
open Go.RowKit
set_option linter.unusedVariables false
set_option maxHeartbeats 4000000
theorem mksB_len {l : List MK} (h : mksB l = true) : l.length ≤ 4096 := by
  unfold mksB at h
  simp only [Bool.and_eq_true, decide_eq_true_eq] at h
  exact h.1
theorem mksB_from {l : List MK} (h : mksB l = true) : mksFrom 0 l = true := by
  unfold mksB at h
  simp only [Bool.and_eq_true, decide_eq_true_eq] at h
  exact h.2
theorem MK.ok_of {m : MK} (h : m.ok = true) : 1 ≤ m.key.size ∧ m.key.size ≤ 64 ∧ m.known ≤ 2147483647 := by
  unfold MK.ok at h
  simp only [Bool.and_eq_true, decide_eq_true_eq] at h
  omega
def prevM (l : List MK) (i : Nat) : Int := if i = 0 then 0 else match l[i - 1]? with | some x => x.known | none => 0
theorem prevM_succ {l : List MK} {i : Nat} {x : MK} (h : l[i]? = some x) : prevM l (i + 1) = x.known := by
  unfold prevM
  rw [if_neg (by omega), Nat.add_sub_cancel, h]
theorem prevM_lt {l : List MK} (h : mksB l = true) {i : Nat} {x : MK} (hx : l[i]? = some x) : 0 ≤ prevM l i ∧ prevM l i < x.known := by
  have h2 := mksB_from h
  unfold prevM
  by_cases hi : i = 0
  · rw [if_pos hi]
    have := mksFrom_get l 0 i x h2 hx
    omega
  · rw [if_neg hi]
    have hl := (List.getElem?_eq_some_iff.1 hx).1
    have hy : l[i - 1]? = some l[i - 1] := List.getElem?_eq_getElem (by omega)
    rw [hy]
    have h3 := mksFrom_get l 0 (i - 1) _ h2 hy
    have h4 := mksFrom_lt l 0 (i - 1) i _ x h2 hy hx (by omega)
    exact ⟨by show 0 ≤ l[i - 1].known; omega, h4⟩
theorem key_eq {a b : ByteArray} (h : (a.toList == b.toList) = true) : a = b := by
  rw [Lib.toList_data, Lib.toList_data] at h
  have h2 : a.data.toList = b.data.toList := by simpa using h
  cases a
  cases b
  simp at h2
  rw [h2]
theorem key_ne {a b : ByteArray} (h : (a.toList == b.toList) = false) : a ≠ b := fun e => by
  subst e
  simp at h
theorem key_t {a b : ByteArray} (h : a = b) : (a.toList == b.toList) = true := by subst h; simp
theorem key_f {a b : ByteArray} (h : a ≠ b) : (a.toList == b.toList) = false := by
  cases hc : (a.toList == b.toList)
  · rfl
  · exact absurd (key_eq hc) h
theorem mkQ {W : World} {b : Nat} {x : MK} {t : TypeId} (h : BlkAt W b (mkV x) t) : W.cell? ⟨b, 0, none⟩ = some (.string x.key) ∧ W.cell? ⟨b, 1, none⟩ = some (.int .i64 x.known) ∧ W.cell? ⟨b, 2, none⟩ = some (.bool x.void) :=
  ⟨h.cell rfl, h.cell rfl, h.cell rfl⟩
theorem bdN {B : Nat} {a w : World} (h : Below B a w) (q : Nat) : Below B a (w.drewN q) := ⟨h.os, h.tape, h.output, h.size, h.block⟩
end
section
open Go.RowKit
set_option linter.unusedVariables false
set_option maxHeartbeats 4000000
/-- A list of numbers and no error: the list lies in a slice of the call's own. -/
def ListP (L : List Int) (w : World) (e : Ending) (w' : World) : Prop :=
  ∃ v, e = .returned (.tuple #[v, .int .i64 0]) ∧ OwnL w w' 3 1 v L.length (L.map (.int .i64))
theorem vis_snoc {ms : List MK} {k : Int} {i : Nat} (h : visAt ms k i = true) : visF ms k (i + 1) = visF ms k i ++ [(i : Int)] := by rw [visF, if_pos h]
theorem vis_same {ms : List MK} {k : Int} {i : Nat} (h : visAt ms k i = false) : visF ms k (i + 1) = visF ms k i := by rw [visF, if_neg (by simp [h])]; simp
theorem visAt_eq {ms : List MK} {k : Int} {i : Nat} {x : MK} (h : ms[i]? = some x) : visAt ms k i = (!x.void && decide (x.known ≤ k) && decide (lastF ms k x.key ms.length = i)) := by simp [visAt, h]
theorem OwnL.eqv {W0 W : World} {e : TypeId} {sz : Nat} {v : Value} {n n' : Nat} {xs xs' : List Value} (h : OwnL W0 W e sz v n xs) (hn : n = n') (hx : xs = xs') : OwnL W0 W e sz v n' xs' := by
  subst hn hx
  exact h
end
end
section
section
open Go.RowKit Go.Maps
set_option linter.unusedVariables false
set_option maxHeartbeats 4000000
theorem lawS : Keyed Tryz.prog 9 := string_keyed Tryz.underlying9
/-- What a map of numbers holds. -/
structure MapC (D : DataW Unit) (f : ByteArray → Option Nat) : Prop where
  map : IsMap D
  no : ∀ key, f key = none → has D (.string key.data.toList) = false
  yes : ∀ key i, f key = some i → ∀ z, D.atKey (.string key.data.toList) z = .lit (.int .i64 (i : Int))
theorem data_inj {a b : ByteArray} (h : a.data.toList = b.data.toList) : a = b := by
  cases a
  cases b
  simp at h
  rw [h]
theorem MapC.put {D : DataW Unit} {f g : ByteArray → Option Nat} (h : MapC D f) (k0 : ByteArray) (i : Nat) (h1 : g k0 = some i) (h2 : ∀ key, key ≠ k0 → g key = f key) : MapC (D.put (.string k0.data.toList) (.lit (.int .i64 (i : Int)))) g := by
  refine ⟨h.map.put _ _, fun key hk => ?_, fun key j hk z => ?_⟩
  · by_cases e : key = k0
    · subst e
      rw [h1] at hk
      cases hk
    · rw [has_put_other (fun e2 => e (data_inj (by injection e2)))]
      exact h.no key (by rw [← h2 key e]; exact hk)
  · by_cases e : key = k0
    · subst e
      rw [h1] at hk
      injection hk with hk
      subst hk
      exact atKey_put_same h.map (by simp [WideAt.IsKeyLit]) _ _
    · rw [atKey_put_other (fun e2 => e (data_inj (by injection e2)))]
      exact h.yes key j (by rw [← h2 key e]; exact hk) z
theorem MapC.del {D : DataW Unit} {f g : ByteArray → Option Nat} (h : MapC D f) (k0 : ByteArray) (h1 : g k0 = none) (h2 : ∀ key, key ≠ k0 → g key = f key) : MapC (D.del (.string k0.data.toList)) g := by
  refine ⟨h.map.del _, fun key hk => ?_, fun key j hk z => ?_⟩
  · by_cases e : key = k0
    · subst e
      exact has_del_same
    · rw [has_del_other (fun e2 => e (data_inj (by injection e2)))]
      exact h.no key (by rw [← h2 key e]; exact hk)
  · by_cases e : key = k0
    · subst e
      rw [h1] at hk
      cases hk
    · rw [atKey_del_other (fun e2 => e (data_inj (by injection e2)))]
      exact h.yes key j (by rw [← h2 key e]; exact hk) z
theorem MapC.congr {D : DataW Unit} {f g : ByteArray → Option Nat} (h : MapC D f) (e : ∀ key, g key = f key) : MapC D g := ⟨h.map, fun key hk => h.no key (by rw [← e]; exact hk), fun key i hk => h.yes key i (by rw [← e]; exact hk)⟩
theorem MapC.nil (f : ByteArray → Option Nat) (h : ∀ key, f key = none) : MapC (.map []) f := ⟨isMap_empty, fun key _ => rfl, fun key i hk => by rw [h] at hk; cases hk⟩
/-- The map that the program makes of marks. -/
def CntP (l : List MK) (k : Int) (w : World) (e : Ending) (w' : World) : Prop :=
  ∃ (B n : Nat) (D : DataW Unit), e = .returned (.map (some B)) ∧ w'.ownsMap Tryz.prog 9 (plainElem Tryz.prog 3) B n D ∧ n ≤ l.length ∧ MapC D (fun key => cntN l k key l.length) ∧ w.heap.size ≤ B ∧ Below w.heap.size w w'
theorem wf64n {x : Nat} (h : x ≤ 100000) : (Lit.int .i64 (x : Int)).wf = true := WalkArith.wf_i64 (by omega)
end
section
open Go.RowKit Go.Maps
set_option linter.unusedVariables false
set_option maxHeartbeats 4000000
/-- What has been collected while ranging over the map. -/
structure CollI (f : ByteArray → Option Nat) (left : Lit → Bool) (out : List Int) : Prop where
  nodup : out.Nodup
  mem : ∀ i : Int, i ∈ out ↔ ∃ key j, f key = some j ∧ i = (j : Int) ∧ left (.string key.data.toList) = false
theorem CollI.start {D : DataW Unit} {f : ByteArray → Option Nat} (h : MapC D f) : CollI f (has D) [] := ⟨List.nodup_nil, fun i => by
  constructor
  · intro hi
    simp at hi
  · rintro ⟨key, j, h1, -, h2⟩
    have := has_true_of_atKey (h.yes key j h1)
    rw [this] at h2
    cases h2⟩
theorem CollI.step {D : DataW Unit} {f : ByteArray → Option Nat} {left : Lit → Bool} {out : List Int} (h : CollI f left out) (hM : MapC D f) (inj : ∀ k1 k2 j, f k1 = some j → f k2 = some j → k1 = k2) {x : List UInt8} {c : Int} (hl : left (.string x) = true) (hat : ∀ zd, D.atKey (.string x) zd = .lit (.int .i64 c)) :
    CollI f (fun z => left z && !z.sameKey (.string x)) (out ++ [c]) := by
  obtain ⟨key, rfl⟩ : ∃ key : ByteArray, key.data.toList = x := ⟨⟨x.toArray⟩, by simp⟩
  have hhas := has_true_of_atKey hat
  obtain ⟨j, hj⟩ : ∃ j, f key = some j := by
    cases hf : f key with
    | none =>
      rw [hM.no key hf] at hhas
      cases hhas
    | some j => exact ⟨j, rfl⟩
  have hc : c = (j : Int) := by
    have h1 := hat (.lit (.int .i64 0))
    rw [hM.yes key j hj] at h1
    injection h1 with h1
    injection h1 with h1 h2
    exact h2.symm
  subst hc
  have hnew : (j : Int) ∉ out := fun hx => by
    obtain ⟨k2, j2, h1, h2, h3⟩ := (h.mem _).1 hx
    obtain rfl : j = j2 := by omega
    have := inj _ _ _ hj h1
    subst this
    rw [hl] at h3
    cases h3
  refine ⟨List.nodup_append.2 ⟨h.nodup, by simp, fun a ha b hb e => ?_⟩, fun i => ?_⟩
  · simp at hb
    subst hb e
    exact hnew ha
  · rw [List.mem_append]
    constructor
    · rintro (hi | hi)
      · obtain ⟨k2, j2, h1, h2, h3⟩ := (h.mem _).1 hi
        exact ⟨k2, j2, h1, h2, by simp [h3]⟩
      · simp at hi
        exact ⟨key, j, hj, hi, by simp [Lit.sameKey]⟩
    · rintro ⟨k2, j2, h1, h2, h3⟩
      by_cases e : k2 = key
      · subst e
        rw [hj] at h1
        injection h1 with h1
        subst h1
        exact .inr (by simp [h2])
      · refine .inl ((h.mem _).2 ⟨k2, j2, h1, h2, ?_⟩)
        have hs : (Lit.string k2.data.toList).sameKey (.string key.data.toList) = false := sameKey_ne (fun e2 => e (data_inj (by injection e2)))
        rw [hs] at h3
        simpa using h3
theorem cnt_inj {ms : List MK} {k : Int} {n : Nat} (k1 k2 : ByteArray) (j : Nat) (h1 : cntN ms k k1 n = some j) (h2 : cntN ms k k2 n = some j) : k1 = k2 := by
  obtain ⟨m, a1, a2, -⟩ := cntN_key h1
  obtain ⟨m2, b1, b2, -⟩ := cntN_key h2
  rw [a1] at b1
  injection b1 with b1
  subst b1
  rw [← a2, b2]
/-- Sorted, they are the visible ones. -/
theorem CollI.sorted {ms : List MK} {k : Int} {left : Lit → Bool} {out : List Int} (h : CollI (fun key => cntN ms k key ms.length) left out) (hl : ∀ kl, left kl = false) : out.mergeSort (fun x y => decide (x ≤ y)) = vis ms k := by
  have hasc : (vis ms k).Pairwise (· < ·) := visF_asc _
  have hp : out.Perm (vis ms k) := by
    refine (List.perm_ext_iff_of_nodup h.nodup (hasc.imp (fun h => by omega))).2 fun i => ?_
    rw [h.mem]
    constructor
    · rintro ⟨key, j, h1, rfl, -⟩
      exact (cntN_vis j).1 ⟨key, h1⟩
    · intro hi
      have hi2 := hi
      unfold vis at hi2
      obtain ⟨j, rfl, -, -⟩ := (visF_mem i _).1 hi2
      obtain ⟨key, hkey⟩ := (cntN_vis j).2 hi
      exact ⟨key, j, hkey, rfl, hl _⟩
  have tr : ∀ a b c : Int, decide (a ≤ b) = true → decide (b ≤ c) = true → decide (a ≤ c) = true := fun a b c h1 h2 => by simp only [decide_eq_true_eq] at *; omega
  have to : ∀ a b : Int, (decide (a ≤ b) || decide (b ≤ a)) = true := fun a b => by simp only [Bool.or_eq_true, decide_eq_true_eq]; omega
  refine List.Perm.eq_of_pairwise (le := fun a b => decide (a ≤ b) = true) (fun a b _ _ h1 h2 => ?_) (List.pairwise_mergeSort tr to out) (hasc.imp (fun h => by simp; omega)) ((List.mergeSort_perm out _).trans hp)
  simp only [decide_eq_true_eq] at h1 h2
  omega
theorem own_low {W : World} {B B' : Nat} {e : TypeId} {sz : Nat} {v : Value} {n : Nat} {xs : List Value} (h : W.ownsRow B e sz v n xs) (hB : B' ≤ B) : W.ownsRow B' e sz v n xs := by
  obtain ⟨h1, h2⟩ := h
  refine ⟨h1, ?_⟩
  rcases h2 with h2 | ⟨g, cap, cur, a, b, c⟩
  · exact .inl h2
  · exact .inr ⟨g, cap, cur, a, Nat.le_trans hB b, c⟩
section
variable {P : Program} {ops : Array Oper} {rest : List Oper} {o : Oper} {a : Act} {Q : Exit → Act → World → Prop}
theorem wpl_pushB {T E : TypeId} {sz bytes : Nat} (hel : ElT P T E sz bytes) (hgd : o.guard = none) (s x : Operand) (ho : o.op = .call { callee := .builtin .append, args := #[s, x], argTypes := #[T, T] })
    {W : World} {B : Nat} {v : Value} {n : Nat} {xs : List Value} (hO : W.ownsRow B E sz v n xs) (hBW : B ≤ W.heap.size) (hs : a.eval s = v) (news : Array Value) (hx : a.eval x = .slice (some ⟨W.heap.size, 0, none⟩) 1 1) (hl : news.size = sz) (h1 : news.toList.all (·.oneCell') = true)
    (hn : n ≤ 100000) (hb : bytes ≤ 10000)
    (h : ∀ v' w', w'.ownsRow B E sz v' (n + 1) (xs ++ news.toList) → (W.alloc (.cells news E)).grownBy w' v.ownBlock → wpList P ops Q rest (a.put o.dst v') w') : wpList P ops Q (o :: rest) a (W.alloc (.cells news E)) := by
  obtain ⟨i, z, hi, hz, hsz, hby, hzs⟩ := hel.info
  refine wpList_append_own _ hgd s x T ho B E i z sz bytes hel.sl hi hz hsz hby hzs hel.pos v n xs hs (hO.alloc _) ⟨W.heap.size, 0, none⟩ 1 1 news.toList hx (by simp [hl]) (fun j u hj => ?_) (fun u hu => ?_) (by unfold maxLen; omega) ?_ (by simp; omega) ?_
  · rw [Go.WideShapes.add_plain, Nat.zero_add, World.cell?_alloc_new]
    simpa using hj
  · exact List.all_eq_true.1 h1 u hu
  · have : (n + 1) * bytes ≤ 100001 * 10000 := Nat.mul_le_mul (by omega) hb
    omega
  · intro v' w' hown hg _
    exact h v' w' hown hg
end
open Go.Sort in
end
end
end Go.Proofs.YtbfllcfjgpkpaaaGreat
