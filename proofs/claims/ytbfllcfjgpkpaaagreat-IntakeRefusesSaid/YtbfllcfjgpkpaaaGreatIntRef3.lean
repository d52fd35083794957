/-
  The document's answer on intake: which orders are taken.
-/
import Derived.Test.YtbfllcfjgpkpaaaGreatIntRef2
import Derived.Test.YtbfllcfjgpkpaaaGreatIntTk
import Derived.Deep.RegionLaw
import Derived.Deep.DrawnRows
namespace Go.Proofs.YtbfllcfjgpkpaaaGreat
section
open Go.RowKit
set_option linter.unusedVariables false
set_option maxHeartbeats 4000000
/-- What is taken of the keys that stand ahead of place i. -/
def TakI (P : DPar) (k : Int) (fund : ByteArray) (i : Nat) (T : List (OR × Int)) : Prop := T.Pairwise tcLt ∧ ∀ o d, (o, d) ∈ T ↔ (aheadB P.l i o.key = true ∧ curC P.fr P.dl k fund o.key none P.l = some (o, d))
section
variable {P : DPar} {k : Int} {fund : ByteArray} {i : Nat} {x o : OR} {d : Int} {T : List (OR × Int)}
theorem TakI.start : TakI P k fund 0 [] := ⟨List.Pairwise.nil, fun o d => by simp [aheadB]⟩
theorem TakI.seen (h : TakI P k fund i T) (hx : P.l[i]? = some x) (ha : aheadB P.l i x.key = true) : TakI P k fund (i + 1) T := by
  refine ⟨h.1, fun o d => ?_⟩
  rw [h.2, aheadO_succ hx]
  by_cases hk : x.key = o.key
  · rw [← hk, ha]
    simp
  · simp [hk]
theorem TakI.none_ (h : TakI P k fund i T) (hx : P.l[i]? = some x) (hc : curC P.fr P.dl k fund x.key none P.l = none) : TakI P k fund (i + 1) T := by
  refine ⟨h.1, fun o d => ?_⟩
  rw [h.2, aheadO_succ hx]
  by_cases hk : x.key = o.key
  · rw [← hk, hc]
    simp
  · simp [hk]
/-- Where one is put in: those ahead are less, the next one is not. -/
def insB (T : List (OR × Int)) (a : Nat) (p : OR × Int) : Bool := match T[a]? with
  | none => false
  | some q => decide (q.2 < p.2) || (decide (q.2 = p.2) && decide (q.1.known < p.1.known))
theorem insB_iff {a : Nat} {p q : OR × Int} (hq : T[a]? = some q) : insB T a p = true ↔ tcLt q p := by
  simp [insB, hq, tcLt]
theorem curC_mem {key : ByteArray} (h : curC P.fr P.dl k fund key none P.l = some (o, d)) : o ∈ P.l ∧ o.key = key := by
  obtain ⟨a1, -, -, -, a5⟩ := curC_is (fr := P.fr) (dl := P.dl) (k := k) (fund := fund) key P.l none o d (fun _ _ h => by cases h) h
  rcases a5 with a5 | a5
  · exact ⟨a5, a1⟩
  · cases a5
theorem known_ne {l : List OR} (hb : bookFrom 0 l = 0) {y z : OR} (hy : y ∈ l) (hz : z ∈ l) (h : y.known = z.known) : y = z := by
  obtain ⟨i, hi⟩ := List.mem_iff_getElem?.1 hy
  obtain ⟨j, hj⟩ := List.mem_iff_getElem?.1 hz
  rcases Nat.lt_trichotomy i j with h1 | h1 | h1
  · have := book_lt _ _ _ _ _ _ hb hi hj h1
    omega
  · subst h1
    rw [hi] at hj
    injection hj
  · have := book_lt _ _ _ _ _ _ hb hj hi h1
    omega
theorem TakI.put (h : TakI P k fund i T) (hb : bookErr P.l = 0) (hx : P.l[i]? = some x) (ha : aheadB P.l i x.key = false) (hc : curC P.fr P.dl k fund x.key none P.l = some (o, d)) {a : Nat} (hal : a ≤ T.length)
    (h1 : ∀ j q, j < a → T[j]? = some q → tcLt q (o, d)) (h2 : insB T a (o, d) = false) : TakI P k fund (i + 1) (T.take a ++ (o, d) :: T.drop a) := by
  obtain ⟨ho, hok⟩ := curC_mem hc
  have hbf := (bookErr_zero hb).2
  have key : ∀ q ∈ T, ¬tcLt q (o, d) → tcLt (o, d) q := by
    rintro ⟨o', d'⟩ hq hn
    obtain ⟨q1, q2⟩ := (h.2 o' d').1 hq
    obtain ⟨ho', -⟩ := curC_mem q2
    by_cases e : o'.known = o.known
    · have := known_ne hbf ho' ho e
      subst this
      rw [hok, ha] at q1
      cases q1
    · simp only [tcLt] at hn ⊢
      by_cases e2 : d < d'
      · exact .inl e2
      · right
        have e3 : ¬ d' < d := fun e3 => hn (.inl e3)
        have e4 : d = d' := by omega
        refine ⟨e4, ?_⟩
        have : ¬ o'.known < o.known := fun e5 => hn (.inr ⟨e4.symm, e5⟩)
        omega
  have hA : ∀ q ∈ T.take a, tcLt q (o, d) := by
    intro q hq
    obtain ⟨j, hj⟩ := List.mem_iff_getElem?.1 hq
    have hja : j < a := by
      have := (List.getElem?_eq_some_iff.1 hj).1
      rw [List.length_take] at this
      omega
    rw [List.getElem?_take_of_lt hja] at hj
    exact h1 j q hja hj
  have hD : ∀ q ∈ T.drop a, tcLt (o, d) q := by
    intro q hq
    obtain ⟨j, hj⟩ := List.mem_iff_getElem?.1 hq
    rw [List.getElem?_drop] at hj
    obtain ⟨q0, hq0⟩ : ∃ q0, T[a]? = some q0 := ⟨T[a]'(by have := (List.getElem?_eq_some_iff.1 hj).1; omega), List.getElem?_eq_getElem _⟩
    have hn : ¬tcLt q0 (o, d) := fun e => by rw [(insB_iff hq0).2 e] at h2; cases h2
    have hk := key q0 (List.mem_of_getElem? hq0) hn
    by_cases hj0 : j = 0
    · subst hj0
      rw [Nat.add_zero, hq0] at hj
      injection hj with hj
      rw [← hj]
      exact hk
    · obtain ⟨i1, e1⟩ := List.getElem?_eq_some_iff.1 hq0
      obtain ⟨i2, e2⟩ := List.getElem?_eq_some_iff.1 hj
      have := (List.pairwise_iff_getElem.1 h.1) a (a + j) i1 i2 (by omega)
      rw [e1, e2] at this
      exact tcLt_tr _ _ _ hk this
  refine ⟨?_, fun o' d' => ?_⟩
  · rw [List.pairwise_append]
    refine ⟨h.1.sublist (List.take_sublist _ _), List.pairwise_cons.2 ⟨hD, h.1.sublist (List.drop_sublist _ _)⟩, fun p hp q hq => ?_⟩
    rcases List.mem_cons.1 hq with rfl | hq
    · exact hA p hp
    · exact tcLt_tr _ _ _ (hA p hp) (hD q hq)
  · have hm : (o', d') ∈ T.take a ++ (o, d) :: T.drop a ↔ (o', d') = (o, d) ∨ (o', d') ∈ T := by
      rw [List.mem_append, List.mem_cons]
      conv => rhs; rw [← List.take_append_drop a T, List.mem_append]
      constructor
      · rintro (h | h | h)
        · exact .inr (.inl h)
        · exact .inl h
        · exact .inr (.inr h)
      · rintro (h | h | h)
        · exact .inr (.inl h)
        · exact .inl h
        · exact .inr (.inr h)
    rw [hm, h.2, aheadO_succ hx]
    by_cases hk : x.key = o'.key
    · rw [← hk, ha, hc]
      simp
      constructor
      · rintro ⟨rfl, rfl⟩
        exact ⟨rfl, rfl⟩
      · rintro ⟨rfl, rfl⟩
        exact ⟨rfl, rfl⟩
    · have hne : ¬ (o', d') = (o, d) := fun e => by
        injection e with e1 e2
        exact hk (by rw [e1, hok])
      simp [hk]
      intro e1 e2
      exact absurd (by rw [e1, e2]) hne
theorem TakI.all (h : TakI P k fund P.l.length T) : TakenC (fun key => curC P.fr P.dl k fund key none P.l) T := by
  refine ⟨h.1, fun o d => ?_⟩
  rw [h.2]
  constructor
  · exact fun e => e.2
  · intro e
    obtain ⟨ho, -⟩ := curC_mem e
    obtain ⟨j, hj⟩ := List.mem_iff_getElem?.1 ho
    exact ⟨(aheadO_iff (Nat.le_refl _)).2 ⟨j, o, (List.getElem?_eq_some_iff.1 hj).1, hj, rfl⟩, e⟩
theorem now_cur (key : ByteArray) : RelC P.l (nowF P.fr P.dl P.l k fund key P.l.length) (curC P.fr P.dl k fund key none P.l) := by
  have h := cur_rel (fr := P.fr) (dl := P.dl) (l := P.l) (k := k) (fund := fund) key P.l.length (Nat.le_refl _)
  rw [List.take_length] at h
  exact h
theorem insB_len {a : Nat} {p : OR × Int} (h : insB T a p = true) : a < T.length := by
  unfold insB at h
  cases hq : T[a]? with
  | none => rw [hq] at h; cases h
  | some q => exact (List.getElem?_eq_some_iff.1 hq).1
end
theorem OwnL.base {W0 W1 W : World} {e : TypeId} {sz n : Nat} {v : Value} {xs : List Value} (h : OwnL W1 W e sz v n xs) (hb : Below W0.heap.size W0 W1) : OwnL W0 W e sz v n xs := by
  refine ⟨bnext hb h.below, h.own.1, ?_⟩
  rcases h.own.2 with h1 | ⟨g, cap, cur, h1, h2, h3⟩
  · exact .inl h1
  · exact .inr ⟨g, cap, cur, h1, Nat.le_trans hb.size h2, h3⟩
theorem OwnL.tk {W0 W : World} {A : Option Addr} {cap : Nat} {T : List (OR × Int)} (h : OwnL W0 W 59 13 (.slice A T.length cap) T.length (T.flatMap encT)) (hl : T.length ≤ 1000000) : TkAt W A T := by
  obtain ⟨A', cap', e, hA⟩ := h.taken hl
  injection e with e1 e2 e3
  subst e1
  exact hA
theorem tk_rows (T : List (OR × Int)) : (T.flatMap encT).length = T.length * 13 := flatMap_len (enc := encT) (fun x => rfl) T
theorem tk_cells {W : World} {g n c : Nat} {B : Nat} {T : List (OR × Int)} (h : W.ownsRow B 59 13 (.slice (some ⟨g, 0, none⟩) n c) T.length (T.flatMap encT)) (a : Nat) (ha : a ≤ T.length) :
    (∀ j u, ((T.take a).flatMap encT)[j]? = some u → W.cell? ((⟨g, 0, none⟩ : Addr).add j) = some u) ∧ (∀ j u, ((T.drop a).flatMap encT)[j]? = some u → W.cell? ((⟨g, a * 13, none⟩ : Addr).add j) = some u) := by
  have hc := h.cells (g := g) rfl
  have e : T.flatMap encT = (T.take a).flatMap encT ++ (T.drop a).flatMap encT := by rw [← List.flatMap_append, List.take_append_drop]
  have hl : ((T.take a).flatMap encT).length = a * 13 := by rw [tk_rows, List.length_take, Nat.min_eq_left ha]
  refine ⟨fun j u hj => hc j u ?_, fun j u hj => ?_⟩
  · rw [e, List.getElem?_append_left (List.getElem?_eq_some_iff.1 hj).1]
    exact hj
  · have h2 := hc (a * 13 + j) u (by rw [e, List.getElem?_append_right (by omega), hl, Nat.add_sub_cancel_left]; exact hj)
    rw [Go.WideShapes.add_plain] at h2 ⊢
    rw [Nat.zero_add] at h2
    exact h2
theorem tk_one (T : List (OR × Int)) : ∀ u ∈ T.flatMap encT, u.oneCell' = true := by
  intro u hu
  obtain ⟨x, -, hx⟩ := List.mem_flatMap.1 hu
  exact encT_one x u hx
theorem tkc_at {W : World} {C : Nat} {o : OR} {d : Int} {t : TypeId} (h : BlkAt W C #[.string o.key, .string o.nom, .string o.hol, .string o.fund, .string o.cls, .int .i64 o.kind, .int .i64 o.amt, .int .i64 o.units, .int .i64 o.t, .int .i64 o.known, .bool o.void, .int .i64 d, .int .i64 d] t) : W.cell? ⟨C, 0, none⟩ = some (.string o.key) ∧ W.cell? ⟨C, 1, none⟩ = some (.string o.nom) ∧ W.cell? ⟨C, 2, none⟩ = some (.string o.hol) ∧ W.cell? ⟨C, 3, none⟩ = some (.string o.fund) ∧ W.cell? ⟨C, 4, none⟩ = some (.string o.cls) ∧ W.cell? ⟨C, 5, none⟩ = some (.int .i64 o.kind) ∧ W.cell? ⟨C, 6, none⟩ = some (.int .i64 o.amt) ∧ W.cell? ⟨C, 7, none⟩ = some (.int .i64 o.units) ∧ W.cell? ⟨C, 8, none⟩ = some (.int .i64 o.t) ∧ W.cell? ⟨C, 9, none⟩ = some (.int .i64 o.known) ∧ W.cell? ⟨C, 10, none⟩ = some (.bool o.void) ∧ W.cell? ⟨C, 11, none⟩ = some (.int .i64 d) ∧ W.cell? ⟨C, 12, none⟩ = some (.int .i64 d) := ⟨h.cell rfl, h.cell rfl, h.cell rfl, h.cell rfl, h.cell rfl, h.cell rfl, h.cell rfl, h.cell rfl, h.cell rfl, h.cell rfl, h.cell rfl, h.cell rfl, h.cell rfl⟩
theorem new_cells (W : World) (l : List Value) (t : TypeId) : ∀ j u, l[j]? = some u → (W.alloc (.cells l.toArray t)).cell? ((⟨W.heap.size, 0, none⟩ : Addr).add j) = some u := by
  intro j u hj
  rw [Go.WideShapes.add_plain, Nat.zero_add, World.cell?_alloc_new]
  simpa using hj
theorem kept_cells {W W' : World} {row : Option Nat} (h : W.grownBy W' row) (hr : row = none) {g k : Nat} {l : List Value} (hc : ∀ j u, l[j]? = some u → W.cell? ((⟨g, k, none⟩ : Addr).add j) = some u) (hg : g < W.heap.size) : ∀ j u, l[j]? = some u → W'.cell? ((⟨g, k, none⟩ : Addr).add j) = some u := by
  intro j u hj
  have h1 := hc j u hj
  rw [Go.WideShapes.add_plain] at h1 ⊢
  exact cell_grown h hg (by rw [hr]; simp) h1
def NTakP (P : DPar) (k : Int) (fund : ByteArray) (w : World) (e : Ending) (w' : World) : Prop :=
  ∃ v T, e = .returned (.tuple #[v, .int .i64 0]) ∧ OwnL w w' 59 13 v T.length (T.flatMap encT) ∧ TakenC (fun key => curC P.fr P.dl k fund key none P.l) T ∧ T.length ≤ P.l.length
/-- One more element, from wherever it lies. -/
theorem step_pushN {P : Program} {ops : Array Oper} {o : Oper} {a : Act} {Q : Exit → Act → World → Prop} {T E : TypeId} {sz bytes : Nat} (hel : ElT P T E sz bytes) (hgd : o.guard = none) (s x : Operand) (ho : o.op = .call { callee := .builtin .append, args := #[s, x], argTypes := #[T, T] }) {K : Act → World → Prop} {F : Prop}
    {W0 W : World} {v : Value} {n : Nat} {xs : List Value} (hO : OwnL W0 W E sz v n xs) (hs : a.eval s = v) (ad : Addr) (m c : Nat) (news : List Value) (hx : a.eval x = .slice (some ad) m c) (hl : news.length = m * sz) (hnews : ∀ j u, news[j]? = some u → W.cell? (ad.add j) = some u) (h1 : ∀ u ∈ news, u.oneCell' = true)
    (hn : n + m ≤ 100000) (hb : bytes ≤ 10000)
    (h : ∀ v' w', OwnL W0 w' E sz v' (n + m) (xs ++ news) → W.grownBy w' v.ownBlock → K (a.put o.dst v') w') : if Region.wanted o (yielded ops a.tmps) = true then Oper.wp P o a W K Q else F := by
  have hw : Region.wanted o (yielded ops a.tmps) = true := by simp [Region.wanted, hgd]
  rw [if_pos hw]
  obtain ⟨i, z, hi, hz, hsz, hby, hzs⟩ := hel.info
  refine wp_append_own _ s x T ho W0.heap.size E i z sz bytes hel.sl hi hz hsz hby hzs hel.pos v n xs hs hO.own ad m c news hx hl hnews h1 (by unfold maxLen; omega) ?_ hO.below.size ?_
  · have : (n + m) * bytes ≤ 100000 * 10000 := Nat.mul_le_mul hn hb
    omega
  · intro v' w' hown hg _
    exact h v' w' (hO.pushed hg hown) hg
/-- Nothing is put to it. -/
theorem step_pushNone {P : Program} {ops : Array Oper} {o : Oper} {a : Act} {Q : Exit → Act → World → Prop} {T E : TypeId} {sz bytes : Nat} (hel : ElT P T E sz bytes) (hgd : o.guard = none) (s x : Operand) (ho : o.op = .call { callee := .builtin .append, args := #[s, x], argTypes := #[T, T] }) {K : Act → World → Prop} {F : Prop}
    {W0 W : World} {v : Value} {n : Nat} {xs : List Value} (hO : OwnL W0 W E sz v n xs) (hs : a.eval s = v) (hx : a.eval x = .slice none 0 0) (h : K (a.put o.dst v) W) : if Region.wanted o (yielded ops a.tmps) = true then Oper.wp P o a W K Q else F := by
  have hw : Region.wanted o (yielded ops a.tmps) = true := by simp [Region.wanted, hgd]
  rw [if_pos hw]
  obtain ⟨i, z, hi, hz, hsz, hby, hzs⟩ := hel.info
  have hrun := run_append_owned_none (P := P) (w := W) W0.heap.size T o.type E i sz hel.sl hi v n xs hO.own
  unfold Oper.wp
  simp [execOp, ho, resolve, invoke, builtin, hs, hx, hrun, Result.andThen]
  exact h
set_option maxRecDepth 1000000 in
theorem ntake_ok {P : DPar} {w : World} (hP : P.Ok w) (hfd : ∀ t, (P.fr t).2 = 0 → (P.dl (P.fr t).1).2 = 0) {k : Int} {fund : ByteArray} (hfu : fund.size ≤ maxLen) (he : runErr P.l k fund P.s P.z P.c = 0) (hb0 : bookErr P.l = 0) :
    Calls Tryz.prog 14 #[.slice P.A P.l.length P.cp, .int .i64 k, .string fund, .agg (sV P.s), .agg (pV P.z P.zA P.zc P.c P.cA P.cc)] w (NTakP P k fund w) := by
  have hln := hP.ln
  have HM := Lib.hid (MB.new P.s P.zc P.cc hP.za hP.ca (SuAt.nil w))
  have HC := fun W h1 h2 h3 => @ncheck_any P.l P.A P.cp k fund P.s P.z P.zA P.zc P.c P.cA P.cc W h1 h2 h3 hfu 0 he
  have HP := Lib.hid hP
  have HFD := Lib.hid hfd
  have HB00 := Lib.hid hb0
  clear hP he hfd hb0
  go_enter Tryz.func14, Tryz.ntmps14
  go_wp2_with (first | ((with_reducible refine wpl_load rfl 28 _ rfl _ ?_ HM.out.sb (rowS _) ?_); exact rfl) | ((with_reducible refine wpl_load rfl 37 _ rfl _ ?_ HM.out.pb (rowP ..) ?_); exact rfl))
  refine (HC _ (HP.out.la.below HM.out.below) HM.out.za HM.out.ca).mono ?_
  rintro e' w1 ⟨rfl, hb⟩
  have HM1 := Lib.hid (HM.out.next hb)
  have HP1 := Lib.hid (HP.out.below HM1.out.below)
  have hmk := fun w => run_mkInts P.l.length hln w
  clear hb HM HC HP
  obtain ⟨A, hAA⟩ : ∃ A, P.A = A := ⟨_, rfl⟩
  rw [hAA]
  go_wp2_with fail
  go_loopw [13, 14] (fun ov iv wr => ∃ (i : Nat) (T : List (OR × Int)), i ≤ P.l.length ∧ T.length ≤ i ∧ iv = .int .i64 i ∧ TakI P k fund i T ∧ OwnL w1 wr 59 13 ov T.length (T.flatMap encT)) (fun _ iv _ => P.l.length - (intOf iv).toNat)
  case atStart => exact ⟨0, [], by omega, Nat.le_refl _, rfl, TakI.start, OwnL.start ..⟩
  case round =>
    obtain ⟨i, T, hi, hTi, rfl, hT, hO⟩ := hrel
    have HT := Lib.hid hT
    have HO := Lib.hid hO
    clear hT hO
    by_cases hlt : i < P.l.length
    · obtain ⟨ob, oo, x', hA, -, -, -, -⟩ := HP1.out.la.get hlt
      obtain rfl : A = some ⟨ob, oo, none⟩ := hAA.symm.trans hA
      clear hAA
      obtain ⟨x, hx⟩ : ∃ x, P.l[i]? = some x := ⟨_, List.getElem?_eq_getElem hlt⟩
      have hla : OrAt wr (some ⟨ob, oo, none⟩) P.l := by
        have h1 := HP1.out.la.below HO.out.below
        rw [hA] at h1
        exact h1
      have hks := (HP1.out.la.small x (List.mem_of_getElem? hx)).key
      have HL := Lib.hid hla
      have HX := Lib.hid hx
      clear hla hx
      go_wp2_with fail
      refine (nseen_any P.l _ P.cp i hlt _ HL.out hln).mono ?_
      rintro e w3 ⟨v, ⟨rfl, hb⟩, hsn⟩
      have hv := seen_is hsn HX.out
      have HV := Lib.hid hv
      have HO3 := Lib.hid (HO.out.next hb)
      clear hb hsn hv HO HL
      cases v
      · have hB3 := HO3.out.below
        have HD := Lib.hid (bnext hB3 (Below.refl _ _).drew)
        have HE := Lib.hid (bnext hB3 (bnext (bal0 w3 (.cells (stA P.l.length (fun _ => 0)) 3)) (Below.refl _ _).drew))
        have HP3 := Lib.hid (HP1.out.below hB3)
        have HE3 := Lib.hid (bnext (bal0 w3 (.cells (stA P.l.length (fun _ => 0)) 3)) (Below.refl _ _).drew)
        have HSD := Lib.hid (show BlkAt (w3.alloc (.cells (stA P.l.length (fun _ => 0)) 3)).drew w3.heap.size (stA P.l.length (fun _ => 0)) 3 from (BlkAt.new _ _ _).drew)
        clear hB3
        go_wp2_with fail
        go_region_held3 (fun W => (W.cell? ⟨w.heap.size, 0, none⟩ = some (.int .i64 P.s.period) ∧ W.cell? ⟨w.heap.size, 1, none⟩ = some (.int .i64 P.s.nth) ∧ W.cell? ⟨w.heap.size, 2, none⟩ = some (.int .i64 P.s.notice) ∧ W.cell? ⟨w.heap.size, 3, none⟩ = some (.int .i64 P.s.settle) ∧ W.cell? ⟨w.heap.size, 4, none⟩ = some (.int .i64 P.s.cutoff)) ∧ (W.cell? ⟨w.heap.size + 1, 0, none⟩ = some (.string P.z.name) ∧ W.cell? ⟨w.heap.size + 1, 1, none⟩ = some (.int .i64 P.z.off) ∧ W.cell? ⟨w.heap.size + 1, 2, none⟩ = some (.slice P.zA P.z.cs.length P.zc) ∧ W.cell? ⟨w.heap.size + 1, 3, none⟩ = some (.string P.c.name) ∧ W.cell? ⟨w.heap.size + 1, 4, none⟩ = some (.bool P.c.w0) ∧ W.cell? ⟨w.heap.size + 1, 5, none⟩ = some (.bool P.c.w1) ∧ W.cell? ⟨w.heap.size + 1, 6, none⟩ = some (.bool P.c.w2) ∧ W.cell? ⟨w.heap.size + 1, 7, none⟩ = some (.bool P.c.w3) ∧ W.cell? ⟨w.heap.size + 1, 8, none⟩ = some (.bool P.c.w4) ∧ W.cell? ⟨w.heap.size + 1, 9, none⟩ = some (.bool P.c.w5) ∧ W.cell? ⟨w.heap.size + 1, 10, none⟩ = some (.bool P.c.w6) ∧ W.cell? ⟨w.heap.size + 1, 11, none⟩ = some (.slice P.cA P.c.hs.length P.cc)) ∧ W.cell? ⟨ob, oo + i * 11, none⟩ = some (.string x.key))
          ((first
            | (with_reducible exact ⟨(HM1.out.next HD.out).q.1, (HM1.out.next HD.out).q.2.1, keyQ HP1.out HD.out hA HX.out⟩)
            | (with_reducible exact ⟨(HM1.out.next HE.out).q.1, (HM1.out.next HE.out).q.2.1, keyQ HP1.out HE.out hA HX.out⟩)
            | (with_reducible exact ⟨(HM1.out.next H6.out).q.1, (HM1.out.next H6.out).q.2.1, keyQ HP1.out H6.out hA HX.out⟩)))
          ((go_at_call 28; rw [← hA]; refine (nrun_any HP3.out HFD.out hfu hks (fun _ _ => rfl) HSD.out HE3.out (Nat.le_refl _)).mono ?_; rintro e w6 ⟨a6, d6, rfl, hn6, -, hb6⟩; have H6 := Lib.hid (bnext HO3.out.below hb6); have HO6 := Lib.hid (HO3.out.next hb6); have HN6 := Lib.hid hn6))
        rename_i hHeld
        have hcur := now_cur (P := P) (k := k) (fund := fund) x.key
        cases hnn : nowF P.fr P.dl P.l k fund x.key P.l.length with
        | none =>
          rw [hnn] at hn6 hcur
          obtain rfl : a6 = -1 := hn6
          have hc : curC P.fr P.dl k fund x.key none P.l = none := by
            cases hq : curC P.fr P.dl k fund x.key none P.l with
            | none => rfl
            | some q => rw [hq] at hcur; exact hcur.elim
          have HTN := Lib.hid (HT.out.none_ HX.out hc)
          clear hHeld hc hcur hnn hb6 HN6 HSD HE3 HP3 HE HD HO3 HT
          go_wp2_with fail
          go_roundw
          case rel => exact ⟨i + 1, T, by omega, by omega, by go_num, HTN.out, HO6.out⟩
          case measure => simp [intOf]; omega
        | some p =>
          obtain ⟨y, d⟩ := p
          rw [hnn] at hn6 hcur
          obtain ⟨rfl, rfl⟩ : a6 = (y : Int) ∧ d6 = d := hn6
          obtain ⟨o, hc, hyo⟩ : ∃ o, curC P.fr P.dl k fund x.key none P.l = some (o, d6) ∧ P.l[y]? = some o := by
            cases hq : curC P.fr P.dl k fund x.key none P.l with
            | none => rw [hq] at hcur; exact hcur.elim
            | some q =>
              obtain ⟨w', d'⟩ := q
              rw [hq] at hcur
              obtain ⟨rfl, h2⟩ := hcur
              exact ⟨w', rfl, h2⟩
          have hyl : y < P.l.length := (List.getElem?_eq_some_iff.1 hyo).1
          have y0 : (0 : Int) ≤ (y : Int) := by omega
          have y1 : (y : Int) < (P.l.length : Int) := by omega
          have y2 : ¬ ((y : Int) < 0) := by omega
          have hla6 : OrAt w6 (some ⟨ob, oo, none⟩) P.l := by
            have h1 := HP1.out.la.below H6.out
            rw [hA] at h1
            exact h1
          obtain ⟨q0, q1, q2, q3, q4, q5, q6, q7, q8, q9, q10⟩ := hla6.at hyo
          have HCU := Lib.hid hc
          have HC7 := Lib.hid (show BlkAt (w6.alloc (.cells #[.string o.key, .string o.nom, .string o.hol, .string o.fund, .string o.cls, .int .i64 o.kind, .int .i64 o.amt, .int .i64 o.units, .int .i64 o.t, .int .i64 o.known, .bool o.void, .int .i64 d6, .int .i64 d6] 59)) w6.heap.size #[.string o.key, .string o.nom, .string o.hol, .string o.fund, .string o.cls, .int .i64 o.kind, .int .i64 o.amt, .int .i64 o.units, .int .i64 o.t, .int .i64 o.known, .bool o.void, .int .i64 d6, .int .i64 d6] 59 from BlkAt.new _ _ _)
          have hO7 := HO6.out.next (bal0 w6 (.cells #[.string o.key, .string o.nom, .string o.hol, .string o.fund, .string o.cls, .int .i64 o.kind, .int .i64 o.amt, .int .i64 o.units, .int .i64 o.t, .int .i64 o.known, .bool o.void, .int .i64 d6, .int .i64 d6] 59))
          clear HN6 hHeld hc hcur hnn hb6 HSD HE3 HP3 HE HD HO3 HO6 hla6 hyo
          obtain ⟨A13, c13, rfl, -⟩ := hO7.taken (by omega)
          have HO7 := Lib.hid hO7
          clear hO7
          go_wp2_with fail
          generalize w6.alloc _ = w7 at *
          generalize w6.heap.size = C at *
          clear q0 q1 q2 q3 q4 q5 q6 q7 q8 q9 q10 H6
          go_loopw [18] (fun av wr => ∃ a : Nat, a ≤ T.length ∧ av = .int .i64 a ∧ (∀ j q, j < a → T[j]? = some q → tcLt q (o, d6)) ∧ BlkAt wr C #[.string o.key, .string o.nom, .string o.hol, .string o.fund, .string o.cls, .int .i64 o.kind, .int .i64 o.amt, .int .i64 o.units, .int .i64 o.t, .int .i64 o.known, .bool o.void, .int .i64 d6, .int .i64 d6] 59 ∧ OwnL w1 wr 59 13 (.slice A13 T.length c13) T.length (T.flatMap encT)) (fun av _ => T.length - (intOf av).toNat)
          case atStart => exact ⟨0, by omega, rfl, fun _ _ h => by omega, HC7.out, HO7.out⟩
          case round =>
            obtain ⟨a, ha, rfl, hlo, hCb, hOb⟩ := hrel
            have HCb := Lib.hid hCb
            have HOb := Lib.hid hOb
            have HLO := Lib.hid hlo
            clear hlo hCb hOb HC7 HO7
            obtain ⟨ib, hib⟩ : ∃ b, insB T a (o, d6) = b := ⟨_, rfl⟩
            have HIB := Lib.hid hib
            have HW := Lib.hid (fun n : Nat => And.intro (HCb.out.drewN n) (HOb.out.next (Go.below_drewN (Below.refl wr.heap.size wr) n)))
            have g9 : wr.cell? ⟨C, 9, none⟩ = some (.int .i64 o.known) := HCb.out.cell rfl
            go_upto_region 13 with (fail)
            go_cut [96] from 63 to 96 (fun v we => v = .bool ib ∧ BlkAt we C #[.string o.key, .string o.nom, .string o.hol, .string o.fund, .string o.cls, .int .i64 o.kind, .int .i64 o.amt, .int .i64 o.units, .int .i64 o.t, .int .i64 o.known, .bool o.void, .int .i64 d6, .int .i64 d6] 59 ∧ OwnL w1 we 59 13 (.slice A13 T.length c13) T.length (T.flatMap encT))
            case first =>
              by_cases hal : a < T.length
              · obtain ⟨⟨o', d'⟩, hq⟩ : ∃ q, T[a]? = some q := ⟨_, List.getElem?_eq_getElem hal⟩
                obtain ⟨b, oo', rfl, -, r0, r1, r2, r3, r4, r5, r6, r7, r8, r9, r10, r11, r12⟩ := (HOb.out.tk (by omega)).get hq
                have a0 : (0 : Int) ≤ (a : Int) := by omega
                have a1 : (a : Int) < (T.length : Int) := by omega
                have hi2 : ib = (decide (d' < d6) || (decide (d' = d6) && decide (o'.known < o.known))) := by
                  rw [← hib]
                  simp [insB, hq]
                have HI2 := Lib.hid hi2
                clear hib hi2 hq HCb HOb
                replace r9 : wr.cell? ⟨b, oo' + a * 13 + 9, none⟩ = some (.int .i64 o'.known) := r9
                replace r11 : wr.cell? ⟨b, oo' + a * 13 + 11, none⟩ = some (.int .i64 d') := r11
                clear r0 r1 r2 r3 r4 r5 r6 r7 r8 r10 r12
                by_cases k1 : d' < d6
                · have HV2 : Hid (ib = true) := Lib.hid (by rw [HI2.out]; simp [k1])
                  have g1 := decide_eq_true k1
                  clear HI2
                  go_quiet (fail)
                  go_wp2_with fail
                  go_meet
                  exact ⟨vb HV2.out, HW.out _⟩
                · by_cases k2 : d' = d6
                  · by_cases k3 : o'.known < o.known
                    · have HV2 : Hid (ib = true) := Lib.hid (by rw [HI2.out]; simp [k2, k3])
                      have g1 := decide_eq_false k1
                      have g2 : (d' == d6) = true := by simpa using k2
                      have g3 := decide_eq_true k3
                      clear HI2 k2
                      go_quiet (fail)
                      go_wp2_with fail
                      go_meet
                      exact ⟨vb HV2.out, HW.out _⟩
                    · have HV2 : Hid (ib = false) := Lib.hid (by rw [HI2.out]; simp [k2, k3])
                      have g1 := decide_eq_false k1
                      have g2 : (d' == d6) = true := by simpa using k2
                      have g3 := decide_eq_false k3
                      clear HI2 k2
                      go_quiet (fail)
                      go_wp2_with fail
                      go_meet
                      exact ⟨vb HV2.out, HW.out _⟩
                  · have HV2 : Hid (ib = false) := Lib.hid (by rw [HI2.out]; simp [k1, k2])
                    have g1 := decide_eq_false k1
                    have g2 : (d' == d6) = false := by simpa using k2
                    clear HI2 k2
                    go_quiet (fail)
                    go_wp2_with fail
                    go_meet
                    exact ⟨vb HV2.out, HW.out _⟩
              · have HV2 : Hid (ib = false) := Lib.hid (by rw [← hib]; simp [insB, List.getElem?_eq_none (show T.length ≤ a by omega)])
                have a1 : ¬ ((a : Int) < (T.length : Int)) := by omega
                clear hib HCb HOb g9
                go_quiet (fail)
                go_wp2_with fail
                go_meet
                exact ⟨vb HV2.out, HW.out _⟩
            case rest =>
            obtain ⟨rfl, hCb, hOb⟩ := hcut
            have HC8 := Lib.hid hCb
            have HO8 := Lib.hid hOb
            clear hCb hOb HW HCb HOb g9 hib
            cases ib
            · have HIB2 := Lib.hid HIB.out
              have HB8 := Lib.hid (bnext HO8.out.below (Below.refl _ _).drew)
              clear HIB
              go_upto_region 15 with (fail)
              have hCd := HC8.out.drew
              have HCX := Lib.hid (fun (W : World) (hb : Below wc.drew.heap.size wc.drew W) => tkc_at (hCd.next hb))
              obtain ⟨q0, q1, q2, q3, q4, q5, q6, q7, q8, q9, q10, q11, q12⟩ := tkc_at hCd
              have hown := (HO8.out.next (Below.refl _ _).drew)
              have a0 : (0 : Int) ≤ (a : Int) := by omega
              have a1 : (a : Int) ≤ (T.length : Int) := by omega
              rcases HO8.out.own.2 with ⟨e, h0⟩ | ⟨g, cap, cur, e, hbg, hg, hnc, hcm, -, -⟩
              · injection e with e1 e2 e3
                subst e1 e3
                have hT0 : T = [] := List.eq_nil_of_length_eq_zero h0
                have ha0 : a = 0 := by omega
                clear hCd hown HC8 HO8
                subst hT0 ha0
                have hOA := OwnL.start wc.drew 59 13
                go_region_law (first
                  | (refine step_pushN elTk (by rfl) _ _ (by rfl) (hOA.next (bal0 wc.drew (.cells #[.string o.key, .string o.nom, .string o.hol, .string o.fund, .string o.cls, .int .i64 o.kind, .int .i64 o.amt, .int .i64 o.units, .int .i64 o.t, .int .i64 o.known, .bool o.void, .int .i64 d6, .int .i64 d6] 59))) (by rfl) ⟨wc.heap.size, 0, none⟩ 1 1 (encT (o, d6)) (by rfl) (by rfl) (new_cells wc.drew _ _) (encT_one _) (by omega) (by decide) ?_; intro vB wB hOB hgB)
                  | (refine step_pushNone elTk (by rfl) _ _ (by rfl) hOB (by rfl) (by rfl) ?_)
                  | (refine step_pushNone elTk (by rfl) _ _ (by rfl) hOA (by rfl) (by rfl) ?_)
                  | (refine step_pushNone elTk (by rfl) _ _ (by rfl) (hOA.next (bal0 wc.drew (.cells #[.string o.key, .string o.nom, .string o.hol, .string o.fund, .string o.cls, .int .i64 o.kind, .int .i64 o.amt, .int .i64 o.units, .int .i64 o.t, .int .i64 o.known, .bool o.void, .int .i64 d6, .int .i64 d6] 59))) (by rfl) (by rfl) ?_))
                all_goals
                  have HF := Lib.hid (hOB.base HB8.out)
                  clear q0 q1 q2 q3 q4 q5 q6 q7 q8 q9 q10 q11 q12
                  go_simp
                  go_wp2_with fail
                  go_roundw
                  case rel => exact ⟨i + 1, [(o, d6)], by omega, by simp, by go_num, HT.out.put HB00.out HX.out HV.out HCU.out ha HLO.out HIB2.out, HF.out⟩
                  case measure => simp [intOf]; omega
              · injection e with e1 e2 e3
                subst e1 e3
                have HCL := Lib.hid (fun (W : World) (hb : Below wc.drew.heap.size wc.drew W) => tk_cells (hown.next hb).own a ha)
                have hlA : ((T.take a).flatMap encT).length = a * 13 := by rw [tk_rows, List.length_take, Nat.min_eq_left ha]
                have hlD : ((T.drop a).flatMap encT).length = (T.length - a) * 13 := by rw [tk_rows, List.length_drop]
                have oA := tk_one (T.take a)
                have oD := tk_one (T.drop a)
                have a2 : a ≤ c13 := by omega
                clear hCd hown hg hbg hcm HC8 HO8
                obtain ⟨ad, had, hadc⟩ : ∃ ad : Addr, (if c13 = a then some (⟨g, 0, none⟩ : Addr) else some ⟨g, a * 13, none⟩) = some ad ∧ (∀ W : World, Below wc.drew.heap.size wc.drew W → ∀ j u, ((T.drop a).flatMap encT)[j]? = some u → W.cell? (ad.add j) = some u) := by
                  by_cases hca : c13 = a
                  · refine ⟨_, if_pos hca, fun W hb j u hj => ?_⟩
                    have hdr : T.drop a = [] := List.drop_eq_nil_of_le (by omega)
                    rw [hdr] at hj
                    simp at hj
                  · exact ⟨_, if_neg hca, fun W hb => (HCL.out W hb).2⟩
                have HADC := Lib.hid hadc
                clear hadc
                go_region_law (first
                  | (refine step_pushN elTk (by rfl) _ _ (by rfl) (OwnL.start wc.drew _ _) (by rfl) ⟨g, 0, none⟩ a c13 ((T.take a).flatMap encT) (by rfl) hlA (HCL.out _ (Below.refl _ _)).1 oA (by omega) (by decide) ?_; intro vA wA hOA hgA; obtain ⟨q0, q1, q2, q3, q4, q5, q6, q7, q8, q9, q10, q11, q12⟩ := HCX.out _ hOA.below)
                  | (refine step_pushN elTk (by rfl) _ _ (by rfl) ((OwnL.start wc.drew _ _).next (bal0 wc.drew (.cells #[.string o.key, .string o.nom, .string o.hol, .string o.fund, .string o.cls, .int .i64 o.kind, .int .i64 o.amt, .int .i64 o.units, .int .i64 o.t, .int .i64 o.known, .bool o.void, .int .i64 d6, .int .i64 d6] 59))) (by rfl) ⟨g, 0, none⟩ a c13 ((T.take a).flatMap encT) (by rfl) hlA (HCL.out _ (bal0 _ _)).1 oA (by omega) (by decide) ?_; intro vA wA hOA hgA)
                  | (refine step_pushN elTk (by rfl) _ _ (by rfl) (hOA.next (bal0 wA (.cells #[.string o.key, .string o.nom, .string o.hol, .string o.fund, .string o.cls, .int .i64 o.kind, .int .i64 o.amt, .int .i64 o.units, .int .i64 o.t, .int .i64 o.known, .bool o.void, .int .i64 d6, .int .i64 d6] 59))) (by rfl) ⟨wA.heap.size, 0, none⟩ 1 1 (encT (o, d6)) (by rfl) (by rfl) (new_cells wA _ _) (encT_one _) (by omega) (by decide) ?_; intro vB wB hOB hgB)
                  | (refine step_pushN elTk (by rfl) _ _ (by rfl) hOA (by rfl) ⟨wc.heap.size, 0, none⟩ 1 1 (encT (o, d6)) (by rfl) (by rfl) (kept_cells hgA rfl (new_cells wc.drew _ _) (by simp)) (encT_one _) (by omega) (by decide) ?_; intro vB wB hOB hgB)
                  | (refine step_pushN elTk (by rfl) _ _ (by rfl) hOB (by rfl) ad (T.length - a) (c13 - a) ((T.drop a).flatMap encT) (by rfl) hlD (HADC.out _ hOB.below) oD (by omega) (by decide) ?_; intro vC wC hOC hgC))
                all_goals
                  have HF := Lib.hid ((hOC.base HB8.out).eqv (n' := (T.take a ++ (o, d6) :: T.drop a).length) (xs' := (T.take a ++ (o, d6) :: T.drop a).flatMap encT) (by simp; omega) (by simp [List.flatMap_append, List.flatMap_cons]))
                  clear q0 q1 q2 q3 q4 q5 q6 q7 q8 q9 q10 q11 q12
                  go_simp
                  go_wp2_with fail
                  go_roundw
                  case rel => exact ⟨i + 1, T.take a ++ (o, d6) :: T.drop a, by omega, by simp; omega, by go_num, HT.out.put HB00.out HX.out HV.out HCU.out ha HLO.out HIB2.out, HF.out⟩
                  case measure => simp [intOf]; omega
            · have hal := insB_len HIB.out
              go_wp2_with fail
              go_roundw
              case rel =>
                refine ⟨a + 1, by omega, by go_num, fun j q h1 h2 => ?_, HC8.out, HO8.out⟩
                by_cases hj : j = a
                · subst hj
                  exact (insB_iff h2).1 HIB.out
                · exact HLO.out j q (by omega) h2
              case measure => simp [intOf]; omega
      · go_wp2_with fail
        go_roundw
        case rel => exact ⟨i + 1, T, by omega, by omega, by go_num, HT.out.seen HX.out HV.out, HO3.out⟩
        case measure => simp [intOf]; omega
    · obtain rfl : i = P.l.length := by omega
      have HO2 := Lib.hid (show OwnL w wr 59 13 u13 T.length (T.flatMap encT) from HO.out.base HM1.out.below)
      go_wp2_with fail
      go_ret2
      exact ⟨_, T, rfl, HO2.out, HT.out.all, hTi⟩
end
end Go.Proofs.YtbfllcfjgpkpaaaGreat
