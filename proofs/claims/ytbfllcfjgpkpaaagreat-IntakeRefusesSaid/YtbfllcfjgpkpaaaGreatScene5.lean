/-
  A region that draws its order, walked by an invariant: each operation once, whatever has come up before it. No program in sight.
  The scenes: accounts, and what orders ask for.
-/
import Derived.Test.YtbfllcfjgpkpaaaGreatBase
import Derived.Orders
import Derived.RegionTactic
import Derived.Test.YtbfllcfjgpkpaaaGreatScene
import Derived.Test.YtbfllcfjgpkpaaaGreatOrdWalk
import Derived.Deep.RegionWith
namespace Go.Proofs.YtbfllcfjgpkpaaaGreat
section
open Go.RowKit
set_option linter.unusedVariables false
section
variable {P : Program} {md : Region.Mode} {ops : Array Oper} {Q : Exit → Act → World → Prop}
/-- Operation i waits for operation j. -/
def waitsB (md : Region.Mode) (ops : Array Oper) (i j : Nat) : Bool :=
  match ops[i]? with
  | none => false
  | some o => o.after.any fun e => Region.binds md e && e.on == j
/-- Each waits for earlier ones alone. -/
def earlierB (md : Region.Mode) (ops : Array Oper) : Bool :=
  (List.range ops.size).all fun i => match ops[i]? with
  | none => true
  | some o => o.after.all fun e => !Region.binds md e || decide (e.on < i)
theorem ready_nil (hE : earlierB md ops = true) {listed : Array Bool} (hs : listed.size = ops.size) (h : Region.ready md ops listed = []) : ∀ n i, i ≤ n → i < ops.size → listed.getD i false = true
  | n, i, hn, hi => by
    cases hc : listed.getD i true
    · exfalso
      have hm : i ∈ Region.ready md ops listed := by
        refine mem_ready.2 ⟨hc, ops[i], Array.getElem?_eq_getElem hi, fun e he hb => ?_⟩
        have h1 := List.all_eq_true.1 hE i (List.mem_range.2 hi)
        rw [Array.getElem?_eq_getElem hi] at h1
        have h2 := (Array.all_eq_true_iff_forall_mem.1 h1) e he
        rw [hb] at h2
        have h3 : e.on < i := by simpa using h2
        have : n ≠ 0 := by omega
        exact ready_nil hE hs h (n - 1) e.on (by omega) (by omega)
      rw [h] at hm
      cases hm
    · have : i < listed.size := by omega
      simpa [Array.getD, this] using hc
termination_by n => n
def openN (listed : Array Bool) : Nat := (listed.toList.filter fun b => !b).length
theorem openN_set {listed : Array Bool} {i : Nat} (hi : i < listed.size) (h : listed.getD i true = false) : openN (listed.setIfInBounds i true) + 1 = openN listed := by
  have h0 : listed.toList[i]? = some false := by
    have : listed[i]? = some false := by
      rw [Array.getElem?_eq_getElem hi]
      have h2 : listed[i] = false := by simpa [Array.getD, hi] using h
      rw [h2]
    simpa using this
  unfold openN
  rw [Array.toList_setIfInBounds]
  generalize listed.toList = l at h0
  clear h hi
  induction l generalizing i with
  | nil => simp at h0
  | cons x r ih =>
    cases i with
    | zero =>
      simp at h0
      subst h0
      simp
    | succ i =>
      have := ih (i := i) (by simpa using h0)
      simp only [List.set_cons_succ, List.filter_cons]
      cases x
      · simp; omega
      · simpa using this
theorem wpAny_inv (I : Array Bool → Act → World → Prop) (hE : earlierB md ops = true)
    (hstep : ∀ listed a w i, i < ops.size → I listed a w → (∀ j, waitsB md ops i j = true → listed.getD j false = true) → listed.getD i true = false → wpOp P ops Q i (I (listed.setIfInBounds i true)) a w)
    (hdone : ∀ listed a w, I listed a w → (∀ i, i < ops.size → listed.getD i false = true) → Q .normal a w) :
    ∀ (fuel : Nat) (listed : Array Bool) (a : Act) (w : World), listed.size = ops.size → openN listed ≤ fuel → I listed a w → wpAny P md ops Q fuel listed a w
  | 0, listed, a, w, hs, hf, hI => by
    have h0 : Region.ready md ops listed = [] := by
      cases hr : Region.ready md ops listed with
      | nil => rfl
      | cons x r =>
        exfalso
        have hm : x ∈ Region.ready md ops listed := by rw [hr]; simp
        obtain ⟨h1, o, ho, -⟩ := mem_ready.1 hm
        have hx := (Array.getElem?_eq_some_iff.1 ho).1
        have := openN_set (by omega) h1
        omega
    exact ⟨h0, hdone listed a w hI (fun i hi => ready_nil hE hs h0 i i (Nat.le_refl _) hi)⟩
  | fuel + 1, listed, a, w, hs, hf, hI => by
    refine ⟨fun h0 => hdone listed a w hI (fun i hi => ready_nil hE hs h0 i i (Nat.le_refl _) hi), fun i hi => ?_⟩
    obtain ⟨h1, o, ho, hd⟩ := mem_ready.1 hi
    have hx := (Array.getElem?_eq_some_iff.1 ho).1
    have h2 := openN_set (by omega) h1
    refine wpOp_mono (fun a' w' hI' => wpAny_inv I hE hstep hdone fuel _ a' w' (by simpa using hs) (by omega) hI') (hstep listed a w i hx hI (fun j hj => ?_) h1)
    unfold waitsB at hj
    rw [ho] at hj
    obtain ⟨e, he, h3⟩ := Array.any_eq_true'.1 hj
    simp only [Bool.and_eq_true, beq_iff_eq] at h3
    rw [← h3.2]
    exact hd e he h3.1
theorem openN_new (n : Nat) : openN (Array.replicate n false) ≤ n := by
  unfold openN
  simp
/-- The whole region. -/
theorem wp_region_inv {id : Nat} {a : Act} {w : World} (hm : P.follows .mixedOrders = true) (I : Array Bool → Act → World → Prop) (hE : earlierB .any ops = true) (h0 : I (Array.replicate ops.size false) a w.drew)
    (hstep : ∀ listed a w i, i < ops.size → I listed a w → (∀ j, waitsB .any ops i j = true → listed.getD j false = true) → listed.getD i true = false → wpOp P ops Q i (I (listed.setIfInBounds i true)) a w)
    (hdone : ∀ listed a w, I listed a w → (∀ i, i < ops.size → listed.getD i false = true) → Q .normal a w) : (Code.region id ops true).wp P Q a w :=
  wp_region_any hm (wpAny_inv I hE hstep hdone _ _ _ _ (by simp) (openN_new _) h0)
/-- .. the slots from lo on are the region's own; J says what they hold. -/
theorem wp_region_mid {id : Nat} {ts : List Value} {ds : List Deferred} {w : World} (hm : P.follows .mixedOrders = true) (lo n : Nat) (J : Array Bool → List Value → World → Prop) (hE : earlierB .any ops = true)
    (hlen : (ts.take lo ++ (ts.drop lo).take n ++ ts.drop (lo + n)) = ts) (h0 : J (Array.replicate ops.size false) ((ts.drop lo).take n) w.drew)
    (hstep : ∀ listed m w i, i < ops.size → J listed m w → (∀ j, waitsB .any ops i j = true → listed.getD j false = true) → wpOp P ops Q i (fun a' w' => ∃ m', a' = ⟨⟨ts.take lo ++ m' ++ ts.drop (lo + n)⟩, ds⟩ ∧ J (listed.setIfInBounds i true) m' w') ⟨⟨ts.take lo ++ m ++ ts.drop (lo + n)⟩, ds⟩ w)
    (hdone : ∀ listed m w, J listed m w → (∀ i, i < ops.size → listed.getD i false = true) → Q .normal ⟨⟨ts.take lo ++ m ++ ts.drop (lo + n)⟩, ds⟩ w) : (Code.region id ops true).wp P Q ⟨⟨ts⟩, ds⟩ w := by
  refine wp_region_inv hm (fun l a w => ∃ m', a = ⟨⟨ts.take lo ++ m' ++ ts.drop (lo + n)⟩, ds⟩ ∧ J l m' w) hE ⟨(ts.drop lo).take n, by rw [hlen], h0⟩ ?_ ?_
  · rintro listed a w i hi ⟨m, rfl, hJ⟩ hd -
    exact hstep listed m w i hi hJ hd
  · rintro listed a w ⟨m, rfl, hJ⟩ hall
    exact hdone listed m w hJ hall
/-- One operation without a guard. -/
theorem wpOp_open {i : Nat} {o : Oper} {J : Act → World → Prop} {a : Act} {w : World} (ho : ops[i]? = some o) (hg : o.guard = none)
    (h : ∀ K : Act → World → Prop, (∀ a' w', J a' w' → K a' w') → Oper.wp P o a w K Q) : wpOp P ops Q i J a w :=
  wpOp_step ho fun K hK => by
    have hw : Region.wanted o (yielded ops a.tmps) = true := by simp [Region.wanted, hg]
    rw [if_pos hw]
    exact h K hK
theorem listed_keep {listed : Array Bool} {i j : Nat} {p : Prop} (h : i ≠ j) (hp : listed.getD j false = true → p) : (listed.setIfInBounds i true).getD j false = true → p := fun h2 => hp (by rw [← getD_set_ne false h]; exact h2)
end
end
section
open Go.RowKit
set_option linter.unusedVariables false
set_option maxHeartbeats 4000000
/-- The parts of an account. -/
structure AccB (nom hol : ByteArray) : Prop where
  shol : hol.size ≤ maxLen
  snom : nom.size ≤ maxLen
  okh : nmB hol = true
  okn : nom.toList = [] ∨ nmB nom = true
theorem AccB.acc {nom hol : ByteArray} (h : AccB nom hol) {o : OR} (h1 : o.nom = nom) (h2 : o.hol = hol) : o.acc = true := by
  subst h1 h2
  simp only [OR.acc, h.okh, Bool.true_and, Bool.or_eq_true, decide_eq_true_eq]
  exact h.okn
def accC : Array Value := #[.string ⟨#[]⟩, .string ⟨#[115, 109, 105, 116, 104]⟩, .string ⟨#[]⟩, .string ⟨#[106, 111, 110, 101, 115]⟩, .string ⟨#[98, 97, 110, 107]⟩, .string ⟨#[97, 110, 110]⟩, .string ⟨#[98, 97, 110, 107]⟩, .string ⟨#[98, 111, 98]⟩, .string ⟨#[]⟩, .string ⟨#[97, 110, 110]⟩, .string ⟨#[]⟩, .string ⟨#[98, 97, 110, 107]⟩]
theorem acc_at {W : World} {g k : Nat} {t : TypeId} (h : BlkAt W g accC t) (hk : (k : Int) < 6) : ∃ nom hol, AccB nom hol ∧ W.cell? ⟨g, k * 2, none⟩ = some (.string nom) ∧ W.cell? ⟨g, k * 2 + 1, none⟩ = some (.string hol) := by
  have h6 : k = 0 ∨ k = 1 ∨ k = 2 ∨ k = 3 ∨ k = 4 ∨ k = 5 := by omega
  rcases h6 with rfl | rfl | rfl | rfl | rfl | rfl
  · exact ⟨_, _, ⟨by decide, by decide, by decide, .inl (by decide +kernel)⟩, h.cell rfl, h.cell rfl⟩
  · exact ⟨_, _, ⟨by decide, by decide, by decide, .inl (by decide +kernel)⟩, h.cell rfl, h.cell rfl⟩
  · exact ⟨_, _, ⟨by decide, by decide, by decide, .inr (by decide)⟩, h.cell rfl, h.cell rfl⟩
  · exact ⟨_, _, ⟨by decide, by decide, by decide, .inr (by decide)⟩, h.cell rfl, h.cell rfl⟩
  · exact ⟨_, _, ⟨by decide, by decide, by decide, .inl (by decide +kernel)⟩, h.cell rfl, h.cell rfl⟩
  · exact ⟨_, _, ⟨by decide, by decide, by decide, .inl (by decide +kernel)⟩, h.cell rfl, h.cell rfl⟩
theorem rowAccT : RowT Tryz.prog 55 2 := ⟨⟨_, Tryz.underlying55, rfl⟩, by kernel_rfl⟩
theorem rowAcc (x y : ByteArray) : RowV Tryz.prog 55 #[.string x, .string y] := ⟨rowAccT, by simp [Value.oneCell']⟩
def SAccP (B b : Nat) (w : World) (e : Ending) (w' : World) : Prop :=
  ∃ nom hol, e = .returned (.agg #[.string nom, .string hol]) ∧ AccB nom hol ∧ TapS w' B b ∧ Only b w w'
theorem sacc_any (B b : Nat) (w : World) (h : TapS w B b) : Calls Tryz.prog 34 #[.pointer (some ⟨b, 0, none⟩)] w (SAccP B b w) := by
  have hb := h.lt
  have HT := Lib.hid h
  clear h
  go_enter Tryz.func34, Tryz.ntmps34
  go_wp2_with fail
  refine (snext_in (n := 6) (B := B) (b := b) ((HT.out.alloc _).alloc _) (by omega) (by omega)).mono ?_
  rintro e w1 ⟨k, hk, rfl, ht1, ho1⟩
  have hB1 : BlkAt w1 w.heap.size #[.string ⟨#[]⟩, .string ⟨#[]⟩] 55 := (((BlkAt.new w #[.string ⟨#[]⟩, .string ⟨#[]⟩] 55).al _).only ho1 (by omega))
  have hB2 : BlkAt w1 (w.heap.size + 1) accC 55 := ((BlkAt.newAt _ _ _ (by simp)).only ho1 (by omega))
  obtain ⟨nom, hol, hacc, c0, c1⟩ := acc_at hB2 hk
  have HA := Lib.hid hacc
  have HO := Lib.hid (only_trans (only_below (bal (bal0 w _) _)) ho1)
  have hs := ho1.size
  simp at hs
  have hws : w.heap.size < w1.heap.size := by omega
  have hBb := HT.out.base
  generalize hGG : w.heap.size = G at *
  have hle : w.heap.size ≤ G := by omega
  clear hacc hB2 ho1 HT hGG
  go_wp2_with (first | ((with_reducible refine wpl_store rfl 55 _ _ rfl _ #[.string nom, .string hol] ?_ ?_ hB1 (rowAcc _ _) ?_ ?_); exact rfl; exact rfl; exact rfl))
  exact bodyPost_ret (v := .agg #[.string nom, .string hol]) (res_c rfl rfl (hB1.set _) (rowAcc _ _)) rfl ⟨nom, hol, rfl, HA.out, ht1.setRow (by omega) (by omega) _, only_setRow HO.out (.inr (by omega)) _⟩
def SIntP (lo hi : Int) (B b : Nat) (w : World) (e : Ending) (w' : World) : Prop :=
  ∃ v : Int, lo ≤ v ∧ v ≤ hi ∧ e = .returned (.int .i64 v) ∧ TapS w' B b ∧ Only b w w'
set_option maxRecDepth 100000 in
theorem sunits_any (B b : Nat) (w : World) (h : TapS w B b) : Calls Tryz.prog 54 #[.pointer (some ⟨b, 0, none⟩)] w (SIntP 1 1000000 B b w) := by
  go_enter Tryz.func54, Tryz.ntmps54
  go_wp2_with fail
  refine (snext_in (n := 20) h (by omega) (by omega)).mono ?_
  rintro e w1 ⟨p, hp1, rfl, ht1, ho1⟩
  go_wp2_with fail
  refine (snext_in (n := 1000) ht1 (by omega) (by omega)).mono ?_
  rintro e w2 ⟨q, hq1, rfl, ht2, ho2⟩
  go_wp2_with fail
  refine (snext_in (n := 1000000) ht2 (by omega) (by omega)).mono ?_
  rintro e w3 ⟨r, hr1, rfl, ht3, ho3⟩
  go_wp2_with fail
  refine (spick_new [1, 2, 3, 1 + (p : Int), 1 + (q : Int), 1 + (r : Int)] rfl ht3 (by simp) (by simp) rfl (by simp)).mono ?_
  rintro e w4 ⟨v, hv, rfl, ht4, ho4⟩
  have HV := Lib.hid (show 1 ≤ v ∧ v ≤ 1000000 by simp at hv; omega)
  have HO := Lib.hid (only_trans (only_trans (only_trans ho1 ho2) ho3) ho4)
  clear hv ho1 ho2 ho3 ho4
  go_wp2_with fail
  go_ret
  exact ⟨v, HV.out.1, HV.out.2, rfl, ht4, HO.out⟩
def or0 : OR := ⟨⟨#[]⟩, ⟨#[]⟩, ⟨#[]⟩, ⟨#[]⟩, ⟨#[]⟩, 0, 0, 0, 0, 0, false⟩
/-- The order in block g, the result in block r. -/
structure AskS (w W : World) (B b g r : Nat) (x : OR) : Prop where
  tape : TapS W B b
  only : Only b w W
  gb : BlkAt W g (orV x) 57
  rb : BlkAt W r (orV or0) 57
  hg : w.heap.size ≤ g
  hr : w.heap.size ≤ r
  hb : b < w.heap.size
  ne : g ≠ r
section
variable {w W W' : World} {B b g r : Nat} {x x' : OR}
theorem AskS.only' (h : AskS w W B b g r x) (ho : Only b W W') (ht : TapS W' B b) : AskS w W' B b g r x :=
  ⟨ht, only_trans h.only ho, h.gb.only ho (by have := h.hb; have := h.hg; omega), h.rb.only ho (by have := h.hb; have := h.hr; omega), h.hg, h.hr, h.hb, h.ne⟩
theorem AskS.al (h : AskS w W B b g r x) (o : Obj) : AskS w (W.alloc o) B b g r x := h.only' (only_below (bal0 W o)) (h.tape.alloc o)
theorem AskS.set (h : AskS w W B b g r x) (i : Nat) (u : Value) (e : (orV x).setIfInBounds i u = orV x') : AskS w (W.setCell ⟨g, i, none⟩ u) B b g r x' :=
  ⟨h.tape.setCell (by show B ≤ g; have := h.hg; have := h.hb; have := h.tape.base; omega) (by show g ≠ b; have := h.hg; have := h.hb; omega) _, only_set h.only (.inr h.hg) _, (h.gb.cellSet i u).is e, h.rb.cellFar i u h.ne.symm, h.hg, h.hr, h.hb, h.ne⟩
end
/-- What is asked for has been set. -/
def SAskP (x : OR) (B b : Nat) (w : World) (e : Ending) (w' : World) : Prop :=
  ∃ kind amt units : Int, e = .returned (.agg #[.string x.key, .string x.nom, .string x.hol, .string x.fund, .string x.cls, .int .i64 kind, .int .i64 amt, .int .i64 units, .int .i64 x.t, .int .i64 x.known, .bool x.void]) ∧ OR.asks { x with kind := kind, amt := amt, units := units } = true ∧ TapS w' B b ∧ Only b w w'
set_option maxRecDepth 100000 in
theorem sask_any (x : OR) (hx : x.kind = 0 ∧ x.amt = 0 ∧ x.units = 0) (B b : Nat) (w : World) (h : TapS w B b) : Calls Tryz.prog 35 #[.pointer (some ⟨b, 0, none⟩), .agg (orV x)] w (SAskP x B b w) := by
  obtain ⟨key, nom, hol, fund, cls, kind, amt, units, t, known, void⟩ := x
  obtain ⟨hx1, hx2, hx3⟩ := hx
  simp only at hx1 hx2 hx3
  subst hx1 hx2 hx3
  have hb := h.lt
  have HS : Hid (AskS w ((w.alloc (.cells (orV ⟨key, nom, hol, fund, cls, 0, 0, 0, t, known, void⟩) 57)).alloc (.cells (orV or0) 57)) B b w.heap.size (w.heap.size + 1) ⟨key, nom, hol, fund, cls, 0, 0, 0, t, known, void⟩) :=
    Lib.hid ⟨(h.alloc _).alloc _, only_below (bal (bal0 w _) _), (BlkAt.new _ _ _).al _, BlkAt.newAt _ _ _ (by simp), Nat.le_refl _, by omega, hb, by omega⟩
  clear h
  show Calls Tryz.prog 35 #[.pointer (some ⟨b, 0, none⟩), .agg #[.string key, .string nom, .string hol, .string fund, .string cls, .int .i64 0, .int .i64 0, .int .i64 0, .int .i64 t, .int .i64 known, .bool void]] w _
  go_enter Tryz.func35, Tryz.ntmps35
  go_wp2_with fail
  refine (snext_in (n := 5) (B := B) (b := b) HS.out.tape (by omega) (by omega)).mono ?_
  rintro e w1 ⟨k, hk, rfl, ht1, ho1⟩
  have HS1 := Lib.hid (HS.out.only' ho1 ht1)
  clear ht1 ho1 HS
  generalize hG : w.heap.size = G at *
  have hGw : w.heap.size ≤ G := by omega
  clear hG
  have hk5 : k = 0 ∨ k = 1 ∨ k = 2 ∨ k = 3 ∨ k = 4 := by omega
  clear hk
  have c5 : w1.cell? ⟨G, 5, none⟩ = some (.int .i64 0) := HS1.out.gb.cell rfl
  have f5 := HS1.out.gb.fz 5
  have HBS := Lib.hid (show B ≤ b from HS1.out.tape.base)
  rcases hk5 with rfl | rfl | rfl | rfl | rfl
  ·
    have HS2 := Lib.hid (HS1.out.set 5 (.int .i64 1) (x' := ⟨key, nom, hol, fund, cls, 1, 0, 0, t, known, void⟩) rfl)
    go_wp2_with fail
    refine (snext_in (n := 100000) (B := B) (b := b) HS2.out.tape (by omega) (by omega)).mono ?_
    rintro e w3 ⟨p, hp, rfl, ht3, ho3⟩
    have HS3 := Lib.hid (HS2.out.only' ho3 ht3)
    clear ht3 ho3 HS2 c5 f5 HS1
    go_wp2_with fail
    refine (snext_in (n := 100000000) (B := B) (b := b) HS3.out.tape (by omega) (by omega)).mono ?_
    rintro e w4 ⟨q, hq, rfl, ht4, ho4⟩
    have HS4 := Lib.hid (HS3.out.only' ho4 ht4)
    clear ht4 ho4 HS3
    go_wp2_with fail
    refine (spick_new [1, 99, 1000, 1 + (p : Int), 1 + (q : Int)] rfl HS4.out.tape (by simp) (by simp) rfl (by simp)).mono ?_
    rintro e w5 ⟨v, hv, rfl, ht5, ho5⟩
    have HV := Lib.hid (show 1 ≤ v ∧ v ≤ 1000000000000000 by simp at hv; omega)
    have HS5 := Lib.hid (HS4.out.only' ho5 ht5)
    clear hv ht5 ho5 HS4
    have c6 : w5.cell? ⟨G, 6, none⟩ = some (.int .i64 0) := HS5.out.gb.cell rfl
    have f6 := HS5.out.gb.fz 6
    have HS6 := Lib.hid (HS5.out.set 6 (.int .i64 v) (x' := ⟨key, nom, hol, fund, cls, 1, v, 0, t, known, void⟩) rfl)
    go_wp2_with (first | ((with_reducible refine wpl_load rfl 57 _ rfl _ ?_ HS6.out.gb (rowOr _) ?_); exact rfl) | ((with_reducible refine wpl_store rfl 57 _ _ rfl _ (orV ⟨key, nom, hol, fund, cls, 1, v, 0, t, known, void⟩) ?_ ?_ HS6.out.rb (rowOr _) ?_ ?_); exact rfl; exact rfl; exact rfl))
    exact bodyPost_ret (v := .agg (orV ⟨key, nom, hol, fund, cls, 1, v, 0, t, known, void⟩)) (res_c rfl rfl (HS6.out.rb.set _) (rowOr _)) rfl ⟨1, v, 0, rfl, by have := HV.out; simp [OR.asks, inB]; omega, HS6.out.tape.setRow (by have := HBS.out; omega) (by omega) _, only_setRow HS6.out.only (.inr (by omega)) _⟩
  ·
    have HS2 := Lib.hid (HS1.out.set 5 (.int .i64 2) (x' := ⟨key, nom, hol, fund, cls, 2, 0, 0, t, known, void⟩) rfl)
    go_wp2_with fail
    refine (sunits_any B b _ HS2.out.tape).mono ?_
    rintro e w3 ⟨v, hv1, hv2, rfl, ht3, ho3⟩
    have HV := Lib.hid (And.intro hv1 hv2)
    have HS5 := Lib.hid (HS2.out.only' ho3 ht3)
    clear ht3 ho3 HS2 c5 f5 HS1 hv1 hv2
    have c7 : w3.cell? ⟨G, 7, none⟩ = some (.int .i64 0) := HS5.out.gb.cell rfl
    have f7 := HS5.out.gb.fz 7
    have HS6 := Lib.hid (HS5.out.set 7 (.int .i64 v) (x' := ⟨key, nom, hol, fund, cls, 2, 0, v, t, known, void⟩) rfl)
    go_wp2_with (first | ((with_reducible refine wpl_load rfl 57 _ rfl _ ?_ HS6.out.gb (rowOr _) ?_); exact rfl) | ((with_reducible refine wpl_store rfl 57 _ _ rfl _ (orV ⟨key, nom, hol, fund, cls, 2, 0, v, t, known, void⟩) ?_ ?_ HS6.out.rb (rowOr _) ?_ ?_); exact rfl; exact rfl; exact rfl))
    exact bodyPost_ret (v := .agg (orV ⟨key, nom, hol, fund, cls, 2, 0, v, t, known, void⟩)) (res_c rfl rfl (HS6.out.rb.set _) (rowOr _)) rfl ⟨2, 0, v, rfl, by have := HV.out; simp [OR.asks, inB]; omega, HS6.out.tape.setRow (by have := HBS.out; omega) (by omega) _, only_setRow HS6.out.only (.inr (by omega)) _⟩
  ·
    have HS2 := Lib.hid (HS1.out.set 5 (.int .i64 3) (x' := ⟨key, nom, hol, fund, cls, 3, 0, 0, t, known, void⟩) rfl)
    go_wp2_with fail
    refine (sunits_any B b _ HS2.out.tape).mono ?_
    rintro e w3 ⟨v, hv1, hv2, rfl, ht3, ho3⟩
    have HV := Lib.hid (And.intro hv1 hv2)
    have HS5 := Lib.hid (HS2.out.only' ho3 ht3)
    clear ht3 ho3 HS2 c5 f5 HS1 hv1 hv2
    have c7 : w3.cell? ⟨G, 7, none⟩ = some (.int .i64 0) := HS5.out.gb.cell rfl
    have f7 := HS5.out.gb.fz 7
    have HS6 := Lib.hid (HS5.out.set 7 (.int .i64 v) (x' := ⟨key, nom, hol, fund, cls, 3, 0, v, t, known, void⟩) rfl)
    go_wp2_with (first | ((with_reducible refine wpl_load rfl 57 _ rfl _ ?_ HS6.out.gb (rowOr _) ?_); exact rfl) | ((with_reducible refine wpl_store rfl 57 _ _ rfl _ (orV ⟨key, nom, hol, fund, cls, 3, 0, v, t, known, void⟩) ?_ ?_ HS6.out.rb (rowOr _) ?_ ?_); exact rfl; exact rfl; exact rfl))
    exact bodyPost_ret (v := .agg (orV ⟨key, nom, hol, fund, cls, 3, 0, v, t, known, void⟩)) (res_c rfl rfl (HS6.out.rb.set _) (rowOr _)) rfl ⟨3, 0, v, rfl, by have := HV.out; simp [OR.asks, inB]; omega, HS6.out.tape.setRow (by have := HBS.out; omega) (by omega) _, only_setRow HS6.out.only (.inr (by omega)) _⟩
  ·
    have HS2 := Lib.hid (HS1.out.set 5 (.int .i64 4) (x' := ⟨key, nom, hol, fund, cls, 4, 0, 0, t, known, void⟩) rfl)
    go_wp2_with fail
    refine (snext_in (n := 100000) (B := B) (b := b) HS2.out.tape (by omega) (by omega)).mono ?_
    rintro e w3 ⟨p, hp, rfl, ht3, ho3⟩
    have HS3 := Lib.hid (HS2.out.only' ho3 ht3)
    clear ht3 ho3 HS2 c5 f5 HS1
    go_wp2_with fail
    refine (snext_in (n := 100000000) (B := B) (b := b) HS3.out.tape (by omega) (by omega)).mono ?_
    rintro e w4 ⟨q, hq, rfl, ht4, ho4⟩
    have HS4 := Lib.hid (HS3.out.only' ho4 ht4)
    clear ht4 ho4 HS3
    go_wp2_with fail
    refine (spick_new [1, 99, 1000, 1 + (p : Int), 1 + (q : Int)] rfl HS4.out.tape (by simp) (by simp) rfl (by simp)).mono ?_
    rintro e w5 ⟨v, hv, rfl, ht5, ho5⟩
    have HV := Lib.hid (show 1 ≤ v ∧ v ≤ 1000000000000000 by simp at hv; omega)
    have HS5 := Lib.hid (HS4.out.only' ho5 ht5)
    clear hv ht5 ho5 HS4
    have c6 : w5.cell? ⟨G, 6, none⟩ = some (.int .i64 0) := HS5.out.gb.cell rfl
    have f6 := HS5.out.gb.fz 6
    have HS6 := Lib.hid (HS5.out.set 6 (.int .i64 v) (x' := ⟨key, nom, hol, fund, cls, 4, v, 0, t, known, void⟩) rfl)
    go_wp2_with (first | ((with_reducible refine wpl_load rfl 57 _ rfl _ ?_ HS6.out.gb (rowOr _) ?_); exact rfl) | ((with_reducible refine wpl_store rfl 57 _ _ rfl _ (orV ⟨key, nom, hol, fund, cls, 4, v, 0, t, known, void⟩) ?_ ?_ HS6.out.rb (rowOr _) ?_ ?_); exact rfl; exact rfl; exact rfl))
    exact bodyPost_ret (v := .agg (orV ⟨key, nom, hol, fund, cls, 4, v, 0, t, known, void⟩)) (res_c rfl rfl (HS6.out.rb.set _) (rowOr _)) rfl ⟨4, v, 0, rfl, by have := HV.out; simp [OR.asks, inB]; omega, HS6.out.tape.setRow (by have := HBS.out; omega) (by omega) _, only_setRow HS6.out.only (.inr (by omega)) _⟩
  ·
    have HS2 := Lib.hid (HS1.out.set 5 (.int .i64 5) (x' := ⟨key, nom, hol, fund, cls, 5, 0, 0, t, known, void⟩) rfl)
    go_wp2_with (first | ((with_reducible refine wpl_load rfl 57 _ rfl _ ?_ HS2.out.gb (rowOr _) ?_); exact rfl) | ((with_reducible refine wpl_store rfl 57 _ _ rfl _ (orV ⟨key, nom, hol, fund, cls, 5, 0, 0, t, known, void⟩) ?_ ?_ HS2.out.rb (rowOr _) ?_ ?_); exact rfl; exact rfl; exact rfl))
    exact bodyPost_ret (v := .agg (orV ⟨key, nom, hol, fund, cls, 5, 0, 0, t, known, void⟩)) (res_c rfl rfl (HS2.out.rb.set _) (rowOr _)) rfl ⟨5, 0, 0, rfl, by simp [OR.asks], HS2.out.tape.setRow (by have := HBS.out; omega) (by omega) _, only_setRow HS2.out.only (.inr (by omega)) _⟩
end
end Go.Proofs.YtbfllcfjgpkpaaaGreat
