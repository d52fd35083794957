/-
  The document's answer on intake: one key's versions, one by one.
-/
import Derived.Test.YtbfllcfjgpkpaaaGreatIntRun
import Derived.Test.YtbfllcfjgpkpaaaGreatRefOrd
namespace Go.Proofs.YtbfllcfjgpkpaaaGreat
open Go.RowKit
set_option linter.unusedVariables false
set_option maxHeartbeats 4000000
/-- Whether place j holds a version of the key. -/
def keyAt (l : List OR) (key : ByteArray) (j : Nat) : Bool := match l[j]? with
  | some o => decide (o.key = key)
  | none => false
/-- The statuses, where a key's versions have been gone through up to place i. -/
def stK (P : DPar) (k : Int) (fund key : ByteArray) (st : Nat → Int) (i : Nat) : Nat → Int := fun j => if keyAt P.l key j = true then stF P.fr P.dl P.l k fund j i else st j
section
variable {P : DPar} {k : Int} {fund key : ByteArray} {st : Nat → Int} {i : Nat} {o : OR}
theorem keyAt_of {l : List OR} (ho : l[i]? = some o) (hk : o.key = key) : keyAt l key i = true := by simp [keyAt, ho, hk]
theorem stK_zero (h : ∀ j, keyAt P.l key j = true → st j = 0) : stK P k fund key st 0 = st := by
  funext j
  unfold stK
  split
  · rename_i hj
    rw [stF_zero (Nat.zero_le _), h j hj]
  · rfl
theorem stK_other (ho : P.l[i]? = some o) (hk : o.key ≠ key) : stK P k fund key st (i + 1) = stK P k fund key st i := by
  funext j
  unfold stK
  split
  · rename_i hj
    unfold keyAt at hj
    cases hx : P.l[j]? with
    | none => rw [hx] at hj; cases hj
    | some x =>
      rw [hx] at hj
      simp only [decide_eq_true_eq] at hj
      exact stF_other ho hx (by rw [hj]; exact hk)
  · rfl
theorem stK_skip (ho : P.l[i]? = some o) (hc : cntO k fund o = false) : stK P k fund key st (i + 1) = stK P k fund key st i := by
  funext j
  unfold stK
  rw [congrFun (st_skip ho hc) j]
theorem stK_one {v : Int} (ho : P.l[i]? = some o) (hc : cntO k fund o = true) (hk : o.key = key) (h0 : (stepK P.fr P.dl P.l (nowF P.fr P.dl P.l k fund key i) o i).2 = (v, 0)) : stK P k fund key st (i + 1) = upS (stK P k fund key st i) i v := by
  subst hk
  have h1 : (stepK P.fr P.dl P.l (nowF P.fr P.dl P.l k fund o.key i) o i).2.2 = 0 := by rw [h0]
  have h2 : (stepK P.fr P.dl P.l (nowF P.fr P.dl P.l k fund o.key i) o i).2.1 = v := by rw [h0]
  funext j
  have hs := congrFun (st_one ho hc h1) j
  rw [h2] at hs
  simp only [upS] at hs ⊢
  unfold stK
  by_cases hj : j = i
  · subst hj
    rw [if_pos (keyAt_of ho rfl), if_pos rfl]
    simpa using hs
  · rw [if_neg hj] at hs ⊢
    rw [hs]
theorem stK_two {v v2 : Int} {a : Nat} {d : Int} (ho : P.l[i]? = some o) (hc : cntO k fund o = true) (hk : o.key = key) (hn : nowF P.fr P.dl P.l k fund key i = some (a, d)) (h0 : (stepK P.fr P.dl P.l (nowF P.fr P.dl P.l k fund key i) o i).2 = (v, v2)) (hv : v2 ≠ 0) : stK P k fund key st (i + 1) = upS (upS (stK P k fund key st i) i v) a v2 := by
  subst hk
  have h1 : (stepK P.fr P.dl P.l (nowF P.fr P.dl P.l k fund o.key i) o i).2.2 = v2 := by rw [h0]
  have h2 : (stepK P.fr P.dl P.l (nowF P.fr P.dl P.l k fund o.key i) o i).2.1 = v := by rw [h0]
  obtain ⟨hai, w, hw, hwk, -⟩ := nowF_is hn
  funext j
  have hs := congrFun (st_two ho hc hn hai h1 hv) j
  rw [h2] at hs
  simp only [upS] at hs ⊢
  unfold stK
  by_cases ha : j = a
  · subst ha
    rw [if_pos (keyAt_of hw hwk), if_pos rfl]
    simpa using hs
  · rw [if_neg ha] at hs ⊢
    by_cases hj : j = i
    · subst hj
      rw [if_pos (keyAt_of ho rfl), if_pos rfl]
      simpa using hs
    · rw [if_neg hj] at hs ⊢
      rw [hs]
theorem now_key (ho : P.l[i]? = some o) (hc : cntO k fund o = true) (hk : o.key = key) : nowF P.fr P.dl P.l k fund key (i + 1) = (stepK P.fr P.dl P.l (nowF P.fr P.dl P.l k fund key i) o i).1 := by rw [nowF_succ ho, if_pos ⟨hc, hk⟩]
theorem now_no (ho : P.l[i]? = some o) (h : o.key ≠ key ∨ cntO k fund o = false) : nowF P.fr P.dl P.l k fund key (i + 1) = nowF P.fr P.dl P.l k fund key i := by
  rw [nowF_succ ho, if_neg]
  rintro ⟨h1, h2⟩
  rcases h with h | h
  · exact h h2
  · rw [h1] at h; cases h
end
/-- The place and the day of what is current, as the document's answer holds them. -/
def NowR (now : Option (Nat × Int)) (a d : Int) : Prop := match now with
  | none => a = -1
  | some (x, y) => a = x ∧ d = y
/-- In which way two versions agree, but for the time at which they became known. -/
theorem rep_ways (o w : OR) : (repB o w = true ∧ (o.key.toList == w.key.toList) = true ∧ (o.nom.toList == w.nom.toList) = true ∧ (o.hol.toList == w.hol.toList) = true ∧ (o.fund.toList == w.fund.toList) = true ∧ (o.cls.toList == w.cls.toList) = true ∧ (o.kind == w.kind) = true ∧ (o.amt == w.amt) = true ∧ (o.units == w.units) = true ∧ (o.t == w.t) = true ∧ (o.void == w.void) = true) ∨ (repB o w = false ∧ (o.key.toList == w.key.toList) = false) ∨ (repB o w = false ∧ (o.key.toList == w.key.toList) = true ∧ (o.nom.toList == w.nom.toList) = false) ∨ (repB o w = false ∧ (o.key.toList == w.key.toList) = true ∧ (o.nom.toList == w.nom.toList) = true ∧ (o.hol.toList == w.hol.toList) = false) ∨ (repB o w = false ∧ (o.key.toList == w.key.toList) = true ∧ (o.nom.toList == w.nom.toList) = true ∧ (o.hol.toList == w.hol.toList) = true ∧ (o.fund.toList == w.fund.toList) = false) ∨ (repB o w = false ∧ (o.key.toList == w.key.toList) = true ∧ (o.nom.toList == w.nom.toList) = true ∧ (o.hol.toList == w.hol.toList) = true ∧ (o.fund.toList == w.fund.toList) = true ∧ (o.cls.toList == w.cls.toList) = false) ∨ (repB o w = false ∧ (o.key.toList == w.key.toList) = true ∧ (o.nom.toList == w.nom.toList) = true ∧ (o.hol.toList == w.hol.toList) = true ∧ (o.fund.toList == w.fund.toList) = true ∧ (o.cls.toList == w.cls.toList) = true ∧ (o.kind == w.kind) = false) ∨ (repB o w = false ∧ (o.key.toList == w.key.toList) = true ∧ (o.nom.toList == w.nom.toList) = true ∧ (o.hol.toList == w.hol.toList) = true ∧ (o.fund.toList == w.fund.toList) = true ∧ (o.cls.toList == w.cls.toList) = true ∧ (o.kind == w.kind) = true ∧ (o.amt == w.amt) = false) ∨ (repB o w = false ∧ (o.key.toList == w.key.toList) = true ∧ (o.nom.toList == w.nom.toList) = true ∧ (o.hol.toList == w.hol.toList) = true ∧ (o.fund.toList == w.fund.toList) = true ∧ (o.cls.toList == w.cls.toList) = true ∧ (o.kind == w.kind) = true ∧ (o.amt == w.amt) = true ∧ (o.units == w.units) = false) ∨ (repB o w = false ∧ (o.key.toList == w.key.toList) = true ∧ (o.nom.toList == w.nom.toList) = true ∧ (o.hol.toList == w.hol.toList) = true ∧ (o.fund.toList == w.fund.toList) = true ∧ (o.cls.toList == w.cls.toList) = true ∧ (o.kind == w.kind) = true ∧ (o.amt == w.amt) = true ∧ (o.units == w.units) = true ∧ (o.t == w.t) = false) ∨ (repB o w = false ∧ (o.key.toList == w.key.toList) = true ∧ (o.nom.toList == w.nom.toList) = true ∧ (o.hol.toList == w.hol.toList) = true ∧ (o.fund.toList == w.fund.toList) = true ∧ (o.cls.toList == w.cls.toList) = true ∧ (o.kind == w.kind) = true ∧ (o.amt == w.amt) = true ∧ (o.units == w.units) = true ∧ (o.t == w.t) = true ∧ (o.void == w.void) = false) := by
  by_cases h0 : o.key.toList = w.key.toList
  case neg =>
    exact (.inr (.inl ⟨by simp [repB, h0], by simp [h0]⟩))
  by_cases h1 : o.nom.toList = w.nom.toList
  case neg =>
    exact (.inr (.inr (.inl ⟨by simp [repB, h1], by simp [h0], by simp [h1]⟩)))
  by_cases h2 : o.hol.toList = w.hol.toList
  case neg =>
    exact (.inr (.inr (.inr (.inl ⟨by simp [repB, h2], by simp [h0], by simp [h1], by simp [h2]⟩))))
  by_cases h3 : o.fund.toList = w.fund.toList
  case neg =>
    exact (.inr (.inr (.inr (.inr (.inl ⟨by simp [repB, h3], by simp [h0], by simp [h1], by simp [h2], by simp [h3]⟩)))))
  by_cases h4 : o.cls.toList = w.cls.toList
  case neg =>
    exact (.inr (.inr (.inr (.inr (.inr (.inl ⟨by simp [repB, h4], by simp [h0], by simp [h1], by simp [h2], by simp [h3], by simp [h4]⟩))))))
  by_cases h5 : o.kind = w.kind
  case neg =>
    exact (.inr (.inr (.inr (.inr (.inr (.inr (.inl ⟨by simp [repB, h5], by simp [h0], by simp [h1], by simp [h2], by simp [h3], by simp [h4], by simp [h5]⟩)))))))
  by_cases h6 : o.amt = w.amt
  case neg =>
    exact (.inr (.inr (.inr (.inr (.inr (.inr (.inr (.inl ⟨by simp [repB, h6], by simp [h0], by simp [h1], by simp [h2], by simp [h3], by simp [h4], by simp [h5], by simp [h6]⟩))))))))
  by_cases h7 : o.units = w.units
  case neg =>
    exact (.inr (.inr (.inr (.inr (.inr (.inr (.inr (.inr (.inl ⟨by simp [repB, h7], by simp [h0], by simp [h1], by simp [h2], by simp [h3], by simp [h4], by simp [h5], by simp [h6], by simp [h7]⟩)))))))))
  by_cases h8 : o.t = w.t
  case neg =>
    exact (.inr (.inr (.inr (.inr (.inr (.inr (.inr (.inr (.inr (.inl ⟨by simp [repB, h8], by simp [h0], by simp [h1], by simp [h2], by simp [h3], by simp [h4], by simp [h5], by simp [h6], by simp [h7], by simp [h8]⟩))))))))))
  by_cases h9 : o.void = w.void
  case neg =>
    exact (.inr (.inr (.inr (.inr (.inr (.inr (.inr (.inr (.inr (.inr ⟨by simp [repB, h9], by simp [h0], by simp [h1], by simp [h2], by simp [h3], by simp [h4], by simp [h5], by simp [h6], by simp [h7], by simp [h8], by simp [h9]⟩))))))))))
  exact .inl ⟨by simp [repB, h0, h1, h2, h3, h4, h5, h6, h7, h8, h9], by simp [h0], by simp [h1], by simp [h2], by simp [h3], by simp [h4], by simp [h5], by simp [h6], by simp [h7], by simp [h8], by simp [h9]⟩
theorem con_ways (o w : OR) : (conB o w = false ∧ (o.nom.toList == w.nom.toList) = true ∧ (o.hol.toList == w.hol.toList) = true ∧ (o.cls.toList == w.cls.toList) = true) ∨ (conB o w = true ∧ (o.nom.toList == w.nom.toList) = false) ∨ (conB o w = true ∧ (o.nom.toList == w.nom.toList) = true ∧ (o.hol.toList == w.hol.toList) = false) ∨ (conB o w = true ∧ (o.nom.toList == w.nom.toList) = true ∧ (o.hol.toList == w.hol.toList) = true ∧ (o.cls.toList == w.cls.toList) = false) := by
  by_cases h0 : o.nom.toList = w.nom.toList
  case neg =>
    exact (.inr (.inl ⟨by simp [conB, h0], by simp [h0]⟩))
  by_cases h1 : o.hol.toList = w.hol.toList
  case neg =>
    exact (.inr (.inr (.inl ⟨by simp [conB, h1], by simp [h0], by simp [h1]⟩)))
  by_cases h2 : o.cls.toList = w.cls.toList
  case neg =>
    exact (.inr (.inr (.inr ⟨by simp [conB, h2], by simp [h0], by simp [h1], by simp [h2]⟩)))
  exact .inl ⟨by simp [conB, h0, h1, h2], by simp [h0], by simp [h1], by simp [h2]⟩
theorem ncounts_any (x : OR) (k : Int) (fund : ByteArray) {v : Bool} (hv : cntO k fund x = v) (w : World) : Calls Tryz.prog 50 #[.agg #[.string x.key, .string x.nom, .string x.hol, .string x.fund, .string x.cls, .int .i64 x.kind, .int .i64 x.amt, .int .i64 x.units, .int .i64 x.t, .int .i64 x.known, .bool x.void], .int .i64 k, .string fund] w (RetB (.bool v) w) := by
  have HC := Lib.hid hv
  have HB0 := Lib.hid (BlkAt.new w (orV x) 57)
  have HBL := Lib.hid (bal0 w (.cells (orV x) 57))
  obtain ⟨key, nom, hol, fd, cls, kind, amt, units, t, known, void⟩ := x
  clear hv
  by_cases hk : known ≤ k
  · cases void
    · by_cases hf : fd = fund
      · have hq := key_t hf
        have hkk := hk
        have HV : Hid (v = true) := Lib.hid (by rw [← HC.out]; simp [cntO, hk, hf])
        clear hf HC
        go_enter Tryz.func50, Tryz.ntmps50
        go_wp2_with fail
        go_ret
        exact ⟨ret_bool HV.out.symm, HBL.out⟩
      · have hq := key_f hf
        have hkk := hk
        have HV : Hid (v = false) := Lib.hid (by rw [← HC.out]; simp [cntO, hk, hf])
        clear hf HC
        go_enter Tryz.func50, Tryz.ntmps50
        go_wp2_with fail
        go_ret
        exact ⟨ret_bool HV.out.symm, HBL.out⟩
    · have HV : Hid (v = true) := Lib.hid (by rw [← HC.out]; simp [cntO, hk])
      clear HC
      go_enter Tryz.func50, Tryz.ntmps50
      go_wp2_with fail
      go_ret
      exact ⟨ret_bool HV.out.symm, HBL.out⟩
  · have HV : Hid (v = false) := Lib.hid (by rw [← HC.out]; simp [cntO, hk])
    clear HC
    go_enter Tryz.func50, Tryz.ntmps50
    go_wp2_with fail
    go_ret
    exact ⟨ret_bool HV.out.symm, HBL.out⟩
/-- Whether a key stands ahead of a place. -/
def SeenR (l : List OR) (i : Nat) (v : Bool) : Prop := ∀ x, l[i]? = some x → (v = true ↔ ∃ j y, j < i ∧ l[j]? = some y ∧ y.key = x.key)
theorem nseen_any (l : List OR) (A : Option Addr) (cp : Nat) (i : Nat) (hi : i < l.length) (w : World) (h : OrAt w A l) (hl : l.length ≤ 4096) : Calls Tryz.prog 27 #[.slice A l.length cp, .int .i64 i] w (fun e w' => ∃ v, RetB (.bool v) w e w' ∧ SeenR l i v) := by
  obtain ⟨ob, oo, x, rfl, hx, -, -, -⟩ := h.get hi
  have HX := Lib.hid hx
  have H := Lib.hid h
  have hii := hi
  clear h hx
  go_enter Tryz.func27, Tryz.ntmps27
  go_wp2_with fail
  go_loopw [5] (fun iv wr => ∃ j : Nat, j ≤ i ∧ iv = .int .i64 j ∧ (∀ j' y, j' < j → l[j']? = some y → y.key ≠ x.key) ∧ OrAt wr (some ⟨ob, oo, none⟩) l ∧ Below w.heap.size w wr) (fun jv _ => i - (intOf jv).toNat)
  case atStart => exact ⟨0, by omega, rfl, fun _ _ h => by omega, H.out, Below.refl _ _⟩
  case round =>
    obtain ⟨j, hj, rfl, hno, hA, hB⟩ := hrel
    have HA := Lib.hid hA
    have HB := Lib.hid hB
    have HNO := Lib.hid hno
    clear hA hB H hno
    by_cases hji : j < i
    · obtain ⟨y, hy⟩ : ∃ y, l[j]? = some y := ⟨_, List.getElem?_eq_getElem (by omega)⟩
      obtain ⟨q0, -⟩ := HA.out.at HX.out
      obtain ⟨r0, -⟩ := HA.out.at hy
      have HY := Lib.hid hy
      clear hy
      by_cases hk : y.key = x.key
      · have hq := key_t hk
        have HK := Lib.hid hk
        clear hk
        go_wp2_with fail
        go_quiet (fail)
        go_wp2_with fail
        go_ret
        refine ⟨true, ⟨rfl, bnext HB.out (Go.below_drewN (Below.refl _ _) _)⟩, fun x' hx' => ?_⟩
        rw [HX.out] at hx'
        injection hx' with hx'
        subst hx'
        exact ⟨fun _ => ⟨j, y, hji, HY.out, HK.out⟩, fun _ => rfl⟩
      · have hq := key_f hk
        have HK := Lib.hid hk
        clear hk
        go_wp2_with fail
        go_quiet (fail)
        go_wp2_with fail
        go_roundw
        case rel =>
          refine ⟨j + 1, by omega, by go_num, fun j' y' h1 h2 => ?_, HA.out.below (Go.below_drewN (Below.refl _ _) _), bnext HB.out (Go.below_drewN (Below.refl _ _) _)⟩
          by_cases hjj : j' = j
          · subst hjj
            rw [HY.out] at h2
            injection h2 with h2
            subst h2
            exact HK.out
          · exact HNO.out j' y' (by omega) h2
        case measure => simp [intOf]; omega
    · obtain rfl : j = i := by omega
      go_wp2_with fail
      go_ret
      refine ⟨false, ⟨rfl, HB.out⟩, fun x' hx' => ?_⟩
      rw [HX.out] at hx'
      injection hx' with hx'
      subst hx'
      refine ⟨fun h => (by cases h), ?_⟩
      rintro ⟨j', y, h1, h2, h3⟩
      exact absurd h3 (HNO.out j' y h1 h2)
/-- What the document's run goes on with: the statuses in block gs, its arguments in blocks g and g + 1. -/
structure RB (P : DPar) (w W : World) (gs : Nat) (st : Nat → Int) (g : Nat) : Prop where
  sb : BlkAt W gs (stA P.l.length st) 3
  below : Below w.heap.size w W
  hs : w.heap.size ≤ gs
  bs : BlkAt W g (sV P.s) 28
  bp : BlkAt W (g + 1) (pV P.z P.zA P.zc P.c P.cA P.cc) 37
  ns : g ≠ gs
  np : g + 1 ≠ gs
section
variable {P : DPar} {w W W' : World} {gs g : Nat} {st : Nat → Int}
theorem RB.next (h : RB P w W gs st g) (k : Below W.heap.size W W') : RB P w W' gs st g := ⟨h.sb.next k, bnext h.below k, h.hs, h.bs.next k, h.bp.next k, h.ns, h.np⟩
theorem RB.setS (h : RB P w W gs st g) (i : Nat) (v : Int) : RB P w (W.setCell ⟨gs, i, none⟩ (.int .i64 v)) gs (upS st i v) g :=
  ⟨(h.sb.cellSet i _).is (stA_set _ _ _ _), h.below.setCell h.hs _, h.hs, h.bs.cellFar i _ h.ns, h.bp.cellFar i _ h.np, h.ns, h.np⟩
theorem RB.eqS {st' : Nat → Int} (h : RB P w W gs st g) (e : st = st') : RB P w W gs st' g := e ▸ h
end
/-- .. with a version in block G. -/
structure RX (P : DPar) (w W : World) (gs : Nat) (st : Nat → Int) (g G : Nat) (o : OR) : Prop where
  rb : RB P w W gs st g
  ob : BlkAt W G (orV o) 57
  ne : G ≠ gs
section
variable {P : DPar} {w W W' : World} {gs g G : Nat} {st : Nat → Int} {o : OR}
theorem RX.next (h : RX P w W gs st g G o) (k : Below W.heap.size W W') : RX P w W' gs st g G o := ⟨h.rb.next k, h.ob.next k, h.ne⟩
theorem RX.setS (h : RX P w W gs st g G o) (i : Nat) (v : Int) : RX P w (W.setCell ⟨gs, i, none⟩ (.int .i64 v)) gs (upS st i v) g G o := ⟨h.rb.setS i v, h.ob.cellFar i _ h.ne, h.ne⟩
end
/-- What a version does, the first of its key or behind a withdrawal. -/
def RNone (P : DPar) (o : OR) (st st' : Nat → Int) (i : Nat) (now' : Option (Nat × Int)) : Prop :=
  (o.void = true ∧ st' = upS st i 6 ∧ now' = none) ∨
  (o.void = false ∧ (P.fr o.t).2 ≠ 0 ∧ st' = upS st i 4 ∧ now' = none) ∨
  (o.void = false ∧ (P.fr o.t).2 = 0 ∧ st' = upS st i 1 ∧ now' = some (i, (P.fr o.t).1))
/-- What a version does that is in time, not void, and not the same again. -/
def RCon (P : DPar) (o : OR) (a : Nat) (d : Int) (wv : OR) (st st' : Nat → Int) (i : Nat) (now' : Option (Nat × Int)) : Prop :=
  (conB o wv = true ∧ st' = upS st i 5 ∧ now' = some (a, d)) ∨
  (conB o wv = false ∧ (P.fr o.t).2 ≠ 0 ∧ st' = upS st i 4 ∧ now' = some (a, d)) ∨
  (conB o wv = false ∧ (P.fr o.t).2 = 0 ∧ st' = upS (upS st i 1) a 2 ∧ now' = some (i, (P.fr o.t).1))
/-- What a version does where wv is current, at place a, with day d. -/
def RSome (P : DPar) (o : OR) (a : Nat) (d : Int) (wv : OR) (st st' : Nat → Int) (i : Nat) (now' : Option (Nat × Int)) : Prop :=
  ((P.dl d).1 < o.t ∧ st' = upS st i 4 ∧ now' = some (a, d)) ∨
  (o.t ≤ (P.dl d).1 ∧ o.void = true ∧ st' = upS (upS st i 1) a 3 ∧ now' = none) ∨
  (o.t ≤ (P.dl d).1 ∧ o.void = false ∧ ((repB o wv = true ∧ st' = upS st i 7 ∧ now' = some (a, d)) ∨ (repB o wv = false ∧ RCon P o a d wv st st' i now')))
section
variable {P : DPar} {k : Int} {fund key : ByteArray} {st : Nat → Int} {i : Nat} {o : OR}
theorem rnone_of (ho : P.l[i]? = some o) (hc : cntO k fund o = true) (hk : o.key = key) (hn : nowF P.fr P.dl P.l k fund key i = none) : RNone P o (stK P k fund key st i) (stK P k fund key st (i + 1)) i (nowF P.fr P.dl P.l k fund key (i + 1)) := by
  unfold RNone
  by_cases hv : o.void = true
  · have e : stepK P.fr P.dl P.l (nowF P.fr P.dl P.l k fund key i) o i = (none, 6, 0) := by rw [hn]; simp [stepK, hv]
    exact .inl ⟨hv, stK_one ho hc hk (by rw [e]), by rw [now_key ho hc hk, e]⟩
  · have hv2 : o.void = false := by simpa using hv
    by_cases hf : (P.fr o.t).2 = 0
    · have e : stepK P.fr P.dl P.l (nowF P.fr P.dl P.l k fund key i) o i = (some (i, (P.fr o.t).1), 1, 0) := by rw [hn]; simp [stepK, hv2, hf]
      exact .inr (.inr ⟨hv2, hf, stK_one ho hc hk (by rw [e]), by rw [now_key ho hc hk, e]⟩)
    · have e : stepK P.fr P.dl P.l (nowF P.fr P.dl P.l k fund key i) o i = (none, 4, 0) := by rw [hn]; simp [stepK, hv2, hf]
      exact .inr (.inl ⟨hv2, hf, stK_one ho hc hk (by rw [e]), by rw [now_key ho hc hk, e]⟩)
theorem rsome_of (ho : P.l[i]? = some o) (hc : cntO k fund o = true) (hk : o.key = key) {a : Nat} {d : Int} {wv : OR} (hn : nowF P.fr P.dl P.l k fund key i = some (a, d)) (hw : P.l[a]? = some wv) (hd : (P.dl d).2 = 0) : RSome P o a d wv (stK P k fund key st i) (stK P k fund key st (i + 1)) i (nowF P.fr P.dl P.l k fund key (i + 1)) := by
  unfold RSome
  have e0 : stepK P.fr P.dl P.l (nowF P.fr P.dl P.l k fund key i) o i = stepK P.fr P.dl P.l (some (a, d)) o i := by rw [hn]
  by_cases ht : (P.dl d).1 < o.t
  · have e : stepK P.fr P.dl P.l (nowF P.fr P.dl P.l k fund key i) o i = (some (a, d), 4, 0) := by rw [e0]; simp [stepK, ht]
    exact .inl ⟨ht, stK_one ho hc hk (by rw [e]), by rw [now_key ho hc hk, e]⟩
  · have ht2 : o.t ≤ (P.dl d).1 := by omega
    have hg : ¬((P.dl d).2 ≠ 0 ∨ (P.dl d).1 < o.t) := by omega
    by_cases hv : o.void = true
    · have e : stepK P.fr P.dl P.l (nowF P.fr P.dl P.l k fund key i) o i = (none, 1, 3) := by rw [e0]; simp only [stepK]; rw [if_neg hg, if_pos hv]
      exact .inr (.inl ⟨ht2, hv, stK_two ho hc hk hn (by rw [e]) (by decide), by rw [now_key ho hc hk, e]⟩)
    · have hv2 : o.void = false := by simpa using hv
      by_cases hr : repB o wv = true
      · have e : stepK P.fr P.dl P.l (nowF P.fr P.dl P.l k fund key i) o i = (some (a, d), 7, 0) := by rw [e0]; simp only [stepK]; rw [if_neg hg, if_neg hv, hw]; simp only; rw [if_pos hr]
        exact .inr (.inr ⟨ht2, hv2, .inl ⟨hr, stK_one ho hc hk (by rw [e]), by rw [now_key ho hc hk, e]⟩⟩)
      · have hr2 : repB o wv = false := by simpa using hr
        by_cases hb : conB o wv = true
        · have e : stepK P.fr P.dl P.l (nowF P.fr P.dl P.l k fund key i) o i = (some (a, d), 5, 0) := by rw [e0]; simp only [stepK]; rw [if_neg hg, if_neg hv, hw]; simp only; rw [if_neg hr, if_pos hb]
          exact .inr (.inr ⟨ht2, hv2, .inr ⟨hr2, .inl ⟨hb, stK_one ho hc hk (by rw [e]), by rw [now_key ho hc hk, e]⟩⟩⟩)
        · have hb2 : conB o wv = false := by simpa using hb
          by_cases hf : (P.fr o.t).2 = 0
          · have e : stepK P.fr P.dl P.l (nowF P.fr P.dl P.l k fund key i) o i = (some (i, (P.fr o.t).1), 1, 2) := by rw [e0]; simp only [stepK]; rw [if_neg hg, if_neg hv, hw]; simp only; rw [if_neg hr, if_neg hb, if_pos hf]
            exact .inr (.inr ⟨ht2, hv2, .inr ⟨hr2, .inr (.inr ⟨hb2, hf, stK_two ho hc hk hn (by rw [e]) (by decide), by rw [now_key ho hc hk, e]⟩)⟩⟩)
          · have e : stepK P.fr P.dl P.l (nowF P.fr P.dl P.l k fund key i) o i = (some (a, d), 4, 0) := by rw [e0]; simp only [stepK]; rw [if_neg hg, if_neg hv, hw]; simp only; rw [if_neg hr, if_neg hb, if_neg hf]
            exact .inr (.inr ⟨ht2, hv2, .inr ⟨hr2, .inr (.inl ⟨hb2, hf, stK_one ho hc hk (by rw [e]), by rw [now_key ho hc hk, e]⟩)⟩⟩)
end
/-- What run leaves. -/
def RunK (P : DPar) (k : Int) (fund key : ByteArray) (w : World) (gs : Nat) (st : Nat → Int) (e : Ending) (W' : World) : Prop :=
  ∃ a d : Int, e = .returned (.tuple #[.int .i64 a, .int .i64 d]) ∧ NowR (nowF P.fr P.dl P.l k fund key P.l.length) a d ∧ BlkAt W' gs (stA P.l.length (stK P k fund key st P.l.length)) 3 ∧ Below w.heap.size w W'
set_option maxRecDepth 1000000 in
theorem nrun_any {P : DPar} {w W : World} {gs : Nat} {st : Nat → Int} (hP : P.Ok w) (hfd : ∀ t, (P.fr t).2 = 0 → (P.dl (P.fr t).1).2 = 0) {k : Int} {fund key : ByteArray} (hfu : fund.size ≤ maxLen) (hks : key.size ≤ maxLen) (h0 : ∀ j, keyAt P.l key j = true → st j = 0)
    (hsb : BlkAt W gs (stA P.l.length st) 3) (hbl : Below w.heap.size w W) (hgs : w.heap.size ≤ gs) :
    Calls Tryz.prog 28 #[.slice P.A P.l.length P.cp, .int .i64 k, .string fund, .agg (sV P.s), .agg (pV P.z P.zA P.zc P.c P.cA P.cc), .string key, .slice (some ⟨gs, 0, none⟩) P.l.length P.l.length] W (RunK P k fund key w gs st) := by
  have hln := hP.ln
  have hlt := hsb.lt
  have HR0 := Lib.hid (show RB P w ((W.alloc (.cells (sV P.s) 28)).alloc (.cells (pV P.z P.zA P.zc P.c P.cA P.cc) 37)) gs (stK P k fund key st 0) W.heap.size from ⟨((hsb.al _).al _).is (by rw [stK_zero h0]), bal (bal hbl _) _, hgs, (BlkAt.new _ _ _).al _, BlkAt.newAt _ _ _ (by simp), by omega, by omega⟩)
  have HP := Lib.hid hP
  have HFD := Lib.hid hfd
  clear hP hfd h0 hsb hbl hgs
  go_enter Tryz.func28, Tryz.ntmps28
  go_wp2_with fail
  have hsz : W.heap.size = W.heap.size := rfl
  generalize (W.alloc _).alloc _ = W0 at *
  generalize W.heap.size = g at *
  clear hsz hlt
  obtain ⟨A, hAA⟩ : ∃ A, P.A = A := ⟨_, rfl⟩
  rw [hAA]
  go_wp2_with fail
  go_loopw [16, 17, 18] (fun av dv iv wr => ∃ (i : Nat) (a d : Int), i ≤ P.l.length ∧ av = .int .i64 a ∧ dv = .int .i64 d ∧ iv = .int .i64 i ∧ NowR (nowF P.fr P.dl P.l k fund key i) a d ∧ RB P w wr gs (stK P k fund key st i) g) (fun _ _ iv _ => P.l.length - (intOf iv).toNat)
  case atStart => exact ⟨0, -1, 0, by omega, rfl, rfl, rfl, rfl, HR0.out⟩
  case round =>
    obtain ⟨i, a, d, hi, rfl, rfl, rfl, hn, hR⟩ := hrel
    clear HR0
    have HN := Lib.hid hn
    have HR := Lib.hid hR
    clear hn hR
    by_cases hlt : i < P.l.length
    · obtain ⟨ob, oo, o', hA, -, -, -, -⟩ := HP.out.la.get hlt
      obtain rfl : A = some ⟨ob, oo, none⟩ := hAA.symm.trans hA
      clear hAA
      obtain ⟨o, ho⟩ : ∃ o, P.l[i]? = some o := ⟨_, List.getElem?_eq_getElem hlt⟩
      have hla : OrAt wr (some ⟨ob, oo, none⟩) P.l := by
        have h1 := HP.out.la.below HR.out.below
        rw [hA] at h1
        exact h1
      obtain ⟨q0, q1, q2, q3, q4, q5, q6, q7, q8, q9, q10⟩ := hla.at ho
      have HX := Lib.hid (show RX P w (wr.alloc (.cells #[.string o.key, .string o.nom, .string o.hol, .string o.fund, .string o.cls, .int .i64 o.kind, .int .i64 o.amt, .int .i64 o.units, .int .i64 o.t, .int .i64 o.known, .bool o.void] 57)) gs (stK P k fund key st i) g wr.heap.size o from ⟨HR.out.next (bal0 wr _), BlkAt.new _ _ _, by have := HR.out.sb.lt; omega⟩)
      have HO := Lib.hid ho
      clear ho hla
      by_cases hk : o.key = key
      · have hq := key_t hk
        obtain ⟨cv, hcv⟩ : ∃ v, cntO k fund o = v := ⟨_, rfl⟩
        have hcnt := fun w => ncounts_any o k fund hcv w
        cases cv
        · have HRN := Lib.hid (show RB P w (wr.alloc (.cells #[.string o.key, .string o.nom, .string o.hol, .string o.fund, .string o.cls, .int .i64 o.kind, .int .i64 o.amt, .int .i64 o.units, .int .i64 o.t, .int .i64 o.known, .bool o.void] 57)) gs (stK P k fund key st (i + 1)) g from HX.out.rb.eqS (stK_skip HO.out hcv).symm)
          have HNN := Lib.hid (show NowR (nowF P.fr P.dl P.l k fund key (i + 1)) a d by rw [now_no HO.out (.inr hcv)]; exact HN.out)
          clear hk hcv HR HN
          go_wp2_with fail
          refine (hcnt _).mono ?_
          rintro e w1 ⟨rfl, hb⟩
          have HRM := Lib.hid (HRN.out.next hb)
          clear hb hcnt q0 q1 q2 q3 q4 q5 q6 q7 q8 q9 q10
          go_wp2_with fail
          go_roundw
          case rel => exact ⟨i + 1, a, d, by omega, rfl, rfl, by go_num, HNN.out, HRM.out⟩
          case measure => simp [intOf]; omega
        · have HCV := Lib.hid hcv
          have HK := Lib.hid hk
          have HF := Lib.hid (HP.out.hfr o.t)
          obtain ⟨fv, hfv⟩ : ∃ v, (P.fr o.t).1 = v := ⟨_, rfl⟩
          obtain ⟨fe, hfe⟩ : ∃ v, (P.fr o.t).2 = v := ⟨_, rfl⟩
          rw [hfv, hfe] at HF
          clear hk hcv HR
          cases hnn : nowF P.fr P.dl P.l k fund key i with
          | none =>
            have hr := rnone_of (st := st) HO.out HCV.out HK.out hnn
            unfold RNone at hr
            rw [hfv, hfe] at hr
            have HRN := Lib.hid hr
            have ha : a = -1 := by have := HN.out; rw [hnn] at this; exact this
            subst ha
            clear hr hnn HN hfv hfe
            go_wp2_with fail
            refine (hcnt _).mono ?_
            rintro e w1 ⟨rfl, hb⟩
            have HX1 := Lib.hid (HX.out.next hb)
            clear hb hcnt q0 q1 q2 q3 q4 q5 q6 q7 q8 q9 q10 HX
            generalize wr.heap.size = G at *
            have g8 : w1.cell? ⟨G, 8, none⟩ = some (.int .i64 o.t) := HX1.out.ob.cell rfl
            go_wp2_with (first | ((with_reducible refine wpl_load rfl 28 _ rfl _ ?_ HX1.out.rb.bs (rowS _) ?_); exact rfl) | ((with_reducible refine wpl_load rfl 37 _ rfl _ ?_ HX1.out.rb.bp (rowP ..) ?_); exact rfl))
            refine (rForR P.zc P.cc HF.out (HP.out.za.below HX1.out.rb.below) (HP.out.ca.below HX1.out.rb.below)).mono ?_
            rintro e w2 ⟨rfl, hb⟩
            have HX2 := Lib.hid (HX1.out.next hb)
            clear hb HX1 g8
            have g10 : w2.cell? ⟨G, 10, none⟩ = some (.bool o.void) := HX2.out.ob.cell rfl
            have cst := HX2.out.rb.sb.cell (stA_at (stK P k fund key st i) hlt)
            have fst := HX2.out.rb.sb.fz i
            rcases HRN.out with ⟨hv, hs, hn'⟩ | ⟨hv, hf, hs, hn'⟩ | ⟨hv, hf, hs, hn'⟩
            · rw [hv] at g10
              have HS := Lib.hid ((HX2.out.rb.setS i 6).eqS hs.symm)
              have HNN := Lib.hid (show NowR (nowF P.fr P.dl P.l k fund key (i + 1)) (-1) d by rw [hn']; rfl)
              clear hv hs hn' HRN
              go_wp2_with fail
              go_roundw
              case rel => exact ⟨i + 1, -1, d, by omega, rfl, rfl, by go_num, HNN.out, HS.out⟩
              case measure => simp [intOf]; omega
            · rw [hv] at g10
              have hne : (fe != 0) = true := by rw [bne_iff_ne]; exact hf
              have HS := Lib.hid ((HX2.out.rb.setS i 4).eqS hs.symm)
              have HNN := Lib.hid (show NowR (nowF P.fr P.dl P.l k fund key (i + 1)) (-1) d by rw [hn']; rfl)
              clear hv hs hn' HRN hf
              go_wp2_with fail
              go_roundw
              case rel => exact ⟨i + 1, -1, d, by omega, rfl, rfl, by go_num, HNN.out, HS.out⟩
              case measure => simp [intOf]; omega
            · rw [hv] at g10
              subst hf
              have HS := Lib.hid ((HX2.out.rb.setS i 1).eqS hs.symm)
              have HNN := Lib.hid (show NowR (nowF P.fr P.dl P.l k fund key (i + 1)) i fv by rw [hn']; exact ⟨rfl, rfl⟩)
              clear hv hs hn' HRN
              go_wp2_with fail
              go_roundw
              case rel => exact ⟨i + 1, i, fv, by omega, rfl, rfl, by go_num, HNN.out, HS.out⟩
              case measure => simp [intOf]; omega
          | some p =>
            obtain ⟨x, y⟩ := p
            have hax := HN.out
            rw [hnn] at hax
            obtain ⟨rfl, rfl⟩ : a = (x : Int) ∧ d = y := hax
            obtain ⟨hxi, wv, hw, -, -, -, hwf⟩ := nowF_is hnn
            have hd : (P.dl d).2 = 0 := by
              have := HFD.out wv.t (by rw [hwf])
              rw [hwf] at this
              exact this
            have hr := rsome_of (st := st) HO.out HCV.out HK.out hnn hw hd
            obtain ⟨dv, hdv⟩ : ∃ v, (P.dl d).1 = v := ⟨_, rfl⟩
            have HDL := Lib.hid (HP.out.hdl d)
            rw [hdv, hd] at HDL
            unfold RSome at hr
            rw [hdv] at hr
            have hfv' := Lib.hid hfv
            have hfe' := Lib.hid hfe
            have HRN := Lib.hid hr
            have HW := Lib.hid hw
            have hxl : x < P.l.length := by omega
            have x0 : ¬ ((x : Int) < 0) := by omega
            have x1 : (x : Int) < (P.l.length : Int) := by omega
            have x2 : (0 : Int) ≤ (x : Int) := by omega
            clear hr hnn HN hfv hfe hw hwf hd hdv
            go_wp2_with fail
            refine (hcnt _).mono ?_
            rintro e w1 ⟨rfl, hb⟩
            have HX1 := Lib.hid (HX.out.next hb)
            clear hb hcnt q0 q1 q2 q3 q4 q5 q6 q7 q8 q9 q10 HX
            generalize wr.heap.size = G at *
            go_wp2_with (first | ((with_reducible refine wpl_load rfl 28 _ rfl _ ?_ HX1.out.rb.bs (rowS _) ?_); exact rfl) | ((with_reducible refine wpl_load rfl 37 _ rfl _ ?_ HX1.out.rb.bp (rowP ..) ?_); exact rfl))
            refine (rDeadlineV P.zc P.cc HDL.out (HP.out.za.below HX1.out.rb.below) (HP.out.ca.below HX1.out.rb.below)).mono ?_
            rintro e w2 ⟨rfl, hb⟩
            have HX2 := Lib.hid (HX1.out.next hb)
            clear hb HX1 HDL
            have hla2 : OrAt w2 (some ⟨ob, oo, none⟩) P.l := by
              have h1 := HP.out.la.below HX2.out.rb.below
              rw [hA] at h1
              exact h1
            obtain ⟨q0, q1, q2, q3, q4, q5, q6, q7, q8, q9, q10⟩ := HX2.out.ob.orq
            obtain ⟨-, -, -, -, -, -, -, -, -, r9, -⟩ := hla2.at HW.out
            have kob : ob < w2.heap.size := by
              obtain ⟨b', o'', x', e, -, hb', -⟩ := hla2.get hlt
              injection e with e
              injection e with e1 e2
              subst e1
              exact hb'
            have HX3 := Lib.hid (HX2.out.next (bal0 w2 (.cells #[.string o.key, .string o.nom, .string o.hol, .string o.fund, .string o.cls, .int .i64 o.kind, .int .i64 o.amt, .int .i64 o.units, .int .i64 o.t, .int .i64 wv.known, .bool o.void] 57)))
            have HC3 := Lib.hid (show BlkAt (w2.alloc (.cells #[.string o.key, .string o.nom, .string o.hol, .string o.fund, .string o.cls, .int .i64 o.kind, .int .i64 o.amt, .int .i64 o.units, .int .i64 o.t, .int .i64 wv.known, .bool o.void] 57)) w2.heap.size (orV ⟨o.key, o.nom, o.hol, o.fund, o.cls, o.kind, o.amt, o.units, o.t, wv.known, o.void⟩) 57 from BlkAt.new _ _ _)
            have HNC := Lib.hid (show w2.heap.size ≠ gs by have := HX2.out.rb.sb.lt; omega)
            clear hla2 HX2
            go_upto_region 17 with (fail)
            generalize w2.alloc _ = w3 at *
            generalize w2.heap.size = C at *
            clear q0 q1 q2 q3 q4 q5 q6 q7 q8 q9 q10 r9 kob
            have g8 : w3.cell? ⟨G, 8, none⟩ = some (.int .i64 o.t) := HX3.out.ob.cell rfl
            go_wp2_with (first | ((with_reducible refine wpl_load rfl 28 _ rfl _ ?_ HX3.out.rb.bs (rowS _) ?_); exact rfl) | ((with_reducible refine wpl_load rfl 37 _ rfl _ ?_ HX3.out.rb.bp (rowP ..) ?_); exact rfl))
            refine (rForR P.zc P.cc HF.out (HP.out.za.below HX3.out.rb.below) (HP.out.ca.below HX3.out.rb.below)).mono ?_
            rintro e w4 ⟨rfl, hb⟩
            have HX4 := Lib.hid (HX3.out.next hb)
            have HC4 := Lib.hid (HC3.out.next hb)
            clear hb HX3 HC3 g8 HF
            have g8 : w4.cell? ⟨G, 8, none⟩ = some (.int .i64 o.t) := HX4.out.ob.cell rfl
            have g10 : w4.cell? ⟨G, 10, none⟩ = some (.bool o.void) := HX4.out.ob.cell rfl
            rcases HRN.out with ⟨ht, hs, hn'⟩ | ⟨ht, hv, hs, hn'⟩ | ⟨ht, hv, hon⟩
            · have cst := HX4.out.rb.sb.cell (stA_at (stK P k fund key st i) hlt)
              have fst := HX4.out.rb.sb.fz i
              have HS := Lib.hid ((HX4.out.rb.setS i 4).eqS hs.symm)
              have HNN := Lib.hid (show NowR (nowF P.fr P.dl P.l k fund key (i + 1)) x d by rw [hn']; exact ⟨rfl, rfl⟩)
              clear hs hn' HRN 
              go_wp2_with fail
              go_roundw
              case rel => exact ⟨i + 1, x, d, by omega, rfl, rfl, by go_num, HNN.out, HS.out⟩
              case measure => simp [intOf]; omega
            · rw [hv] at g10
              have cst := HX4.out.rb.sb.cell (stA_at (stK P k fund key st i) hlt)
              have fst := HX4.out.rb.sb.fz i
              have s3 := (HX4.out.rb.setS i 1).sb.cell (stA_at _ hxl)
              have s4 := (HX4.out.rb.setS i 1).sb.fz x
              have HS := Lib.hid (((HX4.out.rb.setS i 1).setS x 3).eqS hs.symm)
              have HNN := Lib.hid (show NowR (nowF P.fr P.dl P.l k fund key (i + 1)) (-1) d by rw [hn']; rfl)
              clear hs hn' HRN hv
              go_wp2_with fail
              go_roundw
              case rel => exact ⟨i + 1, -1, d, by omega, rfl, rfl, by go_num, HNN.out, HS.out⟩
              case measure => simp [intOf]; omega
            · rw [hv] at g10
              have HON := Lib.hid hon
              have HV := Lib.hid hv
              clear hv hon HRN
              go_upto_region 23 with (fail)
              go_cut [122] from 123 to 128 (fun v we => v = .bool (repB o wv) ∧ RX P w we gs (stK P k fund key st i) g G o)
              case first =>
                obtain ⟨q0, q1, q2, q3, q4, q5, q6, q7, q8, q9, q10⟩ := HC4.out.orq
                obtain ⟨r0, r1, r2, r3, r4, r5, r6, r7, r8, r9, r10⟩ := (show OrAt w4 (some ⟨ob, oo, none⟩) P.l by
                  have h1 := HP.out.la.below HX4.out.rb.below
                  rw [hA] at h1
                  exact h1).at HW.out
                have HXD := Lib.hid (fun n : Nat => HX4.out.next (Go.below_drewN (Below.refl w4.heap.size w4) n))
                have HWY := Lib.hid (rep_ways o wv)
                clear g8 g10 HON HV HX4 HC4
                rcases HWY.out with ⟨hr, e0, e1, e2, e3, e4, e5, e6, e7, e8, e9⟩ | ⟨hr, e0⟩ | ⟨hr, e0, e1⟩ | ⟨hr, e0, e1, e2⟩ | ⟨hr, e0, e1, e2, e3⟩ | ⟨hr, e0, e1, e2, e3, e4⟩ | ⟨hr, e0, e1, e2, e3, e4, e5⟩ | ⟨hr, e0, e1, e2, e3, e4, e5, e6⟩ | ⟨hr, e0, e1, e2, e3, e4, e5, e6, e7⟩ | ⟨hr, e0, e1, e2, e3, e4, e5, e6, e7, e8⟩ | ⟨hr, e0, e1, e2, e3, e4, e5, e6, e7, e8, e9⟩
                all_goals
                  have HR := Lib.hid hr
                  clear hr HWY
                  go_quiet (fail)
                  go_wp2_with fail
                  go_meet
                  exact ⟨vb HR.out, HXD.out _⟩
              case rest =>
              obtain ⟨rfl, hX⟩ := hcut
              have HX5 := Lib.hid hX
              clear hX HX4 HC4 g8 g10
              have cst := HX5.out.rb.sb.cell (stA_at (stK P k fund key st i) hlt)
              have fst := HX5.out.rb.sb.fz i
              rcases HON.out with ⟨hrp, hs, hn'⟩ | ⟨hrp, hcon⟩
              · rw [hrp]
                have HS := Lib.hid ((HX5.out.rb.setS i 7).eqS hs.symm)
                have HNN := Lib.hid (show NowR (nowF P.fr P.dl P.l k fund key (i + 1)) x d by rw [hn']; exact ⟨rfl, rfl⟩)
                clear hs hn' HON hrp
                go_wp2_with fail
                go_roundw
                case rel => exact ⟨i + 1, x, d, by omega, rfl, rfl, by go_num, HNN.out, HS.out⟩
                case measure => simp [intOf]; omega
              · rw [hrp]
                have HCN := Lib.hid hcon
                clear hrp hcon HON cst fst
                go_upto_region 25 with (fail)
                go_cut [132] from 133 to 150 (fun v we => v = .bool (conB o wv) ∧ RX P w we gs (stK P k fund key st i) g G o)
                case first =>
                  obtain ⟨q0, q1, q2, q3, q4, q5, q6, q7, q8, q9, q10⟩ := HX5.out.ob.orq
                  obtain ⟨r0, r1, r2, r3, r4, r5, r6, r7, r8, r9, r10⟩ := (show OrAt _ (some ⟨ob, oo, none⟩) P.l by
                    have h1 := HP.out.la.below HX5.out.rb.below
                    rw [hA] at h1
                    exact h1).at HW.out
                  have HXD := Lib.hid (fun n : Nat => HX5.out.next (Go.below_drewN (Below.refl _ _) n))
                  have HWY := Lib.hid (con_ways o wv)
                  clear HCN HX5
                  rcases HWY.out with ⟨hr, e0, e1, e2⟩ | ⟨hr, e0⟩ | ⟨hr, e0, e1⟩ | ⟨hr, e0, e1, e2⟩
                  all_goals
                    have HR := Lib.hid hr
                    clear hr HWY
                    go_quiet (fail)
                    go_wp2_with fail
                    go_meet
                    exact ⟨vb HR.out, HXD.out _⟩
                case rest =>
                obtain ⟨rfl, hX⟩ := hcut
                have HX6 := Lib.hid hX
                clear hX HX5
                have cst := HX6.out.rb.sb.cell (stA_at (stK P k fund key st i) hlt)
                have fst := HX6.out.rb.sb.fz i
                have HCN2 := HCN.out
                unfold RCon at HCN2
                rw [hfe'.out, hfv'.out] at HCN2
                rcases HCN2 with ⟨hcn, hs, hn'⟩ | ⟨hcn, hfe, hs, hn'⟩ | ⟨hcn, hfe, hs, hn'⟩
                · rw [hcn]
                  have HS := Lib.hid ((HX6.out.rb.setS i 5).eqS hs.symm)
                  have HNN := Lib.hid (show NowR (nowF P.fr P.dl P.l k fund key (i + 1)) x d by rw [hn']; exact ⟨rfl, rfl⟩)
                  clear hs hn' HCN hcn
                  go_wp2_with fail
                  go_roundw
                  case rel => exact ⟨i + 1, x, d, by omega, rfl, rfl, by go_num, HNN.out, HS.out⟩
                  case measure => simp [intOf]; omega
                · rw [hcn]
                  have hne : (fe != 0) = true := by rw [bne_iff_ne]; exact hfe
                  have HS := Lib.hid ((HX6.out.rb.setS i 4).eqS hs.symm)
                  have HNN := Lib.hid (show NowR (nowF P.fr P.dl P.l k fund key (i + 1)) x d by rw [hn']; exact ⟨rfl, rfl⟩)
                  clear hs hn' HCN hcn hfe
                  go_wp2_with fail
                  go_roundw
                  case rel => exact ⟨i + 1, x, d, by omega, rfl, rfl, by go_num, HNN.out, HS.out⟩
                  case measure => simp [intOf]; omega
                · rw [hcn]
                  subst hfe
                  have s3 := (HX6.out.rb.setS i 1).sb.cell (stA_at _ hxl)
                  have s4 := (HX6.out.rb.setS i 1).sb.fz x
                  have HS := Lib.hid (((HX6.out.rb.setS i 1).setS x 2).eqS hs.symm)
                  have HNN := Lib.hid (show NowR (nowF P.fr P.dl P.l k fund key (i + 1)) i fv by rw [hn']; exact ⟨rfl, rfl⟩)
                  clear hs hn' HCN hcn
                  go_wp2_with fail
                  go_roundw
                  case rel => exact ⟨i + 1, i, fv, by omega, rfl, rfl, by go_num, HNN.out, HS.out⟩
                  case measure => simp [intOf]; omega
      · have hq := key_f hk
        have HRN := Lib.hid (show RB P w (wr.alloc (.cells #[.string o.key, .string o.nom, .string o.hol, .string o.fund, .string o.cls, .int .i64 o.kind, .int .i64 o.amt, .int .i64 o.units, .int .i64 o.t, .int .i64 o.known, .bool o.void] 57)) gs (stK P k fund key st (i + 1)) g from HX.out.rb.eqS (stK_other HO.out hk).symm)
        have HNN := Lib.hid (show NowR (nowF P.fr P.dl P.l k fund key (i + 1)) a d by rw [now_no HO.out (.inl hk)]; exact HN.out)
        clear hk HR HN
        go_wp2_with fail
        go_roundw
        case rel => exact ⟨i + 1, a, d, by omega, rfl, rfl, by go_num, HNN.out, HRN.out⟩
        case measure => simp [intOf]; omega
    · obtain rfl : i = P.l.length := by omega
      go_wp2_with fail
      go_ret2
      exact ⟨a, d, rfl, HN.out, HR.out.sb, HR.out.below⟩
end Go.Proofs.YtbfllcfjgpkpaaaGreat
