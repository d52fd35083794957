/-
  How dealing orders lie in memory.
  Single orders: the program's judgement.
  Books of orders: the program's judgement.
-/
import Derived.Test.YtbfllcfjgpkpaaaGreatIntPlain
import Derived.Test.YtbfllcfjgpkpaaaGreatMem
import Derived.Test.YtbfllcfjgpkpaaaGreatSusWalk
namespace Go.Proofs.YtbfllcfjgpkpaaaGreat
section
open Go.RowKit
set_option linter.unusedVariables false
def orV (x : OR) : Array Value := #[.string x.key, .string x.nom, .string x.hol, .string x.fund, .string x.cls, .int .i64 x.kind, .int .i64 x.amt, .int .i64 x.units, .int .i64 x.t, .int .i64 x.known, .bool x.void]
theorem rowOrd : RowT Tryz.prog 57 11 := ⟨⟨_, Tryz.underlying57, rfl⟩, by kernel_rfl⟩
theorem rowOr (x : OR) : RowV Tryz.prog 57 (orV x) := ⟨rowOrd, by simp [orV, Value.oneCell']⟩
/-- Its texts are no longer than texts can be. -/
structure OR.small (x : OR) : Prop where
  key : x.key.size ≤ maxLen
  nom : x.nom.size ≤ maxLen
  hol : x.hol.size ≤ maxLen
  fund : x.fund.size ≤ maxLen
  cls : x.cls.size ≤ maxLen
/-- A list of orders lies behind A. -/
structure OrAt (W : World) (A : Option Addr) (l : List OR) : Prop where
  recs : RecsAt W A 11 (l.map fun x => (orV x).toList)
  small : ∀ x ∈ l, x.small
theorem OrAt.below {W W' : World} {A : Option Addr} {l : List OR} (h : OrAt W A l) (hb : Below W.heap.size W W') : OrAt W' A l := ⟨h.recs.below hb, h.small⟩
theorem OrAt.ln {W : World} {A : Option Addr} {l : List OR} (h : OrAt W A l) : l.length ≤ 9223372036854775807 := by simpa using h.recs.ln
/-- Its cells, block by block. -/
def OrQ (W : World) (b o : Nat) (x : OR) : Prop :=
  W.cell? ⟨b, o, none⟩ = some (.string x.key) ∧ W.cell? ⟨b, o + 1, none⟩ = some (.string x.nom) ∧ W.cell? ⟨b, o + 2, none⟩ = some (.string x.hol) ∧ W.cell? ⟨b, o + 3, none⟩ = some (.string x.fund) ∧ W.cell? ⟨b, o + 4, none⟩ = some (.string x.cls) ∧
  W.cell? ⟨b, o + 5, none⟩ = some (.int .i64 x.kind) ∧ W.cell? ⟨b, o + 6, none⟩ = some (.int .i64 x.amt) ∧ W.cell? ⟨b, o + 7, none⟩ = some (.int .i64 x.units) ∧ W.cell? ⟨b, o + 8, none⟩ = some (.int .i64 x.t) ∧ W.cell? ⟨b, o + 9, none⟩ = some (.int .i64 x.known) ∧ W.cell? ⟨b, o + 10, none⟩ = some (.bool x.void)
/-- The cells of one of them. -/
theorem OrAt.at {W : World} {b o : Nat} {l : List OR} (h : OrAt W (some ⟨b, o, none⟩) l) {i : Nat} {x : OR} (hx : l[i]? = some x) : OrQ W b (o + i * 11) x := by
  obtain ⟨b', o', hA, hlt, hc⟩ := h.recs.rows i (orV x).toList (by rw [List.getElem?_map, hx]; rfl)
  injection hA with e
  injection e with e1 e2
  subst e1 e2
  exact ⟨hc 0 _ rfl, hc 1 _ rfl, hc 2 _ rfl, hc 3 _ rfl, hc 4 _ rfl, hc 5 _ rfl, hc 6 _ rfl, hc 7 _ rfl, hc 8 _ rfl, hc 9 _ rfl, hc 10 _ rfl⟩
theorem OrAt.get {W : World} {A : Option Addr} {l : List OR} (h : OrAt W A l) {i : Nat} (hi : i < l.length) : ∃ b o x, A = some ⟨b, o, none⟩ ∧ l[i]? = some x ∧ b < W.heap.size ∧ x.small ∧ OrQ W b (o + i * 11) x := by
  have hx : l[i]? = some l[i] := List.getElem?_eq_getElem hi
  obtain ⟨b, o, rfl, hlt, hc⟩ := h.recs.rows i (orV l[i]).toList (by rw [List.getElem?_map, hx]; rfl)
  exact ⟨b, o, l[i], rfl, hx, hlt, h.small _ (List.getElem_mem hi), h.at hx⟩
theorem BlkAt.orq {W : World} {b : Nat} {x : OR} {t : TypeId} (h : BlkAt W b (orV x) t) : W.cell? ⟨b, 0, none⟩ = some (.string x.key) ∧ W.cell? ⟨b, 1, none⟩ = some (.string x.nom) ∧ W.cell? ⟨b, 2, none⟩ = some (.string x.hol) ∧ W.cell? ⟨b, 3, none⟩ = some (.string x.fund) ∧ W.cell? ⟨b, 4, none⟩ = some (.string x.cls) ∧
  W.cell? ⟨b, 5, none⟩ = some (.int .i64 x.kind) ∧ W.cell? ⟨b, 6, none⟩ = some (.int .i64 x.amt) ∧ W.cell? ⟨b, 7, none⟩ = some (.int .i64 x.units) ∧ W.cell? ⟨b, 8, none⟩ = some (.int .i64 x.t) ∧ W.cell? ⟨b, 9, none⟩ = some (.int .i64 x.known) ∧ W.cell? ⟨b, 10, none⟩ = some (.bool x.void) :=
  ⟨h.cell rfl, h.cell rfl, h.cell rfl, h.cell rfl, h.cell rfl, h.cell rfl, h.cell rfl, h.cell rfl, h.cell rfl, h.cell rfl, h.cell rfl⟩
end
section
open Go.RowKit
set_option linter.unusedVariables false
set_option maxHeartbeats 2000000
theorem owithin_any (n m : Int) (w : World) : Calls Tryz.prog 95 #[.int .i64 n, .int .i64 m] w (RetW (.bool (inB n m)) w) := by
  by_cases h1 : 1 ≤ n
  · go_enter Tryz.func95, Tryz.ntmps95
    go_wp2
    go_ret
    exact ⟨ret_bool (by simp [inB, h1]), rfl⟩
  · have g1 : decide (1 ≤ n) = false := by simpa using h1
    go_enter Tryz.func95, Tryz.ntmps95
    go_wp2
    go_ret
    exact ⟨ret_bool (by simp [inB]; omega), rfl⟩
theorem owithin_is {n m : Int} {v : Bool} (h : inB n m = v) (w : World) : Calls Tryz.prog 95 #[.int .i64 n, .int .i64 m] w (RetW (.bool v) w) := by
  subst h
  exact owithin_any n m w
theorem beqd (a b : Int) : (a == b) = decide (a = b) := by rw [Bool.eq_iff_iff]; simp
def accB (nom hol : ByteArray) : Bool := nmB hol && (decide (nom.toList = []) || nmB nom)
theorem oacc_any (hN : NameC 41) (nom hol : ByteArray) (h1 : nom.size ≤ maxLen) (h2 : hol.size ≤ maxLen) (w : World) : Calls Tryz.prog 96 #[.agg #[.string nom, .string hol]] w (RetB (.bool (accB nom hol)) w) := by
  obtain ⟨c, hc⟩ : ∃ c, accB nom hol = c := ⟨_, rfl⟩
  rw [hc]
  have HC := Lib.hid hc
  clear hc
  have HB0 := BlkAt.new w #[.string nom, .string hol] 55
  cases hh : nmB hol
  · have hn := hN hol _ hh h2
    have HH := Lib.hid hh
    clear hh HB0
    go_enter Tryz.func96, Tryz.ntmps96
    go_wp2_with (go_at_call 41; refine (hn _).mono ?_; rintro e w1 ⟨rfl, hb⟩)
    go_ret
    exact ⟨ret_bool (by rw [← HC.out]; simp [accB, HH.out]), bnext (bal0 _ _) hb⟩
  have hn := hN hol _ hh h2
  have HH := Lib.hid hh
  clear hh
  by_cases he : nom.toList = []
  · have HE := Lib.hid he
    have he2 : nom.toList.isEmpty = true := by rw [he]; rfl
    clear he
    go_enter Tryz.func96, Tryz.ntmps96
    go_wp2_with (go_at_call 41; refine (hn _).mono ?_; rintro e w1 ⟨rfl, hb⟩; have q0 := (HB0.next hb).cell (i := 0) rfl; have q1 := (HB0.next hb).cell (i := 1) rfl)
    go_ret
    exact ⟨ret_bool (by rw [← HC.out]; simp [accB, HH.out, HE.out]), bnext (bal0 _ _) hb⟩
  · have HE := Lib.hid he
    have he2 : nom.toList.isEmpty = false := by simpa using he
    clear he
    obtain ⟨v, hv⟩ : ∃ v, nmB nom = v := ⟨_, rfl⟩
    have hn2 := hN nom _ hv h1
    have HV := Lib.hid hv
    clear hv
    go_enter Tryz.func96, Tryz.ntmps96
    go_wp2_with fail
    refine (hn _).mono ?_
    rintro e w1 ⟨rfl, hb⟩
    have q0 := (HB0.next hb).cell (i := 0) rfl
    have q1 := (HB0.next hb).cell (i := 1) rfl
    clear HB0
    go_wp2_with fail
    refine (hn2 _).mono ?_
    rintro e w2 ⟨rfl, hb2⟩
    go_wp2_with fail
    go_ret
    exact ⟨ret_bool (by rw [← HC.out]; simp [accB, HH.out, HE.out, HV.out]), bnext (bnext (bal0 _ _) hb) hb2⟩
theorem oasked_any (x : OR) (w : World) : Calls Tryz.prog 97 #[.agg #[.string x.key, .string x.nom, .string x.hol, .string x.fund, .string x.cls, .int .i64 x.kind, .int .i64 x.amt, .int .i64 x.units, .int .i64 x.t, .int .i64 x.known, .bool x.void]] w (RetB (.bool x.asks) w) := by
  obtain ⟨c, hc⟩ : ∃ c, x.asks = c := ⟨_, rfl⟩
  rw [hc]
  have HC := Lib.hid hc
  clear hc
  obtain ⟨key, nom, hol, fund, cls, kind, amt, units, t, known, void⟩ := x
  by_cases k1 : kind = 1 ∨ kind = 4
  · obtain ⟨v, hv⟩ : ∃ v, inB amt 1000000000000000 = v := ⟨_, rfl⟩
    have HV : Hid (c = (v && decide (units = 0))) := Lib.hid (by rw [← HC.out]; simp only [OR.asks, k1, if_true, hv])
    have hw := fun w => owithin_is hv w
    clear HC hv
    rcases k1 with rfl | rfl
    all_goals
      cases v
      all_goals
        go_enter Tryz.func97, Tryz.ntmps97
        go_wp2_with (go_at_call 95; refine (hw _).mono ?_; rintro e w1 ⟨rfl, rfl⟩)
        go_ret
        exact ⟨ret_bool (by rw [HV.out]; simp [beqd]), bal0 _ _⟩
  · by_cases k2 : kind = 2 ∨ kind = 3
    · obtain ⟨v, hv⟩ : ∃ v, inB units 1000000000000000 = v := ⟨_, rfl⟩
      have HV : Hid (c = (v && decide (amt = 0))) := Lib.hid (by rw [← HC.out]; simp only [OR.asks, k1, k2, if_true, if_false, hv])
      have hw := fun w => owithin_is hv w
      clear HC hv k1
      rcases k2 with rfl | rfl
      all_goals
        cases v
        all_goals
          go_enter Tryz.func97, Tryz.ntmps97
          go_wp2_with (go_at_call 95; refine (hw _).mono ?_; rintro e w1 ⟨rfl, rfl⟩)
          go_ret
          exact ⟨ret_bool (by rw [HV.out]; simp [beqd]), bal0 _ _⟩
    · by_cases k5 : kind = 5
      · have HV : Hid (c = decide (amt = 0 ∧ units = 0)) := Lib.hid (by rw [← HC.out]; subst k5; simp [OR.asks])
        subst k5
        clear HC k1 k2
        by_cases ha : amt = 0
        · have ga : (amt == 0) = true := by simpa using ha
          go_enter Tryz.func97, Tryz.ntmps97
          go_wp2_with fail
          go_ret
          exact ⟨ret_bool (by rw [HV.out]; simp [ha, beqd]), bal0 _ _⟩
        · have ga : (amt == 0) = false := by simpa using ha
          go_enter Tryz.func97, Tryz.ntmps97
          go_wp2_with fail
          go_ret
          exact ⟨ret_bool (by rw [HV.out]; simp [ha]), bal0 _ _⟩
      · have HV : Hid (c = false) := Lib.hid (by rw [← HC.out]; simp only [OR.asks, k1, k2, k5, if_false])
        have g1 : (kind == 1) = false := beq_eq_false_iff_ne.2 (by omega)
        have g2 : (kind == 2) = false := beq_eq_false_iff_ne.2 (by omega)
        have g3 : (kind == 3) = false := beq_eq_false_iff_ne.2 (by omega)
        have g4 : (kind == 4) = false := beq_eq_false_iff_ne.2 (by omega)
        have g5 : (kind == 5) = false := beq_eq_false_iff_ne.2 (by omega)
        clear HC k1 k2 k5
        go_enter Tryz.func97, Tryz.ntmps97
        go_wp2_with fail
        go_ret
        exact ⟨ret_bool HV.out.symm, bal0 _ _⟩
theorem knB_in (k : Int) : inB k 2147483647 = knB k := rfl
def OR.err (x : OR) : Int := if x.ok = true then 0 else 230
/-- The part of a judgement that looks at the key and the times. -/
def OR.head (x : OR) : Bool := nmB x.key && decide (0 ≤ x.t ∧ x.t ≤ 105190559) && knB x.known
theorem ok_head (x : OR) : x.ok = (x.head && (if x.void = true then x.bare else accB x.nom x.hol && nmB x.fund && nmB x.cls && x.asks)) := rfl
set_option maxRecDepth 100000 in
theorem ochk_any (hN : NameC 41) (x : OR) (hs : x.small) (w : World) : Calls Tryz.prog 64 #[.agg #[.string x.key, .string x.nom, .string x.hol, .string x.fund, .string x.cls, .int .i64 x.kind, .int .i64 x.amt, .int .i64 x.units, .int .i64 x.t, .int .i64 x.known, .bool x.void]] w (RetB (.int .i64 x.err) w) := by
  obtain ⟨c, hc⟩ : ∃ c, x.err = c := ⟨_, rfl⟩
  rw [hc]
  have HC := Lib.hid hc
  clear hc
  have HB0 := Lib.hid (BlkAt.new w (orV x) 57)
  cases hk : nmB x.key
  · have hn := hN x.key _ hk hs.key
    have HE : Hid (c = 230) := Lib.hid (by rw [← HC.out]; simp [OR.err, OR.ok, hk])
    clear hk HC
    go_enter Tryz.func64, Tryz.ntmps64
    go_wp2_with (go_at_call 41; refine (hn _).mono ?_; rintro e w1 ⟨rfl, hb⟩)
    go_ret
    exact ⟨ret_int HE.out.symm, bnext (bal0 _ _) hb⟩
  have hn := hN x.key _ hk hs.key
  have HK := Lib.hid hk
  clear hk
  by_cases ht : 0 ≤ x.t ∧ x.t ≤ 105190559
  · obtain ⟨t0, t1⟩ := ht
    cases hkn : knB x.known
    · have hw := fun w => owithin_is (hkn : inB x.known 2147483647 = false) w
      have HE : Hid (c = 230) := Lib.hid (by rw [← HC.out]; simp [OR.err, OR.ok, hkn])
      clear hkn HC
      go_enter Tryz.func64, Tryz.ntmps64
      go_wp2_with fail
      refine (hn _).mono ?_
      rintro e w1 ⟨rfl, hb⟩
      obtain ⟨q0, q1, q2, q3, q4, q5, q6, q7, q8, q9, q10⟩ := (HB0.out.next hb).orq
      go_wp2_with fail
      refine (hw _).mono ?_
      rintro e w2 ⟨rfl, rfl⟩
      go_wp2_with fail
      go_ret
      exact ⟨ret_int HE.out.symm, bnext (bal0 _ _) hb⟩
    have hw := fun w => owithin_is (hkn : inB x.known 2147483647 = true) w
    have HH : Hid (x.head = true) := Lib.hid (by simp [OR.head, HK.out, hkn, t0, t1])
    clear hkn HK
    obtain ⟨key, nom, hol, fund, cls, kind, amt, units, t, known, void⟩ := x
    cases void
    · have HS : Hid (c = if (accB nom hol && nmB fund && nmB cls && OR.asks ⟨key, nom, hol, fund, cls, kind, amt, units, t, known, false⟩) = true then 0 else 230) := Lib.hid (by rw [← HC.out, OR.err, ok_head, HH.out]; simp)
      clear HC HH
      obtain ⟨va, hva⟩ : ∃ v, accB nom hol = v := ⟨_, rfl⟩
      obtain ⟨vf, hvf⟩ : ∃ v, nmB fund = v := ⟨_, rfl⟩
      obtain ⟨vc, hvc⟩ : ∃ v, nmB cls = v := ⟨_, rfl⟩
      obtain ⟨vq, hvq⟩ : ∃ v, OR.asks ⟨key, nom, hol, fund, cls, kind, amt, units, t, known, false⟩ = v := ⟨_, rfl⟩
      have ca := fun w => oacc_any hN nom hol hs.nom hs.hol w
      have cf := hN fund _ hvf hs.fund
      have cc := hN cls _ hvc hs.cls
      have cq := fun w => oasked_any ⟨key, nom, hol, fund, cls, kind, amt, units, t, known, false⟩ w
      rw [hva] at ca
      rw [hvq] at cq
      rw [hva, hvf, hvc, hvq] at HS
      clear hva hvf hvc hvq
      go_enter Tryz.func64, Tryz.ntmps64
      go_wp2_with fail
      refine (hn _).mono ?_
      rintro e w1 ⟨rfl, hb1⟩
      have HB1 := Lib.hid (HB0.out.next hb1)
      have HW1 := Lib.hid (bnext (bal0 w _) hb1)
      obtain ⟨q0, q1, q2, q3, q4, q5, q6, q7, q8, q9, q10⟩ := HB1.out.orq
      clear hb1 HB0
      go_wp2_with fail
      refine (hw _).mono ?_
      rintro e w2 ⟨rfl, rfl⟩
      go_wp2_with fail
      refine (ca _).mono ?_
      rintro e w3 ⟨rfl, hb3⟩
      have HB3 := Lib.hid (HB1.out.next hb3)
      have HW3 := Lib.hid (bnext HW1.out hb3)
      clear q0 q1 q2 q3 q4 q5 q6 q7 q8 q9 q10 hb3 HB1 HW1
      obtain ⟨q0, q1, q2, q3, q4, q5, q6, q7, q8, q9, q10⟩ := HB3.out.orq
      cases va
      · go_wp2_with fail
        go_ret
        exact ⟨ret_int (by rw [HS.out]; rfl), HW3.out⟩
      go_wp2_with fail
      refine (cf _).mono ?_
      rintro e w4 ⟨rfl, hb4⟩
      have HB4 := Lib.hid (HB3.out.next hb4)
      have HW4 := Lib.hid (bnext HW3.out hb4)
      clear q0 q1 q2 q3 q4 q5 q6 q7 q8 q9 q10 hb4 HB3 HW3
      obtain ⟨q0, q1, q2, q3, q4, q5, q6, q7, q8, q9, q10⟩ := HB4.out.orq
      cases vf
      · go_wp2_with fail
        go_ret
        exact ⟨ret_int (by rw [HS.out]; rfl), HW4.out⟩
      go_wp2_with fail
      refine (cc _).mono ?_
      rintro e w5 ⟨rfl, hb5⟩
      have HB5 := Lib.hid (HB4.out.next hb5)
      have HW5 := Lib.hid (bnext HW4.out hb5)
      clear q0 q1 q2 q3 q4 q5 q6 q7 q8 q9 q10 hb5 HB4 HW4
      obtain ⟨q0, q1, q2, q3, q4, q5, q6, q7, q8, q9, q10⟩ := HB5.out.orq
      cases vc
      · go_wp2_with fail
        go_ret
        exact ⟨ret_int (by rw [HS.out]; rfl), HW5.out⟩
      go_wp2_with fail
      refine (cq _).mono ?_
      rintro e w6 ⟨rfl, hb6⟩
      have HW6 := Lib.hid (bnext HW5.out hb6)
      clear q0 q1 q2 q3 q4 q5 q6 q7 q8 q9 q10 hb6 HB5 HW5
      cases vq
      all_goals
        go_wp2_with fail
        go_ret
        exact ⟨ret_int (by rw [HS.out]; rfl), HW6.out⟩
    · have HS : Hid (c = if OR.bare ⟨key, nom, hol, fund, cls, kind, amt, units, t, known, true⟩ = true then 0 else 230) := Lib.hid (by rw [← HC.out, OR.err, ok_head, HH.out]; simp)
      clear HC HH
      go_enter Tryz.func64, Tryz.ntmps64
      go_wp2_with fail
      refine (hn _).mono ?_
      rintro e w1 ⟨rfl, hb⟩
      obtain ⟨q0, q1, q2, q3, q4, q5, q6, q7, q8, q9, q10⟩ := (HB0.out.next hb).orq
      have HBB := Lib.hid (bnext (bal0 w _) hb)
      clear HB0
      go_wp2_with fail
      refine (hw _).mono ?_
      rintro e w2 ⟨rfl, rfl⟩
      go_wp2_with fail
      all_goals
        go_ret
        refine ⟨ret_int ?_, HBB.out⟩
        rw [HS.out]
        clear hN hn hw q0 q1 q2 q3 q4 q5 q6 q7 q8 q9 q10 hb hs HBB HS
        simp_all [OR.bare]
  · have hto : x.t < 0 ∨ (0 ≤ x.t ∧ 105190559 < x.t) := by omega
    have HE : Hid (c = 230) := Lib.hid (by rw [← HC.out]; simp [OR.err, OR.ok, ht])
    clear HC ht HK
    rcases hto with h | ⟨h, h2⟩
    all_goals
      go_enter Tryz.func64, Tryz.ntmps64
      go_wp2_with fail
      refine (hn _).mono ?_
      rintro e w1 ⟨rfl, hb⟩
      obtain ⟨q0, q1, q2, q3, q4, q5, q6, q7, q8, q9, q10⟩ := (HB0.out.next hb).orq
      go_wp2_with fail
      go_ret
      exact ⟨ret_int HE.out.symm, bnext (bal0 _ _) hb⟩
end
section
open Go.RowKit
set_option linter.unusedVariables false
set_option maxHeartbeats 4000000
theorem OR.err_ok {x : OR} (h : x.ok = true) : x.err = 0 := by simp [OR.err, h]
theorem OR.err_bad {x : OR} (h : x.ok = false) : x.err = 230 := by simp [OR.err, h]
set_option maxRecDepth 100000 in
theorem obook_any (hN : NameC 41) (l : List OR) (A : Option Addr) (cp : Nat) (w : World) (h : OrAt w A l) : Calls Tryz.prog 40 #[.slice A l.length cp] w (RetB (.int .i64 (bookErr l)) w) := by
  by_cases hl : l.length ≤ 4096
  · have HE := Lib.hid (show bookErr l = bookFrom 0 l by unfold bookErr; rw [if_pos hl])
    have H := Lib.hid h
    clear h
    rw [HE.out]
    obtain ⟨er, her⟩ : ∃ er, bookFrom 0 l = er := ⟨_, rfl⟩
    rw [her]
    have HR := Lib.hid her
    clear her HE
    go_enter Tryz.func40, Tryz.ntmps40
    go_wp2_with fail
    go_loopw [3, 11] (fun kv iv wr => ∃ (i : Nat) (kn : Int), i ≤ l.length ∧ iv = .int .i64 i ∧ kv = .int .i64 kn ∧ bookFrom kn (l.drop i) = er ∧ OrAt wr A l ∧ Below w.heap.size w wr) (fun _ iv _ => l.length - (intOf iv).toNat)
    case atStart => exact ⟨0, 0, by omega, rfl, rfl, HR.out, H.out, Below.refl _ _⟩
    case round =>
      obtain ⟨i, kn, hi, rfl, rfl, hbk, hA, hB⟩ := hrel
      have HA := Lib.hid hA
      have HB := Lib.hid hB
      clear hA hB H HR
      by_cases hil : i < l.length
      · obtain ⟨b, o, x, rfl, hx, hb, hsm, q0, q1, q2, q3, q4, q5, q6, q7, q8, q9, q10⟩ := HA.out.get hil
        rw [book_drop l hx kn] at hbk
        have HX := Lib.hid hx
        have HS := Lib.hid hsm
        clear hx hsm hb
        have HBN := Lib.hid (BlkAt.new wr (orV x) 57)
        cases hok : x.ok
        · have hc := fun w => ochk_any hN x HS.out w
          rw [OR.err_bad hok] at hc
          rw [if_pos hok] at hbk
          clear hok
          go_wp2_with fail
          refine (hc _).mono ?_
          rintro e w1 ⟨rfl, hb1⟩
          have HB1 := Lib.hid (bnext (bal HB.out _) hb1)
          clear hb1 q0 q1 q2 q3 q4 q5 q6 q7 q8 q9 q10
          go_wp2_with fail
          go_ret
          exact ⟨ret_int hbk, HB1.out⟩
        · have hc := fun w => ochk_any hN x HS.out w
          rw [OR.err_ok hok] at hc
          rw [if_neg (by simp [hok])] at hbk
          clear hok
          by_cases hkn : x.known ≤ kn
          · rw [if_pos hkn] at hbk
            go_wp2_with fail
            refine (hc _).mono ?_
            rintro e w1 ⟨rfl, hb1⟩
            have HB1 := Lib.hid (bnext (bal HB.out _) hb1)
            have c9 : w1.cell? ⟨wr.heap.size, 9, none⟩ = some (.int .i64 x.known) := (HBN.out.next hb1).cell rfl
            clear hb1 q0 q1 q2 q3 q4 q5 q6 q7 q8 q9 q10
            go_wp2_with fail
            go_ret
            exact ⟨ret_int hbk, HB1.out⟩
          · rw [if_neg hkn] at hbk
            have HBK := Lib.hid hbk
            clear hbk
            go_wp2_with fail
            refine (hc _).mono ?_
            rintro e w1 ⟨rfl, hb1⟩
            have HB1 := Lib.hid (bnext (bal HB.out _) hb1)
            have HA1 := Lib.hid ((HA.out.below (bal0 _ _)).below hb1)
            have c9 : w1.cell? ⟨wr.heap.size, 9, none⟩ = some (.int .i64 x.known) := (HBN.out.next hb1).cell rfl
            clear hb1 q0 q1 q2 q3 q4 q5 q6 q7 q8 q9 q10
            go_wp2_with fail
            go_roundw
            case rel => exact ⟨i + 1, x.known, by omega, by go_num, rfl, HBK.out, HA1.out, HB1.out⟩
            case measure => simp [intOf]; omega
      · have hd : l.drop i = [] := List.drop_eq_nil_of_le (by omega)
        rw [hd] at hbk
        have HBK := Lib.hid hbk
        clear hbk hd
        go_wp2_with fail
        go_ret
        exact ⟨ret_int HBK.out, HB.out⟩
  · have HE := Lib.hid (show bookErr l = 232 by unfold bookErr; rw [if_neg hl])
    have hl2 : 4096 < l.length := by omega
    have hl3 := h.ln
    clear h hl
    rw [HE.out]
    go_enter Tryz.func40, Tryz.ntmps40
    go_wp2_with fail
    go_ret
    exact ⟨rfl, Below.refl _ _⟩
end
end Go.Proofs.YtbfllcfjgpkpaaaGreat
