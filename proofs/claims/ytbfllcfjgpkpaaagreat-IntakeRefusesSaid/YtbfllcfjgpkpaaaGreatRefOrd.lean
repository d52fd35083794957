/-
  The document's answer on dealing orders: which accounts, orders and books are valid.
-/
import Derived.Test.YtbfllcfjgpkpaaaGreatOrdWalk
import Derived.Test.YtbfllcfjgpkpaaaGreatNameWalk
import Derived.BigQuiet
import Derived.Deep.QuietTactic
import Derived.Deep.DeepCutAuto
import Derived.Deep.CutBlock
namespace Go.Proofs.YtbfllcfjgpkpaaaGreat
open Go.RowKit
set_option linter.unusedVariables false
set_option maxHeartbeats 4000000
theorem racc_any (hN : NameC 48) (nom hol : ByteArray) (h1 : nom.size ≤ maxLen) (h2 : hol.size ≤ maxLen) (w : World) : Calls Tryz.prog 102 #[.agg #[.string nom, .string hol]] w (RetB (.bool (accB nom hol)) w) := by
  obtain ⟨c, hc⟩ : ∃ c, accB nom hol = c := ⟨_, rfl⟩
  rw [hc]
  have HC := Lib.hid hc
  clear hc
  have HB0 := BlkAt.new w #[.string nom, .string hol] 55
  cases hh : nmB hol
  · have hn := hN hol _ hh h2
    have HH := Lib.hid hh
    clear hh HB0
    go_enter Tryz.func102, Tryz.ntmps102
    go_wp2_with (go_at_call 48; refine (hn _).mono ?_; rintro e w1 ⟨rfl, hb⟩)
    go_ret
    exact ⟨ret_bool (by rw [← HC.out]; simp [accB, HH.out]), bnext (bal0 _ _) hb⟩
  have hn := hN hol _ hh h2
  have HH := Lib.hid hh
  clear hh
  by_cases he : nom.toList = []
  · have HE := Lib.hid he
    have he2 : nom.toList.isEmpty = true := by rw [he]; rfl
    clear he
    go_enter Tryz.func102, Tryz.ntmps102
    go_wp2_with (go_at_call 48; refine (hn _).mono ?_; rintro e w1 ⟨rfl, hb⟩; have q0 := (HB0.next hb).cell (i := 0) rfl; have q1 := (HB0.next hb).cell (i := 1) rfl)
    go_ret
    exact ⟨ret_bool (by rw [← HC.out]; simp [accB, HH.out, HE.out]), bnext (bal0 _ _) hb⟩
  · have HE := Lib.hid he
    have he2 : nom.toList.isEmpty = false := by simpa using he
    clear he
    obtain ⟨v, hv⟩ : ∃ v, nmB nom = v := ⟨_, rfl⟩
    have hn2 := hN nom _ hv h1
    have HV := Lib.hid hv
    clear hv
    go_enter Tryz.func102, Tryz.ntmps102
    go_wp2_with fail
    refine (hn _).mono ?_
    rintro e w1 ⟨rfl, hb⟩
    have q0 := (HB0.next hb).cell (i := 0) rfl
    have q1 := (HB0.next hb).cell (i := 1) rfl
    clear HB0
    go_wp2_with fail
    refine (hn2 _).mono ?_
    rintro e w2 ⟨rfl, hb2⟩
    go_wp2_with fail
    go_ret
    exact ⟨ret_bool (by rw [← HC.out]; simp [accB, HH.out, HE.out, HV.out]), bnext (bnext (bal0 _ _) hb) hb2⟩
theorem inB_le {n m : Int} : inB n m = true ↔ 1 ≤ n ∧ n ≤ m := by simp [inB]
set_option maxRecDepth 100000 in
theorem rasked_any (x : OR) (w : World) : Calls Tryz.prog 103 #[.agg #[.string x.key, .string x.nom, .string x.hol, .string x.fund, .string x.cls, .int .i64 x.kind, .int .i64 x.amt, .int .i64 x.units, .int .i64 x.t, .int .i64 x.known, .bool x.void]] w (RetB (.bool x.asks) w) := by
  obtain ⟨c, hc⟩ : ∃ c, x.asks = c := ⟨_, rfl⟩
  rw [hc]
  have HC := Lib.hid hc
  clear hc
  have HB0 := Lib.hid (BlkAt.new w (orV x) 57)
  obtain ⟨va, hva⟩ : ∃ v, inB x.amt 1000000000000000 = v := ⟨_, rfl⟩
  obtain ⟨vu, hvu⟩ : ∃ v, inB x.units 1000000000000000 = v := ⟨_, rfl⟩
  have HVA := Lib.hid hva
  have HVU := Lib.hid hvu
  clear hva hvu
  go_enter Tryz.func103, Tryz.ntmps103
  go_upto_region 1 with (fail)
  go_cut [3, 4] from 3 to 21 (fun a b wd => a = .bool va ∧ b = .bool vu ∧ BlkAt wd w.heap.size (orV x) 57 ∧ Below w.heap.size w wd)
  case first =>
    obtain ⟨q0, q1, q2, q3, q4, q5, q6, q7, q8, q9, q10⟩ := HB0.out.orq
    have HE := Lib.hid (fun n : Nat => And.intro (HB0.out.drewN n) (Go.below_drewN (bal0 w (.cells (orV x) 57)) n))
    have HV := Lib.hid (And.intro HVA.out HVU.out)
    by_cases a1 : 1 ≤ x.amt
    all_goals
      by_cases u1 : 1 ≤ x.units
      all_goals
        try have a2 : decide (1 ≤ x.amt) = false := decide_eq_false (by assumption)
        try have u2 : decide (1 ≤ x.units) = false := decide_eq_false (by assumption)
        go_quiet (fail)
        go_wp2_with fail
        go_meet
        exact ⟨congrArg Value.bool (by rw [← HV.out.1]; simp [inB]; try omega), congrArg Value.bool (by rw [← HV.out.2]; simp [inB]; try omega), (HE.out _).1, (HE.out _).2⟩
  case rest =>
  obtain ⟨rfl, rfl, hb, hbl⟩ := hcut
  obtain ⟨q0, q1, q2, q3, q4, q5, q6, q7, q8, q9, q10⟩ := hb.orq
  have HBL := Lib.hid hbl
  clear hb hbl HB0
  obtain ⟨key, nom, hol, fund, cls, kind, amt, units, t, known, void⟩ := x
  by_cases k1 : kind = 1 ∨ kind = 4
  · have HV : Hid (c = (va && decide (units = 0))) := Lib.hid (by rw [← HC.out]; simp only [OR.asks, k1, if_true]; rw [HVA.out])
    clear HC HVA HVU
    rcases k1 with rfl | rfl
    all_goals
      cases va
      all_goals
        go_wp2_with fail
        go_ret
        exact ⟨ret_bool (by rw [HV.out]; simp [beqd]), HBL.out⟩
  · by_cases k2 : kind = 2 ∨ kind = 3
    · have HV : Hid (c = (vu && decide (amt = 0))) := Lib.hid (by rw [← HC.out]; simp only [OR.asks, k1, k2, if_true, if_false]; rw [HVU.out])
      clear HC HVA HVU k1
      rcases k2 with rfl | rfl
      all_goals
        cases vu
        all_goals
          go_wp2_with fail
          go_ret
          exact ⟨ret_bool (by rw [HV.out]; simp [beqd]), HBL.out⟩
    · by_cases k5 : kind = 5
      · have HV : Hid (c = decide (amt = 0 ∧ units = 0)) := Lib.hid (by rw [← HC.out]; subst k5; simp [OR.asks])
        subst k5
        clear HC k1 k2 HVA HVU
        by_cases ha : amt = 0
        · have ga : (amt == 0) = true := by simpa using ha
          go_wp2_with fail
          go_ret
          exact ⟨ret_bool (by rw [HV.out]; simp [ha, beqd]), HBL.out⟩
        · have ga : (amt == 0) = false := by simpa using ha
          go_wp2_with fail
          go_ret
          exact ⟨ret_bool (by rw [HV.out]; simp [ha]), HBL.out⟩
      · have HV : Hid (c = false) := Lib.hid (by rw [← HC.out]; simp only [OR.asks, k1, k2, k5, if_false])
        have g1 : (kind == 1) = false := beq_eq_false_iff_ne.2 (by omega)
        have g2 : (kind == 2) = false := beq_eq_false_iff_ne.2 (by omega)
        have g3 : (kind == 3) = false := beq_eq_false_iff_ne.2 (by omega)
        have g4 : (kind == 4) = false := beq_eq_false_iff_ne.2 (by omega)
        have g5 : (kind == 5) = false := beq_eq_false_iff_ne.2 (by omega)
        clear HC k1 k2 k5 HVA HVU
        go_wp2_with fail
        go_ret
        exact ⟨ret_bool HV.out.symm, HBL.out⟩
theorem head_time {x : OR} (hk : nmB x.key = true) (h : ¬ (0 ≤ x.t ∧ x.t ≤ 105190559 ∧ 1 ≤ x.known ∧ x.known ≤ 2147483647)) : x.head = false := by
  have : ¬ ((0 ≤ x.t ∧ x.t ≤ 105190559) ∧ (1 ≤ x.known ∧ x.known ≤ 2147483647)) := by omega
  simp only [OR.head, hk, Bool.true_and, knB, Bool.and_eq_false_iff, decide_eq_false_iff_not]
  by_cases h1 : 0 ≤ x.t ∧ x.t ≤ 105190559
  · exact .inr (fun h2 => this ⟨h1, h2⟩)
  · exact .inl h1
set_option maxRecDepth 100000 in
theorem rchk23_any (hN : NameC 48) (x : OR) (hs : x.small) (w : World) : Calls Tryz.prog 75 #[.agg #[.string x.key, .string x.nom, .string x.hol, .string x.fund, .string x.cls, .int .i64 x.kind, .int .i64 x.amt, .int .i64 x.units, .int .i64 x.t, .int .i64 x.known, .bool x.void]] w (RetB (.int .i64 x.err) w) := by
  obtain ⟨c, hc⟩ : ∃ c, x.err = c := ⟨_, rfl⟩
  rw [hc]
  have HC := Lib.hid hc
  clear hc
  have HB0 := Lib.hid (BlkAt.new w (orV x) 57)
  obtain ⟨vk, hk⟩ : ∃ v, nmB x.key = v := ⟨_, rfl⟩
  have hn := hN x.key _ hk hs.key
  have HK := Lib.hid hk
  clear hk
  obtain ⟨vh, hvh⟩ : ∃ v, x.head = v := ⟨_, rfl⟩
  have HVH := Lib.hid hvh
  clear hvh
  go_enter Tryz.func75, Tryz.ntmps75
  go_upto_region 1 with (fail)
  go_cut [3] from 3 to 27 (fun a wd => a = .bool vh ∧ BlkAt wd w.heap.size (orV x) 57 ∧ Below w.heap.size w wd)
  case first =>
    obtain ⟨q0, q1, q2, q3, q4, q5, q6, q7, q8, q9, q10⟩ := HB0.out.orq
    go_wp2_with fail
    refine (hn _).mono ?_
    rintro e w1 ⟨rfl, hb1⟩
    have HB1 := Lib.hid (HB0.out.next hb1)
    have HW1 := Lib.hid (bnext (bal0 w _) hb1)
    clear q0 q1 q2 q3 q4 q5 q6 q7 q8 q9 q10 hb1 HB0
    obtain ⟨q0, q1, q2, q3, q4, q5, q6, q7, q8, q9, q10⟩ := HB1.out.orq
    cases vk
    · go_wp2_with fail
      go_meet
      exact ⟨congrArg Value.bool (by rw [← HVH.out]; simp [OR.head, HK.out]), HB1.out, HW1.out⟩
    by_cases t0 : 0 ≤ x.t
    · by_cases t1 : x.t ≤ 105190559
      · by_cases k0 : 1 ≤ x.known
        · by_cases k1 : x.known ≤ 2147483647
          · have HT : Hid (vh = true) := Lib.hid (by rw [← HVH.out]; simp [OR.head, HK.out, knB, t0, t1, k0, k1])
            go_wp2_with fail
            go_meet
            exact ⟨congrArg Value.bool HT.out.symm, HB1.out, HW1.out⟩
          · have HT : Hid (vh = false) := Lib.hid (by rw [← HVH.out]; exact head_time HK.out (by omega))
            have g := decide_eq_false k1
            go_wp2_with fail
            go_meet
            exact ⟨congrArg Value.bool HT.out.symm, HB1.out, HW1.out⟩
        · have HT : Hid (vh = false) := Lib.hid (by rw [← HVH.out]; exact head_time HK.out (by omega))
          have g := decide_eq_false k0
          go_wp2_with fail
          go_meet
          exact ⟨congrArg Value.bool HT.out.symm, HB1.out, HW1.out⟩
      · have HT : Hid (vh = false) := Lib.hid (by rw [← HVH.out]; exact head_time HK.out (by omega))
        have g := decide_eq_false t1
        go_wp2_with fail
        go_meet
        exact ⟨congrArg Value.bool HT.out.symm, HB1.out, HW1.out⟩
    · have HT : Hid (vh = false) := Lib.hid (by rw [← HVH.out]; exact head_time HK.out (by omega))
      have g := decide_eq_false t0
      go_wp2_with fail
      go_meet
      exact ⟨congrArg Value.bool HT.out.symm, HB1.out, HW1.out⟩
  case rest =>
  obtain ⟨rfl, hb, hbl⟩ := hcut
  have HB := Lib.hid hb
  have HBL := Lib.hid hbl
  clear hb hbl HB0 hn
  obtain ⟨q0, q1, q2, q3, q4, q5, q6, q7, q8, q9, q10⟩ := HB.out.orq
  cases vh
  · have HE : Hid (c = 230) := Lib.hid (by rw [← HC.out, OR.err, ok_head, HVH.out]; simp)
    clear HC HVH HK
    cases hv : x.void
    all_goals
      rw [hv] at q10
      clear hv
      go_wp2_with fail
      go_ret
      exact ⟨ret_int HE.out.symm, HBL.out⟩
  obtain ⟨key, nom, hol, fund, cls, kind, amt, units, t, known, void⟩ := x
  cases void
  · have HS : Hid (c = if (accB nom hol && nmB fund && nmB cls && OR.asks ⟨key, nom, hol, fund, cls, kind, amt, units, t, known, false⟩) = true then 0 else 230) := Lib.hid (by rw [← HC.out, OR.err, ok_head, HVH.out]; simp)
    clear HC HVH HK
    obtain ⟨va, hva⟩ : ∃ v, accB nom hol = v := ⟨_, rfl⟩
    obtain ⟨vf, hvf⟩ : ∃ v, nmB fund = v := ⟨_, rfl⟩
    obtain ⟨vc, hvc⟩ : ∃ v, nmB cls = v := ⟨_, rfl⟩
    obtain ⟨vq, hvq⟩ : ∃ v, OR.asks ⟨key, nom, hol, fund, cls, kind, amt, units, t, known, false⟩ = v := ⟨_, rfl⟩
    have ca := fun w => racc_any hN nom hol hs.nom hs.hol w
    have cf := hN fund _ hvf hs.fund
    have cc := hN cls _ hvc hs.cls
    have cq := fun w => rasked_any ⟨key, nom, hol, fund, cls, kind, amt, units, t, known, false⟩ w
    rw [hva] at ca
    rw [hvq] at cq
    rw [hva, hvf, hvc, hvq] at HS
    clear hva hvf hvc hvq
    go_wp2_with fail
    refine (ca _).mono ?_
    rintro e w3 ⟨rfl, hb3⟩
    have HB3 := Lib.hid (HB.out.next hb3)
    have HW3 := Lib.hid (bnext HBL.out hb3)
    clear q0 q1 q2 q3 q4 q5 q6 q7 q8 q9 q10 hb3 HB HBL
    obtain ⟨q0, q1, q2, q3, q4, q5, q6, q7, q8, q9, q10⟩ := HB3.out.orq
    cases va
    · go_wp2_with fail
      go_ret
      exact ⟨ret_int (by rw [HS.out]; rfl), HW3.out⟩
    go_wp2_with fail
    refine (cf _).mono ?_
    rintro e w4 ⟨rfl, hb4⟩
    have HB4 := Lib.hid (HB3.out.next hb4)
    have HW4 := Lib.hid (bnext HW3.out hb4)
    clear q0 q1 q2 q3 q4 q5 q6 q7 q8 q9 q10 hb4 HB3 HW3
    obtain ⟨q0, q1, q2, q3, q4, q5, q6, q7, q8, q9, q10⟩ := HB4.out.orq
    cases vf
    · go_wp2_with fail
      go_ret
      exact ⟨ret_int (by rw [HS.out]; rfl), HW4.out⟩
    go_wp2_with fail
    refine (cc _).mono ?_
    rintro e w5 ⟨rfl, hb5⟩
    have HB5 := Lib.hid (HB4.out.next hb5)
    have HW5 := Lib.hid (bnext HW4.out hb5)
    clear q0 q1 q2 q3 q4 q5 q6 q7 q8 q9 q10 hb5 HB4 HW4
    obtain ⟨q0, q1, q2, q3, q4, q5, q6, q7, q8, q9, q10⟩ := HB5.out.orq
    cases vc
    · go_wp2_with fail
      go_ret
      exact ⟨ret_int (by rw [HS.out]; rfl), HW5.out⟩
    go_wp2_with fail
    refine (cq _).mono ?_
    rintro e w6 ⟨rfl, hb6⟩
    have HW6 := Lib.hid (bnext HW5.out hb6)
    clear q0 q1 q2 q3 q4 q5 q6 q7 q8 q9 q10 hb6 HB5 HW5
    cases vq
    all_goals
      go_wp2_with fail
      go_ret
      exact ⟨ret_int (by rw [HS.out]; rfl), HW6.out⟩
  · have HS : Hid (c = if OR.bare ⟨key, nom, hol, fund, cls, kind, amt, units, t, known, true⟩ = true then 0 else 230) := Lib.hid (by rw [← HC.out, OR.err, ok_head, HVH.out]; simp)
    clear HC HVH HK
    go_wp2_with fail
    all_goals
      go_ret
      refine ⟨ret_int ?_, HBL.out⟩
      rw [HS.out]
      clear hN q0 q1 q2 q3 q4 q5 q6 q7 q8 q9 q10 hs HB HBL HS
      simp_all [OR.bare]
/-- The number at which the version ahead became known. -/
def lastK (l : List OR) (i : Nat) : Int := if i = 0 then 0 else (l[i - 1]?.map (·.known)).getD 0
theorem lastK_succ {l : List OR} {i : Nat} {x : OR} (h : l[i]? = some x) : lastK l (i + 1) = x.known := by simp [lastK, h]
theorem ok_known {x : OR} (h : x.ok = true) : 1 ≤ x.known := by
  rw [ok_head] at h
  simp only [OR.head, knB, Bool.and_eq_true, decide_eq_true_eq] at h
  exact h.1.2.1
set_option maxRecDepth 1000000 in
theorem rbook_any (hN : NameC 48) (l : List OR) (A : Option Addr) (cp : Nat) (w : World) (h : OrAt w A l) : Calls Tryz.prog 46 #[.slice A l.length cp] w (RetB (.int .i64 (bookErr l)) w) := by
  by_cases hl : l.length ≤ 4096
  · have HE := Lib.hid (show bookErr l = bookFrom 0 l by unfold bookErr; rw [if_pos hl])
    have H := Lib.hid h
    clear h
    rw [HE.out]
    obtain ⟨er, her⟩ : ∃ er, bookFrom 0 l = er := ⟨_, rfl⟩
    rw [her]
    have HR := Lib.hid her
    clear her HE
    go_enter Tryz.func46, Tryz.ntmps46
    go_wp2_with fail
    go_loopw [3] (fun iv wr => ∃ i : Nat, i ≤ l.length ∧ iv = .int .i64 i ∧ bookFrom (lastK l i) (l.drop i) = er ∧ OrAt wr A l ∧ Below w.heap.size w wr) (fun iv _ => l.length - (intOf iv).toNat)
    case atStart => exact ⟨0, by omega, rfl, HR.out, H.out, Below.refl _ _⟩
    case round =>
      obtain ⟨i, hi, rfl, hbk, hA, hB⟩ := hrel
      have HA := Lib.hid hA
      have HB := Lib.hid hB
      clear hA hB H HR
      by_cases hil : i < l.length
      · obtain ⟨b, o, x, rfl, hx, hb, hsm, q0, q1, q2, q3, q4, q5, q6, q7, q8, q9, q10⟩ := HA.out.get hil
        rw [book_drop l hx (lastK l i)] at hbk
        have HX := Lib.hid hx
        have HS := Lib.hid hsm
        clear hx hsm hb
        cases hok : x.ok
        · have hc := fun w => rchk23_any hN x HS.out w
          rw [OR.err_bad hok] at hc
          rw [if_pos hok] at hbk
          have HBK := Lib.hid hbk
          clear hok hbk
          go_wp2_with fail
          refine (hc _).mono ?_
          rintro e w1 ⟨rfl, hb1⟩
          have HB1 := Lib.hid (bnext HB.out hb1)
          clear hb1 q0 q1 q2 q3 q4 q5 q6 q7 q8 q9 q10
          go_wp2_with fail
          go_ret
          exact ⟨ret_int HBK.out, HB1.out⟩
        · have hc := fun w => rchk23_any hN x HS.out w
          rw [OR.err_ok hok] at hc
          rw [if_neg (by simp [hok])] at hbk
          have hk1 := ok_known hok
          clear hok
          have HBK := Lib.hid hbk
          clear hbk
          go_wp2_with fail
          refine (hc _).mono ?_
          rintro e w1 ⟨rfl, hb1⟩
          have HB1 := Lib.hid (bnext HB.out hb1)
          have HA1 := Lib.hid (HA.out.below hb1)
          clear hb1 q0 q1 q2 q3 q4 q5 q6 q7 q8 q9 q10
          cases i with
          | zero =>
            have HBK2 := HBK.out
            rw [show lastK l 0 = 0 from rfl, if_neg (by omega)] at HBK2
            have HBK3 := Lib.hid HBK2
            have g0 : decide ((0 : Int) < ((0 : Nat) : Int)) = false := by decide
            clear HBK HBK2
            go_wp2_with fail
            go_quiet (fail)
            go_wp2_with fail
            go_roundw
            case rel => exact ⟨1, by omega, by go_num, by rw [lastK_succ HX.out]; exact HBK3.out, HA1.out.below (Go.below_drewN (Below.refl _ _) _), bnext HB1.out (Go.below_drewN (Below.refl _ _) _)⟩
            case measure => simp [intOf]; omega
          | succ i =>
            obtain ⟨y, hy⟩ : ∃ y, l[i]? = some y := ⟨_, List.getElem?_eq_getElem (by omega)⟩
            obtain ⟨q0, q1, q2, q3, q4, q5, q6, q7, q8, q9, q10⟩ := HA1.out.at HX.out
            obtain ⟨r0, r1, r2, r3, r4, r5, r6, r7, r8, r9, r10⟩ := HA1.out.at hy
            have HBK2 := HBK.out
            rw [lastK_succ hy] at HBK2
            have e1 : ((i + 1 : Nat) : Int) - 1 = (i : Int) := by omega
            have z1 : IntKind.i64.wrap (((i + 1 : Nat) : Int) - 1) = (i : Int) := by rw [e1]; exact IntWalk.i64_in _ (by omega)
            have z2 : IntKind.i64.wrap ((i : Int) + 1 - 1) = (i : Int) := by rw [show (i : Int) + 1 - 1 = (i : Int) by omega]; exact IntWalk.i64_in _ (by omega)
            have i0 : (0 : Int) ≤ (i : Int) := by omega
            have i1 : (i : Int) < (l.length : Int) := by omega
            have i2 : (0 : Int) ≤ (i : Int) + 1 := by omega
            have i3 : (i : Int) + 1 < (l.length : Int) := by omega
            have g0 : decide ((0 : Int) < ((i + 1 : Nat) : Int)) = true := decide_eq_true (by omega)
            have g1 : decide ((0 : Int) < (i : Int) + 1) = true := decide_eq_true (by omega)
            clear hy HBK e1
            by_cases hkn : x.known ≤ y.known
            · rw [if_pos hkn] at HBK2
              have HBK3 := Lib.hid HBK2
              clear HBK2
              go_wp2_with fail
              go_quiet (fail)
              go_wp2_with fail
              go_ret
              exact ⟨ret_int HBK3.out, bnext HB1.out (Go.below_drewN (Below.refl _ _) _)⟩
            · rw [if_neg hkn] at HBK2
              have HBK3 := Lib.hid HBK2
              have g2 : decide (x.known ≤ y.known) = false := decide_eq_false hkn
              clear HBK2
              go_wp2_with fail
              go_quiet (fail)
              go_wp2_with fail
              go_roundw
              case rel => exact ⟨i + 1 + 1, by omega, by go_num, by rw [lastK_succ HX.out]; exact HBK3.out, HA1.out.below (Go.below_drewN (Below.refl _ _) _), bnext HB1.out (Go.below_drewN (Below.refl _ _) _)⟩
              case measure => simp [intOf]; omega
      · have hd : l.drop i = [] := List.drop_eq_nil_of_le (by omega)
        rw [hd] at hbk
        have HBK := Lib.hid hbk
        clear hbk hd
        go_wp2_with fail
        go_ret
        exact ⟨ret_int HBK.out, HB.out⟩
  · have HE := Lib.hid (show bookErr l = 232 by unfold bookErr; rw [if_neg hl])
    have hl2 : 4096 < l.length := by omega
    have hl3 := h.ln
    clear h hl
    rw [HE.out]
    go_enter Tryz.func46, Tryz.ntmps46
    go_wp2_with fail
    go_ret
    exact ⟨rfl, Below.refl _ _⟩
end Go.Proofs.YtbfllcfjgpkpaaaGreat
