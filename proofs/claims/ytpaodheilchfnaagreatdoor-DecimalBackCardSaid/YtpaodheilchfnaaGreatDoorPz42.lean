/- What the laws lean on. -/
import Derived.Test.YtpaodheilchfnaaGreatDoorPz20
import Derived.Test.YtpaodheilchfnaaGreatDoorPz21
import Derived.Test.YtpaodheilchfnaaGreatDoorPz26
import Derived.Test.YtpaodheilchfnaaGreatDoorPz32
import Derived.Test.YtpaodheilchfnaaGreatDoorPz33
import Derived.Test.YtpaodheilchfnaaGreatDoorPz34
namespace Go.Proofs.YtpaodheilchfnaaGreatDoor
set_option linter.unusedVariables false
set_option linter.unusedSimpArgs false
section
open Go.RowKit
set_option maxHeartbeats 4000000
set_option maxRecDepth 100000 in
theorem tpercent {B b N : Nat} {w : World} (h : TapeAt w B b (N + 4)) : Calls Tryz.prog 47 #[.pointer (some ⟨b, 0, none⟩)] w (TapP (fun v => ∃ k e : Int, OfP k e v ∧ 0 ≤ k ∧ k ≤ e ∧ 0 < e ∧ 100000000 % e = 0) B b N w) := by
  have F := Fr.start w
  have T := Tp.start h
  clear h
  go_enter Tryz.func47, Tryz.ntmps47
  go_wp2_with (first | go_skip | ((with_reducible apply fSli F slInt); exact rfl; exact rfl; exact rfl; decide; decide; (go_simp; exact rfl); exact rfl) | ((with_reducible apply fA_rat F); exact rfl) | ((with_reducible apply fS F); exact rfl; exact rfl; exact rfl; (exact tL); (exact tR3); (exact tS2); clear F; intro W F; simp only [z7, z8] at F))
  (clear F; intro b2 W F; try simp only [Act.put, z6, z1, z2])
  go_wp2_with (first | go_skip | ((with_reducible apply fSli F slInt); exact rfl; exact rfl; exact rfl; decide; decide; (go_simp; exact rfl); exact rfl) | ((with_reducible apply fA_rat F); exact rfl) | ((with_reducible apply fS F); exact rfl; exact rfl; exact rfl; (exact tL); (exact tR3); (exact tS2); clear F; intro W F; simp only [z7, z8] at F))
  (clear F; intro b5 W F; try simp only [Act.put, z6, z1, z2])
  go_upto_region 2 with (first | go_skip | ((go_at_call 13); (with_reducible refine fr_tap F T (tpickF [1, 4, 10, 20, 100, 200, 1000, 10000, 100000000] F T tL (by with_unfolding_all rfl) (by with_unfolding_all rfl) (by simp) (by simp)) ?_); (try clear F T); (rintro _ u W ⟨den, rfl, hd⟩ T F); (try dsimp only)) | ((with_reducible apply fSli F slInt); exact rfl; exact rfl; exact rfl; decide; decide; (go_simp; exact rfl); exact rfl) | ((with_reducible apply fA_rat F); exact rfl) | ((with_reducible apply fS F); exact rfl; exact rfl; exact rfl; (exact tL); (exact tR3); (exact tS2); clear F; intro W F; simp only [z7, z8] at F))
  replace F := F.sub (L' := [(b2, RC 0 0, 31)]) (by repeat (first | exact List.Sublist.slnil | apply List.Sublist.cons_cons | apply List.Sublist.cons))
  have hd2 : 0 < den ∧ den ≤ 100000000 ∧ 100000000 % den = 0 := by
    simp only [List.mem_cons, List.not_mem_nil, or_false] at hd
    rcases hd with rfl | rfl | rfl | rfl | rfl | rfl | rfl | rfl | rfl <;> decide
  clear hd
  go_wp2_with (first | go_skip | ((go_at_call 33); (with_reducible refine fr_tap F T (tchance _ _ (by decide) (by decide) (T.at F)) ?_); (try clear F T); (rintro _ u W ⟨(_ | _), rfl⟩ T F); (try dsimp only)) | ((with_reducible apply fSli F slInt); exact rfl; exact rfl; exact rfl; decide; decide; (go_simp; exact rfl); exact rfl) | ((with_reducible apply fA_rat F); exact rfl) | ((with_reducible apply fS F); exact rfl; exact rfl; exact rfl; (exact tL); (exact tR3); (exact tS2); clear F; intro W F; simp only [z7, z8] at F))
  · go_wp2_with (first | go_skip | ((go_at_call 16); (with_reducible refine fr_tap F T (tnext _ (by omega) (by omega) (T.at F)) ?_); (try clear F T); (rintro _ u W ⟨k, rfl, hk⟩ T F); (try dsimp only)) | ((go_at_call 11); (with_reducible refine fr_callP F (makeOf_ok (by omega) (by omega) (by omega) _) ?_); (try clear F); (rintro _ W ⟨n, d, rfl, ho⟩ F); (try dsimp only)) | ((with_reducible apply fSli F slInt); exact rfl; exact rfl; exact rfl; decide; decide; (go_simp; exact rfl); exact rfl) | ((with_reducible apply fA_rat F); exact rfl) | ((with_reducible apply fS F); exact rfl; exact rfl; exact rfl; (exact tL); (exact tR3); (exact tS2); clear F; intro W F; simp only [z7, z8] at F))
    exact bodyPost_ret (res_c rfl rfl (Fr.get F tL) (rowRC _ _)) rfl (tap_end (T.less (by omega)) F ⟨_, _, ⟨n, d, rfl, ho⟩, by omega, by omega, by omega, hd2.2.2⟩)
  · (clear F; intro b10 W F; try simp only [Act.put, z6, z1, z2])
    go_upto_region 4 with (first | go_skip | ((go_at_call 13); (with_reducible refine fr_tap F T (tpickF [50, 100, 200, 1000] F T tL (by with_unfolding_all rfl) (by with_unfolding_all rfl) (by simp) (by simp)) ?_); (try clear F T); (rintro _ u W ⟨e, rfl, he⟩ T F); (try dsimp only)) | ((with_reducible apply fSli F slInt); exact rfl; exact rfl; exact rfl; decide; decide; (go_simp; exact rfl); exact rfl) | ((with_reducible apply fA_rat F); exact rfl) | ((with_reducible apply fS F); exact rfl; exact rfl; exact rfl; (exact tL); (exact tR3); (exact tS2); clear F; intro W F; simp only [z7, z8] at F))
    replace F := F.sub (L' := [(b2, RC 0 0, 31)]) (by repeat (first | exact List.Sublist.slnil | apply List.Sublist.cons_cons | apply List.Sublist.cons))
    have he2 : ∃ q : Nat, e.tdiv 10 = q ∧ (q : Int) ≤ e ∧ 0 < e ∧ e ≤ 1000 ∧ 100000000 % e = 0 := by
      simp only [List.mem_cons, List.not_mem_nil, or_false] at he
      rcases he with rfl | rfl | rfl | rfl
      · exact ⟨5, by decide⟩
      · exact ⟨10, by decide⟩
      · exact ⟨20, by decide⟩
      · exact ⟨100, by decide⟩
    obtain ⟨q, hq, hq1, hq2, hq3, hq4⟩ := he2
    clear he hd2
    go_wp2_with (first | go_skip | ((go_at_call 16); (with_reducible refine fr_tap F T (tnext _ (by omega) (by omega) (T.at F)) ?_); (try clear F T); (rintro _ u W ⟨k, rfl, hk⟩ T F); (try dsimp only)) | ((go_at_call 11); (with_reducible refine fr_callP F (makeOf_ok (by omega) (by omega) (by omega) _) ?_); (try clear F); (rintro _ W ⟨n, d, rfl, ho⟩ F); (try dsimp only)) | ((with_reducible apply fSli F slInt); exact rfl; exact rfl; exact rfl; decide; decide; (go_simp; exact rfl); exact rfl) | ((with_reducible apply fA_rat F); exact rfl) | ((with_reducible apply fS F); exact rfl; exact rfl; exact rfl; (exact tL); (exact tR3); (exact tS2); clear F; intro W F; simp only [z7, z8] at F))
    exact bodyPost_ret (res_c rfl rfl (Fr.get F tL) (rowRC _ _)) rfl (tap_end (T.less (by omega)) F ⟨_, _, ⟨n, d, rfl, ho⟩, by omega, by omega, by omega, hq4⟩)
end
section
open Go.RowKit
theorem pre_len {u p : Nat} {a b : List UInt8} (hu : u < 10 ^ 15) (h : pointL (Lib.decDigits u) p = (a, b)) : a.length ≤ 15 := by
  have hl := dec_len 14 u hu
  unfold pointL at h
  dsimp only at h
  rw [Prod.mk.injEq] at h
  obtain ⟨h1, -⟩ := h
  subst h1
  rw [List.length_take]
  split
  · rw [List.length_append, List.length_replicate]; omega
  · omega
theorem txt_rdG {z : Int} {p : Nat} {a b t : List UInt8} (h : pointL (Lib.decDigits z.natAbs) p = (a, b)) {k : Nat} (hk : b = t ++ List.replicate k 48) :
    rdR (txtS (decide (z < 0)) a t) p true = (if 15 < a.length then (0, 0, false) else rdF (a ++ t) t.length (decide (z < 0))) ∧ (rdF (a ++ t) t.length (decide (z < 0))).2.2 = true ∧ numL (a ++ t) * 10 ^ (p - t.length) = z.natAbs ∧ t.length ≤ p ∧ (a.head? ≠ some 45) := by
  obtain ⟨h1, h2, h3, h4, h5, h6⟩ := point_facts _ h
  have htl : t.length + k = p := by rw [← h5, hk, List.length_append, List.length_replicate]
  have htd : t.all isD = true := by
    rw [hk, List.all_append, Bool.and_eq_true] at h2
    exact h2.1
  have hnum : numL (a ++ t) * 10 ^ k = z.natAbs := by rw [← h6, hk, ← List.append_assoc, numL_tail]
  have hG := fun neg : Bool => rdG_ok (a := a) (b := t) (p := p) (neg := neg) h1 htd h3 h4 (by omega)
  have hh45 : a.head? ≠ some 45 := by
    intro hh
    cases a with
    | nil => exact absurd rfl h3
    | cons c l =>
      rw [List.head?_cons, Option.some.injEq] at hh
      subst hh
      rw [List.all_cons] at h1
      exact absurd h1 (by simp [isD])
  refine ⟨?_, ?_, by rw [show p - t.length = k by omega]; exact hnum, by omega, hh45⟩
  · unfold rdR txtS
    by_cases hz : z < 0
    · rw [decide_eq_true hz, if_pos rfl, List.singleton_append, List.head?_cons, List.tail_cons, if_pos ⟨rfl, rfl⟩]
      exact hG true
    · rw [decide_eq_false hz, show (if false = true then [45] else ([] : List UInt8)) = [] from rfl, List.nil_append, if_neg]
      · exact hG false
      · rintro ⟨-, hh⟩
        have e : (if t = [] then a else a ++ 46 :: t).head? = a.head? := by
          split
          · rfl
          · cases a with
            | nil => exact absurd rfl h3
            | cons c l => rfl
        rw [e] at hh
        exact hh45 hh
  · rw [rdF_ok]
    by_cases hz : z < 0
    · rw [decide_eq_false (p := numL (a ++ t) = 0)]
      · simp
      · intro h0
        rw [h0, Nat.zero_mul] at hnum
        omega
    · rw [decide_eq_false hz]
      rfl
theorem rd_low {z : Int} {p : Nat} {a b t : List UInt8} (hp9 : p ≤ 9) (hz : z.natAbs < 10 ^ 15) (h : pointL (Lib.decDigits z.natAbs) p = (a, b)) {k : Nat} (hk : b = t ++ List.replicate k 48) :
    prsR (txtS (decide (z < 0)) a t) p = (lowN z ((10 ^ p : Nat) : Int), lowD z ((10 ^ p : Nat) : Int), 0) := by
  obtain ⟨h1, h2, h3, h4, -⟩ := txt_rdG h hk
  have ha := pre_len hz h
  rw [prs_rd (by omega) (by omega), h1, if_neg (by omega)]
  unfold prsO
  rw [if_pos h2]
  unfold rdF at h2 ⊢
  split
  · rename_i hq
    rw [if_pos hq] at h2
    exact absurd h2 (by decide)
  · dsimp only
    have hc : (0 : Int) < ((10 ^ (p - t.length) : Nat) : Int) := by exact_mod_cast Nat.pow_pos (by decide)
    have hd : (0 : Int) < ((10 ^ t.length : Nat) : Int) := by exact_mod_cast Nat.pow_pos (by decide)
    have e2 : ((10 ^ t.length : Nat) : Int) * ((10 ^ (p - t.length) : Nat) : Int) = ((10 ^ p : Nat) : Int) := by
      rw [← Int.natCast_mul, ← Nat.pow_add, Nat.add_sub_cancel' h4]
    have e1 : (if decide (z < 0) = true then -(numL (a ++ t) : Int) else (numL (a ++ t) : Int)) * ((10 ^ (p - t.length) : Nat) : Int) = z := by
      have h3' : (numL (a ++ t) : Int) * ((10 ^ (p - t.length) : Nat) : Int) = (z.natAbs : Int) := by rw [← h3, Int.natCast_mul]
      by_cases hz : z < 0
      · rw [decide_eq_true hz, if_pos rfl, Int.neg_mul, h3']; omega
      · rw [decide_eq_false hz, if_neg (by decide), h3']; omega
    obtain ⟨k1, k2⟩ := low_scale (n := if decide (z < 0) = true then -(numL (a ++ t) : Int) else (numL (a ++ t) : Int)) hd hc
    rw [e1, e2] at k1 k2
    rw [k1, k2]
theorem fmt_back {n : Int} {p : Nat} (hp9 : p ≤ 9) (hn : n.natAbs < 10 ^ 15) : prsR (fmtL n.natAbs (decide (n < 0)) p) p = (lowN n ((10 ^ p : Nat) : Int), lowD n ((10 ^ p : Nat) : Int), 0) := by
  obtain ⟨a, b, h⟩ : ∃ a b, pointL (Lib.decDigits n.natAbs) p = (a, b) := ⟨_, _, rfl⟩
  have := rd_low hp9 hn h (t := b) (k := 0) (by simp)
  unfold fmtL
  rw [h]
  exact this
theorem fmtL_len {n : Nat} {neg : Bool} {p : Nat} (hn : n < 10 ^ 15) (hp : p ≤ 9) : (fmtL n neg p).length ≤ 1000 := by
  obtain ⟨a, b, h⟩ : ∃ a b, pointL (Lib.decDigits n) p = (a, b) := ⟨_, _, rfl⟩
  have h1 := pre_len hn h
  obtain ⟨-, -, -, -, h5, -⟩ := point_facts _ h
  unfold fmtL
  rw [h]
  dsimp only
  rw [List.length_append]
  have e1 : (if neg = true then [45] else ([] : List UInt8)).length ≤ 1 := by split <;> simp
  have e2 : (if b = [] then a else a ++ 46 :: b).length ≤ 100 := by
    split
    · omega
    · rw [List.length_append, List.length_cons]; omega
  omega
theorem txt_back {n d : Int} {p : Nat} (h : okZ n d) (hp9 : p ≤ 9) (hx : n * ((10 ^ p : Nat) : Int) % d = 0) (hz : (n * ((10 ^ p : Nat) : Int) / d).natAbs < 10 ^ 15) :
    ∃ s, txtR (okZ n d) n d p = (s, 0) ∧ prsR s p = (n, d, 0) ∧ s.length ≤ (fmtL (n * ((10 ^ p : Nat) : Int) / d).natAbs (decide (n * ((10 ^ p : Nat) : Int) / d < 0)) p).length ∧ (0 ≤ n → s.head? ≠ some 45) := by
  obtain ⟨z, hzz⟩ : ∃ z, n * ((10 ^ p : Nat) : Int) / d = z := ⟨_, rfl⟩
  rw [hzz] at hz ⊢
  obtain ⟨a, b, hq⟩ : ∃ a b, pointL (Lib.decDigits z.natAbs) p = (a, b) := ⟨_, _, rfl⟩
  obtain ⟨t, ht⟩ : ∃ t, Lib.trimRightB b 48 = t := ⟨_, rfl⟩
  obtain ⟨k, hk⟩ := trim_zeros b
  rw [ht] at hk
  have ha := pre_len hz hq
  obtain ⟨-, hd, -⟩ := okZ_iff.1 h
  have hP : (0 : Int) < ((10 ^ p : Nat) : Int) := by exact_mod_cast Nat.pow_pos (by decide)
  have hzd : z * d = n * ((10 ^ p : Nat) : Int) := by rw [← hzz]; exact Int.ediv_mul_cancel (Int.dvd_of_emod_eq_zero hx)
  refine ⟨txtS (decide (z < 0)) a t, ?_, ?_, ?_, fun h0 => ?_⟩
  · unfold txtR
    have hc : chkE (okZ n d) (p : Int) = 0 := by
      unfold chkE
      rw [if_neg (by simpa using h), if_neg (by omega)]
    rw [if_neg (by simp [hc])]
    dsimp only
    rw [Int.toNat_natCast, if_neg (by simpa using hx), hzz]
    unfold txtZ
    dsimp only
    rw [hq, ht, if_neg (by simpa using ha)]
    unfold txtS
    by_cases h0 : z < 0
    · rw [decide_eq_true h0, if_pos h0, if_pos rfl]
    · rw [decide_eq_false h0, if_neg h0]
      rfl
  · rw [rd_low hp9 hz hq hk]
    have hs := mkR_ok (n := z) hP
    obtain ⟨e1, e2⟩ := low_mul (n := z) hP
    have hg := low_gcd (n := z) hP
    have hpos := lowD_pos (n := z) hP
    obtain ⟨s1, s2⟩ := low_scale (n := n) hd hP
    obtain ⟨t1, t2⟩ := low_self h
    obtain ⟨u1, u2⟩ := low_scale (n := z) hP hd
    rw [hzd, Int.mul_comm ((10 ^ p : Nat) : Int) d] at u1 u2
    rw [← u1, ← u2, s1, s2, t1, t2]
  · unfold fmtL
    rw [hq]
    show (txtS (decide (z < 0)) a t).length ≤ (txtS (decide (z < 0)) a b).length
    have hl : t.length ≤ b.length := by rw [hk, List.length_append]; omega
    unfold txtS
    rw [List.length_append, List.length_append]
    by_cases h0 : t = []
    · rw [if_pos h0]
      have hle : a.length ≤ (if b = [] then a else a ++ 46 :: b).length := by
        split
        · exact Nat.le_refl _
        · rw [List.length_append]; omega
      omega
    · have hb : b ≠ [] := by
        intro h1
        have h2 := List.length_pos_iff.2 h0
        rw [h1, List.length_nil] at hl
        omega
      rw [if_neg h0, if_neg hb, List.length_append, List.length_append, List.length_cons, List.length_cons]
      omega
  · obtain ⟨-, -, -, -, h45⟩ := txt_rdG hq hk
    obtain ⟨-, -, h3, -⟩ := point_facts _ hq
    have hz0 : ¬ z < 0 := by
      intro h1
      have := Int.mul_neg_of_neg_of_pos h1 hd
      have h2 := Int.mul_nonneg h0 (Int.le_of_lt hP)
      omega
    unfold txtS
    rw [decide_eq_false hz0, if_neg (by decide), List.nil_append]
    intro hh
    refine h45 ?_
    rw [← hh]
    split
    · rfl
    · cases a with
      | nil => exact absurd rfl h3
      | cons c l => rfl
theorem hasSuffix_snoc (s : List UInt8) (c : UInt8) : Lib.hasSuffix (s ++ [c]) [c] = true := by simp [Lib.hasSuffix]
theorem trimSuffix_snoc (s : List UInt8) (c : UInt8) : Lib.trimSuffix (s ++ [c]) [c] = s := by simp [Lib.trimSuffix, Lib.hasSuffix]
theorem pct_back {n d : Int} (h : okZ n d) (h0 : 0 ≤ n) (hnd : n ≤ d) (hd8 : d ≤ 10 ^ 20) (hx : n * 100 * ((10 ^ 6 : Nat) : Int) % d = 0) : ∃ s, pctT (okZ n d) n d = (s, 0) ∧ pctR s = (n, d, 0) ∧ s.length ≤ 2000 := by
  obtain ⟨-, hd, -⟩ := okZ_iff.1 h
  have hb := bp15_big
  obtain ⟨m1, m2⟩ := mkR_ok (n := n * 100) hd (by omega) (by omega)
  obtain ⟨e1, e2⟩ := low_mul (n := n * 100) hd
  have hgp : (0 : Int) < (Int.gcd (n * 100) d : Int) := by have := gcd_pos (n := n * 100) hd; omega
  have hDp := lowD_pos (n := n * 100) hd
  have hNa := lowN_abs (n * 100) d
  have hDa := lowD_abs (n * 100) d
  generalize lowN (n * 100) d = A at *
  generalize lowD (n * 100) d = D at *
  generalize (Int.gcd (n * 100) d : Int) = g at *
  have hA0 : 0 ≤ A := by
    rcases Int.lt_or_le A 0 with h1 | h1
    · have := Int.mul_neg_of_neg_of_pos h1 hgp; omega
    · exact h1
  have hxA : A * ((10 ^ 6 : Nat) : Int) % D = 0 := by
    have hdv := Int.dvd_of_emod_eq_zero hx
    rw [← e1, ← e2, Int.mul_assoc, Int.mul_comm g, ← Int.mul_assoc] at hdv
    exact Int.emod_eq_zero_of_dvd (Int.dvd_of_mul_dvd_mul_right (by omega) hdv)
  have hzb : (A * ((10 ^ 6 : Nat) : Int) / D).natAbs < 10 ^ 15 := by
    have k1 : A ≤ 100 * D := by
      rcases Int.lt_or_le (100 * D) A with h1 | h1
      · exfalso
        have := Int.mul_lt_mul_of_pos_right h1 hgp
        rw [Int.mul_assoc, e1, e2] at this
        omega
      · exact h1
    have k2 : A * ((10 ^ 6 : Nat) : Int) / D ≤ 100000000 := by
      apply Int.ediv_le_of_le_mul hDp
      have : A * ((10 ^ 6 : Nat) : Int) ≤ 100 * D * ((10 ^ 6 : Nat) : Int) := Int.mul_le_mul_of_nonneg_right k1 (by decide)
      have e : 100 * D * ((10 ^ 6 : Nat) : Int) = 100000000 * D := by rw [Int.mul_comm 100 D, Int.mul_assoc, Int.mul_comm]; rfl
      omega
    have k3 : 0 ≤ A * ((10 ^ 6 : Nat) : Int) / D := Int.ediv_nonneg (Int.mul_nonneg hA0 (by decide)) (by omega)
    omega
  obtain ⟨s, s1, s2, s4, s3⟩ := txt_back m2 (p := 6) (by decide) hxA hzb
  have s5 := fmtL_len (n := (A * ((10 ^ 6 : Nat) : Int) / D).natAbs) (neg := decide (A * ((10 ^ 6 : Nat) : Int) / D < 0)) (p := 6) hzb (by decide)
  refine ⟨s ++ [37], ?_, ?_, by rw [List.length_append, List.length_singleton]; omega⟩
  · unfold pctT
    rw [if_neg (by simpa using h)]
    dsimp only
    rw [m1]
    rw [if_neg (by simp; omega)]
    dsimp only
    rw [show ((6 : Nat) : Int) = 6 from rfl] at s1
    rw [s1]
    rfl
  · unfold pctR
    dsimp only
    rw [trimSuffix_snoc, hasSuffix_snoc]
    rw [show ((6 : Nat) : Int) = 6 from rfl] at s2
    rw [s2]
    rw [if_neg (by simp; exact s3 hA0)]
    dsimp only
    obtain ⟨p1, p2⟩ := mkR_ok (n := A) (d := D * 100) (by omega) (by omega) (by omega)
    rw [p1]
    obtain ⟨q1, q2⟩ := low_mul (n := A) (d := D * 100) (by omega)
    have hgp2 : (0 : Int) < (Int.gcd A (D * 100) : Int) := by have := gcd_pos (n := A) (d := D * 100) (by omega); omega
    have hk : A * d = n * (D * 100) := by
      have : A * d * g = n * (D * 100) * g := by
        calc A * d * g = A * g * d := by ac_rfl
          _ = n * 100 * d := by rw [e1]
          _ = n * 100 * (D * g) := by rw [e2]
          _ = n * (D * 100) * g := by ac_rfl
      exact Int.eq_of_mul_eq_mul_right (by omega) this
    obtain ⟨r1, r2⟩ := okZ_eq p2 h (by
      have : lowN A (D * 100) * d * (Int.gcd A (D * 100) : Int) = n * lowD A (D * 100) * (Int.gcd A (D * 100) : Int) := by
        rw [Int.mul_assoc, Int.mul_comm d, ← Int.mul_assoc, q1, Int.mul_assoc n, q2, hk]
      exact Int.eq_of_mul_eq_mul_right (by omega) this)
    rw [r1, r2]
end
section
open Go.RowKit
set_option maxHeartbeats 4000000
theorem dback_step {n : Int} {p : Nat} (hn : n.natAbs ≤ 2000000000) (hp : p ≤ 9) :
    ∃ (a b : Int) (s u : ByteArray), (∀ w, Calls Tryz.prog 11 #[.int .i64 n, .int .i64 ((10 ^ p : Nat) : Int)] w (RetB (.agg (RC a b)) w)) ∧ (∀ w, Calls Tryz.prog 43 #[.agg (RC a b), .int .i64 p] w (RetB (.tuple #[.string s, .int .i64 0]) w)) ∧
      (∀ w, Calls Tryz.prog 19 #[.string s, .int .i64 p] w (RetB (.tuple #[.agg (RC a b), .int .i64 0]) w)) ∧ (∀ w, Tab w → Calls Tryz.prog 41 #[.int .i64 n, .int .i64 p] w (RetB (.tuple #[.string u, .int .i64 0]) w)) ∧
      (∀ w, Calls Tryz.prog 19 #[.string u, .int .i64 p] w (RetB (.tuple #[.agg (RC a b), .int .i64 0]) w)) ∧ s.size ≤ u.size ∧ u.size ≤ 1000 ∧ a.natAbs < bp 32 ∧ b.natAbs < bp 32 := by
  have hP0 : (0 : Int) < ((10 ^ p : Nat) : Int) := by exact_mod_cast Nat.pow_pos (by decide)
  have hP9 : (10 ^ p : Nat) ≤ 10 ^ 9 := Nat.pow_le_pow_right (by decide) hp
  have hb := bp15_big
  obtain ⟨m1, m2⟩ := mkR_ok (n := n) hP0 (by omega) (by omega)
  obtain ⟨e1, e2⟩ := low_mul (n := n) hP0
  have hD := lowD_pos (n := n) hP0
  have hx : lowN n ((10 ^ p : Nat) : Int) * ((10 ^ p : Nat) : Int) = n * lowD n ((10 ^ p : Nat) : Int) := by
    generalize lowN n ((10 ^ p : Nat) : Int) = A at *
    generalize lowD n ((10 ^ p : Nat) : Int) = D at *
    generalize (Int.gcd n ((10 ^ p : Nat) : Int) : Int) = g at *
    calc A * ((10 ^ p : Nat) : Int) = A * (D * g) := by rw [e2]
      _ = A * g * D := by ac_rfl
      _ = n * D := by rw [e1]
  obtain ⟨s, t1, t2, t3, -⟩ := txt_back m2 hp (by rw [hx]; exact Int.mul_emod_left ..) (by rw [hx, Int.mul_ediv_cancel _ (by omega)]; omega)
  rw [hx, Int.mul_ediv_cancel _ (by omega)] at t3
  have f1 := fmt_back (n := n) hp (by omega)
  have f2 := fmtL_len (n := n.natAbs) (neg := decide (n < 0)) (p := p) (by omega) hp
  generalize lowN n ((10 ^ p : Nat) : Int) = A at *
  generalize lowD n ((10 ^ p : Nat) : Int) = D at *
  have hfr : fmtR n p = (fmtL n.natAbs (decide (n < 0)) p, 0) := by
    unfold fmtR
    rw [if_neg (by omega), if_neg (by omega), Int.toNat_natCast]
  refine ⟨A, D, bs s, bs (fmtL n.natAbs (decide (n < 0)) p), fun w => makeOf_any (by omega) (by omega) (by omega) (by omega) m1 w, fun w => ?_, fun w => parse_any s p (by omega) t2 w, fun w ht => ?_, fun w => parse_any _ p (by omega) f1 w, by rw [bs_size, bs_size]; exact t3, by rw [bs_size]; exact f2, (okZ_b m2).1, (okZ_b m2).2⟩
  · refine text_any (x := decide (A < 0)) (y := decide (D < 0)) (okZ_b m2).1 (okZ_b m2).2 (r := (s, 0)) ?_ w
    rw [sZ_z, sZ_z]
    exact t1
  · exact format_any n p hfr ht
theorem pct_step {k e : Int} {v : Value} (h : OfP k e v) (h0 : 0 ≤ k) (hk : k ≤ e) (he : 0 < e) (h8 : 100000000 % e = 0) :
    ∃ (a b : Int) (s : ByteArray), v = .agg (RC a b) ∧ (∀ w, Calls Tryz.prog 45 #[.agg (RC a b)] w (RetB (.tuple #[.string s, .int .i64 0]) w)) ∧ (∀ w, Calls Tryz.prog 21 #[.string s] w (RetB (.tuple #[.agg (RC a b), .int .i64 0]) w)) ∧ a.natAbs < bp 32 ∧ b.natAbs < bp 32 := by
  obtain ⟨a, b, hv, hz, hab, ha, hb, hdv⟩ := h
  obtain ⟨-, hd, -⟩ := okZ_iff.1 hz
  have e8 : e ≤ 100000000 := Int.le_of_dvd (by decide) (Int.dvd_of_emod_eq_zero h8)
  have a0 : 0 ≤ a := by
    rcases Int.lt_or_le a 0 with h1 | h1
    · have h2 := Int.mul_neg_of_neg_of_pos h1 he
      have h3 := Int.mul_nonneg h0 (Int.le_of_lt hd)
      omega
    · exact h1
  have ab : a ≤ b := by
    have h1 : a * e ≤ b * e := by
      rw [hab, Int.mul_comm b e]
      exact Int.mul_le_mul_of_nonneg_right hk (Int.le_of_lt hd)
    exact Int.le_of_mul_le_mul_right h1 he
  have hx : a * 100 * ((10 ^ 6 : Nat) : Int) % b = 0 := by
    have h1 : b ∣ 100000000 := Int.dvd_trans hdv (Int.dvd_of_emod_eq_zero h8)
    have h2 : a * 100 * ((10 ^ 6 : Nat) : Int) = a * 100000000 := by rw [Int.mul_assoc]; rfl
    rw [h2]
    exact Int.emod_eq_zero_of_dvd (Int.dvd_trans h1 (Int.dvd_mul_left _ _))
  obtain ⟨s, s1, s2, s3⟩ := pct_back hz a0 ab (by omega) hx
  have hl : s.length ≤ 9223372036854775807 := by omega
  refine ⟨a, b, bs s, hv, fun w => ?_, fun w => percent_any s hl s2 w, (okZ_b hz).1, (okZ_b hz).2⟩
  refine percentText_any (x := decide (a < 0)) (y := decide (b < 0)) (okZ_b hz).1 (okZ_b hz).2 (r := (s, 0)) ?_ w
  rw [sZ_z, sZ_z]
  exact s1
theorem back_mul {k c : Int} (hk : -2000000 ≤ k ∧ k ≤ 2000000) (hc : c ∈ [1, 1, 1000]) : -2000000000 ≤ k * c ∧ k * c ≤ 2000000000 := by
  simp only [List.mem_cons, List.not_mem_nil, or_false] at hc
  rcases hc with rfl | rfl | rfl <;> omega
set_option maxRecDepth 100000 in
theorem decimalBack_any (A0 : Option Addr) (L0 : List Int) (cap : Nat) {w : World} (hL : IntsAt w A0 L0) (ht : Tab w) : Calls Tryz.prog 10 #[.slice A0 L0.length cap] w (RetB (.bool true) w) := by
  have T0 := tape_start (cap := cap) hL
  have gk := fun u W N L (T : Tp (w.alloc (.cells #[.slice A0 L0.length cap, .int .i64 0] 25)) u w.heap.size w.heap.size N) (F : Fr u W L) => known_any (ht.next (tape_out T F))
  have gt := fun u W N L (T : Tp (w.alloc (.cells #[.slice A0 L0.length cap, .int .i64 0] 25)) u w.heap.size w.heap.size N) (F : Fr u W L) => ht.next (tape_out T F)
  have HO := Lib.hid (fun u W N L (T : Tp (w.alloc (.cells #[.slice A0 L0.length cap, .int .i64 0] 25)) u w.heap.size w.heap.size N) (F : Fr u W L) => (show RetB (.bool true) w (.returned (.bool true)) W from ⟨rfl, tape_out T F⟩))
  clear hL ht
  go_enter Tryz.func10, Tryz.ntmps10
  go_upto_region 2 with fail
  have F := Fr.start (w.alloc (.cells #[.slice A0 L0.length cap, .int .i64 0] 25))
  have T := Tp.start T0
  clear T0
  generalize w.alloc (.cells #[.slice A0 L0.length cap, .int .i64 0] 25) = w1 at *
  generalize w.heap.size = b at *
  go_wp2_with (first | go_skip | ((go_at_call 16); (with_reducible refine fr_tap F T (tnext _ (by decide) (by decide) (T.at F)) ?_); (try clear F T); (rintro _ u W ⟨p, rfl, hp⟩ T F); (try dsimp only)) | ((with_reducible apply fL F); exact rfl; exact rfl; (exact tL); (exact tR3)) | ((with_reducible apply fSli F slInt); exact rfl; exact rfl; exact rfl; decide; decide; (go_simp; exact rfl); exact rfl) | ((with_reducible apply fA_rat F); exact rfl) | ((with_reducible apply fS F); exact rfl; exact rfl; exact rfl; (exact tL); (exact tR3); (exact tS2); clear F; intro W F; simp only [z7, z8] at F))
  have hp9 : p ≤ 9 := by omega
  clear hp
  go_loopw [5, 6] (fun pv iv wr => ∃ i : Nat, i ≤ p ∧ pv = .int .i64 ((10 ^ i : Nat) : Int) ∧ iv = .int .i64 i ∧ Fr u wr []) (fun pv iv _ => p + 1 - (intOf iv).toNat)
  case atStart => exact ⟨0, by omega, rfl, rfl, F⟩
  case round =>
    clear F
    obtain ⟨i, hi, rfl, rfl, F⟩ := hrel
    by_cases hlt : i < p
    · have t1 : decide ((i : Int) < (p : Int)) = true := decide_eq_true (by omega)
      obtain ⟨Q, hQ⟩ : ∃ Q : Nat, 10 ^ i = Q := ⟨_, rfl⟩
      have hQ' : 10 ^ (i + 1) = Q * 10 := by rw [← hQ, Nat.pow_succ]
      have hQ9 : Q ≤ 10 ^ 9 := by rw [← hQ]; exact Nat.pow_le_pow_right (by decide) (by omega)
      rw [hQ]
      have HQ := Lib.hid hQ'
      clear hQ hQ'
      go_wp2_with (first | go_skip | ((with_reducible apply fL F); exact rfl; exact rfl; (exact tL); (exact tR3)) | ((with_reducible apply fSli F slInt); exact rfl; exact rfl; exact rfl; decide; decide; (go_simp; exact rfl); exact rfl) | ((with_reducible apply fA_rat F); exact rfl) | ((with_reducible apply fS F); exact rfl; exact rfl; exact rfl; (exact tL); (exact tR3); (exact tS2); clear F; intro W F; simp only [z7, z8] at F))
      go_roundw
      case rel => exact ⟨i + 1, by omega, by rw [HQ.out, Int.natCast_mul]; rfl, by first | rfl | go_num, F⟩
      case measure => simp [intOf]; omega
    obtain rfl : i = p := by omega
    have t1 : decide ((i : Int) < (i : Int)) = false := decide_eq_false (by omega)
    have hP9 : (10 ^ i : Nat) ≤ 10 ^ 9 := Nat.pow_le_pow_right (by decide) hp9
    go_wp2_with (first | go_skip | ((go_at_call 12); (with_reducible refine fr_tap F T (trange _ _ (by decide) (by decide) (by decide) (T.at F)) ?_); (try clear F T); (rintro _ u W ⟨k, rfl, hk⟩ T F); (try dsimp only)) | ((with_reducible apply fL F); exact rfl; exact rfl; (exact tL); (exact tR3)) | ((with_reducible apply fSli F slInt); exact rfl; exact rfl; exact rfl; decide; decide; (go_simp; exact rfl); exact rfl) | ((with_reducible apply fA_rat F); exact rfl) | ((with_reducible apply fS F); exact rfl; exact rfl; exact rfl; (exact tL); (exact tR3); (exact tS2); clear F; intro W F; simp only [z7, z8] at F))
    (clear F; intro b37 W F; try simp only [Act.put, z6, z1, z2])
    go_upto_region 9 with (first | go_skip | ((go_at_call 13); (with_reducible refine fr_tap F T (tpickF [1, 1, 1000] F T tL (by with_unfolding_all rfl) (by with_unfolding_all rfl) (by simp) (by simp)) ?_); (try clear F T); (rintro _ u W ⟨c, rfl, hc⟩ T F); (have hkc := back_mul hk hc); (clear hc hk); (try dsimp only)) | ((with_reducible apply fL F); exact rfl; exact rfl; (exact tL); (exact tR3)) | ((with_reducible apply fSli F slInt); exact rfl; exact rfl; exact rfl; decide; decide; (go_simp; exact rfl); exact rfl) | ((with_reducible apply fA_rat F); exact rfl) | ((with_reducible apply fS F); exact rfl; exact rfl; exact rfl; (exact tL); (exact tR3); (exact tS2); clear F; intro W F; simp only [z7, z8] at F))
    generalize k * c = n at *
    obtain ⟨x, y, s, r, g1, g2, g3, g4, g5, hsz, hsz2, hx, hy⟩ := dback_step (n := n) (by omega) hp9
    have q1 := fun w => eq_RC hx hy hx hy w
    have t2 : decide ((r.size : Int) < (s.size : Int)) = false := decide_eq_false (by omega)
    have HZ := Lib.hid (And.intro hsz hsz2)
    clear hx hy
    generalize ((10 ^ i : Nat) : Int) = P at *
    go_wp2_with (first | go_skip | ((go_at_call 11); (with_reducible refine fr_call F (g1 _) ?_); (clear F; intro W F); (try dsimp only)) | ((with_reducible apply fL F); exact rfl; exact rfl; (exact tL); (exact tR3)) | ((with_reducible apply fSli F slInt); exact rfl; exact rfl; exact rfl; decide; decide; (go_simp; exact rfl); exact rfl) | ((with_reducible apply fA_rat F); exact rfl) | ((with_reducible apply fS F); exact rfl; exact rfl; exact rfl; (exact tL); (exact tR3); (exact tS2); clear F; intro W F; simp only [z7, z8] at F))
    (clear F; intro b8 W F; try simp only [Act.put, z6, z1, z2])
    go_wp2_with (first | go_skip | ((go_at_call 43); (with_reducible refine fr_call F (g2 _) ?_); (clear F; intro W F); (try dsimp only)) | ((go_at_call 19); (with_reducible refine fr_call F (g3 _) ?_); (clear F; intro W F); (try dsimp only)) | ((with_reducible apply fL F); exact rfl; exact rfl; (exact tL); (exact tR3)) | ((with_reducible apply fSli F slInt); exact rfl; exact rfl; exact rfl; decide; decide; (go_simp; exact rfl); exact rfl) | ((with_reducible apply fA_rat F); exact rfl) | ((with_reducible apply fS F); exact rfl; exact rfl; exact rfl; (exact tL); (exact tR3); (exact tS2); clear F; intro W F; simp only [z7, z8] at F))
    (clear F; intro b11 W F; try simp only [Act.put, z6, z1, z2])
    go_wp2_with (first | go_skip | ((go_at_call 41); (with_reducible refine fr_call F (g4 _ (gt _ _ _ _ T F)) ?_); (clear F; intro W F); (try dsimp only)) | ((go_at_call 19); (with_reducible refine fr_call F (g5 _) ?_); (clear F; intro W F); (try dsimp only)) | ((with_reducible apply fL F); exact rfl; exact rfl; (exact tL); (exact tR3)) | ((with_reducible apply fSli F slInt); exact rfl; exact rfl; exact rfl; decide; decide; (go_simp; exact rfl); exact rfl) | ((with_reducible apply fA_rat F); exact rfl) | ((with_reducible apply fS F); exact rfl; exact rfl; exact rfl; (exact tL); (exact tR3); (exact tS2); clear F; intro W F; simp only [z7, z8] at F))
    (clear F; intro b15 W F; try simp only [Act.put, z6, z1, z2])
    go_wp2_with (first | go_skip | ((go_at_call 47); (with_reducible refine fr_tap F T (tpercent (T.at F)) ?_); (try clear F T); (intro v u W hv T F); (try dsimp only)) | ((with_reducible apply fL F); exact rfl; exact rfl; (exact tL); (exact tR3)) | ((with_reducible apply fSli F slInt); exact rfl; exact rfl; exact rfl; decide; decide; (go_simp; exact rfl); exact rfl) | ((with_reducible apply fA_rat F); exact rfl) | ((with_reducible apply fS F); exact rfl; exact rfl; exact rfl; (exact tL); (exact tR3); (exact tS2); clear F; intro W F; simp only [z7, z8] at F))
    obtain ⟨pk, pe, hof, p0, p1, p2, p3⟩ := hv
    obtain ⟨a, d, v, hv, g6, g7, ha, hd⟩ := pct_step hof p0 p1 p2 p3
    subst hv
    (clear F; intro b17 W F; try simp only [Act.put, z6, z1, z2])
    have q2 := fun w => eq_RC ha hd ha hd w
    clear hof p0 p1 p2 p3 ha hd
    go_wp2_with (first | go_skip | ((go_at_call 45); (with_reducible refine fr_call F (g6 _) ?_); (clear F; intro W F); (try dsimp only)) | ((go_at_call 21); (with_reducible refine fr_call F (g7 _) ?_); (clear F; intro W F); (try dsimp only)) | ((with_reducible apply fL F); exact rfl; exact rfl; (exact tL); (exact tR3)) | ((with_reducible apply fSli F slInt); exact rfl; exact rfl; exact rfl; decide; decide; (go_simp; exact rfl); exact rfl) | ((with_reducible apply fA_rat F); exact rfl) | ((with_reducible apply fS F); exact rfl; exact rfl; exact rfl; (exact tL); (exact tR3); (exact tS2); clear F; intro W F; simp only [z7, z8] at F))
    (clear F; intro b20 W F; try simp only [Act.put, z6, z1, z2])
    go_wp2_with (first | go_skip | ((go_at_call 18); (with_reducible refine fr_call F (gk _ _ _ _ T F) ?_); (clear F; intro W F); (try dsimp only)) | ((with_reducible apply fL F); exact rfl; exact rfl; (exact tL); (exact tR3)) | ((with_reducible apply fSli F slInt); exact rfl; exact rfl; exact rfl; decide; decide; (go_simp; exact rfl); exact rfl) | ((with_reducible apply fA_rat F); exact rfl) | ((with_reducible apply fS F); exact rfl; exact rfl; exact rfl; (exact tL); (exact tR3); (exact tS2); clear F; intro W F; simp only [z7, z8] at F))
    go_ret
    exact HO.out _ _ _ _ T F
end
end Go.Proofs.YtpaodheilchfnaaGreatDoor
