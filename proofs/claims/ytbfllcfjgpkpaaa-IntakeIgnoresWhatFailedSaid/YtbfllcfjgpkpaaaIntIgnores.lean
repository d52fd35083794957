/-
  The law IntakeIgnoresWhatFailed over a tape.
-/
import Derived.Test.YtbfllcfjgpkpaaaIntForgets
namespace Go.Proofs.Ytbfllcfjgpkpaaa
open Go.RowKit
set_option linter.unusedVariables false
set_option maxHeartbeats 8000000
def okP (P : DPar) (k : Int) (fund : ByteArray) (j : Nat) : Bool := decide (stF P.fr P.dl P.l k fund j P.l.length < 4)
/-- What is taken of the versions that did not fail. -/
theorem taken_rest {P : DPar} {k : Int} {fund : ByteArray} (key : ByteArray) : curC P.fr P.dl k fund key none (atP P.l (okP P k fund) P.l.length) = curC P.fr P.dl k fund key none P.l := by
  have h := rest_cur (fr := P.fr) (dl := P.dl) (l := P.l) (k := k) (fund := fund) (fun _ _ => trivial) key P.l.length (Nat.le_refl _)
  rw [List.take_length] at h
  exact h
theorem atP_len (l : List OR) (p : Nat → Bool) (n : Nat) (h : n ≤ l.length) : (atP l p n).length ≤ l.length := (atP_sub l p n h).length_le
/-- How many are taken. -/
def tkN (P : DPar) (k : Int) (fund : ByteArray) (i : Nat) : Nat := ((List.range i).filter (tknB P.fr P.dl P.l k fund P.l.length)).length
theorem tkN_succ (P : DPar) (k : Int) (fund : ByteArray) (i : Nat) : tkN P k fund (i + 1) = tkN P k fund i + if tknB P.fr P.dl P.l k fund P.l.length i = true then 1 else 0 := by
  unfold tkN
  rw [List.range_succ, List.filter_append, List.length_append]
  cases h : tknB P.fr P.dl P.l k fund P.l.length i <;> simp [h]
theorem tkN_le (P : DPar) (k : Int) (fund : ByteArray) (i : Nat) : tkN P k fund i ≤ i := by
  unfold tkN
  have := List.length_filter_le (tknB P.fr P.dl P.l k fund P.l.length) (List.range i)
  rw [List.length_range] at this
  exact this
theorem taken_len {P : DPar} {k : Int} {fund : ByteArray} {T : List (OR × Int)} (hT : TakenL P k fund T) (hb0 : bookErr P.l = 0) : T.length = tkN P k fund P.l.length := by
  have h1 : T.length = (tknL P.fr P.dl P.l k fund P.l.length).length := by
    refine List.Perm.length_eq ((List.perm_ext_iff_of_nodup hT.nodup (tknL_nodup (Nat.le_refl _) (bookErr_zero hb0).2)).2 fun p => ?_)
    rw [hT.mem, tknL_mem (Nat.le_refl _)]
  rw [h1, tknL_len (Nat.le_refl _)]
  rfl
theorem tkn_is {P : DPar} {k : Int} {fund : ByteArray} {i : Nat} {x : OR} {v : Int} (hx : P.l[i]? = some x) (hv : stF P.fr P.dl P.l k fund i P.l.length = v) : tknB P.fr P.dl P.l k fund P.l.length i = (decide (v = 1) && !x.void) := by
  unfold tknB
  rw [hx]
  simp only [hv]
set_option maxRecDepth 1000000 in
theorem intakeIgnores_any (A0 : Option Addr) (L0 : List Int) (cap : Nat) (w : World) (hL : IntsAt w A0 L0) :
    Calls Try.prog 4 #[.slice A0 L0.length cap] w (RetB (.bool true) w) := by
  go_enter Try.func4, Try.ntmps4
  go_wp2_with fail
  refine (snew_any A0 L0 cap _ hL).mono ?_
  rintro e w1 ⟨rfl, ht1, hb1⟩
  go_wp2_with fail
  refine (ssched_any _ _ _ ht1).mono ?_
  rintro e w2 ⟨s, rfl, hsok, ht2, ho2⟩
  have hB2 := lawOnly2 hb1 ho2
  clear hb1 ho2 ht1 hL
  go_wp2_with fail
  refine (splace_any _ _ _ ht2).mono ?_
  rintro e w3 ⟨z, A, kz, c, Ac, kc, rfl, hz, hc, hzA, hcA, hzok, hcok, -, -, ht3, ho3⟩
  have hB3 := lawOnly2 hB2 ho3
  have hl2 := ht2.lt
  have HS := Lib.hid (L24.new s kz kc (o1 := #[.int .i64 0, .int .i64 0, .int .i64 0, .int .i64 0, .int .i64 0]) (o2 := #[.string ⟨#[]⟩, .int .i64 0, .slice none 0 0, .string ⟨#[]⟩, .bool false, .bool false, .bool false, .bool false, .bool false, .bool false, .bool false, .slice none 0 0]) ht3 hz hc hB3 (fun ad e => by have := hzA ad e; omega) (fun ad e => by have := hcA ad e; omega))
  have b1 : BlkAt ((w3.alloc (.cells #[.int .i64 0, .int .i64 0, .int .i64 0, .int .i64 0, .int .i64 0] 26)).alloc (.cells #[.string ⟨#[]⟩, .int .i64 0, .slice none 0 0, .string ⟨#[]⟩, .bool false, .bool false, .bool false, .bool false, .bool false, .bool false, .bool false, .slice none 0 0] 35)) w3.heap.size (sV ⟨0, 0, 0, 0, 0⟩) 26 := (BlkAt.new _ _ _).al _
  have b2 : BlkAt (((w3.alloc (.cells #[.int .i64 0, .int .i64 0, .int .i64 0, .int .i64 0, .int .i64 0] 26)).alloc (.cells #[.string ⟨#[]⟩, .int .i64 0, .slice none 0 0, .string ⟨#[]⟩, .bool false, .bool false, .bool false, .bool false, .bool false, .bool false, .bool false, .slice none 0 0] 35)).setRow w3.heap.size (sV s)) (w3.heap.size + 1) #[.string ⟨#[]⟩, .int .i64 0, .slice none 0 0, .string ⟨#[]⟩, .bool false, .bool false, .bool false, .bool false, .bool false, .bool false, .bool false, .slice none 0 0] 35 := (BlkAt.newAt _ _ _ (by simp)).setFar _ (by omega)
  have HOK := Lib.hid (And.intro hsok (And.intro hzok hcok))
  clear hz hc hzA hcA hB2 hB3 ho3 ht2 ht3 hsok hzok hcok
  go_wp2_with (first | ((with_reducible refine wpl_store rfl 26 _ _ rfl _ (sV s) ?_ ?_ b1 (rowS _) ?_ ?_); exact rfl; exact rfl; exact rfl) | ((with_reducible refine wpl_store rfl 35 _ _ rfl _ (pV z A kz c Ac kc) ?_ ?_ b2 (rowP ..) ?_ ?_); exact rfl; exact rfl; exact rfl))
  clear b1 b2
  generalize ((((w3.alloc _).alloc _).setRow _ _).setRow _ _) = w4 at *
  generalize w3.heap.size + 1 = gp at *
  generalize w3.heap.size = gs at *
  refine (sord_any 12 (by omega) _ _ _ HS.out.tape).mono ?_
  rintro e w5 ⟨l, Al, cl, kn, rfl, hl12, hkn, hmade, hor, hAl, ht5, ho5⟩
  have HS5 := Lib.hid (HS.out.only ho5 ht5)
  have HO5 := Lib.hid hor
  have HM := Lib.hid hmade
  have hb0 := Lib.hid (hmade.book (by omega))
  clear HS hor hmade ht5 ho5 hAl
  obtain ⟨fr, hfr⟩ := fr_ex s z c
  obtain ⟨dl, hdl⟩ := dl_exF s z c
  obtain ⟨P, hPe⟩ : ∃ P : DPar, P = ⟨l, Al, cl, s, z, A, kz, c, Ac, kc, fr, dl⟩ := ⟨_, rfl⟩
  have HPE := Lib.hid hPe
  have HOKP := Lib.hid (fun (W : World) (h : L24 w W gs gp s z A kz c Ac kc) (h2 : OrAt W Al l) => (show P.Ok W by rw [hPe]; exact ⟨h2, h.ls.za, h.ls.ca, hfr, hdl, by show l.length ≤ 4096; omega⟩))
  have HFD := Lib.hid (And.intro hfr hdl)
  have HPL := Lib.hid (show P.l = l by rw [hPe])
  have HB0 := Lib.hid (show bookErr P.l = 0 by rw [hPe]; exact hb0.out)
  have HST0 := Lib.hid (fun (W : World) (h : P.Ok W) => by
    have := stat_ok h (k := 1000) (fund := alpha) HB0.out (by decide) alpha_nm alpha_sz (by rw [hPe]; exact HOK.out.2.1) (by rw [hPe]; exact HOK.out.2.2) (by rw [hPe]; exact HOK.out.1)
    rw [hPe] at this
    exact this)
  have HTK0 := Lib.hid (fun (W : World) (h : P.Ok W) => by
    have := taken_c h (k := 1000) (fund := alpha) HB0.out (by decide) alpha_nm alpha_sz (by rw [hPe]; exact HOK.out.2.1) (by rw [hPe]; exact HOK.out.2.2) (by rw [hPe]; exact HOK.out.1)
    rw [hPe] at this
    exact this)
  clear hfr hdl hPe
  go_wp2_with (first | ((with_reducible refine wpl_load rfl 26 _ rfl _ ?_ HS5.out.ls.sb (rowS _) ?_); exact rfl) | ((with_reducible refine wpl_load rfl 35 _ rfl _ ?_ HS5.out.ls.pb (rowP ..) ?_); exact rfl))
  refine (HST0.out _ (HOKP.out _ HS5.out HO5.out)).mono ?_
  rintro e w6 ⟨g6, rfl, hst, hbl, hg6⟩
  have HST : Hid (BlkAt w6 g6 (stA l.length (fun j => stF P.fr P.dl P.l 1000 alpha j P.l.length)) 3) := Lib.hid (by rw [HPE.out]; exact hst)
  have HS6 := Lib.hid (HS5.out.next hbl)
  have HO6 := Lib.hid (HO5.out.below hbl)
  clear hbl hst HS5 HO5 HST0
  go_wp2_with fail
  go_loopw [9, 10, 11] (fun rv nv iv wr => ∃ i : Nat, i ≤ l.length ∧ iv = .int .i64 i ∧ nv = .int .i64 (tkN P 1000 alpha i) ∧ OwnL w6 wr 43 11 rv (atP l (okP P 1000 alpha) i).length (orL (atP l (okP P 1000 alpha) i)).flatten) (fun _ _ iv _ => l.length - (intOf iv).toNat)
  case atStart => exact ⟨0, by omega, rfl, rfl, OwnL.start ..⟩
  case round =>
    obtain ⟨i, hi, rfl, rfl, hO⟩ := hrel
    have HO := Lib.hid hO
    have HL := Lib.hid (HS6.out.next hO.below)
    have HR := Lib.hid (HO6.out.below hO.below)
    have HT := Lib.hid (HST.out.next hO.below)
    clear hO
    by_cases hil : i < l.length
    · obtain ⟨b, o, x, hAl, hx, -, -, -⟩ := HR.out.get hil
      subst hAl
      obtain ⟨v, hv⟩ : ∃ v, stF P.fr P.dl P.l 1000 alpha i P.l.length = v := ⟨_, rfl⟩
      have HTB := Lib.hid (tkn_is (P := P) (k := 1000) (fund := alpha) (by rw [HPL.out]; exact hx) hv)
      have HOK4 := Lib.hid (show okP P 1000 alpha i = decide (v < 4) by unfold okP; rw [hv])
      have HX := Lib.hid hx
      have hkn := tkN_le P 1000 alpha i
      have hkl : (atP l (okP P 1000 alpha) i).length ≤ 100000 := by have := atP_len l (okP P 1000 alpha) i hi; omega
      have HC := Lib.hid (fun (W : World) (h : BlkAt W g6 (stA l.length (fun j => stF P.fr P.dl P.l 1000 alpha j P.l.length)) 3) => by
        have := h.cell (stA_at (fun j => stF P.fr P.dl P.l 1000 alpha j P.l.length) hil)
        rw [hv] at this
        exact (this : W.cell? ⟨g6, i, none⟩ = some (.int .i64 v)))
      have c0 := HC.out _ HT.out
      obtain ⟨q0, q1, q2, q3, q4, q5, q6, q7, q8, q9, q10⟩ := HR.out.at HX.out
      generalize hN : tkN P 1000 alpha i = N at *
      have HN := Lib.hid hN
      clear hx hv hN
      by_cases h4 : v < 4
      · have H4 : Hid (decide (v < 4) = true) := Lib.hid (decide_eq_true h4)
        by_cases h1 : v = 1
        · subst h1
          cases hvd : x.void
          · have HVD := Lib.hid hvd
            clear hvd h4
            go_wp2_with (at_builtin; refine wpl_push elOrd rfl _ _ rfl HO.out rfl #[.string x.key, .string x.nom, .string x.hol, .string x.fund, .string x.cls, .int .i64 x.kind, .int .i64 x.amt, .int .i64 x.units, .int .i64 x.t, .int .i64 x.known, .bool x.void] rfl rfl rfl hkl (by decide) ?_; intro v' w' hO' hg; have c0' := HC.out _ (HST.out.next hO'.below); obtain ⟨r0, r1, r2, r3, r4, r5, r6, r7, r8, r9, r10⟩ := (HO6.out.below hO'.below).at HX.out; rw [HVD.out] at r10)
            have HO2 := Lib.hid (hO'.eqO (n' := (atP l (okP P 1000 alpha) (i + 1)).length) (xs' := (orL (atP l (okP P 1000 alpha) (i + 1))).flatten) (by rw [atP_succ HX.out, HOK4.out, if_pos (H4.out), List.length_append]; rfl) (by rw [atP_succ HX.out, HOK4.out, if_pos (H4.out), orL_next]))
            clear hO' hg
            go_roundw
            case rel => exact ⟨i + 1, by omega, by go_num, by rw [tkN_succ, HN.out, HTB.out, HVD.out]; go_num, HO2.out⟩
            case measure => simp [intOf]; omega
          · have HVD := Lib.hid hvd
            clear hvd h4
            go_wp2_with (at_builtin; refine wpl_push elOrd rfl _ _ rfl HO.out rfl #[.string x.key, .string x.nom, .string x.hol, .string x.fund, .string x.cls, .int .i64 x.kind, .int .i64 x.amt, .int .i64 x.units, .int .i64 x.t, .int .i64 x.known, .bool x.void] rfl rfl rfl hkl (by decide) ?_; intro v' w' hO' hg; have c0' := HC.out _ (HST.out.next hO'.below); obtain ⟨r0, r1, r2, r3, r4, r5, r6, r7, r8, r9, r10⟩ := (HO6.out.below hO'.below).at HX.out; rw [HVD.out] at r10)
            have HO2 := Lib.hid (hO'.eqO (n' := (atP l (okP P 1000 alpha) (i + 1)).length) (xs' := (orL (atP l (okP P 1000 alpha) (i + 1))).flatten) (by rw [atP_succ HX.out, HOK4.out, if_pos (H4.out), List.length_append]; rfl) (by rw [atP_succ HX.out, HOK4.out, if_pos (H4.out), orL_next]))
            clear hO' hg
            go_roundw
            case rel => exact ⟨i + 1, by omega, by go_num, by rw [tkN_succ, HN.out, HTB.out, HVD.out]; go_num, HO2.out⟩
            case measure => simp [intOf]; omega
        · have g9 := beq_eq_false_iff_ne.2 h1
          have g8 := bne_iff_ne.2 h1
          have HN1 := Lib.hid h1
          clear h1
          go_wp2_with (at_builtin; refine wpl_push elOrd rfl _ _ rfl HO.out rfl #[.string x.key, .string x.nom, .string x.hol, .string x.fund, .string x.cls, .int .i64 x.kind, .int .i64 x.amt, .int .i64 x.units, .int .i64 x.t, .int .i64 x.known, .bool x.void] rfl rfl rfl hkl (by decide) ?_; intro v' w' hO' hg; have c0' := HC.out _ (HST.out.next hO'.below); obtain ⟨r0, r1, r2, r3, r4, r5, r6, r7, r8, r9, r10⟩ := (HO6.out.below hO'.below).at HX.out)
          have HO2 := Lib.hid (hO'.eqO (n' := (atP l (okP P 1000 alpha) (i + 1)).length) (xs' := (orL (atP l (okP P 1000 alpha) (i + 1))).flatten) (by rw [atP_succ HX.out, HOK4.out, if_pos (H4.out), List.length_append]; rfl) (by rw [atP_succ HX.out, HOK4.out, if_pos (H4.out), orL_next]))
          clear hO' hg
          go_roundw
          case rel => exact ⟨i + 1, by omega, by go_num, by rw [tkN_succ, HN.out, HTB.out, decide_eq_false HN1.out]; go_num, HO2.out⟩
          case measure => simp [intOf]; omega
      · have h1 : v ≠ 1 := by omega
        have g9 := beq_eq_false_iff_ne.2 h1
        have g8 := bne_iff_ne.2 h1
        have HN1 := Lib.hid h1
        clear h1
        have HO2 := Lib.hid (HO.out.eqO (n' := (atP l (okP P 1000 alpha) (i + 1)).length) (xs' := (orL (atP l (okP P 1000 alpha) (i + 1))).flatten) (by rw [atP_succ HX.out, HOK4.out, if_neg (by simpa using h4)]) (by rw [atP_succ HX.out, HOK4.out, if_neg (by simpa using h4)]))
        go_wp2_with fail
        go_roundw
        case rel => exact ⟨i + 1, by omega, by go_num, by rw [tkN_succ, HN.out, HTB.out, decide_eq_false HN1.out]; go_num, HO2.out⟩
        case measure => simp [intOf]; omega
    · obtain rfl : i = l.length := by omega
      have hkl := atP_len l (okP P 1000 alpha) l.length (Nat.le_refl _)
      obtain ⟨A', cp', rfl, hOr'⟩ := HO.out.orders (fun x hx => (HM.out.each x ((atP_sub l _ _ (Nat.le_refl _)).mem hx)).small) (by omega)
      have HU := Lib.hid hOr'
      have hbk : bookErr (atP l (okP P 1000 alpha) l.length) = 0 := bookErr_sub (atP_sub l _ _ (Nat.le_refl _)) hb0.out
      have HC2 := Lib.hid (fun (W : World) (h : L24 w W gs gp s z A kz c Ac kc) (h2 : OrAt W A' (atP l (okP P 1000 alpha) l.length)) => taken_c (P := ⟨atP l (okP P 1000 alpha) l.length, A', cp', s, z, A, kz, c, Ac, kc, fr, dl⟩) (w := W) ⟨h2, h.ls.za, h.ls.ca, HFD.out.1, HFD.out.2, by show (atP l (okP P 1000 alpha) l.length).length ≤ 4096; omega⟩ (k := 1000) (fund := alpha) hbk (by decide) alpha_nm alpha_sz HOK.out.2.1 HOK.out.2.2 HOK.out.1)
      clear hOr' HO hbk
      go_wp2_with (first | ((with_reducible refine wpl_load rfl 26 _ rfl _ ?_ HL.out.ls.sb (rowS _) ?_); exact rfl) | ((with_reducible refine wpl_load rfl 35 _ rfl _ ?_ HL.out.ls.pb (rowP ..) ?_); exact rfl))
      refine (HTK0.out _ (HOKP.out _ HL.out HR.out)).mono ?_
      rintro e1 w7 ⟨A1, c1, T1, rfl, hT1, hbl, hC1, hl1, hTL⟩
      have HS7 := Lib.hid (HL.out.next hbl)
      have HU7 := Lib.hid (HU.out.below hbl)
      have HT1 := Lib.hid hT1
      have HE1 := Lib.hid hC1
      have HLN := Lib.hid (show T1.length = tkN P 1000 alpha l.length by
        have h := taken_len hTL (by rw [← HPE.out]; exact HB0.out)
        rw [← HPE.out, HPL.out] at h
        exact h)
      clear hbl HL HU hT1 hC1 HR HTK0 hTL
      go_wp2_with (first | ((with_reducible refine wpl_load rfl 26 _ rfl _ ?_ HS7.out.ls.sb (rowS _) ?_); exact rfl) | ((with_reducible refine wpl_load rfl 35 _ rfl _ ?_ HS7.out.ls.pb (rowP ..) ?_); exact rfl))
      refine (HC2.out _ HS7.out HU7.out).mono ?_
      rintro e2 w8 ⟨A2, c2, T2, rfl, hT2, hbl, hC2, hl2, -⟩
      have hTe : T2 = T1 := TakenC.unique hC2 HE1.out (fun key => by
        have h := taken_rest (P := P) (k := 1000) (fund := alpha) key
        rw [HPL.out, HPE.out] at h
        rw [HPE.out]
        exact h)
      subst hTe
      have HS8 := Lib.hid (HS7.out.next hbl)
      have HT1b := Lib.hid (HT1.out.below hbl)
      have HT2 := Lib.hid hT2
      clear hbl HS7 HU7 HT1 hT2 hC2 HC2 HE1
      have hlen : ((T2.length : Int) == (tkN P 1000 alpha l.length : Int)) = true := by rw [HLN.out]; simp
      go_wp2_with fail
      refine (rsame_any T2 (by omega) _ _ _ _ _ HT1b.out HT2.out).mono ?_
      rintro e3 w9 ⟨rfl, hbl⟩
      have HS9 := Lib.hid (HS8.out.next hbl)
      clear hbl HS8 HT1b HT2
      go_wp2_with fail
      refine (awake24_any _).mono ?_
      rintro e4 w10 ⟨rfl, hbl⟩
      have HB := Lib.hid (bnext HS9.out.ls.below hbl)
      clear hbl
      go_wp2_with fail
      go_ret
      exact ⟨rfl, HB.out⟩
end Go.Proofs.Ytbfllcfjgpkpaaa
