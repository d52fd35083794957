/-
  The laws IntakeOfBooks, IntakeTells and IntakeRefuses over their arguments.
-/
import Derived.Test.YtbfllcfjgpkpaaaGreatIntRef3
import Derived.Test.YtbfllcfjgpkpaaaGreatIntKeeps
namespace Go.Proofs.YtbfllcfjgpkpaaaGreat
open Go.RowKit
set_option linter.unusedVariables false
set_option maxHeartbeats 1600000
theorem runErr_zero {l : List OR} {k : Int} {fund : ByteArray} {s : SC} {z : ZN} {c : CN} (h : runErr l k fund s z c = 0) : bookErr l = 0 ∧ knB k = true ∧ nmB fund = true ∧ z.ok = true ∧ c.ok = true ∧ s.ok = true := by
  unfold runErr at h
  split at h
  · rename_i h1
    exact absurd h h1
  · rename_i h1
    split at h
    · cases h
    · rename_i h2
      split at h
      · cases h
      · rename_i h3
        split at h
        · rename_i h4
          exact absurd h h4
        · rename_i h4
          split at h
          · rename_i h5
            exact absurd h h5
          · rename_i h5
            refine ⟨by simpa using h1, by simpa using h2, by simpa using h3, ?_, ?_, ?_⟩
            · cases hz : z.ok
              · simp [ZN.err, hz] at h4
              · rfl
            · cases hc : c.ok
              · simp [CN.err, hc] at h5
              · rfl
            · cases hs : s.ok
              · simp [SC.err, hs] at h
              · rfl
theorem runErr_ok {l : List OR} {k : Int} {fund : ByteArray} {s : SC} {z : ZN} {c : CN} (h1 : bookErr l = 0) (h2 : knB k = true) (h3 : nmB fund = true) (h4 : z.ok = true) (h5 : c.ok = true) (h6 : s.ok = true) : runErr l k fund s z c = 0 := by
  simp [runErr, h1, h2, h3, ZN.err, h4, CN.err, h5, SC.err, h6]
/-- The last instants of dealing days. -/
theorem dl_exG (s : SC) (z : ZN) (c : CN) : ∃ dl : Int → Int × Int, (∀ d, DlnR s z c d (dl d).1 (dl d).2) ∧ ∀ d x, DlnR s z c d x 0 → (dl d).2 = 0 := by
  have key : ∀ d, ∃ p : Int × Int, DlnR s z c d p.1 p.2 ∧ ∀ x, DlnR s z c d x 0 → p.2 = 0 := by
    intro d
    by_cases h : ∃ x, DlnR s z c d x 0
    · obtain ⟨x, hx⟩ := h
      exact ⟨(x, 0), hx, fun _ _ => rfl⟩
    · obtain ⟨v, e, he⟩ := dln_ex s z c d
      exact ⟨(v, e), he, fun x hx => absurd ⟨x, hx⟩ h⟩
  exact ⟨fun d => (key d).choose, fun d => (key d).choose_spec.1, fun d x hx => (key d).choose_spec.2 x hx⟩
/-- What the four calls are asked, and what is known of it. -/
structure Asked (P : DPar) (w : World) : Prop where
  ok : P.Ok w
  fd : ∀ t, (P.fr t).2 = 0 → (P.dl (P.fr t).1).2 = 0
theorem Asked.below {P : DPar} {w w' : World} (h : Asked P w) (hb : Below w.heap.size w w') : Asked P w' := ⟨h.ok.below hb, h.fd⟩
theorem asked_ex {l : List OR} {Al : Option Addr} (cl : Nat) {s : SC} {z : ZN} {A : Option Addr} (kz : Nat) {c : CN} {Ac : Option Addr} (kc : Nat) : ∃ fr dl : Int → Int × Int, ∀ w : World, OrAt w Al l → ZAt w z A → CAt w c Ac → l.length ≤ 4096 → Asked ⟨l, Al, cl, s, z, A, kz, c, Ac, kc, fr, dl⟩ w := by
  obtain ⟨fr, hfr⟩ := fr_ex s z c
  obtain ⟨dl, hdl, hd0⟩ := dl_exG s z c
  refine ⟨fr, dl, fun w h1 h2 h3 h4 => ⟨⟨h1, h2, h3, hfr, hdl, h4⟩, fun t ht => ?_⟩⟩
  have hF : ForR s z c t (fr t).1 0 := by
    have := hfr t
    rw [show (fr t).2 = 0 from ht] at this
    exact this
  obtain ⟨x, hx, -⟩ := for_last hF
  exact hd0 _ x hx
/-- The state of a law of intake where all has been made: its schedule, its place and its orders. -/
structure LQ (w W : World) (gs gp : Nat) (s : SC) (z : ZN) (A : Option Addr) (kz : Nat) (c : CN) (Ac : Option Addr) (kc : Nat) (l : List OR) (Al : Option Addr) : Prop where
  sb : BlkAt W gs (sV s) 28
  pb : BlkAt W gp (pV z A kz c Ac kc) 37
  za : ZAt W z A
  ca : CAt W c Ac
  la : OrAt W Al l
  below : Below w.heap.size w W
theorem LQ.next {w W W' : World} {gs gp : Nat} {s : SC} {z : ZN} {A : Option Addr} {kz : Nat} {c : CN} {Ac : Option Addr} {kc : Nat} {l : List OR} {Al : Option Addr} (h : LQ w W gs gp s z A kz c Ac kc l Al) (hb : Below W.heap.size W W') : LQ w W' gs gp s z A kz c Ac kc l Al :=
  ⟨h.sb.next hb, h.pb.next hb, h.za.below hb, h.ca.below hb, h.la.below hb, bnext h.below hb⟩
/-- The statuses, where there is no error. -/
def lsF (P : DPar) (k : Int) (fund : ByteArray) (er : Int) : List Int := if er = 0 then (List.range P.l.length).map (fun j => stF P.fr P.dl P.l k fund j P.l.length) else []
def tkF (P : DPar) (k : Int) (fund : ByteArray) (er : Int) (T : List (OR × Int)) : Prop := (if er = 0 then TakenC (fun key => curC P.fr P.dl k fund key none P.l) T else T = []) ∧ T.length ≤ 4096
theorem tkF_one {P : DPar} {k : Int} {fund : ByteArray} {er : Int} {T T' : List (OR × Int)} (h : tkF P k fund er T) (h' : tkF P k fund er T') : T' = T := by
  obtain ⟨h, -⟩ := h
  obtain ⟨h', -⟩ := h'
  split at h
  · rename_i e
    rw [if_pos e] at h'
    exact TakenC.unique h' h (fun _ => rfl)
  · rename_i e
    rw [if_neg e] at h'
    rw [h, h']
def StU (er : Int) (Ls : List Int) (w : World) (e : Ending) (w' : World) : Prop := ∃ A cap, e = .returned (.tuple #[.slice A Ls.length cap, .int .i64 er]) ∧ IntsAt w' A Ls ∧ Below w.heap.size w w'
def TkU (P : DPar) (k : Int) (fund : ByteArray) (er : Int) (w : World) (e : Ending) (w' : World) : Prop := ∃ A cap T, e = .returned (.tuple #[.slice A T.length cap, .int .i64 er]) ∧ TkAt w' A T ∧ tkF P k fund er T ∧ Below w.heap.size w w'
theorem ints_nil (w : World) : IntsAt w none [] := ⟨by simp, fun k x h => by simp at h⟩
theorem tk_nil (w : World) : TkAt w none [] := RecsAt.nil _ _ _
theorem st_ints {P : DPar} {w w' : World} {k : Int} {fund : ByteArray} {e : Ending} (hl : P.l.length ≤ 4096) (h : StatP P k fund w e w') {Ls : List Int} (hL : lsF P k fund 0 = Ls) : StU 0 Ls w e w' := by
  obtain ⟨gs, rfl, hb, hbl, -⟩ := h
  have h0 : lsF P k fund 0 = (List.range P.l.length).map (fun j => stF P.fr P.dl P.l k fund j P.l.length) := if_pos rfl
  have hlen : Ls.length = P.l.length := by rw [← hL, h0]; simp
  refine ⟨some ⟨gs, 0, none⟩, P.l.length, by rw [hlen], ints_blk Ls hb ?_ (by omega), hbl⟩
  rw [← hL, h0]
  simp [stA]
theorem stat_u {P : DPar} {w : World} (hP : Asked P w) {k : Int} {fund : ByteArray} (hfu : fund.size ≤ maxLen) {er : Int} (he : runErr P.l k fund P.s P.z P.c = er) {Ls : List Int} (hL : lsF P k fund er = Ls) :
    Calls Tryz.prog 11 #[.slice P.A P.l.length P.cp, .int .i64 k, .string fund, .agg (sV P.s), .agg (pV P.z P.zA P.zc P.c P.cA P.cc)] w (StU er Ls w) := by
  by_cases h0 : er = 0
  · subst h0
    obtain ⟨a1, a2, a3, a4, a5, a6⟩ := runErr_zero he
    exact (stat_ok hP.ok a1 a2 a3 hfu a4 a5 a6).mono fun e w' h => st_ints hP.ok.ln h hL
  · refine (stat_bad hP.ok.la hP.ok.za hP.ok.ca hfu he h0).mono ?_
    rintro e w' ⟨rfl, hb⟩
    have : Ls = [] := by rw [← hL]; exact if_neg h0
    subst this
    exact ⟨none, 0, rfl, ints_nil _, hb⟩
theorem nstat_u {P : DPar} {w : World} (hP : Asked P w) {k : Int} {fund : ByteArray} (hfu : fund.size ≤ maxLen) {er : Int} (he : runErr P.l k fund P.s P.z P.c = er) {Ls : List Int} (hL : lsF P k fund er = Ls) :
    Calls Tryz.prog 12 #[.slice P.A P.l.length P.cp, .int .i64 k, .string fund, .agg (sV P.s), .agg (pV P.z P.zA P.zc P.c P.cA P.cc)] w (StU er Ls w) := by
  by_cases h0 : er = 0
  · subst h0
    exact (nstat_ok hP.ok hP.fd hfu he).mono fun e w' h => st_ints hP.ok.ln h hL
  · refine (nstat_bad hP.ok.la hP.ok.za hP.ok.ca hfu he h0).mono ?_
    rintro e w' ⟨rfl, hb⟩
    have : Ls = [] := by rw [← hL]; exact if_neg h0
    subst this
    exact ⟨none, 0, rfl, ints_nil _, hb⟩
theorem take_u {P : DPar} {w : World} (hP : Asked P w) {k : Int} {fund : ByteArray} (hfu : fund.size ≤ maxLen) {er : Int} (he : runErr P.l k fund P.s P.z P.c = er) :
    Calls Tryz.prog 13 #[.slice P.A P.l.length P.cp, .int .i64 k, .string fund, .agg (sV P.s), .agg (pV P.z P.zA P.zc P.c P.cA P.cc)] w (TkU P k fund er w) := by
  by_cases h0 : er = 0
  · subst h0
    obtain ⟨a1, a2, a3, a4, a5, a6⟩ := runErr_zero he
    refine (taken_c hP.ok a1 a2 a3 hfu a4 a5 a6).mono ?_
    rintro e w' ⟨A, cap, T, rfl, hT, hb, hC, hl, -⟩
    exact ⟨A, cap, T, rfl, hT, ⟨by rw [if_pos rfl]; exact hC, hl⟩, hb⟩
  · refine (taken_bad hP.ok.la hP.ok.za hP.ok.ca hfu he h0).mono ?_
    rintro e w' ⟨rfl, hb⟩
    exact ⟨none, 0, [], rfl, tk_nil _, ⟨by rw [if_neg h0], by simp⟩, hb⟩
theorem ntake_u {P : DPar} {w : World} (hP : Asked P w) {k : Int} {fund : ByteArray} (hfu : fund.size ≤ maxLen) {er : Int} (he : runErr P.l k fund P.s P.z P.c = er) :
    Calls Tryz.prog 14 #[.slice P.A P.l.length P.cp, .int .i64 k, .string fund, .agg (sV P.s), .agg (pV P.z P.zA P.zc P.c P.cA P.cc)] w (TkU P k fund er w) := by
  by_cases h0 : er = 0
  · subst h0
    obtain ⟨a1, a2, a3, a4, a5, a6⟩ := runErr_zero he
    refine (ntake_ok hP.ok hP.fd hfu he a1).mono ?_
    rintro e w' ⟨v, T, rfl, hO, hC, hl⟩
    have hln := hP.ok.ln
    obtain ⟨A, cap, rfl, hT⟩ := hO.taken (by omega)
    exact ⟨A, cap, T, rfl, hT, ⟨by rw [if_pos rfl]; exact hC, by omega⟩, hO.below⟩
  · refine (ntake_bad hP.ok.la hP.ok.za hP.ok.ca hfu he h0).mono ?_
    rintro e w' ⟨rfl, hb⟩
    exact ⟨none, 0, [], rfl, tk_nil _, ⟨by rw [if_neg h0], by simp⟩, hb⟩
set_option maxRecDepth 1000000 in
theorem intakeOfBooks_any (A0 : Option Addr) (L0 : List Int) (cap : Nat) (k0 : Int) (w : World) (hL : IntsAt w A0 L0) :
    Calls Tryz.prog 4 #[.slice A0 L0.length cap, .int .i64 k0] w (RetB (.bool true) w) := by
  obtain ⟨k, hk, hk0, hk1⟩ := modI_lt k0 40 (by omega)
  have HKE := Lib.hid hk
  clear hk
  go_enter Tryz.func4, Tryz.ntmps4
  go_wp2_with fail
  refine (snew_any A0 L0 cap _ hL).mono ?_
  rintro e w1 ⟨rfl, ht1, hb1⟩
  go_wp2_with fail
  refine (ssched_any _ _ _ ht1).mono ?_
  rintro e w2 ⟨s, rfl, hsok, ht2, ho2⟩
  have hB2 := lawOnly2 hb1 ho2
  clear hb1 ho2 ht1 hL
  go_wp2_with fail
  refine (splace_any _ _ _ ht2).mono ?_
  rintro e w3 ⟨z, A, kz, c, Ac, kc, rfl, hz, hc, hzA, hcA, hzok, hcok, -, -, ht3, ho3⟩
  have hB3 := lawOnly2 hB2 ho3
  have hl2 := ht2.lt
  have HS := Lib.hid (L24.new s kz kc (o1 := #[.int .i64 0, .int .i64 0, .int .i64 0, .int .i64 0, .int .i64 0]) (o2 := #[.string ⟨#[]⟩, .int .i64 0, .slice none 0 0, .string ⟨#[]⟩, .bool false, .bool false, .bool false, .bool false, .bool false, .bool false, .bool false, .slice none 0 0]) ht3 hz hc hB3 (fun ad e => by have := hzA ad e; omega) (fun ad e => by have := hcA ad e; omega))
  have b1 : BlkAt ((w3.alloc (.cells #[.int .i64 0, .int .i64 0, .int .i64 0, .int .i64 0, .int .i64 0] 28)).alloc (.cells #[.string ⟨#[]⟩, .int .i64 0, .slice none 0 0, .string ⟨#[]⟩, .bool false, .bool false, .bool false, .bool false, .bool false, .bool false, .bool false, .slice none 0 0] 37)) w3.heap.size (sV ⟨0, 0, 0, 0, 0⟩) 28 := (BlkAt.new _ _ _).al _
  have b2 : BlkAt (((w3.alloc (.cells #[.int .i64 0, .int .i64 0, .int .i64 0, .int .i64 0, .int .i64 0] 28)).alloc (.cells #[.string ⟨#[]⟩, .int .i64 0, .slice none 0 0, .string ⟨#[]⟩, .bool false, .bool false, .bool false, .bool false, .bool false, .bool false, .bool false, .slice none 0 0] 37)).setRow w3.heap.size (sV s)) (w3.heap.size + 1) #[.string ⟨#[]⟩, .int .i64 0, .slice none 0 0, .string ⟨#[]⟩, .bool false, .bool false, .bool false, .bool false, .bool false, .bool false, .bool false, .slice none 0 0] 37 := (BlkAt.newAt _ _ _ (by simp)).setFar _ (by omega)
  have HOK := Lib.hid (And.intro hsok (And.intro hzok hcok))
  clear hz hc hzA hcA hB2 hB3 ho3 ht2 ht3 hsok hzok hcok
  go_wp2_with (first | ((with_reducible refine wpl_store rfl 28 _ _ rfl _ (sV s) ?_ ?_ b1 (rowS _) ?_ ?_); exact rfl; exact rfl; exact rfl) | ((with_reducible refine wpl_store rfl 37 _ _ rfl _ (pV z A kz c Ac kc) ?_ ?_ b2 (rowP ..) ?_ ?_); exact rfl; exact rfl; exact rfl))
  clear b1 b2
  generalize ((((w3.alloc _).alloc _).setRow _ _).setRow _ _) = w4 at *
  generalize w3.heap.size + 1 = gp at *
  generalize w3.heap.size = gs at *
  refine (sord_any 12 (by omega) _ _ _ HS.out.tape).mono ?_
  rintro e w5 ⟨l, Al, cl, kn, rfl, hl12, hkn, hmade, hor, hAl, ht5, ho5⟩
  have HS5 := Lib.hid (HS.out.only ho5 ht5)
  have HO5 := Lib.hid hor
  have HM := Lib.hid hmade
  have hb0 := Lib.hid (hmade.book (by omega))
  clear HS hor hmade ht5 ho5 hAl
  go_wp2_with fail
  refine (smod_any k0 40 _ (by decide)).mono ?_
  rintro e w6 ⟨rfl, rfl⟩
  rw [HKE.out]
  obtain ⟨fr, dl, hask⟩ := asked_ex (l := l) (Al := Al) cl (s := s) (z := z) (A := A) kz (c := c) (Ac := Ac) kc
  have HAS := Lib.hid (fun (W : World) (h : LQ w W gs gp s z A kz c Ac kc l Al) => hask W h.la h.za h.ca (by omega))
  have hfu := alpha_sz
  have her := runErr_ok (k := 1 + k) (fund := alpha) hb0.out ((knB_iff _).2 (by omega)) alpha_nm HOK.out.2.1 HOK.out.2.2 HOK.out.1
  obtain ⟨Ls, hLs⟩ : ∃ Ls, lsF ⟨l, Al, cl, s, z, A, kz, c, Ac, kc, fr, dl⟩ (1 + k) alpha 0 = Ls := ⟨_, rfl⟩
  have HLS := Lib.hid hLs
  have HER := Lib.hid her
  have HS6 := Lib.hid (show LQ w w5 gs gp s z A kz c Ac kc l Al from ⟨HS5.out.ls.sb, HS5.out.ls.pb, HS5.out.ls.za, HS5.out.ls.ca, HO5.out, HS5.out.ls.below⟩)
  clear hLs her hask HS5 HO5 HM hb0 HOK
  go_wp2_with (first | ((with_reducible refine wpl_load rfl 28 _ rfl _ ?_ HS6.out.sb (rowS _) ?_); exact rfl) | ((with_reducible refine wpl_load rfl 37 _ rfl _ ?_ HS6.out.pb (rowP ..) ?_); exact rfl))
  refine (stat_u (HAS.out _ HS6.out) hfu HER.out HLS.out).mono ?_
  rintro e7 w7 ⟨A1, c1, rfl, hi1, hbl⟩
  have HS7 := Lib.hid (HS6.out.next hbl)
  have HI1 := Lib.hid hi1
  clear hi1
  clear hbl HS6
  go_wp2_with (first | ((with_reducible refine wpl_load rfl 28 _ rfl _ ?_ HS7.out.sb (rowS _) ?_); exact rfl) | ((with_reducible refine wpl_load rfl 37 _ rfl _ ?_ HS7.out.pb (rowP ..) ?_); exact rfl))
  refine (nstat_u (HAS.out _ HS7.out) hfu HER.out HLS.out).mono ?_
  rintro e8 w8 ⟨A2, c2, rfl, hi2, hbl⟩
  have HS8 := Lib.hid (HS7.out.next hbl)
  have HI1x := Lib.hid (HI1.out.below hbl)
  have HI2 := Lib.hid hi2
  clear hi2
  clear hbl HS7 HI1
  have HI1 := HI1x
  clear HI1x
  go_wp2_with (first | ((with_reducible refine wpl_load rfl 28 _ rfl _ ?_ HS8.out.sb (rowS _) ?_); exact rfl) | ((with_reducible refine wpl_load rfl 37 _ rfl _ ?_ HS8.out.pb (rowP ..) ?_); exact rfl))
  refine (take_u (HAS.out _ HS8.out) hfu HER.out).mono ?_
  rintro e9 w9 ⟨A3, c3, T, rfl, ht3, hf3, hbl⟩
  have HS9 := Lib.hid (HS8.out.next hbl)
  have HI1x := Lib.hid (HI1.out.below hbl)
  have HI2x := Lib.hid (HI2.out.below hbl)
  have HT3 := Lib.hid ht3
  have HF3 := Lib.hid hf3
  clear ht3 hf3
  clear hbl HS8 HI1 HI2
  have HI1 := HI1x
  clear HI1x
  have HI2 := HI2x
  clear HI2x
  go_wp2_with (first | ((with_reducible refine wpl_load rfl 28 _ rfl _ ?_ HS9.out.sb (rowS _) ?_); exact rfl) | ((with_reducible refine wpl_load rfl 37 _ rfl _ ?_ HS9.out.pb (rowP ..) ?_); exact rfl))
  refine (ntake_u (HAS.out _ HS9.out) hfu HER.out).mono ?_
  rintro e10 w10 ⟨A4, c4, T4, rfl, ht4, hf4, hbl⟩
  have HS10 := Lib.hid (HS9.out.next hbl)
  have HI1x := Lib.hid (HI1.out.below hbl)
  have HI2x := Lib.hid (HI2.out.below hbl)
  have HT3x := Lib.hid (HT3.out.below hbl)
  obtain rfl := tkF_one HF3.out hf4
  have HT4 := Lib.hid ht4
  clear ht4 hf4
  clear hbl HS9 HI1 HI2 HT3
  have HI1 := HI1x
  clear HI1x
  have HI2 := HI2x
  clear HI2x
  have HT3 := HT3x
  clear HT3x
  clear HAS HLS HER
  go_wp2_with fail
  refine (r23same_any Ls _ _ _ _ _ HI1.out HI2.out).mono ?_
  rintro e11 w11 ⟨rfl, hbl⟩
  have HS11 := Lib.hid (HS10.out.next hbl)
  have HT3x := Lib.hid (HT3.out.below hbl)
  have HT4x := Lib.hid (HT4.out.below hbl)
  clear hbl HS10 HI1 HI2 HT3 HT4
  go_wp2_with fail
  refine (rsame_any T4 (by have := HF3.out.2; omega) _ _ _ _ _ HT3x.out HT4x.out).mono ?_
  rintro e12 w12 ⟨rfl, hbl⟩
  have HS12 := Lib.hid (HS11.out.next hbl)
  clear hbl HS11 HT3x HT4x HF3
  go_wp2_with fail
  refine (awake24_any _).mono ?_
  rintro e13 w13 ⟨rfl, hbl⟩
  have HB := Lib.hid (bnext (HS12.out.below) hbl)
  clear hbl
  go_wp2_with fail
  go_ret
  exact ⟨rfl, HB.out⟩
set_option maxRecDepth 1000000 in
theorem intakeTells_any (l : List OR) (Al : Option Addr) (cl : Nat) (k : Int) (fund : ByteArray) (A0 : Option Addr) (L0 : List Int) (cap : Nat) (w : World) (hO : OrAt w Al l) (hfu : fund.size ≤ maxLen) (hL : IntsAt w A0 L0) :
    Calls Tryz.prog 3 #[.slice Al l.length cl, .int .i64 k, .string fund, .slice A0 L0.length cap] w (RetB (.bool true) w) := by
  have hlw := hO.ln
  by_cases h12 : l.length ≤ 12
  · have HO := Lib.hid hO
    clear hO
    go_enter Tryz.func3, Tryz.ntmps3
    go_wp2_with fail
    refine (snew_any A0 L0 cap _ hL).mono ?_
    rintro e w1 ⟨rfl, ht1, hb1⟩
    go_wp2_with fail
    refine (ssched_any _ _ _ ht1).mono ?_
    rintro e w2 ⟨s, rfl, hsok, ht2, ho2⟩
    have hB2 := lawOnly2 hb1 ho2
    clear hb1 ho2 ht1 hL
    go_wp2_with fail
    refine (splace_any _ _ _ ht2).mono ?_
    rintro e w3 ⟨z, A, kz, c, Ac, kc, rfl, hz, hc, hzA, hcA, hzok, hcok, -, -, ht3, ho3⟩
    have hB3 := lawOnly2 hB2 ho3
    have hl2 := ht2.lt
    have HS := Lib.hid (L24.new s kz kc (o1 := #[.int .i64 0, .int .i64 0, .int .i64 0, .int .i64 0, .int .i64 0]) (o2 := #[.string ⟨#[]⟩, .int .i64 0, .slice none 0 0, .string ⟨#[]⟩, .bool false, .bool false, .bool false, .bool false, .bool false, .bool false, .bool false, .slice none 0 0]) ht3 hz hc hB3 (fun ad e => by have := hzA ad e; omega) (fun ad e => by have := hcA ad e; omega))
    have b1 : BlkAt ((w3.alloc (.cells #[.int .i64 0, .int .i64 0, .int .i64 0, .int .i64 0, .int .i64 0] 28)).alloc (.cells #[.string ⟨#[]⟩, .int .i64 0, .slice none 0 0, .string ⟨#[]⟩, .bool false, .bool false, .bool false, .bool false, .bool false, .bool false, .bool false, .slice none 0 0] 37)) w3.heap.size (sV ⟨0, 0, 0, 0, 0⟩) 28 := (BlkAt.new _ _ _).al _
    have b2 : BlkAt (((w3.alloc (.cells #[.int .i64 0, .int .i64 0, .int .i64 0, .int .i64 0, .int .i64 0] 28)).alloc (.cells #[.string ⟨#[]⟩, .int .i64 0, .slice none 0 0, .string ⟨#[]⟩, .bool false, .bool false, .bool false, .bool false, .bool false, .bool false, .bool false, .slice none 0 0] 37)).setRow w3.heap.size (sV s)) (w3.heap.size + 1) #[.string ⟨#[]⟩, .int .i64 0, .slice none 0 0, .string ⟨#[]⟩, .bool false, .bool false, .bool false, .bool false, .bool false, .bool false, .bool false, .slice none 0 0] 37 := (BlkAt.newAt _ _ _ (by simp)).setFar _ (by omega)
    have HOK := Lib.hid (And.intro hsok (And.intro hzok hcok))
    clear hz hc hzA hcA hB2 hB3 ho3 ht2 ht3 hsok hzok hcok
    go_upto_region 5 with (first | ((with_reducible refine wpl_store rfl 28 _ _ rfl _ (sV s) ?_ ?_ b1 (rowS _) ?_ ?_); exact rfl; exact rfl; exact rfl) | ((with_reducible refine wpl_store rfl 37 _ _ rfl _ (pV z A kz c Ac kc) ?_ ?_ b2 (rowP ..) ?_ ?_); exact rfl; exact rfl; exact rfl))
    clear b1 b2
    generalize ((((w3.alloc _).alloc _).setRow _ _).setRow _ _) = w4 at *
    generalize w3.heap.size + 1 = gp at *
    generalize w3.heap.size = gs at *
    obtain ⟨fr, dl, hask⟩ := asked_ex (l := l) (Al := Al) cl (s := s) (z := z) (A := A) kz (c := c) (Ac := Ac) kc
    have HAS := Lib.hid (fun (W : World) (h : LQ w W gs gp s z A kz c Ac kc l Al) => hask W h.la h.za h.ca (by omega))
    obtain ⟨er, her⟩ : ∃ er, runErr l k fund s z c = er := ⟨_, rfl⟩
    obtain ⟨Ls, hLs⟩ : ∃ Ls, lsF ⟨l, Al, cl, s, z, A, kz, c, Ac, kc, fr, dl⟩ k fund er = Ls := ⟨_, rfl⟩
    have HLS := Lib.hid hLs
    have HER := Lib.hid her
    clear hLs her hask HOK
    have HS6 := Lib.hid (show LQ w w4 gs gp s z A kz c Ac kc l Al from ⟨HS.out.ls.sb, HS.out.ls.pb, HS.out.ls.za, HS.out.ls.ca, HO.out.below HS.out.ls.below, HS.out.ls.below⟩)
    clear HS HO
    go_wp2_with (first | ((with_reducible refine wpl_load rfl 28 _ rfl _ ?_ HS6.out.sb (rowS _) ?_); exact rfl) | ((with_reducible refine wpl_load rfl 37 _ rfl _ ?_ HS6.out.pb (rowP ..) ?_); exact rfl))
    refine (stat_u (HAS.out _ HS6.out) hfu HER.out HLS.out).mono ?_
    rintro e7 w7 ⟨A1, c1, rfl, hi1, hbl⟩
    have HS7 := Lib.hid (HS6.out.next hbl)
    have HI1 := Lib.hid hi1
    clear hi1
    clear hbl HS6
    go_wp2_with (first | ((with_reducible refine wpl_load rfl 28 _ rfl _ ?_ HS7.out.sb (rowS _) ?_); exact rfl) | ((with_reducible refine wpl_load rfl 37 _ rfl _ ?_ HS7.out.pb (rowP ..) ?_); exact rfl))
    refine (nstat_u (HAS.out _ HS7.out) hfu HER.out HLS.out).mono ?_
    rintro e8 w8 ⟨A2, c2, rfl, hi2, hbl⟩
    have HS8 := Lib.hid (HS7.out.next hbl)
    have HI1x := Lib.hid (HI1.out.below hbl)
    have HI2 := Lib.hid hi2
    clear hi2
    clear hbl HS7 HI1
    have HI1 := HI1x
    clear HI1x
    go_wp2_with (first | ((with_reducible refine wpl_load rfl 28 _ rfl _ ?_ HS8.out.sb (rowS _) ?_); exact rfl) | ((with_reducible refine wpl_load rfl 37 _ rfl _ ?_ HS8.out.pb (rowP ..) ?_); exact rfl))
    refine (take_u (HAS.out _ HS8.out) hfu HER.out).mono ?_
    rintro e9 w9 ⟨A3, c3, T, rfl, ht3, hf3, hbl⟩
    have HS9 := Lib.hid (HS8.out.next hbl)
    have HI1x := Lib.hid (HI1.out.below hbl)
    have HI2x := Lib.hid (HI2.out.below hbl)
    have HT3 := Lib.hid ht3
    have HF3 := Lib.hid hf3
    clear ht3 hf3
    clear hbl HS8 HI1 HI2
    have HI1 := HI1x
    clear HI1x
    have HI2 := HI2x
    clear HI2x
    go_wp2_with (first | ((with_reducible refine wpl_load rfl 28 _ rfl _ ?_ HS9.out.sb (rowS _) ?_); exact rfl) | ((with_reducible refine wpl_load rfl 37 _ rfl _ ?_ HS9.out.pb (rowP ..) ?_); exact rfl))
    refine (ntake_u (HAS.out _ HS9.out) hfu HER.out).mono ?_
    rintro e10 w10 ⟨A4, c4, T4, rfl, ht4, hf4, hbl⟩
    have HS10 := Lib.hid (HS9.out.next hbl)
    have HI1x := Lib.hid (HI1.out.below hbl)
    have HI2x := Lib.hid (HI2.out.below hbl)
    have HT3x := Lib.hid (HT3.out.below hbl)
    obtain rfl := tkF_one HF3.out hf4
    have HT4 := Lib.hid ht4
    clear ht4 hf4
    clear hbl HS9 HI1 HI2 HT3
    have HI1 := HI1x
    clear HI1x
    have HI2 := HI2x
    clear HI2x
    have HT3 := HT3x
    clear HT3x
    clear HAS HLS HER
    go_wp2_with fail
    refine (r23same_any Ls _ _ _ _ _ HI1.out HI2.out).mono ?_
    rintro e11 w11 ⟨rfl, hbl⟩
    have HS11 := Lib.hid (HS10.out.next hbl)
    have HT3x := Lib.hid (HT3.out.below hbl)
    have HT4x := Lib.hid (HT4.out.below hbl)
    clear hbl HS10 HI1 HI2 HT3 HT4
    go_wp2_with fail
    refine (rsame_any T4 (by have := HF3.out.2; omega) _ _ _ _ _ HT3x.out HT4x.out).mono ?_
    rintro e12 w12 ⟨rfl, hbl⟩
    have HS12 := Lib.hid (HS11.out.next hbl)
    clear hbl HS11 HT3x HT4x HF3
    go_wp2_with fail
    refine (awake24_any _).mono ?_
    rintro e13 w13 ⟨rfl, hbl⟩
    have HB := Lib.hid (bnext (HS12.out.below) hbl)
    clear hbl
    go_wp2_with fail
    go_ret
    exact ⟨rfl, HB.out⟩
  · have h13 : (12 : Int) < (l.length : Int) := by omega
    clear hO hL
    go_enter Tryz.func3, Tryz.ntmps3
    go_wp2_with fail
    refine (awake24_any _).mono ?_
    rintro e w1 ⟨rfl, hbl⟩
    go_wp2_with fail
    go_ret
    exact ⟨rfl, hbl⟩
set_option maxRecDepth 1000000 in
theorem intakeRefuses_any (A0 : Option Addr) (L0 : List Int) (cap : Nat) (k : Int) (fund : ByteArray) (s : SC) (z : ZN) (A : Option Addr) (kz : Nat) (c : CN) (Ac : Option Addr) (kc : Nat) (w : World) (hL : IntsAt w A0 L0) (hfu : fund.size ≤ maxLen) (hz : ZAt w z A) (hc : CAt w c Ac) :
    Calls Tryz.prog 5 #[.slice A0 L0.length cap, .int .i64 k, .string fund, .agg (sV s), .agg (zV z A kz), .agg (cV c Ac kc)] w (RetB (.bool true) w) := by
  have HB0 := Lib.hid (bal (bal (bal0 w (.cells (sV s) 28)) (.cells (zV z A kz) 32)) (.cells (cV c Ac kc) 35))
  have HQ := Lib.hid (show BlkAt (((w.alloc (.cells (sV s) 28)).alloc (.cells (zV z A kz) 32)).alloc (.cells (cV c Ac kc) 35)) w.heap.size (sV s) 28 ∧ BlkAt (((w.alloc (.cells (sV s) 28)).alloc (.cells (zV z A kz) 32)).alloc (.cells (cV c Ac kc) 35)) (w.heap.size + 1) (zV z A kz) 32 ∧ BlkAt (((w.alloc (.cells (sV s) 28)).alloc (.cells (zV z A kz) 32)).alloc (.cells (cV c Ac kc) 35)) (w.heap.size + 1 + 1) (cV c Ac kc) 35 from
    ⟨((BlkAt.new _ _ _).al _).al _, (BlkAt.newAt _ _ _ (by simp)).al _, BlkAt.newAt _ _ _ (by simp)⟩)
  have HA := Lib.hid (And.intro (hL.below HB0.out) (And.intro (hz.below HB0.out) (hc.below HB0.out)))
  have hzl := hz.ln
  have hcl := hc.ints.1
  clear hL hz hc
  go_enter Tryz.func5, Tryz.ntmps5
  go_upto_region 1 with (fail)
  generalize ((w.alloc _).alloc _).alloc _ = w0 at *
  have c2 : w0.cell? ⟨w.heap.size + 1, 2, none⟩ = some (.slice A z.cs.length kz) := HQ.out.2.1.cell rfl
  have c8 : w0.cell? ⟨w.heap.size + 1 + 1, 8, none⟩ = some (.slice Ac c.hs.length kc) := HQ.out.2.2.cell rfl
  by_cases hm : z.cs.length ≤ 20 ∧ c.hs.length ≤ 50
  · have g1 : ¬ ((20 : Int) < (z.cs.length : Int)) := by omega
    have g2 : ¬ ((50 : Int) < (c.hs.length : Int)) := by omega
    go_wp2_with fail
    refine (snew_any A0 L0 cap _ HA.out.1).mono ?_
    rintro e w1 ⟨rfl, ht1, hb1⟩
    go_wp2_with fail
    refine (sord_any 5 (by omega) _ _ _ ht1).mono ?_
    rintro e w2 ⟨l, Al, cl, kn, rfl, hl5, hkn, hmade, hor, hAl, ht2, ho2⟩
    have hB2 := lawOnly2 hb1 ho2
    have HBB := Lib.hid hB2
    have HO2 := Lib.hid hor
    have HQ2 := Lib.hid (And.intro (HQ.out.1.next hB2) (And.intro (HQ.out.2.1.next hB2) (HQ.out.2.2.next hB2)))
    have HA2 := Lib.hid (And.intro (HA.out.2.1.below hB2) (HA.out.2.2.below hB2))
    have HB2 := Lib.hid (bnext HB0.out hB2)
    clear hb1 ht1 ho2 ht2 hor hAl hmade hkn hB2 HQ HA HB0 HBB c2 c8 hm
    obtain ⟨z0, z1, z2⟩ : w2.cell? ⟨w.heap.size + 1, 0, none⟩ = some (.string z.name) ∧ w2.cell? ⟨w.heap.size + 1, 1, none⟩ = some (.int .i64 z.off) ∧ w2.cell? ⟨w.heap.size + 1, 2, none⟩ = some (.slice A z.cs.length kz) := ⟨HQ2.out.2.1.cell rfl, HQ2.out.2.1.cell rfl, HQ2.out.2.1.cell rfl⟩
    obtain ⟨k0, k1, k2, k3, k4, k5, k6, k7, k8⟩ : w2.cell? ⟨w.heap.size + 1 + 1, 0, none⟩ = some (.string c.name) ∧ w2.cell? ⟨w.heap.size + 1 + 1, 1, none⟩ = some (.bool c.w0) ∧ w2.cell? ⟨w.heap.size + 1 + 1, 2, none⟩ = some (.bool c.w1) ∧ w2.cell? ⟨w.heap.size + 1 + 1, 3, none⟩ = some (.bool c.w2) ∧ w2.cell? ⟨w.heap.size + 1 + 1, 4, none⟩ = some (.bool c.w3) ∧ w2.cell? ⟨w.heap.size + 1 + 1, 5, none⟩ = some (.bool c.w4) ∧ w2.cell? ⟨w.heap.size + 1 + 1, 6, none⟩ = some (.bool c.w5) ∧ w2.cell? ⟨w.heap.size + 1 + 1, 7, none⟩ = some (.bool c.w6) ∧ w2.cell? ⟨w.heap.size + 1 + 1, 8, none⟩ = some (.slice Ac c.hs.length kc) := ⟨HQ2.out.2.2.cell rfl, HQ2.out.2.2.cell rfl, HQ2.out.2.2.cell rfl, HQ2.out.2.2.cell rfl, HQ2.out.2.2.cell rfl, HQ2.out.2.2.cell rfl, HQ2.out.2.2.cell rfl, HQ2.out.2.2.cell rfl, HQ2.out.2.2.cell rfl⟩
    go_upto_region 5 with (fail)
    obtain ⟨fr, dl, hask⟩ := asked_ex (l := l) (Al := Al) cl (s := s) (z := z) (A := A) kz (c := c) (Ac := Ac) kc
    have HAS := Lib.hid (fun (W : World) (h : LQ w W w.heap.size w2.heap.size s z A kz c Ac kc l Al) => hask W h.la h.za h.ca (by omega))
    obtain ⟨er, her⟩ : ∃ er, runErr l k fund s z c = er := ⟨_, rfl⟩
    obtain ⟨Ls, hLs⟩ : ∃ Ls, lsF ⟨l, Al, cl, s, z, A, kz, c, Ac, kc, fr, dl⟩ k fund er = Ls := ⟨_, rfl⟩
    have HLS := Lib.hid hLs
    have HER := Lib.hid her
    have hbp := bal0 w2 (.cells #[.string z.name, .int .i64 z.off, .slice A z.cs.length kz, .string c.name, .bool c.w0, .bool c.w1, .bool c.w2, .bool c.w3, .bool c.w4, .bool c.w5, .bool c.w6, .slice Ac c.hs.length kc] 37)
    have HS6 := Lib.hid (show LQ w (w2.alloc (.cells #[.string z.name, .int .i64 z.off, .slice A z.cs.length kz, .string c.name, .bool c.w0, .bool c.w1, .bool c.w2, .bool c.w3, .bool c.w4, .bool c.w5, .bool c.w6, .slice Ac c.hs.length kc] 37)) w.heap.size w2.heap.size s z A kz c Ac kc l Al from ⟨HQ2.out.1.next hbp, BlkAt.new _ _ _, HA2.out.1.below hbp, HA2.out.2.below hbp, HO2.out.below hbp, bnext HB2.out hbp⟩)
    clear hLs her hask hbp z0 z1 z2 k0 k1 k2 k3 k4 k5 k6 k7 k8 HQ2 HA2 HO2 HB2
    generalize w2.alloc _ = w3 at *
    generalize w2.heap.size = gp at *
    go_wp2_with (first | ((with_reducible refine wpl_load rfl 28 _ rfl _ ?_ HS6.out.sb (rowS _) ?_); exact rfl) | ((with_reducible refine wpl_load rfl 37 _ rfl _ ?_ HS6.out.pb (rowP ..) ?_); exact rfl))
    refine (stat_u (HAS.out _ HS6.out) hfu HER.out HLS.out).mono ?_
    rintro e7 w7 ⟨A1, c1, rfl, hi1, hbl⟩
    have HS7 := Lib.hid (HS6.out.next hbl)
    have HI1 := Lib.hid hi1
    clear hi1
    clear hbl HS6
    go_wp2_with (first | ((with_reducible refine wpl_load rfl 28 _ rfl _ ?_ HS7.out.sb (rowS _) ?_); exact rfl) | ((with_reducible refine wpl_load rfl 37 _ rfl _ ?_ HS7.out.pb (rowP ..) ?_); exact rfl))
    refine (nstat_u (HAS.out _ HS7.out) hfu HER.out HLS.out).mono ?_
    rintro e8 w8 ⟨A2, c2, rfl, hi2, hbl⟩
    have HS8 := Lib.hid (HS7.out.next hbl)
    have HI1x := Lib.hid (HI1.out.below hbl)
    have HI2 := Lib.hid hi2
    clear hi2
    clear hbl HS7 HI1
    have HI1 := HI1x
    clear HI1x
    go_wp2_with (first | ((with_reducible refine wpl_load rfl 28 _ rfl _ ?_ HS8.out.sb (rowS _) ?_); exact rfl) | ((with_reducible refine wpl_load rfl 37 _ rfl _ ?_ HS8.out.pb (rowP ..) ?_); exact rfl))
    refine (take_u (HAS.out _ HS8.out) hfu HER.out).mono ?_
    rintro e9 w9 ⟨A3, c3, T, rfl, ht3, hf3, hbl⟩
    have HS9 := Lib.hid (HS8.out.next hbl)
    have HI1x := Lib.hid (HI1.out.below hbl)
    have HI2x := Lib.hid (HI2.out.below hbl)
    have HT3 := Lib.hid ht3
    have HF3 := Lib.hid hf3
    clear ht3 hf3
    clear hbl HS8 HI1 HI2
    have HI1 := HI1x
    clear HI1x
    have HI2 := HI2x
    clear HI2x
    go_wp2_with (first | ((with_reducible refine wpl_load rfl 28 _ rfl _ ?_ HS9.out.sb (rowS _) ?_); exact rfl) | ((with_reducible refine wpl_load rfl 37 _ rfl _ ?_ HS9.out.pb (rowP ..) ?_); exact rfl))
    refine (ntake_u (HAS.out _ HS9.out) hfu HER.out).mono ?_
    rintro e10 w10 ⟨A4, c4, T4, rfl, ht4, hf4, hbl⟩
    have HS10 := Lib.hid (HS9.out.next hbl)
    have HI1x := Lib.hid (HI1.out.below hbl)
    have HI2x := Lib.hid (HI2.out.below hbl)
    have HT3x := Lib.hid (HT3.out.below hbl)
    obtain rfl := tkF_one HF3.out hf4
    have HT4 := Lib.hid ht4
    clear ht4 hf4
    clear hbl HS9 HI1 HI2 HT3
    have HI1 := HI1x
    clear HI1x
    have HI2 := HI2x
    clear HI2x
    have HT3 := HT3x
    clear HT3x
    clear HAS HLS HER
    go_wp2_with fail
    refine (r23same_any Ls _ _ _ _ _ HI1.out HI2.out).mono ?_
    rintro e11 w11 ⟨rfl, hbl⟩
    have HS11 := Lib.hid (HS10.out.next hbl)
    have HT3x := Lib.hid (HT3.out.below hbl)
    have HT4x := Lib.hid (HT4.out.below hbl)
    clear hbl HS10 HI1 HI2 HT3 HT4
    go_wp2_with fail
    refine (rsame_any T4 (by have := HF3.out.2; omega) _ _ _ _ _ HT3x.out HT4x.out).mono ?_
    rintro e12 w12 ⟨rfl, hbl⟩
    have HS12 := Lib.hid (HS11.out.next hbl)
    clear hbl HS11 HT3x HT4x HF3
    go_wp2_with fail
    refine (awake24_any _).mono ?_
    rintro e13 w13 ⟨rfl, hbl⟩
    have HB := Lib.hid (bnext (HS12.out.below) hbl)
    clear hbl
    go_wp2_with fail
    go_ret
    exact ⟨rfl, HB.out⟩
  · have hB := HB0.out
    by_cases h20 : z.cs.length ≤ 20
    · have g1 : ¬ ((20 : Int) < (z.cs.length : Int)) := by omega
      have g2 : (50 : Int) < (c.hs.length : Int) := by omega
      go_wp2_with fail
      refine (awake24_any _).mono ?_
      rintro e w1 ⟨rfl, hbl⟩
      go_wp2_with fail
      go_ret
      exact ⟨rfl, bnext hB hbl⟩
    · have g1 : (20 : Int) < (z.cs.length : Int) := by omega
      go_wp2_with fail
      refine (awake24_any _).mono ?_
      rintro e w1 ⟨rfl, hbl⟩
      go_wp2_with fail
      go_ret
      exact ⟨rfl, bnext hB hbl⟩
end Go.Proofs.YtbfllcfjgpkpaaaGreat
