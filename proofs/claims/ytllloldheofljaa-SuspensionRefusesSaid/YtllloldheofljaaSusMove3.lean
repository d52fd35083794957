/-
  Where a dealing day is moved to: the document's walk.
-/
import Derived.Test.YtllloldheofljaaSusMove
import Derived.Test.YtllloldheofljaaRowMid
namespace Go.Proofs.Ytllloldheofljaa
open Go.RowKit
set_option linter.unusedVariables false
set_option maxHeartbeats 8000000
theorem ne0 {e : Int} (h : e ≠ 0) : (e != 0) = true := by rw [bne_iff_ne]; exact h
set_option maxRecDepth 100000 in
theorem place_is (s : SC) (z : ZN) (A : Option Addr) (kz : Nat) (c : CN) (Ac : Option Addr) (kc : Nat) (w : World) (hz : ZAt w z A) (hc : CAt w c Ac) : Calls Try.prog 80 #[.agg (sV s), .agg (pV z A kz c Ac kc)] w (RetB (.int .i64 (err3 z.err c.err s.err)) w) := by
  have HM := Lib.hid (MB.new s kz kc hz hc (l := []) (Al := none) ⟨RecsAt.nil .., fun x h => by simp at h⟩)
  obtain ⟨ez, hez⟩ : ∃ ez, z.err = ez := ⟨_, rfl⟩
  obtain ⟨ec, hec⟩ : ∃ ec, c.err = ec := ⟨_, rfl⟩
  obtain ⟨es, hes⟩ : ∃ es, s.err = es := ⟨_, rfl⟩
  rw [hez, hec, hes]
  have Z := Lib.hid hez
  have C := Lib.hid hec
  have S := Lib.hid hes
  obtain ⟨-, ⟨r0, r1, r2, -⟩, -⟩ := HM.out.q
  clear hz hc hez hec hes
  by_cases h1 : ez = 0
  · have H1 := Lib.hid h1
    have g1 : (ez != 0) = false := by simp [h1]
    clear h1
    go_enter Try.func80, Try.ntmps80
    go_wp2_with fail
    refine (refCheck_is Z.out A kz _ HM.out.za).mono ?_
    rintro e w1 ⟨rfl, hb1⟩
    have HM1 := Lib.hid (HM.out.next hb1)
    clear HM r0 r1 r2 hb1
    by_cases h2 : ec = 0
    · have H2 := Lib.hid h2
      have g2 : (ec != 0) = false := by simp [h2]
      clear h2
      go_wp2_with ((with_reducible refine wpl_load_mid rfl 31 _ rfl _ 3 ?_ HM1.out.pb ?_ (rowC c Ac kc) ?_); exact rfl; exact rfl)
      refine (rcheck_is C.out Ac kc _ HM1.out.ca).mono ?_
      rintro e w2 ⟨rfl, hb2⟩
      have HM2 := Lib.hid (HM1.out.next hb2)
      clear HM1 hb2
      go_wp2_with ((with_reducible refine wpl_load rfl 38 _ rfl _ ?_ HM2.out.sb (rowS _) ?_); exact rfl)
      refine (r9check_is S.out _).mono ?_
      rintro e w3 ⟨rfl, hb3⟩
      have HM3 := Lib.hid (HM2.out.next hb3)
      clear HM2 hb3
      go_wp2_with fail
      go_ret
      exact ⟨ret_int (by unfold err3; rw [if_neg (by simp [H1.out]), if_neg (by simp [H2.out])]), HM3.out.below⟩
    · have H2 := Lib.hid h2
      have g2 := ne0 h2
      clear h2
      go_wp2_with ((with_reducible refine wpl_load_mid rfl 31 _ rfl _ 3 ?_ HM1.out.pb ?_ (rowC c Ac kc) ?_); exact rfl; exact rfl)
      refine (rcheck_is C.out Ac kc _ HM1.out.ca).mono ?_
      rintro e w2 ⟨rfl, hb2⟩
      have HM2 := Lib.hid (HM1.out.next hb2)
      clear HM1 hb2
      go_wp2_with fail
      go_ret
      exact ⟨ret_int (by unfold err3; rw [if_neg (by simp [H1.out]), if_pos H2.out]), HM2.out.below⟩
  · have H1 := Lib.hid h1
    have g1 := ne0 h1
    clear h1
    go_enter Try.func80, Try.ntmps80
    go_wp2_with fail
    refine (refCheck_is Z.out A kz _ HM.out.za).mono ?_
    rintro e w1 ⟨rfl, hb1⟩
    have HM1 := Lib.hid (HM.out.next hb1)
    clear HM r0 r1 r2 hb1
    go_wp2_with fail
    go_ret
    exact ⟨ret_int (by unfold err3; rw [if_pos H1.out]), HM1.out.below⟩
set_option maxRecDepth 100000 in
theorem rMove_chk {l : List SU} {k : Int} {fund : ByteArray} {d e : Int} (hr : ChkR l k fund d e) (hn : e ≠ 0) (hfu : fund.size ≤ maxLen) (s : SC) (z : ZN) (A : Option Addr) (kz : Nat) (c : CN) (Ac : Option Addr) (kc : Nat) (Al : Option Addr) (cp : Nat) (w : World) (hz : ZAt w z A) (hc : CAt w c Ac) (h : SuAt w Al l) :
    Calls Try.prog 37 #[.slice Al l.length cp, .int .i64 k, .string fund, .agg (sV s), .agg (pV z A kz c Ac kc), .int .i64 d] w (RetB (.tuple #[.int .i64 0, .int .i64 e]) w) := by
  have HM := Lib.hid (MB.new s kz kc hz hc h)
  have hcall := rchk_is hr hfu Al cp _ HM.out.su
  have g1 := ne0 hn
  clear hr hn hz hc h
  go_enter Try.func37, Try.ntmps37
  go_wp2_with fail
  refine hcall.mono ?_
  rintro e w1 ⟨rfl, hb⟩
  have HB := Lib.hid (bnext HM.out.below hb)
  clear hb HM
  go_wp2_with fail
  go_ret2
  exact ⟨rfl, HB.out⟩
set_option maxRecDepth 100000 in
theorem rMove_err {l : List SU} {k : Int} {fund : ByteArray} {d e : Int} (hr : ChkR l k fund d 0) (hfu : fund.size ≤ maxLen) (s : SC) (z : ZN) (A : Option Addr) (kz : Nat) (c : CN) (Ac : Option Addr) (kc : Nat) (Al : Option Addr) (cp : Nat) (w : World) (hz : ZAt w z A) (hc : CAt w c Ac) (h : SuAt w Al l)
    (he : err3 z.err c.err s.err = e) (hn : e ≠ 0) :
    Calls Try.prog 37 #[.slice Al l.length cp, .int .i64 k, .string fund, .agg (sV s), .agg (pV z A kz c Ac kc), .int .i64 d] w (RetB (.tuple #[.int .i64 0, .int .i64 e]) w) := by
  have HM := Lib.hid (MB.new s kz kc hz hc h)
  have hcall := rchk_is hr hfu Al cp _ HM.out.su
  have hpl := fun w hz hc => place_is s z A kz c Ac kc w hz hc
  rw [he] at hpl
  have g1 := ne0 hn
  clear hr hn hz hc h he
  go_enter Try.func37, Try.ntmps37
  go_wp2_with fail
  refine hcall.mono ?_
  rintro e w1 ⟨rfl, hb⟩
  have HB := Lib.hid (HM.out.next hb)
  clear hb HM hcall
  go_wp2_with (first
    | ((with_reducible refine wpl_load rfl 38 _ rfl _ ?_ HB.out.sb (rowS _) ?_); exact rfl)
    | ((with_reducible refine wpl_load rfl 33 _ rfl _ ?_ HB.out.pb (rowP ..) ?_); exact rfl))
  refine (hpl _ HB.out.za HB.out.ca).mono ?_
  rintro e w2 ⟨rfl, hb2⟩
  have HB2 := Lib.hid (HB.out.next hb2)
  clear hb2 HB
  go_wp2_with fail
  go_ret2
  exact ⟨rfl, HB2.out.below⟩
set_option maxRecDepth 100000 in
theorem rMove_ok {l : List SU} {k : Int} {fund : ByteArray} {d v er : Int} (hr : ChkR l k fund d 0) (hfu : fund.size ≤ maxLen) (s : SC) (z : ZN) (A : Option Addr) (kz : Nat) (c : CN) (Ac : Option Addr) (kc : Nat) (Al : Option Addr) (cp : Nat) (w : World) (hz : ZAt w z A) (hc : CAt w c Ac) (h : SuAt w Al l)
    (h1 : z.ok = true) (h2 : c.ok = true) (h3 : s.ok = true) (htil : susB l = true → ∀ x ∈ visS l k fund, 0 ≤ x.til ∧ x.til ≤ 73048) {nx : Int → Int × Int} (hnx : NxR s z c nx) (hm : mov nx (visS l k fund) d = (v, er)) :
    Calls Try.prog 37 #[.slice Al l.length cp, .int .i64 k, .string fund, .agg (sV s), .agg (pV z A kz c Ac kc), .int .i64 d] w (RetB (.tuple #[.int .i64 v, .int .i64 er]) w) := by
  have HM := Lib.hid (MB.new s kz kc hz hc h)
  have hcall := rchk_is hr hfu Al cp _ HM.out.su
  have hpl := fun w hz hc => place_is s z A kz c Ac kc w hz hc
  have he : err3 z.err c.err s.err = 0 := by
    rw [ZN.err_of_ok h1, CN.err_of_ok h2, SC.err_of_ok h3]
    rfl
  rw [he] at hpl
  have hall : susB l = true ∧ dayB d = true := by
    rcases hr with ⟨a, b⟩ | ⟨a, b, c⟩ | ⟨a, b, c, e1⟩ | ⟨a, b, c, d1, e1⟩ | ⟨a, b, c, d1, e1⟩
    · omega
    · omega
    · omega
    · omega
    · exact ⟨a, d1⟩
  obtain ⟨a1, a4⟩ := hall
  obtain ⟨hd1, hd2⟩ := (dayB_iff d).1 a4
  have NX := Lib.hid hnx
  have hvis := fun w h => rVisS_ok l a1 k fund hfu Al cp w h
  have HLEN := Lib.hid (visS_len2 a1 k fund)
  have HSM := Lib.hid (visS_small (k := k) (fund := fund) h.small)
  have HTIL := Lib.hid (htil a1)
  obtain ⟨L, hL⟩ : ∃ L, visS l k fund = L := ⟨_, rfl⟩
  rw [hL] at hvis HLEN HSM HTIL hm
  have HMV := Lib.hid hm
  clear hr hz hc h h1 h2 h3 a1 a4 hnx hL hm he htil
  go_enter Try.func37, Try.ntmps37
  go_wp2_with fail
  refine hcall.mono ?_
  rintro e w1 ⟨rfl, hb⟩
  have HB := Lib.hid (HM.out.next hb)
  clear hb HM hcall
  go_wp2_with (first
    | ((with_reducible refine wpl_load rfl 38 _ rfl _ ?_ HB.out.sb (rowS _) ?_); exact rfl)
    | ((with_reducible refine wpl_load rfl 33 _ rfl _ ?_ HB.out.pb (rowP ..) ?_); exact rfl))
  refine (hpl _ HB.out.za HB.out.ca).mono ?_
  rintro e w2 ⟨rfl, hb2⟩
  have HB2 := Lib.hid (HB.out.next hb2)
  clear hb2 HB hpl
  go_wp2_with fail
  refine (hvis _ HB2.out.su).mono ?_
  rintro e w5 ⟨v5, rfl, hO⟩
  obtain ⟨A5, cap5, rfl, hS5⟩ := hO.sus HSM.out HLEN.out
  have HF := Lib.hid (HB2.out.next hO.below)
  have HS5 := Lib.hid hS5
  clear hO hS5 hvis HB2
  go_wp2_with fail
  have HIN : Hid (∀ x ∈ L, x.til ≤ 73048) := Lib.hid (fun x hx => (HTIL.out x hx).2)
  have hLl : L.length ≤ 4096 := HLEN.out
  go_loopw [5] (fun dv wr => ∃ d' : Int, 0 ≤ d' ∧ d' ≤ 73049 ∧ dv = .int .i64 d' ∧ mov nx L d' = (v, er) ∧ SuAt wr A5 L ∧ MB w wr s z A kz c Ac kc l Al) (fun dv _ => (73051 - intOf dv).toNat)
  case atStart => exact ⟨d, hd1, by omega, rfl, HMV.out, HS5.out, HF.out⟩
  case round =>
    obtain ⟨d', e1, e2, rfl, hmv, hS6, hF6⟩ := hrel
    have HM6 := Lib.hid hmv
    have HS6 := Lib.hid hS6
    have HF6 := Lib.hid hF6
    clear hmv hS6 hF6 HS5 HF HMV
    obtain ⟨n, en, hne⟩ : ∃ n en, nx d' = (n, en) := ⟨_, _, rfl⟩
    have hN := NX.out d'
    rw [hne] at hN
    have HN := Lib.hid hN
    have HNE := Lib.hid hne
    clear hN hne
    go_wp2_with (first
      | ((with_reducible refine wpl_load rfl 38 _ rfl _ ?_ HF6.out.sb (rowS _) ?_); exact rfl)
      | ((with_reducible refine wpl_load rfl 33 _ rfl _ ?_ HF6.out.pb (rowP ..) ?_); exact rfl))
    refine (rNextR kz kc HN.out HF6.out.za HF6.out.ca).mono ?_
    rintro e w7 ⟨rfl, hb7⟩
    have HF7 := Lib.hid (HF6.out.next hb7)
    have HS7 := Lib.hid (HS6.out.below hb7)
    clear HF6 HS6 hb7
    by_cases hen : en = 0
    · subst hen
      have hcv := covered_any L n hLl A5 cap5 _ HS7.out
      have hlb := lastC_bd (d := n) L HIN.out
      obtain ⟨hlb1, hlb2⟩ := hlb
      cases hac : actB L n
      · have HOPN : Hid (openB L n = false) := Lib.hid (by
          cases ho : openB L n
          · rfl
          · unfold openB at ho
            rw [List.any_eq_true] at ho
            obtain ⟨x, hx, hc⟩ := ho
            simp only [Bool.and_eq_true] at hc
            have : actB L n = true := by
              unfold actB
              rw [List.any_eq_true]
              exact ⟨x, hx, hc.1⟩
            rw [hac] at this
            cases this)
        have FIN : Hid ((n, 0) = (v, er)) := Lib.hid (by rw [← HM6.out, mov_stay (by omega) (by rw [HNE.out]) (by rw [HNE.out]; exact HOPN.out) (by rw [HNE.out]; exact hac), HNE.out])
        rw [hac] at hcv
        clear hac
        go_wp2_with fail
        refine hcv.mono ?_
        rintro e w8 ⟨rfl, hb8⟩
        go_wp2_with fail
        go_ret2
        exact ⟨ret_two (congrArg Prod.fst FIN.out) (congrArg Prod.snd FIN.out), (HF7.out.next hb8).below⟩
      · cases hop : openB L n
        · have hgo := mov_go HIN.out (fun d h => NX.out.le d h) (fun d h => NX.out.hi d h) (d := d') (l := L) (by rw [HNE.out]) (by rw [HNE.out]; exact hop) (by rw [HNE.out]; exact hac)
          rw [HNE.out] at hgo
          obtain ⟨hgo1, hgo2⟩ := hgo
          have HGO : Hid (mov nx L (lastC n L + 1) = (v, er)) := Lib.hid (by rw [← HM6.out]; exact hgo1.symm)
          have hgo3 : d' ≤ lastC n L := hgo2
          rw [hac, hop] at hcv
          obtain ⟨la, hla⟩ : ∃ la, lastC n L = la := ⟨_, rfl⟩
          rw [hla] at hgo3 hlb1 hlb2 HGO hcv
          clear hac hop hgo1 hgo2 hla
          go_wp2_with fail
          refine hcv.mono ?_
          rintro e w8 ⟨rfl, hb8⟩
          go_wp2_with fail
          go_roundw
          case rel => exact ⟨la + 1, by omega, by omega, rfl, HGO.out, HS7.out.below hb8, HF7.out.next hb8⟩
          case measure => simp [intOf]; omega
        · have FIN : Hid ((0, 281) = (v, er)) := Lib.hid (by rw [← HM6.out, mov_open (by omega) (by rw [HNE.out]) (by rw [HNE.out]; exact hop)])
          rw [hac, hop] at hcv
          clear hac hop
          go_wp2_with fail
          refine hcv.mono ?_
          rintro e w8 ⟨rfl, hb8⟩
          go_wp2_with fail
          go_ret2
          exact ⟨ret_two (congrArg Prod.fst FIN.out) (congrArg Prod.snd FIN.out), (HF7.out.next hb8).below⟩
    · have g1 : (en != 0) = true := by rw [bne_iff_ne]; exact hen
      have FIN : Hid ((0, en) = (v, er)) := Lib.hid (by rw [← HM6.out, mov_err (by omega) (by rw [HNE.out]; exact hen), HNE.out])
      clear hen
      go_wp2_with fail
      go_ret2
      exact ⟨ret_two (congrArg Prod.fst FIN.out) (congrArg Prod.snd FIN.out), HF7.out.below⟩
end Go.Proofs.Ytllloldheofljaa
