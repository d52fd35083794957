/-
  Suspensions: the examples of the chapter; the law SuspensionTells.
  Suspensions: where Move is refused; the law SuspensionRefuses.
-/
import Derived.Test.YtffmmkjoknghoaaGreatSusMove
namespace Go.Proofs.YtffmmkjoknghoaaGreat
section
open Go.RowKit
set_option linter.unusedVariables false
set_option maxHeartbeats 8000000
def sAw : SC := ⟨1, 0, 0, 0, 0⟩
def zAw : ZN := ⟨⟨#[104, 111, 109, 101]⟩, 0, []⟩
def cAw : CN := ⟨⟨#[100, 97, 121, 115]⟩, false, false, false, false, false, true, true, []⟩
def alpha : ByteArray := ⟨#[97, 108, 112, 104, 97]⟩
def xAw (til : Int) : SU := ⟨⟨#[97]⟩, alpha, 10, til, 1, false⟩
theorem zAw_ok : zAw.ok = true := by decide +kernel
theorem cAw_ok : cAw.ok = true := by decide +kernel
theorem sAw_ok : sAw.ok = true := by decide +kernel
theorem zAw_at (W : World) : ZAt W zAw none := ⟨by decide, by decide, fun k x h => by simp [zAw] at h⟩
theorem cAw_at (W : World) : CAt W cAw none := ⟨by decide, by decide, fun k x h => by simp [cAw] at h⟩
theorem aw12 : dealB sAw cAw 12 = true := by decide +kernel
theorem aw20 : dealB sAw cAw 20 = true := by decide +kernel
theorem next_det {s : SC} {z : ZN} {c : CN} {d v e r : Int} (h : NextR s z c d v e) (h0 : aErr s z c = 0) (hd : dayB d = true) (hf : fromP (dealB s c) d = some r) : v = r ∧ e = 0 := by
  rcases h with ⟨h1, h2, -⟩ | ⟨-, h1, -⟩ | ⟨-, -, ⟨h1, -⟩ | ⟨h1, h2⟩⟩
  · exact absurd (h1.symm.trans h0) h2
  · rw [hd] at h1
    cases h1
  · rw [hf] at h1
    cases h1
  · rw [hf] at h1
    injection h1 with h1
    exact ⟨h1.symm, h2⟩
theorem aw_nx {nx : Int → Int × Int} (h : NxR sAw zAw cAw nx) : nx 12 = (12, 0) ∧ nx 20 = (20, 0) := by
  have h0 : aErr sAw zAw cAw = 0 := aErr_ok sAw_ok zAw_ok cAw_ok
  have a := next_det (h 12) h0 (by decide) (fromP_yes (by omega) aw12)
  have b := next_det (h 20) h0 (by decide) (fromP_yes (by omega) aw20)
  exact ⟨Prod.ext a.1 a.2, Prod.ext b.1 b.2⟩
theorem aw_sus (til : Int) (h : til = 0 ∨ til = 19) : susB [xAw til] = true := by
  rcases h with rfl | rfl
  · decide +kernel
  · decide +kernel
theorem aw_vis (til : Int) : visS [xAw til] 1 alpha = [xAw til] := by kernel_rfl
theorem aw_chk (til : Int) (h : til = 0 ∨ til = 19) : ChkR [xAw til] 1 alpha 12 0 := .inr (.inr (.inr (.inr ⟨aw_sus til h, by decide, by decide +kernel, by decide, rfl⟩)))
theorem aw_su {W : World} {g : Nat} {til : Int} (hb : BlkAt W g (suV (xAw til)) 77) : SuAt W (some ⟨g, 0, none⟩) [xAw til] := by
  refine ⟨⟨by simp, fun k r hr => ?_⟩, fun x hx => ?_⟩
  · cases k with
    | zero =>
      simp at hr
      subst hr
      exact ⟨g, 0, rfl, hb.lt, fun j v hj => by
        rw [Nat.zero_mul, Nat.zero_add]
        try rw [Nat.zero_add]
        exact hb.cell (by simpa using hj)⟩
    | succ k => simp at hr
  · simp at hx
    subst hx
    exact ⟨show (⟨#[97]⟩ : ByteArray).size ≤ maxLen by decide, show alpha.size ≤ maxLen by decide⟩
theorem awM1 (W : World) (g : Nat) (hb : BlkAt W g (suV (xAw 19)) 77) : Calls Tryz.prog 13 #[.slice (some ⟨g, 0, none⟩) 1 1, .int .i64 1, .string ⟨#[97, 108, 112, 104, 97]⟩, .agg (sV sAw), .agg (pV zAw none 0 cAw none 0), .int .i64 12] W (RetB (.tuple #[.int .i64 20, .int .i64 0]) W) := by
  obtain ⟨nx, hnx⟩ := nx_ex sAw zAw cAw
  obtain ⟨n1, n2⟩ := aw_nx hnx
  refine sMove_ok (l := [xAw 19]) (fund := alpha) (aw_chk 19 (.inr rfl)) (by decide) sAw zAw none 0 cAw none 0 (some ⟨g, 0, none⟩) 1 W (zAw_at W) (cAw_at W) (aw_su hb) zAw_ok cAw_ok sAw_ok hnx ?_
  rw [aw_vis]
  have h1 : ∀ x ∈ [xAw 19], x.til ≤ 73048 := fun x hx => by
    simp at hx
    subst hx
    decide
  have hgo := mov_go h1 (fun d h => hnx.le d h) (fun d h => hnx.hi d h) (d := 12) (by rw [n1]) (by rw [n1]; decide) (by rw [n1]; decide)
  rw [n1] at hgo
  rw [hgo.1]
  have e : lastC 12 [xAw 19] + 1 = 20 := by decide
  rw [e, mov_stay (by omega) (by rw [n2]) (by rw [n2]; decide) (by rw [n2]; decide), n2]
theorem awM2 (W : World) (g : Nat) (hb : BlkAt W g (suV (xAw 0)) 77) : Calls Tryz.prog 13 #[.slice (some ⟨g, 0, none⟩) 1 1, .int .i64 1, .string ⟨#[97, 108, 112, 104, 97]⟩, .agg (sV sAw), .agg (pV zAw none 0 cAw none 0), .int .i64 12] W (RetB (.tuple #[.int .i64 0, .int .i64 281]) W) := by
  obtain ⟨nx, hnx⟩ := nx_ex sAw zAw cAw
  obtain ⟨n1, n2⟩ := aw_nx hnx
  refine sMove_ok (l := [xAw 0]) (fund := alpha) (aw_chk 0 (.inl rfl)) (by decide) sAw zAw none 0 cAw none 0 (some ⟨g, 0, none⟩) 1 W (zAw_at W) (cAw_at W) (aw_su hb) zAw_ok cAw_ok sAw_ok hnx ?_
  rw [aw_vis, mov_open (by omega) (by rw [n1]) (by rw [n1]; decide)]
theorem awN (W : World) : Calls Tryz.prog 42 #[.agg (sV sAw), .agg (pV zAw none 0 cAw none 0), .int .i64 20] W (RetB (.tuple #[.int .i64 20, .int .i64 0]) W) :=
  rNextR 0 0 (.inr (.inr ⟨aErr_ok sAw_ok zAw_ok cAw_ok, by decide, .inr ⟨fromP_yes (by omega) aw20, rfl⟩⟩)) (zAw_at W) (cAw_at W)
set_option maxRecDepth 100000 in
theorem awake28_any (w : World) : Calls Tryz.prog 18 #[] w (RetB (.bool true) w) := by
  go_enter Tryz.func18, Tryz.ntmps18
  go_wp2_with fail
  refine (awM1 _ _ (BlkAt.newAt _ _ _ (by simp))).mono ?_
  rintro e w1 ⟨rfl, hb1⟩
  have HS1 := Lib.hid ((((BlkAt.new w (sV sAw) 26).al (.cells (pV zAw none 0 cAw none 0) 35)).al (.cells (suV (xAw 19)) 77)).next hb1)
  have HP1 := Lib.hid (((BlkAt.newAt (g := w.heap.size + 1) (w.alloc (.cells (sV sAw) 26)) (pV zAw none 0 cAw none 0) 35 (by simp)).al (.cells (suV (xAw 19)) 77)).next hb1)
  have HB1 := Lib.hid (bnext (bal (bal (bal0 w (.cells (sV sAw) 26)) (.cells (pV zAw none 0 cAw none 0) 35)) (.cells (suV (xAw 19)) 77)) hb1)
  have HS2 := Lib.hid (HS1.out.al (.cells #[.string ⟨#[97]⟩, .string ⟨#[97, 108, 112, 104, 97]⟩, .int .i64 10, .int .i64 0, .int .i64 1, .bool false] 77))
  have HP2 := Lib.hid (HP1.out.al (.cells #[.string ⟨#[97]⟩, .string ⟨#[97, 108, 112, 104, 97]⟩, .int .i64 10, .int .i64 0, .int .i64 1, .bool false] 77))
  have HB2 := Lib.hid (bal HB1.out (.cells #[.string ⟨#[97]⟩, .string ⟨#[97, 108, 112, 104, 97]⟩, .int .i64 10, .int .i64 0, .int .i64 1, .bool false] 77))
  clear hb1
  go_wp2_with (first
    | ((with_reducible refine wpl_load rfl 26 _ rfl _ ?_ HS2.out (rowS _) ?_); exact rfl)
    | ((with_reducible refine wpl_load rfl 35 _ rfl _ ?_ HP2.out (rowP ..) ?_); exact rfl))
  refine (awM2 _ _ (BlkAt.new _ _ _)).mono ?_
  rintro e w2 ⟨rfl, hb2⟩
  have HS3 := Lib.hid (HS2.out.next hb2)
  have HP3 := Lib.hid (HP2.out.next hb2)
  have HB3 := Lib.hid (bnext HB2.out hb2)
  clear hb2 HS1 HP1 HB1 HS2 HP2 HB2
  go_wp2_with (first
    | ((with_reducible refine wpl_load rfl 26 _ rfl _ ?_ HS3.out (rowS _) ?_); exact rfl)
    | ((with_reducible refine wpl_load rfl 35 _ rfl _ ?_ HP3.out (rowP ..) ?_); exact rfl))
  refine (awN _).mono ?_
  rintro e w3 ⟨rfl, hb3⟩
  have HB4 := Lib.hid (bnext HB3.out hb3)
  clear hb3 HS3 HP3 HB3
  go_wp2_with fail
  go_ret
  exact ⟨rfl, HB4.out⟩
end
section
open Go.RowKit
set_option linter.unusedVariables false
set_option maxHeartbeats 8000000
theorem sMoveR {l : List SU} {k : Int} {fund : ByteArray} {s : SC} {z : ZN} {c : CN} {nx : Int → Int × Int} {d v e : Int} (hnx : NxR s z c nx) (hm : MovR l k fund s z c nx d v e) (hfu : fund.size ≤ maxLen) (A : Option Addr) (kz : Nat) (Ac : Option Addr) (kc : Nat) (Al : Option Addr) (cp : Nat) (w : World) (hz : ZAt w z A) (hc : CAt w c Ac) (h : SuAt w Al l) :
    Calls Tryz.prog 13 #[.slice Al l.length cp, .int .i64 k, .string fund, .agg (sV s), .agg (pV z A kz c Ac kc), .int .i64 d] w (RetB (.tuple #[.int .i64 v, .int .i64 e]) w) := by
  rcases hm with ⟨h1, h2, rfl⟩ | ⟨h1, h2, rfl, rfl⟩ | ⟨h1, h2, h3, rfl, rfl⟩ | ⟨h1, h2, h3, h4, rfl, rfl⟩ | ⟨h1, h2, h3, h4, h5⟩
  · exact sMove_chk h1 h2 hfu s z A kz c Ac kc Al cp w hz hc h
  · exact sMove_err h1 hfu s z A kz c Ac kc Al cp w hz hc h (by simp [err3, ZN.err, h2]) (by decide)
  · exact sMove_err h1 hfu s z A kz c Ac kc Al cp w hz hc h (by simp [err3, ZN.err, CN.err, h2, h3]) (by decide)
  · exact sMove_err h1 hfu s z A kz c Ac kc Al cp w hz hc h (by simp [err3, ZN.err, CN.err, SC.err, h2, h3, h4]) (by decide)
  · exact sMove_ok h1 hfu s z A kz c Ac kc Al cp w hz hc h h2 h3 h4 hnx h5
theorem rMoveR {l : List SU} {k : Int} {fund : ByteArray} {s : SC} {z : ZN} {c : CN} {nx : Int → Int × Int} {d v e : Int} (hnx : NxR s z c nx) (hm : MovR l k fund s z c nx d v e) (hfu : fund.size ≤ maxLen) (A : Option Addr) (kz : Nat) (Ac : Option Addr) (kc : Nat) (Al : Option Addr) (cp : Nat) (w : World) (hz : ZAt w z A) (hc : CAt w c Ac) (h : SuAt w Al l) :
    Calls Tryz.prog 14 #[.slice Al l.length cp, .int .i64 k, .string fund, .agg (sV s), .agg (pV z A kz c Ac kc), .int .i64 d] w (RetB (.tuple #[.int .i64 v, .int .i64 e]) w) := by
  rcases hm with ⟨h1, h2, rfl⟩ | ⟨h1, h2, rfl, rfl⟩ | ⟨h1, h2, h3, rfl, rfl⟩ | ⟨h1, h2, h3, h4, rfl, rfl⟩ | ⟨h1, h2, h3, h4, h5⟩
  · exact rMove_chk h1 h2 hfu s z A kz c Ac kc Al cp w hz hc h
  · exact rMove_err h1 hfu s z A kz c Ac kc Al cp w hz hc h (by simp [err3, ZN.err, h2]) (by decide)
  · exact rMove_err h1 hfu s z A kz c Ac kc Al cp w hz hc h (by simp [err3, ZN.err, CN.err, h2, h3]) (by decide)
  · exact rMove_err h1 hfu s z A kz c Ac kc Al cp w hz hc h (by simp [err3, ZN.err, CN.err, SC.err, h2, h3, h4]) (by decide)
  · exact rMove_ok h1 hfu s z A kz c Ac kc Al cp w hz hc h h2 h3 h4 (fun h => sus_til h) hnx h5
end
end Go.Proofs.YtffmmkjoknghoaaGreat
