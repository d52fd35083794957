/-
  Suspensions: where Move is refused; the law SuspensionRefuses.
-/
import Derived.Test.YtllloldheofljaaSusAwake
namespace Go.Proofs.Ytllloldheofljaa
open Go.RowKit
set_option linter.unusedVariables false
set_option maxHeartbeats 8000000
theorem sMoveR {l : List SU} {k : Int} {fund : ByteArray} {s : SC} {z : ZN} {c : CN} {nx : Int → Int × Int} {d v e : Int} (hnx : NxR s z c nx) (hm : MovR l k fund s z c nx d v e) (hfu : fund.size ≤ maxLen) (A : Option Addr) (kz : Nat) (Ac : Option Addr) (kc : Nat) (Al : Option Addr) (cp : Nat) (w : World) (hz : ZAt w z A) (hc : CAt w c Ac) (h : SuAt w Al l) :
    Calls Try.prog 36 #[.slice Al l.length cp, .int .i64 k, .string fund, .agg (sV s), .agg (pV z A kz c Ac kc), .int .i64 d] w (RetB (.tuple #[.int .i64 v, .int .i64 e]) w) := by
  rcases hm with ⟨h1, h2, rfl⟩ | ⟨h1, h2, rfl, rfl⟩ | ⟨h1, h2, h3, rfl, rfl⟩ | ⟨h1, h2, h3, h4, rfl, rfl⟩ | ⟨h1, h2, h3, h4, h5⟩
  · exact sMove_chk h1 h2 hfu s z A kz c Ac kc Al cp w hz hc h
  · exact sMove_err h1 hfu s z A kz c Ac kc Al cp w hz hc h (by simp [err3, ZN.err, h2]) (by decide)
  · exact sMove_err h1 hfu s z A kz c Ac kc Al cp w hz hc h (by simp [err3, ZN.err, CN.err, h2, h3]) (by decide)
  · exact sMove_err h1 hfu s z A kz c Ac kc Al cp w hz hc h (by simp [err3, ZN.err, CN.err, SC.err, h2, h3, h4]) (by decide)
  · exact sMove_ok h1 hfu s z A kz c Ac kc Al cp w hz hc h h2 h3 h4 hnx h5
theorem rMoveR {l : List SU} {k : Int} {fund : ByteArray} {s : SC} {z : ZN} {c : CN} {nx : Int → Int × Int} {d v e : Int} (hnx : NxR s z c nx) (hm : MovR l k fund s z c nx d v e) (hfu : fund.size ≤ maxLen) (A : Option Addr) (kz : Nat) (Ac : Option Addr) (kc : Nat) (Al : Option Addr) (cp : Nat) (w : World) (hz : ZAt w z A) (hc : CAt w c Ac) (h : SuAt w Al l) :
    Calls Try.prog 37 #[.slice Al l.length cp, .int .i64 k, .string fund, .agg (sV s), .agg (pV z A kz c Ac kc), .int .i64 d] w (RetB (.tuple #[.int .i64 v, .int .i64 e]) w) := by
  rcases hm with ⟨h1, h2, rfl⟩ | ⟨h1, h2, rfl, rfl⟩ | ⟨h1, h2, h3, rfl, rfl⟩ | ⟨h1, h2, h3, h4, rfl, rfl⟩ | ⟨h1, h2, h3, h4, h5⟩
  · exact rMove_chk h1 h2 hfu s z A kz c Ac kc Al cp w hz hc h
  · exact rMove_err h1 hfu s z A kz c Ac kc Al cp w hz hc h (by simp [err3, ZN.err, h2]) (by decide)
  · exact rMove_err h1 hfu s z A kz c Ac kc Al cp w hz hc h (by simp [err3, ZN.err, CN.err, h2, h3]) (by decide)
  · exact rMove_err h1 hfu s z A kz c Ac kc Al cp w hz hc h (by simp [err3, ZN.err, CN.err, SC.err, h2, h3, h4]) (by decide)
  · exact rMove_ok h1 hfu s z A kz c Ac kc Al cp w hz hc h h2 h3 h4 (fun h => sus_til h) hnx h5
set_option maxRecDepth 100000 in
theorem suspensionRefuses_any (l : List SU) (A : Option Addr) (cp : Nat) (k : Int) (fund : ByteArray) (s : SC) (z : ZN) (zA : Option Addr) (zc : Nat) (c : CN) (cA : Option Addr) (cc : Nat) (d : Int) (w : World) (h : SuAt w A l) (hfu : fund.size ≤ maxLen) (hz : ZAt w z zA) (hc : CAt w c cA) :
    Calls Try.prog 7 #[.slice A l.length cp, .int .i64 k, .string fund, .agg (sV s), .agg #[.string z.name, .int .i64 z.off, .slice zA z.cs.length zc], .agg #[.string c.name, .bool c.w0, .bool c.w1, .bool c.w2, .bool c.w3, .bool c.w4, .bool c.w5, .bool c.w6, .slice cA c.hs.length cc], .int .i64 d] w (RetB (.bool true) w) := by
  obtain ⟨nx, hnx⟩ := nx_ex s z c
  obtain ⟨v, e, hm⟩ := mov_ex l k fund s z c nx d
  have HN := Lib.hid hnx
  have HM := Lib.hid hm
  have HB0 := Lib.hid (bal (bal (bal0 w (.cells (sV s) 38)) (.cells #[.string z.name, .int .i64 z.off, .slice zA z.cs.length zc] 28)) (.cells #[.string c.name, .bool c.w0, .bool c.w1, .bool c.w2, .bool c.w3, .bool c.w4, .bool c.w5, .bool c.w6, .slice cA c.hs.length cc] 31))
  have HBP := Lib.hid (show Below w.heap.size w ((((w.alloc (.cells (sV s) 38)).alloc (.cells #[.string z.name, .int .i64 z.off, .slice zA z.cs.length zc] 28)).alloc (.cells #[.string c.name, .bool c.w0, .bool c.w1, .bool c.w2, .bool c.w3, .bool c.w4, .bool c.w5, .bool c.w6, .slice cA c.hs.length cc] 31)).alloc (.cells #[.string z.name, .int .i64 z.off, .slice zA z.cs.length zc, .string c.name, .bool c.w0, .bool c.w1, .bool c.w2, .bool c.w3, .bool c.w4, .bool c.w5, .bool c.w6, .slice cA c.hs.length cc] 33)) from bal HB0.out (.cells #[.string z.name, .int .i64 z.off, .slice zA z.cs.length zc, .string c.name, .bool c.w0, .bool c.w1, .bool c.w2, .bool c.w3, .bool c.w4, .bool c.w5, .bool c.w6, .slice cA c.hs.length cc] 33))
  have HU := Lib.hid (h.below HBP.out)
  have HZ := Lib.hid (hz.below HBP.out)
  have HC := Lib.hid (hc.below HBP.out)
  have HSP := Lib.hid (show BlkAt ((((w.alloc (.cells (sV s) 38)).alloc (.cells #[.string z.name, .int .i64 z.off, .slice zA z.cs.length zc] 28)).alloc (.cells #[.string c.name, .bool c.w0, .bool c.w1, .bool c.w2, .bool c.w3, .bool c.w4, .bool c.w5, .bool c.w6, .slice cA c.hs.length cc] 31)).alloc (.cells #[.string z.name, .int .i64 z.off, .slice zA z.cs.length zc, .string c.name, .bool c.w0, .bool c.w1, .bool c.w2, .bool c.w3, .bool c.w4, .bool c.w5, .bool c.w6, .slice cA c.hs.length cc] 33)) w.heap.size (sV s) 38 from (((BlkAt.new w (sV s) 38).al _).al _).al _)
  have HPP := Lib.hid (show BlkAt ((((w.alloc (.cells (sV s) 38)).alloc (.cells #[.string z.name, .int .i64 z.off, .slice zA z.cs.length zc] 28)).alloc (.cells #[.string c.name, .bool c.w0, .bool c.w1, .bool c.w2, .bool c.w3, .bool c.w4, .bool c.w5, .bool c.w6, .slice cA c.hs.length cc] 31)).alloc (.cells #[.string z.name, .int .i64 z.off, .slice zA z.cs.length zc, .string c.name, .bool c.w0, .bool c.w1, .bool c.w2, .bool c.w3, .bool c.w4, .bool c.w5, .bool c.w6, .slice cA c.hs.length cc] 33)) (w.heap.size + 3) (pV z zA zc c cA cc) 33 from BlkAt.newAt (g := w.heap.size + 3) _ (pV z zA zc c cA cc) 33 (by simp))
  clear hnx hm h hz hc
  go_enter Try.func7, Try.ntmps7
  go_wp2_with (first | ((with_reducible refine wpl_load rfl 38 _ rfl _ ?_ HSP.out (rowS _) ?_); exact rfl) | ((with_reducible refine wpl_load rfl 33 _ rfl _ ?_ HPP.out (rowP ..) ?_); exact rfl))
  all_goals first
    | (refine (awake28_any _).mono ?_
       rintro e w5 ⟨rfl, hb5⟩
       have HB5 := Lib.hid (bnext HB0.out hb5)
       clear hb5
       go_wp2_with fail
       go_ret
       exact ⟨rfl, HB5.out⟩)
    | skip
  refine (sMoveR HN.out HM.out hfu zA zc cA cc A cp _ HZ.out HC.out HU.out).mono ?_
  rintro e1 w1 ⟨rfl, hb⟩
  have HS1 := Lib.hid (HSP.out.next hb)
  have HP1 := Lib.hid (HPP.out.next hb)
  have HU1 := Lib.hid (HU.out.below hb)
  have HZ1 := Lib.hid (HZ.out.below hb)
  have HC1 := Lib.hid (HC.out.below hb)
  have HB1 := Lib.hid (bnext HBP.out hb)
  clear hb
  go_wp2_with (first | ((with_reducible refine wpl_load rfl 38 _ rfl _ ?_ HS1.out (rowS _) ?_); exact rfl) | ((with_reducible refine wpl_load rfl 33 _ rfl _ ?_ HP1.out (rowP ..) ?_); exact rfl))
  refine (rMoveR HN.out HM.out hfu zA zc cA cc A cp _ HZ1.out HC1.out HU1.out).mono ?_
  rintro e2 w2 ⟨rfl, hb⟩
  have HB2 := Lib.hid (bnext HB1.out hb)
  clear hb
  go_wp2_with fail
  refine (awake28_any _).mono ?_
  rintro e3 w3 ⟨rfl, hb⟩
  have HB3 := Lib.hid (bnext HB2.out hb)
  clear hb
  go_wp2_with fail
  go_ret
  exact ⟨rfl, HB3.out⟩
end Go.Proofs.Ytllloldheofljaa
