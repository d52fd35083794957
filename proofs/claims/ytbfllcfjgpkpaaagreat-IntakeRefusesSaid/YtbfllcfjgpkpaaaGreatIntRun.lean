/-
  All versions at the desk of intake.
  What intake's run answers where something that it is asked is not good.
  What intake answers of all versions.
-/
import Derived.Test.YtbfllcfjgpkpaaaGreatIntTake
import Derived.Test.YtbfllcfjgpkpaaaGreatNameWalk
import Derived.Test.YtbfllcfjgpkpaaaGreatMem
import Derived.Test.YtbfllcfjgpkpaaaGreatSusAct
import Derived.BigRegion
import Derived.Deep.DeepCutAuto
import Derived.Deep.CutBlock
import Derived.Test.YtbfllcfjgpkpaaaGreatSchedLaws
namespace Go.Proofs.YtbfllcfjgpkpaaaGreat
section
open Go.RowKit Go.Maps
set_option linter.unusedVariables false
set_option maxHeartbeats 4000000
theorem stA_zero (n : Nat) : madeCells (Value.int .i64 0).cells (n * 1) = stA n (fun _ => 0) := by
  apply Array.ext
  · simp [size_madeCells, stA]
  · intro j h1 h2
    have h0 : j % 1 = 0 := by omega
    simp [madeCells, stA, Value.cells, h0]
theorem run_mkInts (n : Nat) (hn : n ≤ 4096) (w : World) : (Instr.makeSlice 23 (.int .i64 (n : Int)) (.int .i64 (n : Int))).run Tryz.prog w = .ok (.slice (some ⟨w.heap.size, 0, none⟩) n n) (w.alloc (.cells (stA n (fun _ => 0)) 3)) := by
  obtain ⟨i, z, hi, hz, hsz, hby, hzs⟩ := elInt.info
  have hz2 : z = .int .i64 0 := by
    have h1 : (Tryz.prog.info? 3).map (fun i => i.zero) = some (some (.int .i64 0)) := by kernel_rfl
    rw [hi] at h1
    simp [hz] at h1
    exact h1
  subst hz2
  have := run_make (P := Tryz.prog) w 23 3 i _ elInt.sl hi hz .i64 .i64 (n : Int) (n : Int) (by omega) (by omega) (by rw [hby]; omega) (by omega)
  rw [this, hsz, ← stA_zero]
  rfl
theorem SuAt.nil (w : World) : SuAt w none [] := ⟨RecsAt.nil _ _ _, by simp⟩
/-- The first error of what intake is asked. -/
def runErr (l : List OR) (k : Int) (fund : ByteArray) (s : SC) (z : ZN) (c : CN) : Int :=
  if bookErr l ≠ 0 then bookErr l else if knB k = false then 240 else if nmB fund = false then 241 else if z.err ≠ 0 then z.err else if c.err ≠ 0 then c.err else s.err
theorem DeskAt.next {P : DPar} {k : Int} {fund : ByteArray} {w W W' : World} {b gs gm i : Nat} (h : DeskAt P k fund w b gs gm i W) (hb : Below W.heap.size W W') : DeskAt P k fund w b gs gm i W' := by
  obtain ⟨m, hm, hD⟩ := h
  exact ⟨m, hm, hD.next hb⟩
/-- A new desk: the statuses are made first, or the map. -/
theorem DK.made1 {P : DPar} {w W : World} (hb : Below w.heap.size w W) : DK P w (((W.alloc (.cells (stA P.l.length (fun _ => 0)) 3)).alloc (.map #[] 0)).alloc (.cells #[.slice P.A P.l.length P.cp, .int .i64 P.s.period, .int .i64 P.s.nth, .int .i64 P.s.notice, .int .i64 P.s.settle, .int .i64 P.s.cutoff, .string P.z.name, .int .i64 P.z.off, .slice P.zA P.z.cs.length P.zc, .string P.c.name, .bool P.c.w0, .bool P.c.w1, .bool P.c.w2, .bool P.c.w3, .bool P.c.w4, .bool P.c.w5, .bool P.c.w6, .slice P.cA P.c.hs.length P.cc, .slice (some ⟨W.heap.size, 0, none⟩) P.l.length P.l.length, .map (some (W.heap.size + 1))] 75)) (W.heap.size + 1 + 1) W.heap.size (W.heap.size + 1) (fun _ => 0) (fun _ => none) 0 := by
  have hs := hb.size
  refine ⟨BlkAt.newAt _ _ _ (by simp), ((BlkAt.new _ _ _).al _).al _, ⟨.map [], ?_, MapN.nil _ (fun _ => rfl)⟩, bal (bal (bal hb _) _) _, by omega, hs, by omega, by omega, by omega, by omega⟩
  have h1 := (World.ownsMap_made (W.alloc (.cells (stA P.l.length (fun _ => 0)) 3)) Tryz.prog 9 curE).alloc (.cells #[.slice P.A P.l.length P.cp, .int .i64 P.s.period, .int .i64 P.s.nth, .int .i64 P.s.notice, .int .i64 P.s.settle, .int .i64 P.s.cutoff, .string P.z.name, .int .i64 P.z.off, .slice P.zA P.z.cs.length P.zc, .string P.c.name, .bool P.c.w0, .bool P.c.w1, .bool P.c.w2, .bool P.c.w3, .bool P.c.w4, .bool P.c.w5, .bool P.c.w6, .slice P.cA P.c.hs.length P.cc, .slice (some ⟨W.heap.size, 0, none⟩) P.l.length P.l.length, .map (some (W.heap.size + 1))] 75)
  rwa [show (W.alloc (.cells (stA P.l.length (fun _ => 0)) 3)).heap.size = W.heap.size + 1 by simp] at h1
theorem DK.made2 {P : DPar} {w W : World} (hb : Below w.heap.size w W) : DK P w (((W.alloc (.map #[] 0)).alloc (.cells (stA P.l.length (fun _ => 0)) 3)).alloc (.cells #[.slice P.A P.l.length P.cp, .int .i64 P.s.period, .int .i64 P.s.nth, .int .i64 P.s.notice, .int .i64 P.s.settle, .int .i64 P.s.cutoff, .string P.z.name, .int .i64 P.z.off, .slice P.zA P.z.cs.length P.zc, .string P.c.name, .bool P.c.w0, .bool P.c.w1, .bool P.c.w2, .bool P.c.w3, .bool P.c.w4, .bool P.c.w5, .bool P.c.w6, .slice P.cA P.c.hs.length P.cc, .slice (some ⟨W.heap.size + 1, 0, none⟩) P.l.length P.l.length, .map (some W.heap.size)] 75)) (W.heap.size + 1 + 1) (W.heap.size + 1) W.heap.size (fun _ => 0) (fun _ => none) 0 := by
  have hs := hb.size
  exact ⟨BlkAt.newAt _ _ _ (by simp), (BlkAt.newAt _ _ _ (by simp)).al _, ⟨.map [], ((World.ownsMap_made W Tryz.prog 9 curE).alloc _).alloc _, MapN.nil _ (fun _ => rfl)⟩, bal (bal (bal hb _) _) _, by omega, by omega, hs, by omega, by omega, by omega⟩
/-- A desk at which all versions have been. -/
def RunP (P : DPar) (k : Int) (fund : ByteArray) (w : World) (e : Ending) (w' : World) : Prop :=
  ∃ b gs gm, e = .returned (.tuple #[.pointer (some ⟨b, 0, none⟩), .int .i64 0]) ∧ DeskAt P k fund w b gs gm P.l.length w'
set_option maxRecDepth 100000 in
theorem run_ok {P : DPar} {w : World} (hP : P.Ok w) {k : Int} {fund : ByteArray} (hb0 : bookErr P.l = 0) (hk : knB k = true) (hf : nmB fund = true) (hfu : fund.size ≤ maxLen) (hz : P.z.ok = true) (hc : P.c.ok = true) (hs : P.s.ok = true) :
    Calls Tryz.prog 25 #[.slice P.A P.l.length P.cp, .int .i64 k, .string fund, .agg (sV P.s), .agg (pV P.z P.zA P.zc P.c P.cA P.cc)] w (RunP P k fund w) := by
  obtain ⟨k0, k1⟩ := (knB_iff k).1 hk
  have hln := hP.ln
  have hbk := fun w h => obook_any oname_is P.l P.A P.cp w h
  rw [hb0] at hbk
  have hnm := oname_is fund true hf hfu
  have HZ := Lib.hid (show P.z.err = 0 by simp [ZN.err, hz])
  have HC := Lib.hid (show P.c.err = 0 by simp [CN.err, hc])
  have HS := Lib.hid (show P.s.err = 0 by simp [SC.err, hs])
  have HM := Lib.hid (MB.new P.s P.zc P.cc hP.za hP.ca (SuAt.nil w))
  have HP := Lib.hid hP
  clear hb0 hk hf hz hc hs hP
  go_enter Tryz.func25, Tryz.ntmps25
  go_wp2_with fail
  refine (hbk _ (HP.out.la.below HM.out.below)).mono ?_
  rintro e w1 ⟨rfl, hb⟩
  have HM1 := Lib.hid (HM.out.next hb)
  clear hb HM
  go_wp2_with fail
  refine (hnm _).mono ?_
  rintro e w2 ⟨rfl, hb⟩
  have HM2 := Lib.hid (HM1.out.next hb)
  clear hb HM1
  go_wp2_with (((with_reducible refine wpl_load_mid rfl 32 _ rfl _ 0 ?_ HM2.out.pb ?_ (rowZ P.z P.zA P.zc) ?_); exact rfl; exact rfl))
  refine (zcheck_is HZ.out P.zA P.zc _ HM2.out.za).mono ?_
  rintro e w3 ⟨rfl, hb⟩
  have HM3 := Lib.hid (HM2.out.next hb)
  clear hb HM2
  go_wp2_with (((with_reducible refine wpl_load_mid rfl 35 _ rfl _ 3 ?_ HM3.out.pb ?_ (rowC P.c P.cA P.cc) ?_); exact rfl; exact rfl))
  refine (ccheck_is HC.out P.cA P.cc _ HM3.out.ca).mono ?_
  rintro e w4 ⟨rfl, hb⟩
  have HM4 := Lib.hid (HM3.out.next hb)
  clear hb HM3
  go_wp2_with (((with_reducible refine wpl_load rfl 28 _ rfl _ ?_ HM4.out.sb (rowS _) ?_); exact rfl))
  refine (scheck_is HS.out _).mono ?_
  rintro e w5 ⟨rfl, hb⟩
  have HM5 := Lib.hid (HM4.out.next hb)
  clear hb HM4
  have hmk := fun w => run_mkInts P.l.length hln w
  have hmm := @run_makeMap Tryz.prog
  go_wp2_with fail
  go_cut [16] from 50 to 58 (fun v wd => ∃ b gs gm, v = .pointer (some ⟨b, 0, none⟩) ∧ DK P w wd b gs gm (fun _ => 0) (fun _ => none) 0)
  case first =>
    have HD := Lib.hid (HM5.out.next ((Below.refl _ _).drew))
    have HB := Lib.hid HM5.out.below
    have HX1 := Lib.hid ((HM5.out.next (bal0 w5 (.cells (stA P.l.length (fun _ => 0)) 3))).next ((Below.refl _ _).drew))
    have HX2 := Lib.hid ((HM5.out.next (bal0 w5 (.map #[] 0))).next ((Below.refl _ _).drew))
    have HX3 := Lib.hid (((HM5.out.next (bal0 w5 (.cells (stA P.l.length (fun _ => 0)) 3))).next (bal0 _ (.map #[] 0))).next ((Below.refl _ _).drew))
    have HX4 := Lib.hid (((HM5.out.next (bal0 w5 (.map #[] 0))).next (bal0 _ (.cells (stA P.l.length (fun _ => 0)) 3))).next ((Below.refl _ _).drew))
    have HY3 := Lib.hid (fun o => (((HM5.out.next (bal0 w5 (.cells (stA P.l.length (fun _ => 0)) 3))).next (bal0 _ (.map #[] 0))).next (bal0 _ o)).next ((Below.refl _ _).drew))
    have HY4 := Lib.hid (fun o => (((HM5.out.next (bal0 w5 (.map #[] 0))).next (bal0 _ (.cells (stA P.l.length (fun _ => 0)) 3))).next (bal0 _ o)).next ((Below.refl _ _).drew))
    go_region_held3 (fun W => (W.cell? ⟨w.heap.size, 0, none⟩ = some (.int .i64 P.s.period) ∧ W.cell? ⟨w.heap.size, 1, none⟩ = some (.int .i64 P.s.nth) ∧ W.cell? ⟨w.heap.size, 2, none⟩ = some (.int .i64 P.s.notice) ∧ W.cell? ⟨w.heap.size, 3, none⟩ = some (.int .i64 P.s.settle) ∧ W.cell? ⟨w.heap.size, 4, none⟩ = some (.int .i64 P.s.cutoff)) ∧ (W.cell? ⟨w.heap.size + 1, 0, none⟩ = some (.string P.z.name) ∧ W.cell? ⟨w.heap.size + 1, 1, none⟩ = some (.int .i64 P.z.off) ∧ W.cell? ⟨w.heap.size + 1, 2, none⟩ = some (.slice P.zA P.z.cs.length P.zc) ∧ W.cell? ⟨w.heap.size + 1, 3, none⟩ = some (.string P.c.name) ∧ W.cell? ⟨w.heap.size + 1, 4, none⟩ = some (.bool P.c.w0) ∧ W.cell? ⟨w.heap.size + 1, 5, none⟩ = some (.bool P.c.w1) ∧ W.cell? ⟨w.heap.size + 1, 6, none⟩ = some (.bool P.c.w2) ∧ W.cell? ⟨w.heap.size + 1, 7, none⟩ = some (.bool P.c.w3) ∧ W.cell? ⟨w.heap.size + 1, 8, none⟩ = some (.bool P.c.w4) ∧ W.cell? ⟨w.heap.size + 1, 9, none⟩ = some (.bool P.c.w5) ∧ W.cell? ⟨w.heap.size + 1, 10, none⟩ = some (.bool P.c.w6) ∧ W.cell? ⟨w.heap.size + 1, 11, none⟩ = some (.slice P.cA P.c.hs.length P.cc)) ∧ MB w W P.s P.z P.zA P.zc P.c P.cA P.cc [] none)
      ((first
        | (with_reducible exact HD.out.q)
        | (with_reducible exact HX1.out.q)
        | (with_reducible exact HX2.out.q)
        | (with_reducible exact HX3.out.q)
        | (with_reducible exact HX4.out.q)
        | (with_reducible exact (HY3.out _).q)
        | (with_reducible exact (HY4.out _).q)))
      (fail)
    all_goals
      go_wp2_with fail
      go_meet
      first
      | exact ⟨_, _, _, rfl, (DK.made1 HB.out).next ((Below.refl _ _).drew)⟩
      | exact ⟨_, _, _, rfl, (DK.made2 HB.out).next ((Below.refl _ _).drew)⟩
  case rest =>
  obtain ⟨b, gs, gm, rfl, hD⟩ := hcut
  have HD := Lib.hid hD
  clear hD HM5 hbk hnm hmk hmm
  obtain ⟨A, hAA⟩ : ∃ A, P.A = A := ⟨_, rfl⟩
  rw [hAA]
  go_wp2_with fail
  go_loopw [61] (fun iv wr => ∃ i : Nat, i ≤ P.l.length ∧ iv = .int .i64 i ∧ DeskAt P k fund w b gs gm i wr) (fun iv _ => P.l.length - (intOf iv).toNat)
  case atStart => exact ⟨0, by omega, rfl, ⟨0, by omega, HD.out⟩⟩
  case round =>
    obtain ⟨i, hi, rfl, hS⟩ := hrel
    clear HD
    by_cases hlt : i < P.l.length
    · obtain ⟨ob, oo, x', hA, -, -, -, -⟩ := HP.out.la.get hlt
      obtain rfl : A = some ⟨ob, oo, none⟩ := hAA.symm.trans hA
      clear hAA
      obtain ⟨x, hx⟩ : ∃ x, P.l[i]? = some x := ⟨_, List.getElem?_eq_getElem hlt⟩
      obtain ⟨m, hm, hd⟩ := hS
      obtain ⟨q0, q1, q2, q3, q4, q5, q6, q7, q8, q9, q10⟩ := ordQ HP.out hd hA hx
      have HS1 := Lib.hid ((show DeskAt P k fund w b gs gm i wr from ⟨m, hm, hd⟩).next (bal0 wr (.cells #[.string x.key, .string x.nom, .string x.hol, .string x.fund, .string x.cls, .int .i64 x.kind, .int .i64 x.amt, .int .i64 x.units, .int .i64 x.t, .int .i64 x.known, .bool x.void] 57)))
      have HB1 := Lib.hid (show BlkAt (wr.alloc (.cells #[.string x.key, .string x.nom, .string x.hol, .string x.fund, .string x.cls, .int .i64 x.kind, .int .i64 x.amt, .int .i64 x.units, .int .i64 x.t, .int .i64 x.known, .bool x.void] 57)) wr.heap.size (orV x) 57 from BlkAt.new _ _ _)
      have HX := Lib.hid hx
      clear hx hd hm
      by_cases hk1 : x.known ≤ k
      · cases hv : x.void
        · by_cases hf : x.fund = fund
          · have hq := key_t hf
            have HC1 : Hid (cntO k fund x = true) := Lib.hid (by simp [cntO, hk1, hv, hf])
            clear hf
            have HS2 := HS1.out
            rw [hv] at HS2
            have HS3 := Lib.hid HS2
            clear HS1 HS2 HB1
            go_wp2_with fail
            refine (take_any HP.out HS3.out HX.out HC1.out).mono ?_
            rintro e w6 ⟨rfl, hd6⟩
            have HD6 := Lib.hid hd6
            clear hd6 q0 q1 q2 q3 q4 q5 q6 q7 q8 q9 q10
            go_wp2_with fail
            go_roundw
            case rel => exact ⟨i + 1, by omega, by go_num, HD6.out⟩
            case measure => simp [intOf]; omega
          · have hq := key_f hf
            have HC1 : Hid (cntO k fund x = false) := Lib.hid (by simp [cntO, hk1, hv, hf])
            clear hf
            have HS2 := HS1.out
            rw [hv] at HS2
            have HS3 := Lib.hid HS2
            clear HS1 HS2 HB1
            go_wp2_with fail
            go_roundw
            case rel =>
              refine ⟨i + 1, by omega, by go_num, ?_⟩
              obtain ⟨m2, hm2, hd2⟩ := HS3.out
              exact ⟨m2, by omega, by rw [st_skip HX.out HC1.out, now_skip HX.out HC1.out]; exact hd2⟩
            case measure => simp [intOf]; omega
        · have hqq := hv
          have HC1 : Hid (cntO k fund x = true) := Lib.hid (by simp [cntO, hk1, hv])
          have HS2 := HS1.out
          rw [hv] at HS2
          have HS3 := Lib.hid HS2
          clear HS1 HS2 HB1
          go_wp2_with fail
          refine (take_any HP.out HS3.out HX.out HC1.out).mono ?_
          rintro e w6 ⟨rfl, hd6⟩
          have HD6 := Lib.hid hd6
          clear hd6 q0 q1 q2 q3 q4 q5 q6 q7 q8 q9 q10
          go_wp2_with fail
          go_roundw
          case rel => exact ⟨i + 1, by omega, by go_num, HD6.out⟩
          case measure => simp [intOf]; omega
      · have hqq := hk1
        have HC1 : Hid (cntO k fund x = false) := Lib.hid (by simp [cntO, hk1])
        have HS2 := HS1.out
        have HS3 := Lib.hid HS2
        clear HS1 HS2 HB1
        go_wp2_with fail
        go_roundw
        case rel =>
          refine ⟨i + 1, by omega, by go_num, ?_⟩
          obtain ⟨m2, hm2, hd2⟩ := HS3.out
          exact ⟨m2, by omega, by rw [st_skip HX.out HC1.out, now_skip HX.out HC1.out]; exact hd2⟩
        case measure => simp [intOf]; omega
    · go_wp2_with fail
      have hi2 : i = P.l.length := by omega
      subst hi2
      go_ret2
      exact ⟨b, gs, gm, rfl, hS⟩
end
section
open Go.RowKit Go.Maps
set_option linter.unusedVariables false
set_option maxHeartbeats 4000000
set_option maxRecDepth 100000 in
theorem run_bad {l : List OR} {A : Option Addr} {cp : Nat} {k : Int} {fund : ByteArray} {s : SC} {z : ZN} {zA : Option Addr} {zc : Nat} {c : CN} {cA : Option Addr} {cc : Nat} {w : World} (hla : OrAt w A l) (hza : ZAt w z zA) (hca : CAt w c cA) (hfu : fund.size ≤ maxLen) {e : Int} (he : runErr l k fund s z c = e) (h0 : e ≠ 0) :
    Calls Tryz.prog 25 #[.slice A l.length cp, .int .i64 k, .string fund, .agg (sV s), .agg (pV z zA zc c cA cc)] w (RetB (.tuple #[.pointer none, .int .i64 e]) w) := by
  have hbk := fun w h => obook_any oname_is l A cp w h
  obtain ⟨er, her⟩ : ∃ er, bookErr l = er := ⟨_, rfl⟩
  rw [her] at hbk
  unfold runErr at he
  rw [her] at he
  have HM := Lib.hid (MB.new s zc cc hza hca (SuAt.nil w))
  have HA := Lib.hid hla
  have H0 := Lib.hid h0
  have HE := Lib.hid he
  clear her hla hza hca h0 he
  go_enter Tryz.func25, Tryz.ntmps25
  go_wp2_with fail
  refine (hbk _ (HA.out.below HM.out.below)).mono ?_
  rintro e w1 ⟨rfl, hb⟩
  have HM1 := Lib.hid (HM.out.next hb)
  clear hb HM hbk
  by_cases hb0 : er = 0
  · subst hb0
    cases hk : knB k
    · have he2 := HE.out
      simp [hk] at he2
      have hkk := knB_no hk
      clear hk HE
      have g1 : (decide (k < 1) || decide (2147483647 < k)) = true := by simpa using hkk
      rcases hkk with hkk | hkk
      · go_wp2_with fail
        go_ret2
        exact ⟨by first | (rw [← he2]; done) | (rw [← he2]; rfl), HM1.out.below⟩
      · have g2 : ¬ k < 1 := by omega
        go_wp2_with fail
        go_ret2
        exact ⟨by first | (rw [← he2]; done) | (rw [← he2]; rfl), HM1.out.below⟩
    · obtain ⟨k0, k1⟩ := (knB_iff k).1 hk
      have he2 := HE.out
      simp [hk] at he2
      have HE2 := Lib.hid he2
      clear HE he2 hk
      go_wp2_with fail
      obtain ⟨nb, hnb⟩ : ∃ nb, nmB fund = nb := ⟨_, rfl⟩
      refine (oname_is fund nb hnb hfu _).mono ?_
      rintro e w2 ⟨rfl, hb⟩
      have HM2 := Lib.hid (HM1.out.next hb)
      clear hb HM1
      have he3 := HE2.out
      rw [hnb] at he3
      have HE3 := Lib.hid he3
      clear HE2 he3 hnb
      cases nb
      · go_wp2_with fail
        go_ret2
        exact ⟨by rw [← HE3.out]; rfl, HM2.out.below⟩
      · go_wp2_with (((with_reducible refine wpl_load_mid rfl 32 _ rfl _ 0 ?_ HM2.out.pb ?_ (rowZ z zA zc) ?_); exact rfl; exact rfl))
        obtain ⟨ez, hez⟩ : ∃ ez, z.err = ez := ⟨_, rfl⟩
        refine (zcheck_is hez zA zc _ HM2.out.za).mono ?_
        rintro e w3 ⟨rfl, hb⟩
        have HM3 := Lib.hid (HM2.out.next hb)
        clear hb HM2
        have he4 := HE3.out
        rw [hez] at he4
        simp at he4
        have HE4 := Lib.hid he4
        clear HE3 he4 hez
        by_cases hz0 : ez = 0
        · subst hz0
          go_wp2_with (((with_reducible refine wpl_load_mid rfl 35 _ rfl _ 3 ?_ HM3.out.pb ?_ (rowC c cA cc) ?_); exact rfl; exact rfl))
          obtain ⟨ec, hec⟩ : ∃ ec, c.err = ec := ⟨_, rfl⟩
          refine (ccheck_is hec cA cc _ HM3.out.ca).mono ?_
          rintro e w4 ⟨rfl, hb⟩
          have HM4 := Lib.hid (HM3.out.next hb)
          clear hb HM3
          have he5 := HE4.out
          rw [hec] at he5
          simp at he5
          have HE5 := Lib.hid he5
          clear HE4 he5 hec
          by_cases hc0 : ec = 0
          · subst hc0
            have he6 := HE5.out
            simp at he6
            have HE6 := Lib.hid he6
            clear HE5 he6
            go_wp2_with (((with_reducible refine wpl_load rfl 28 _ rfl _ ?_ HM4.out.sb (rowS _) ?_); exact rfl))
            refine (scheck_is HE6.out _).mono ?_
            rintro e w5 ⟨rfl, hb⟩
            have HM5 := Lib.hid (HM4.out.next hb)
            have g9 := beq_eq_false_iff_ne.2 H0.out
            have g8 := bne_iff_ne.2 H0.out
            clear hb HM4 HE6
            go_wp2_with fail
            go_ret2
            exact ⟨rfl, HM5.out.below⟩
          · have g9 := beq_eq_false_iff_ne.2 hc0
            have g8 := bne_iff_ne.2 hc0
            have he6 := HE5.out
            rw [if_neg hc0] at he6
            have HE6 := Lib.hid he6
            clear HE5 he6 hc0
            go_wp2_with fail
            go_ret2
            exact ⟨by first | (rw [HE6.out]; done) | (rw [HE6.out]; rfl), HM4.out.below⟩
        · have g9 := beq_eq_false_iff_ne.2 hz0
          have g8 := bne_iff_ne.2 hz0
          have he6 := HE4.out
          rw [if_neg hz0] at he6
          have HE6 := Lib.hid he6
          clear HE4 he6 hz0
          go_wp2_with fail
          go_ret2
          exact ⟨by first | (rw [HE6.out]; done) | (rw [HE6.out]; rfl), HM3.out.below⟩
  · have g9 := beq_eq_false_iff_ne.2 hb0
    have g8 := bne_iff_ne.2 hb0
    have he6 := HE.out
    rw [if_pos hb0] at he6
    have HE6 := Lib.hid he6
    clear HE he6 hb0
    go_wp2_with fail
    go_ret2
    exact ⟨by first | (rw [HE6.out]; done) | (rw [HE6.out]; rfl), HM1.out.below⟩
end
section
open Go.RowKit Go.Maps
set_option linter.unusedVariables false
set_option maxHeartbeats 4000000
theorem stat_bad {l : List OR} {A : Option Addr} {cp : Nat} {k : Int} {fund : ByteArray} {s : SC} {z : ZN} {zA : Option Addr} {zc : Nat} {c : CN} {cA : Option Addr} {cc : Nat} {w : World} (hla : OrAt w A l) (hza : ZAt w z zA) (hca : CAt w c cA) (hfu : fund.size ≤ maxLen) {e : Int} (he : runErr l k fund s z c = e) (h0 : e ≠ 0) :
    Calls Tryz.prog 11 #[.slice A l.length cp, .int .i64 k, .string fund, .agg (sV s), .agg (pV z zA zc c cA cc)] w (RetB (.tuple #[.slice none 0 0, .int .i64 e]) w) := by
  have g9 := beq_eq_false_iff_ne.2 h0
  have g8 := bne_iff_ne.2 h0
  have HM := Lib.hid (MB.new s zc cc hza hca (SuAt.nil w))
  have HR := fun W h1 h2 h3 => @run_bad l A cp k fund s z zA zc c cA cc W h1 h2 h3 hfu e he h0
  have HA := Lib.hid hla
  clear hla hza hca h0 he
  go_enter Tryz.func11, Tryz.ntmps11
  go_wp2_with (first | ((with_reducible refine wpl_load rfl 28 _ rfl _ ?_ HM.out.sb (rowS _) ?_); exact rfl) | ((with_reducible refine wpl_load rfl 37 _ rfl _ ?_ HM.out.pb (rowP ..) ?_); exact rfl))
  refine (HR _ (HA.out.below HM.out.below) HM.out.za HM.out.ca).mono ?_
  rintro e' w1 ⟨rfl, hb⟩
  have HM1 := Lib.hid (HM.out.next hb)
  clear hb HM HR
  go_wp2_with fail
  go_ret2
  exact ⟨rfl, HM1.out.below⟩
/-- What has become of each version. -/
def StatP (P : DPar) (k : Int) (fund : ByteArray) (w : World) (e : Ending) (w' : World) : Prop :=
  ∃ gs, e = .returned (.tuple #[.slice (some ⟨gs, 0, none⟩) P.l.length P.l.length, .int .i64 0]) ∧ BlkAt w' gs (stA P.l.length (fun j => stF P.fr P.dl P.l k fund j P.l.length)) 3 ∧ Below w.heap.size w w' ∧ w.heap.size ≤ gs
theorem DPar.Ok.below {P : DPar} {w w' : World} (h : P.Ok w) (hb : Below w.heap.size w w') : P.Ok w' := ⟨h.la.below hb, h.za.below hb, h.ca.below hb, h.hfr, h.hdl, h.ln⟩
theorem stat_ok {P : DPar} {w : World} (hP : P.Ok w) {k : Int} {fund : ByteArray} (hb0 : bookErr P.l = 0) (hk : knB k = true) (hf : nmB fund = true) (hfu : fund.size ≤ maxLen) (hz : P.z.ok = true) (hc : P.c.ok = true) (hs : P.s.ok = true) :
    Calls Tryz.prog 11 #[.slice P.A P.l.length P.cp, .int .i64 k, .string fund, .agg (sV P.s), .agg (pV P.z P.zA P.zc P.c P.cA P.cc)] w (StatP P k fund w) := by
  have HM := Lib.hid (MB.new P.s P.zc P.cc hP.za hP.ca (SuAt.nil w))
  have HR := fun W h => @run_ok P W h k fund hb0 hk hf hfu hz hc hs
  have HP := Lib.hid hP
  clear hP hb0 hk hf hz hc hs
  go_enter Tryz.func11, Tryz.ntmps11
  go_wp2_with (first | ((with_reducible refine wpl_load rfl 28 _ rfl _ ?_ HM.out.sb (rowS _) ?_); exact rfl) | ((with_reducible refine wpl_load rfl 37 _ rfl _ ?_ HM.out.pb (rowP ..) ?_); exact rfl))
  refine (HR _ (HP.out.below HM.out.below)).mono ?_
  rintro e' w1 ⟨b, gs, gm, rfl, m, hm, hd⟩
  have c0 : w1.cell? ⟨b, 18, none⟩ = some (.slice (some ⟨gs, 0, none⟩) P.l.length P.l.length) := hd.blk.cell rfl
  have HS := Lib.hid hd.sb
  have HB := Lib.hid (bnext HM.out.below hd.below)
  have HG := Lib.hid (show w.heap.size ≤ gs from Nat.le_trans HM.out.below.size hd.hs)
  clear hd HM HR
  go_wp2_with fail
  go_ret2
  exact ⟨gs, rfl, HS.out, HB.out, HG.out⟩
end
end Go.Proofs.YtbfllcfjgpkpaaaGreat
