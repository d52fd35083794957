/-
  The document's answer on intake: its errors, and what becomes of each version.
-/
import Derived.Test.YtbfllcfjgpkpaaaGreatIntRef
namespace Go.Proofs.YtbfllcfjgpkpaaaGreat
open Go.RowKit
set_option linter.unusedVariables false
set_option maxHeartbeats 4000000
def plErr (s : SC) (z : ZN) (c : CN) : Int := if z.err ≠ 0 then z.err else if c.err ≠ 0 then c.err else s.err
theorem runErr_pl (l : List OR) (k : Int) (fund : ByteArray) (s : SC) (z : ZN) (c : CN) : runErr l k fund s z c = if bookErr l ≠ 0 then bookErr l else if knB k = false then 240 else if nmB fund = false then 241 else plErr s z c := rfl
theorem nplace_any {s : SC} {z : ZN} {zA : Option Addr} {zc : Nat} {c : CN} {cA : Option Addr} {cc : Nat} {w : World} (hza : ZAt w z zA) (hca : CAt w c cA) {e : Int} (he : plErr s z c = e) :
    Calls Tryz.prog 49 #[.agg (sV s), .agg (pV z zA zc c cA cc)] w (RetB (.int .i64 e) w) := by
  unfold plErr at he
  have HM := Lib.hid (MB.new s zc cc hza hca (SuAt.nil w))
  have HE := Lib.hid he
  obtain ⟨ez, hez⟩ : ∃ ez, z.err = ez := ⟨_, rfl⟩
  obtain ⟨ec, hec⟩ : ∃ ec, c.err = ec := ⟨_, rfl⟩
  rw [hez, hec] at HE
  have HZ := Lib.hid hez
  have HC := Lib.hid hec
  clear he hza hca hez hec
  go_enter Tryz.func49, Tryz.ntmps49
  go_wp2_with (((with_reducible refine wpl_load_mid rfl 32 _ rfl _ 0 ?_ HM.out.pb ?_ (rowZ z zA zc) ?_); exact rfl; exact rfl))
  refine (refCheck_is HZ.out zA zc _ HM.out.za).mono ?_
  rintro e w1 ⟨rfl, hb⟩
  have HM1 := Lib.hid (HM.out.next hb)
  clear hb HM HZ
  by_cases z0 : ez = 0
  · subst z0
    have HE1 := Lib.hid (show (if ec ≠ 0 then ec else s.err) = e from HE.out)
    clear HE
    go_wp2_with (((with_reducible refine wpl_load_mid rfl 35 _ rfl _ 3 ?_ HM1.out.pb ?_ (rowC c cA cc) ?_); exact rfl; exact rfl))
    refine (rcheck_is HC.out cA cc _ HM1.out.ca).mono ?_
    rintro e w2 ⟨rfl, hb⟩
    have HM2 := Lib.hid (HM1.out.next hb)
    clear hb HM1 HC
    by_cases c0 : ec = 0
    · subst c0
      have HE2 := Lib.hid (show s.err = e from HE1.out)
      clear HE1
      go_wp2_with (((with_reducible refine wpl_load rfl 28 _ rfl _ ?_ HM2.out.sb (rowS _) ?_); exact rfl))
      refine (r9check_is HE2.out _).mono ?_
      rintro e w3 ⟨rfl, hb⟩
      have HM3 := Lib.hid (HM2.out.next hb)
      clear hb HM2
      go_wp2_with fail
      go_ret
      exact ⟨rfl, HM3.out.below⟩
    · have HE2 := Lib.hid (show ec = e by rw [← HE1.out, if_pos c0])
      have hne : (ec != 0) = true := by rw [bne_iff_ne]; exact c0
      clear HE1 c0
      go_wp2_with fail
      go_ret
      exact ⟨ret_int HE2.out, HM2.out.below⟩
  · have HE1 := Lib.hid (show ez = e by rw [← HE.out, if_pos z0])
    have hne : (ez != 0) = true := by rw [bne_iff_ne]; exact z0
    clear HE z0
    go_wp2_with fail
    go_ret
    exact ⟨ret_int HE1.out, HM1.out.below⟩
theorem ncheck_any {l : List OR} {A : Option Addr} {cp : Nat} {k : Int} {fund : ByteArray} {s : SC} {z : ZN} {zA : Option Addr} {zc : Nat} {c : CN} {cA : Option Addr} {cc : Nat} {w : World} (hla : OrAt w A l) (hza : ZAt w z zA) (hca : CAt w c cA) (hfu : fund.size ≤ maxLen) {e : Int} (he : runErr l k fund s z c = e) :
    Calls Tryz.prog 26 #[.slice A l.length cp, .int .i64 k, .string fund, .agg (sV s), .agg (pV z zA zc c cA cc)] w (RetB (.int .i64 e) w) := by
  rw [runErr_pl] at he
  have hbk := fun w h => rbook_any rname_is l A cp w h
  obtain ⟨er, her⟩ : ∃ er, bookErr l = er := ⟨_, rfl⟩
  obtain ⟨kb, hkb⟩ : ∃ kb, knB k = kb := ⟨_, rfl⟩
  obtain ⟨nb, hnb⟩ : ∃ nb, nmB fund = nb := ⟨_, rfl⟩
  obtain ⟨pe, hpe⟩ : ∃ pe, plErr s z c = pe := ⟨_, rfl⟩
  rw [her] at hbk
  rw [her, hkb, hnb, hpe] at he
  have hkn := fun w => known_any k w
  rw [hkb] at hkn
  have hnm := rname_is fund nb hnb hfu
  have HM := Lib.hid (MB.new s zc cc hza hca (SuAt.nil w))
  have HPE := Lib.hid hpe
  have HA := Lib.hid hla
  have HE := Lib.hid he
  clear hla hza hca he her hkb hnb hpe
  go_enter Tryz.func26, Tryz.ntmps26
  go_wp2_with fail
  refine (hbk _ (HA.out.below HM.out.below)).mono ?_
  rintro e w1 ⟨rfl, hb⟩
  have HM1 := Lib.hid (HM.out.next hb)
  clear hb HM hbk
  by_cases e0 : er = 0
  · subst e0
    have HE1 := Lib.hid (show (if kb = false then 240 else if nb = false then 241 else pe) = e from HE.out)
    clear HE
    go_wp2_with fail
    refine (hkn _).mono ?_
    rintro e w2 ⟨rfl, rfl⟩
    clear hkn
    cases kb
    · have HE2 := Lib.hid (show (240 : Int) = e from HE1.out)
      clear HE1
      go_wp2_with fail
      go_ret
      exact ⟨ret_int HE2.out, HM1.out.below⟩
    · have HE2 := Lib.hid (show (if nb = false then 241 else pe) = e from HE1.out)
      clear HE1
      go_wp2_with fail
      refine (hnm _).mono ?_
      rintro e w3 ⟨rfl, hb⟩
      have HM3 := Lib.hid (HM1.out.next hb)
      clear hb HM1 hnm
      cases nb
      · have HE3 := Lib.hid (show (241 : Int) = e from HE2.out)
        clear HE2
        go_wp2_with fail
        go_ret
        exact ⟨ret_int HE3.out, HM3.out.below⟩
      · have HE3 := Lib.hid (show pe = e from HE2.out)
        clear HE2
        go_wp2_with (first | ((with_reducible refine wpl_load rfl 28 _ rfl _ ?_ HM3.out.sb (rowS _) ?_); exact rfl) | ((with_reducible refine wpl_load rfl 37 _ rfl _ ?_ HM3.out.pb (rowP ..) ?_); exact rfl))
        refine (nplace_any HM3.out.za HM3.out.ca HPE.out).mono ?_
        rintro e w4 ⟨rfl, hb⟩
        have HM4 := Lib.hid (HM3.out.next hb)
        clear hb HM3
        go_wp2_with fail
        go_ret
        exact ⟨ret_int HE3.out, HM4.out.below⟩
  · have HE1 := Lib.hid (show er = e by rw [← HE.out, if_pos e0])
    have hne : (er != 0) = true := by rw [bne_iff_ne]; exact e0
    clear HE e0
    go_wp2_with fail
    go_ret
    exact ⟨ret_int HE1.out, HM1.out.below⟩
theorem nstat_bad {l : List OR} {A : Option Addr} {cp : Nat} {k : Int} {fund : ByteArray} {s : SC} {z : ZN} {zA : Option Addr} {zc : Nat} {c : CN} {cA : Option Addr} {cc : Nat} {w : World} (hla : OrAt w A l) (hza : ZAt w z zA) (hca : CAt w c cA) (hfu : fund.size ≤ maxLen) {e : Int} (he : runErr l k fund s z c = e) (h0 : e ≠ 0) :
    Calls Tryz.prog 12 #[.slice A l.length cp, .int .i64 k, .string fund, .agg (sV s), .agg (pV z zA zc c cA cc)] w (RetB (.tuple #[.slice none 0 0, .int .i64 e]) w) := by
  have HM := Lib.hid (MB.new s zc cc hza hca (SuAt.nil w))
  have HC := fun W h1 h2 h3 => @ncheck_any l A cp k fund s z zA zc c cA cc W h1 h2 h3 hfu e he
  have HA := Lib.hid hla
  have hne : (e != 0) = true := by rw [bne_iff_ne]; exact h0
  clear hla hza hca he h0
  go_enter Tryz.func12, Tryz.ntmps12
  go_wp2_with (first | ((with_reducible refine wpl_load rfl 28 _ rfl _ ?_ HM.out.sb (rowS _) ?_); exact rfl) | ((with_reducible refine wpl_load rfl 37 _ rfl _ ?_ HM.out.pb (rowP ..) ?_); exact rfl))
  refine (HC _ (HA.out.below HM.out.below) HM.out.za HM.out.ca).mono ?_
  rintro e' w1 ⟨rfl, hb⟩
  have HM1 := Lib.hid (HM.out.next hb)
  clear hb HM HC
  go_wp2_with fail
  go_ret2
  exact ⟨rfl, HM1.out.below⟩
theorem ntake_bad {l : List OR} {A : Option Addr} {cp : Nat} {k : Int} {fund : ByteArray} {s : SC} {z : ZN} {zA : Option Addr} {zc : Nat} {c : CN} {cA : Option Addr} {cc : Nat} {w : World} (hla : OrAt w A l) (hza : ZAt w z zA) (hca : CAt w c cA) (hfu : fund.size ≤ maxLen) {e : Int} (he : runErr l k fund s z c = e) (h0 : e ≠ 0) :
    Calls Tryz.prog 14 #[.slice A l.length cp, .int .i64 k, .string fund, .agg (sV s), .agg (pV z zA zc c cA cc)] w (RetB (.tuple #[.slice none 0 0, .int .i64 e]) w) := by
  have HM := Lib.hid (MB.new s zc cc hza hca (SuAt.nil w))
  have HC := fun W h1 h2 h3 => @ncheck_any l A cp k fund s z zA zc c cA cc W h1 h2 h3 hfu e he
  have HA := Lib.hid hla
  have hne : (e != 0) = true := by rw [bne_iff_ne]; exact h0
  clear hla hza hca he h0
  go_enter Tryz.func14, Tryz.ntmps14
  go_wp2_with (first | ((with_reducible refine wpl_load rfl 28 _ rfl _ ?_ HM.out.sb (rowS _) ?_); exact rfl) | ((with_reducible refine wpl_load rfl 37 _ rfl _ ?_ HM.out.pb (rowP ..) ?_); exact rfl))
  refine (HC _ (HA.out.below HM.out.below) HM.out.za HM.out.ca).mono ?_
  rintro e' w1 ⟨rfl, hb⟩
  have HM1 := Lib.hid (HM.out.next hb)
  clear hb HM HC
  go_wp2_with fail
  go_ret2
  exact ⟨rfl, HM1.out.below⟩
/-- Whether the key of place j stands ahead of place i. -/
def aheadB (l : List OR) (i : Nat) (key : ByteArray) : Bool := (l.take i).any fun y => decide (y.key = key)
/-- The statuses, where the keys that stand ahead of place i have been gone through. -/
def stU (P : DPar) (k : Int) (fund : ByteArray) (i : Nat) : Nat → Int := fun j => match P.l[j]? with
  | some x => if aheadB P.l i x.key = true then stF P.fr P.dl P.l k fund j P.l.length else 0
  | none => 0
section
variable {P : DPar} {k : Int} {fund : ByteArray} {i : Nat} {x : OR}
theorem aheadO_iff {l : List OR} {key : ByteArray} (hi : i ≤ l.length) : aheadB l i key = true ↔ ∃ j y, j < i ∧ l[j]? = some y ∧ y.key = key := by
  unfold aheadB
  rw [List.any_eq_true]
  constructor
  · rintro ⟨y, hy, hk⟩
    obtain ⟨j, hj⟩ := List.mem_iff_getElem?.1 hy
    have hji : j < i := by
      have := (List.getElem?_eq_some_iff.1 hj).1
      rw [List.length_take] at this
      omega
    rw [List.getElem?_take_of_lt hji] at hj
    exact ⟨j, y, hji, hj, by simpa using hk⟩
  · rintro ⟨j, y, hji, hj, hk⟩
    exact ⟨y, List.mem_of_getElem? (by rw [List.getElem?_take_of_lt hji]; exact hj), by simpa using hk⟩
theorem aheadO_succ {l : List OR} (hx : l[i]? = some x) (key : ByteArray) : aheadB l (i + 1) key = (aheadB l i key || decide (x.key = key)) := by
  unfold aheadB
  rw [take_one hx, List.any_append]
  simp
theorem seen_is {l : List OR} {v : Bool} (h : SeenR l i v) (hx : l[i]? = some x) : aheadB l i x.key = v := by
  have h1 := h x hx
  have h2 := aheadO_iff (l := l) (i := i) (key := x.key) (by have := (List.getElem?_eq_some_iff.1 hx).1; omega)
  cases v
  · rw [Bool.eq_false_iff, ne_eq, h2, ← h1]
    simp
  · exact h2.2 (h1.1 rfl)
theorem stU_zero : stU P k fund 0 = fun _ => 0 := by
  funext j
  unfold stU
  split
  · simp [aheadB]
  · rfl
theorem stU_all {j : Nat} (hj : j < P.l.length) : stU P k fund P.l.length j = stF P.fr P.dl P.l k fund j P.l.length := by
  obtain ⟨y, hy⟩ : ∃ y, P.l[j]? = some y := ⟨_, List.getElem?_eq_getElem hj⟩
  unfold stU
  rw [hy]
  exact if_pos ((aheadO_iff (Nat.le_refl _)).2 ⟨j, y, hj, hy, rfl⟩)
theorem stU_seen (hx : P.l[i]? = some x) (h : aheadB P.l i x.key = true) : stU P k fund (i + 1) = stU P k fund i := by
  funext j
  unfold stU
  split
  · rename_i y hy
    rw [aheadO_succ hx]
    by_cases hk : x.key = y.key
    · rw [← hk, h]
      simp
    · simp [hk]
  · rfl
theorem stU_new (hx : P.l[i]? = some x) : stK P k fund x.key (stU P k fund i) P.l.length = stU P k fund (i + 1) := by
  funext j
  unfold stK stU keyAt
  cases hy : P.l[j]? with
  | none => simp
  | some y =>
    simp only [aheadO_succ hx, decide_eq_true_eq]
    by_cases hk : y.key = x.key
    · rw [if_pos hk, if_pos (by simp [hk])]
    · rw [if_neg hk]
      have hk2 : ¬x.key = y.key := fun e => hk e.symm
      simp [hk2]
theorem stU_fresh (hx : P.l[i]? = some x) (h : aheadB P.l i x.key = false) : ∀ j, keyAt P.l x.key j = true → stU P k fund i j = 0 := by
  intro j hj
  unfold keyAt at hj
  unfold stU
  cases hy : P.l[j]? with
  | none => rfl
  | some y =>
    rw [hy] at hj
    simp only [decide_eq_true_eq] at hj
    simp only [hj, h]
    simp
end
theorem stA_congr {n : Nat} {st st' : Nat → Int} (h : ∀ j, j < n → st j = st' j) : stA n st = stA n st' := by
  apply Array.ext
  · simp [stA]
  · intro j h1 h2
    have hj : j < n := by simpa [stA] using h1
    simp [stA, h j hj]
theorem keyQ {P : DPar} {w W : World} (hP : P.Ok w) (hb : Below w.heap.size w W) {ob oo i : Nat} (hA : P.A = some ⟨ob, oo, none⟩) {x : OR} (hx : P.l[i]? = some x) : W.cell? ⟨ob, oo + i * 11, none⟩ = some (.string x.key) := by
  have h1 := hP.la.below hb
  rw [hA] at h1
  exact (h1.at hx).1
set_option maxRecDepth 1000000 in
theorem nstat_ok {P : DPar} {w : World} (hP : P.Ok w) (hfd : ∀ t, (P.fr t).2 = 0 → (P.dl (P.fr t).1).2 = 0) {k : Int} {fund : ByteArray} (hfu : fund.size ≤ maxLen) (he : runErr P.l k fund P.s P.z P.c = 0) :
    Calls Tryz.prog 12 #[.slice P.A P.l.length P.cp, .int .i64 k, .string fund, .agg (sV P.s), .agg (pV P.z P.zA P.zc P.c P.cA P.cc)] w (StatP P k fund w) := by
  have hln := hP.ln
  have HM := Lib.hid (MB.new P.s P.zc P.cc hP.za hP.ca (SuAt.nil w))
  have HC := fun W h1 h2 h3 => @ncheck_any P.l P.A P.cp k fund P.s P.z P.zA P.zc P.c P.cA P.cc W h1 h2 h3 hfu 0 he
  have HP := Lib.hid hP
  have HFD := Lib.hid hfd
  clear hP he hfd
  go_enter Tryz.func12, Tryz.ntmps12
  go_wp2_with (first | ((with_reducible refine wpl_load rfl 28 _ rfl _ ?_ HM.out.sb (rowS _) ?_); exact rfl) | ((with_reducible refine wpl_load rfl 37 _ rfl _ ?_ HM.out.pb (rowP ..) ?_); exact rfl))
  refine (HC _ (HP.out.la.below HM.out.below) HM.out.za HM.out.ca).mono ?_
  rintro e' w1 ⟨rfl, hb⟩
  have HM1 := Lib.hid (HM.out.next hb)
  have HP1 := Lib.hid (HP.out.below HM1.out.below)
  have HB0 := Lib.hid (show BlkAt (w1.alloc (.cells (stA P.l.length (fun _ => 0)) 3)) w1.heap.size (stA P.l.length (stU P k fund 0)) 3 from (BlkAt.new _ _ _).is (by rw [stU_zero]))
  have HG := Lib.hid (show w.heap.size ≤ w1.heap.size from HM1.out.below.size)
  have hmk := run_mkInts P.l.length hln w1
  clear hb HM HC HP
  obtain ⟨A, hAA⟩ : ∃ A, P.A = A := ⟨_, rfl⟩
  rw [hAA]
  go_wp2_with fail
  clear hmk
  go_loopw [14] (fun iv wr => ∃ i : Nat, i ≤ P.l.length ∧ iv = .int .i64 i ∧ BlkAt wr w1.heap.size (stA P.l.length (stU P k fund i)) 3 ∧ Below w1.heap.size w1 wr) (fun iv _ => P.l.length - (intOf iv).toNat)
  case atStart => exact ⟨0, by omega, rfl, HB0.out, bal0 _ _⟩
  case round =>
    obtain ⟨i, hi, rfl, hS, hB⟩ := hrel
    have HS := Lib.hid hS
    have HB := Lib.hid hB
    clear hS hB HB0
    by_cases hlt : i < P.l.length
    · obtain ⟨ob, oo, x', hA, -, -, -, -⟩ := HP1.out.la.get hlt
      obtain rfl : A = some ⟨ob, oo, none⟩ := hAA.symm.trans hA
      clear hAA
      obtain ⟨x, hx⟩ : ∃ x, P.l[i]? = some x := ⟨_, List.getElem?_eq_getElem hlt⟩
      have hla : OrAt wr (some ⟨ob, oo, none⟩) P.l := by
        have h1 := HP1.out.la.below HB.out
        rw [hA] at h1
        exact h1
      have hks := (HP1.out.la.small x (List.mem_of_getElem? hx)).key
      have HL := Lib.hid hla
      have HX := Lib.hid hx
      clear hla hx
      go_wp2_with fail
      refine (nseen_any P.l _ P.cp i hlt _ HL.out hln).mono ?_
      rintro e w3 ⟨v, ⟨rfl, hb⟩, hsn⟩
      have hv := seen_is hsn HX.out
      have HV := Lib.hid hv
      have HB3 := Lib.hid (bnext HB.out hb)
      have HS3 := Lib.hid (HS.out.next hb)
      clear hb hsn hv HB HS HL
      cases v
      · have HD := Lib.hid (bnext HB3.out (Below.refl _ _).drew)
        have HSD := Lib.hid (HS3.out.next (Below.refl _ _).drew)
        go_wp2_with fail
        go_region_held3 (fun W => (W.cell? ⟨w.heap.size, 0, none⟩ = some (.int .i64 P.s.period) ∧ W.cell? ⟨w.heap.size, 1, none⟩ = some (.int .i64 P.s.nth) ∧ W.cell? ⟨w.heap.size, 2, none⟩ = some (.int .i64 P.s.notice) ∧ W.cell? ⟨w.heap.size, 3, none⟩ = some (.int .i64 P.s.settle) ∧ W.cell? ⟨w.heap.size, 4, none⟩ = some (.int .i64 P.s.cutoff)) ∧ (W.cell? ⟨w.heap.size + 1, 0, none⟩ = some (.string P.z.name) ∧ W.cell? ⟨w.heap.size + 1, 1, none⟩ = some (.int .i64 P.z.off) ∧ W.cell? ⟨w.heap.size + 1, 2, none⟩ = some (.slice P.zA P.z.cs.length P.zc) ∧ W.cell? ⟨w.heap.size + 1, 3, none⟩ = some (.string P.c.name) ∧ W.cell? ⟨w.heap.size + 1, 4, none⟩ = some (.bool P.c.w0) ∧ W.cell? ⟨w.heap.size + 1, 5, none⟩ = some (.bool P.c.w1) ∧ W.cell? ⟨w.heap.size + 1, 6, none⟩ = some (.bool P.c.w2) ∧ W.cell? ⟨w.heap.size + 1, 7, none⟩ = some (.bool P.c.w3) ∧ W.cell? ⟨w.heap.size + 1, 8, none⟩ = some (.bool P.c.w4) ∧ W.cell? ⟨w.heap.size + 1, 9, none⟩ = some (.bool P.c.w5) ∧ W.cell? ⟨w.heap.size + 1, 10, none⟩ = some (.bool P.c.w6) ∧ W.cell? ⟨w.heap.size + 1, 11, none⟩ = some (.slice P.cA P.c.hs.length P.cc)) ∧ W.cell? ⟨ob, oo + i * 11, none⟩ = some (.string x.key))
          ((first
            | (with_reducible exact ⟨(HM1.out.next HD.out).q.1, (HM1.out.next HD.out).q.2.1, keyQ HP1.out HD.out hA HX.out⟩)
            | (with_reducible exact ⟨(HM1.out.next H6.out).q.1, (HM1.out.next H6.out).q.2.1, keyQ HP1.out H6.out hA HX.out⟩)))
          ((go_at_call 28; rw [← hA]; refine (nrun_any HP1.out HFD.out hfu hks (stU_fresh HX.out HV.out) HSD.out HD.out (Nat.le_refl _)).mono ?_; rintro e w6 ⟨a6, d6, rfl, -, hs6, hb6⟩; have H6 := Lib.hid hb6; have HS6 := Lib.hid hs6))
        have HN6 := Lib.hid (HS6.out.is (congrArg (stA P.l.length) (stU_new HX.out)))
        clear hb6 hs6 HS6 HSD HD HB3 HS3
        go_wp2_with fail
        go_roundw
        case rel => exact ⟨i + 1, by omega, by go_num, HN6.out, H6.out⟩
        case measure => simp [intOf]; omega
      · go_wp2_with fail
        go_roundw
        case rel => exact ⟨i + 1, by omega, by go_num, by rw [stU_seen HX.out HV.out]; exact HS3.out, HB3.out⟩
        case measure => simp [intOf]; omega
    · obtain rfl : i = P.l.length := by omega
      have HS2 := Lib.hid (HS.out.is (stA_congr fun j hj => stU_all hj))
      have HB2 := Lib.hid (bnext HM1.out.below HB.out)
      go_wp2_with fail
      go_ret2
      exact ⟨w1.heap.size, rfl, HS2.out, HB2.out, HG.out⟩
end Go.Proofs.YtbfllcfjgpkpaaaGreat
