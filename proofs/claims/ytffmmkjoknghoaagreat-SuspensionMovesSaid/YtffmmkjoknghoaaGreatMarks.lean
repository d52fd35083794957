/-
  Marks that are valid: what the program and the document say of which count as known.
  Marks that are valid: the document's list of those that count as known.
-/
import Derived.Test.YtffmmkjoknghoaaGreatSusRow
import Derived.Test.YtffmmkjoknghoaaGreatRegion
import Derived.Test.YtffmmkjoknghoaaGreatRowMid
import Derived.Deep.RegionHeld3
import Derived.IntWalk
import Derived.Lib.Strings
import Derived.Test.YtffmmkjoknghoaaGreatPush
namespace Go.Proofs.YtffmmkjoknghoaaGreat
section
open Go.RowKit
set_option linter.unusedVariables false
set_option maxHeartbeats 4000000
theorem mksB_len {l : List MK} (h : mksB l = true) : l.length ≤ 4096 := by
  unfold mksB at h
  simp only [Bool.and_eq_true, decide_eq_true_eq] at h
  exact h.1
theorem mksB_from {l : List MK} (h : mksB l = true) : mksFrom 0 l = true := by
  unfold mksB at h
  simp only [Bool.and_eq_true, decide_eq_true_eq] at h
  exact h.2
theorem MK.ok_of {m : MK} (h : m.ok = true) : 1 ≤ m.key.size ∧ m.key.size ≤ 64 ∧ m.known ≤ 2147483647 := by
  unfold MK.ok at h
  simp only [Bool.and_eq_true, decide_eq_true_eq] at h
  omega
def prevM (l : List MK) (i : Nat) : Int := if i = 0 then 0 else match l[i - 1]? with | some x => x.known | none => 0
theorem prevM_succ {l : List MK} {i : Nat} {x : MK} (h : l[i]? = some x) : prevM l (i + 1) = x.known := by
  unfold prevM
  rw [if_neg (by omega), Nat.add_sub_cancel, h]
theorem prevM_lt {l : List MK} (h : mksB l = true) {i : Nat} {x : MK} (hx : l[i]? = some x) : 0 ≤ prevM l i ∧ prevM l i < x.known := by
  have h2 := mksB_from h
  unfold prevM
  by_cases hi : i = 0
  · rw [if_pos hi]
    have := mksFrom_get l 0 i x h2 hx
    omega
  · rw [if_neg hi]
    have hl := (List.getElem?_eq_some_iff.1 hx).1
    have hy : l[i - 1]? = some l[i - 1] := List.getElem?_eq_getElem (by omega)
    rw [hy]
    have h3 := mksFrom_get l 0 (i - 1) _ h2 hy
    have h4 := mksFrom_lt l 0 (i - 1) i _ x h2 hy hx (by omega)
    exact ⟨by show 0 ≤ l[i - 1].known; omega, h4⟩
theorem key_eq {a b : ByteArray} (h : (a.toList == b.toList) = true) : a = b := by
  rw [Lib.toList_data, Lib.toList_data] at h
  have h2 : a.data.toList = b.data.toList := by simpa using h
  cases a
  cases b
  simp at h2
  rw [h2]
theorem key_ne {a b : ByteArray} (h : (a.toList == b.toList) = false) : a ≠ b := fun e => by
  subst e
  simp at h
theorem key_t {a b : ByteArray} (h : a = b) : (a.toList == b.toList) = true := by subst h; simp
theorem key_f {a b : ByteArray} (h : a ≠ b) : (a.toList == b.toList) = false := by
  cases hc : (a.toList == b.toList)
  · rfl
  · exact absurd (key_eq hc) h
theorem mkQ {W : World} {b : Nat} {x : MK} {t : TypeId} (h : BlkAt W b (mkV x) t) : W.cell? ⟨b, 0, none⟩ = some (.string x.key) ∧ W.cell? ⟨b, 1, none⟩ = some (.int .i64 x.known) ∧ W.cell? ⟨b, 2, none⟩ = some (.bool x.void) :=
  ⟨h.cell rfl, h.cell rfl, h.cell rfl⟩
theorem aChk_ok (l : List MK) (hv : mksB l = true) (A : Option Addr) (cp : Nat) (w : World) (h : MkAt w A l) : Calls Tryz.prog 94 #[.slice A l.length cp] w (RetB (.int .i64 0) w) := by
  have hl := mksB_len hv
  have HV := Lib.hid hv
  clear hv
  go_enter Tryz.func94, Tryz.ntmps94
  go_wp2
  go_loopw [3, 11] (fun lv iv wr => ∃ i : Nat, i ≤ l.length ∧ iv = .int .i64 i ∧ lv = .int .i64 (prevM l i) ∧ MkAt wr A l ∧ Below w.heap.size w wr) (fun _ iv _ => l.length - (intOf iv).toNat)
  case atStart => exact ⟨0, by omega, rfl, rfl, h, Below.refl _ _⟩
  case round =>
    obtain ⟨i, hi, rfl, rfl, hS, hB⟩ := hrel
    clear h
    by_cases hlt : i < l.length
    · obtain ⟨b, o, x, rfl, hx, hbl, hsm, q0, q1, q2⟩ := hS.get hlt
      have hp := prevM_lt HV.out hx
      obtain ⟨hp1, hp2⟩ := hp
      have hk := MK.ok_of (mksFrom_get l 0 i x (mksB_from HV.out) hx).1
      obtain ⟨hk1, hk2, hk3⟩ := hk
      have g0 : ((x.key.size : Int) == 0) = false := by rw [beq_eq_false_iff_ne]; omega
      have HX := Lib.hid hx
      have HB2 := Lib.hid (BlkAt.new wr (mkV x) 119)
      have HS := Lib.hid hS
      have hB2 := bal hB (.cells (mkV x) 119)
      obtain ⟨p0, p1, p2⟩ := mkQ HB2.out
      clear hx hS
      go_wp2_with ((with_reducible refine wpl_store_new rfl 119 _ _ rfl (mkV x) ?_ ?_ (rowMk _) ?_ ?_); exact rfl; exact rfl; exact rfl)
      go_roundw
      case rel => exact ⟨i + 1, by omega, by go_num, by rw [prevM_succ HX.out], HS.out.below (bal0 _ _), hB2⟩
      case measure => simp [intOf]; omega
    · go_wp2
      go_ret
      exact ⟨rfl, hB⟩
set_option maxRecDepth 100000 in
theorem last_any (l : List MK) (hl : l.length ≤ 4096) (k : Int) (key : ByteArray) (hk : key.size ≤ maxLen) (A : Option Addr) (cp : Nat) (w : World) (h : MkAt w A l) : Calls Tryz.prog 105 #[.slice A l.length cp, .int .i64 k, .string key] w (RetW (.int .i64 (lastF l k key l.length)) w) := by
  have H := Lib.hid h
  clear h
  go_enter Tryz.func105, Tryz.ntmps105
  go_wp2
  go_loop [7, 8] (fun av iv => ∃ i : Nat, i ≤ l.length ∧ iv = .int .i64 i ∧ av = .int .i64 (lastF l k key i)) (fun _ iv => l.length - (intOf iv).toNat)
  case atStart => exact ⟨0, by omega, rfl, rfl⟩
  case round =>
    obtain ⟨i, hi, rfl, rfl⟩ := hrel
    by_cases hlt : i < l.length
    · obtain ⟨b, o, x, rfl, hx, hbl, hsm, q0, q1, q2⟩ := H.out.get hlt
      have HX := Lib.hid hx
      clear hx
      go_wp2
      · have hk2 := key_eq (by assumption : (x.key.toList == key.toList) = true)
        have hk1 : x.known ≤ k := by assumption
        go_round
        case rel => exact ⟨i + 1, by omega, by go_num, by rw [lastF_hit HX.out hk1 hk2]⟩
        case measure => simp [intOf]; omega
      · have hk2 := key_ne (by assumption : (x.key.toList == key.toList) = false)
        go_round
        case rel => exact ⟨i + 1, by omega, by go_num, by rw [lastF_miss HX.out (fun e => hk2 e.2)]⟩
        case measure => simp [intOf]; omega
      · have hk1 : ¬x.known ≤ k := by assumption
        go_round
        case rel => exact ⟨i + 1, by omega, by go_num, by rw [lastF_miss HX.out (fun e => hk1 e.1)]⟩
        case measure => simp [intOf]; omega
    · go_wp2
      go_ret
      exact ⟨ret_int (by rw [show i = l.length by omega]), rfl⟩
theorem bdN {B : Nat} {a w : World} (h : Below B a w) (q : Nat) : Below B a (w.drewN q) := ⟨h.os, h.tape, h.output, h.size, h.block⟩
set_option maxRecDepth 100000 in
theorem rMChk_ok (l : List MK) (hv : mksB l = true) (A : Option Addr) (cp : Nat) (w : World) (h : MkAt w A l) : Calls Tryz.prog 104 #[.slice A l.length cp] w (RetB (.int .i64 0) w) := by
  have hl := mksB_len hv
  have HV := Lib.hid hv
  clear hv
  go_enter Tryz.func104, Tryz.ntmps104
  go_wp2
  go_loopw [3] (fun iv wr => ∃ i : Nat, i ≤ l.length ∧ iv = .int .i64 i ∧ MkAt wr A l ∧ Below w.heap.size w wr) (fun iv _ => l.length - (intOf iv).toNat)
  case atStart => exact ⟨0, by omega, rfl, h, Below.refl _ _⟩
  case round =>
    obtain ⟨i, hi, rfl, hS, hB⟩ := hrel
    clear h
    by_cases hlt : i < l.length
    · obtain ⟨b, o, x, rfl, hx, hbl, hsm, q0, q1, q2⟩ := hS.get hlt
      have hp := prevM_lt HV.out hx
      obtain ⟨hp1, hp2⟩ := hp
      have hk := MK.ok_of (mksFrom_get l 0 i x (mksB_from HV.out) hx).1
      obtain ⟨hk1, hk2, hk3⟩ := hk
      have t1 : decide ((x.key.size : Int) < 1) = false := decide_eq_false (by omega)
      have t2 : decide (64 < (x.key.size : Int)) = false := decide_eq_false (by omega)
      have t3 : decide (x.known < 1) = false := decide_eq_false (by omega)
      have t4 : decide (2147483647 < x.known) = false := by simp; omega
      have t5 : decide (64 < x.key.size) = false := by simp; omega
      have t6 : decide (x.key.size < 1) = false := decide_eq_false (by omega)
      rcases Nat.eq_zero_or_pos i with hi0 | hi0
      · have d0 : decide (0 < i) = false := by simpa using hi0
        have HS := Lib.hid hS
        clear hi0 hp1 hp2 hx hS
        go_wp2
        go_quiet (fail)
        go_wp2
        go_roundw
        case rel => exact ⟨i + 1, by omega, by go_num, HS.out.below ⟨rfl, rfl, rfl, Nat.le_refl _, fun _ _ => rfl⟩, bdN hB _⟩
        case measure => simp [intOf]; omega
      · have d0 : decide (0 < i) = true := by simpa using hi0
        obtain ⟨b2, o2, y, e, hy, -, -, -, p1, -⟩ := hS.get (i := i - 1) (by omega)
        injection e with e
        injection e with e1 e2
        subst e1 e2
        have hlt2 : y.known < x.known := mksFrom_lt l 0 (i - 1) i y x (mksB_from HV.out) hy hx (by omega)
        have t7 : decide (x.known ≤ y.known) = false := by simp; omega
        have z0 : IntKind.i64.wrap ((i : Int) - 1) = (i : Int) - 1 := IntWalk.i64_in _ (by omega)
        have z1 : (0 : Int) ≤ (i : Int) - 1 := by omega
        have z4 : (1 : Int) ≤ (i : Int) := by omega
        have z5 : 1 ≤ i := by omega
        have z2 : (i : Int) - 1 < (l.length : Int) := by omega
        have z3 : ((i : Int) - 1).toNat = i - 1 := by omega
        have HS := Lib.hid hS
        clear hi0 hp1 hp2 hx hS hy
        go_wp2
        go_quiet (fail)
        go_wp2
        go_roundw
        case rel => exact ⟨i + 1, by omega, by go_num, HS.out.below ⟨rfl, rfl, rfl, Nat.le_refl _, fun _ _ => rfl⟩, bdN hB _⟩
        case measure => simp [intOf]; omega
    · go_wp2
      go_ret
      exact ⟨rfl, hB⟩
end
section
open Go.RowKit
set_option linter.unusedVariables false
set_option maxHeartbeats 4000000
/-- A list of numbers and no error: the list lies in a slice of the call's own. -/
def ListP (L : List Int) (w : World) (e : Ending) (w' : World) : Prop :=
  ∃ v, e = .returned (.tuple #[v, .int .i64 0]) ∧ OwnL w w' 3 1 v L.length (L.map (.int .i64))
theorem vis_snoc {ms : List MK} {k : Int} {i : Nat} (h : visAt ms k i = true) : visF ms k (i + 1) = visF ms k i ++ [(i : Int)] := by rw [visF, if_pos h]
theorem vis_same {ms : List MK} {k : Int} {i : Nat} (h : visAt ms k i = false) : visF ms k (i + 1) = visF ms k i := by rw [visF, if_neg (by simp [h])]; simp
theorem visAt_eq {ms : List MK} {k : Int} {i : Nat} {x : MK} (h : ms[i]? = some x) : visAt ms k i = (!x.void && decide (x.known ≤ k) && decide (lastF ms k x.key ms.length = i)) := by simp [visAt, h]
theorem OwnL.eqv {W0 W : World} {e : TypeId} {sz : Nat} {v : Value} {n n' : Nat} {xs xs' : List Value} (h : OwnL W0 W e sz v n xs) (hn : n = n') (hx : xs = xs') : OwnL W0 W e sz v n' xs' := by
  subst hn hx
  exact h
set_option maxRecDepth 100000 in
theorem rVis_ok (l : List MK) (hv : mksB l = true) (k : Int) (A : Option Addr) (cp : Nat) (w : World) (h : MkAt w A l) : Calls Tryz.prog 76 #[.slice A l.length cp, .int .i64 k] w (ListP (vis l k) w) := by
  have hl := mksB_len hv
  have H := Lib.hid h
  have HV := Lib.hid hv
  clear hv h
  go_enter Tryz.func76, Tryz.ntmps76
  go_wp2_with fail
  refine (rMChk_ok l HV.out A cp _ H.out).mono ?_
  rintro e w1 ⟨rfl, hb1⟩
  have O1 := Lib.hid (show OwnL w w1 3 1 (.slice none 0 0) 0 [] from ⟨hb1, World.ownsRow_nil ..⟩)
  clear hb1
  go_wp2_with fail
  go_loopw [7, 8] (fun ov iv wr => ∃ i : Nat, i ≤ l.length ∧ iv = .int .i64 i ∧ OwnL w wr 3 1 ov (visF l k i).length ((visF l k i).map (.int .i64))) (fun _ iv _ => l.length - (intOf iv).toNat)
  case atStart => exact ⟨0, by omega, rfl, O1.out⟩
  case round =>
    obtain ⟨i, hi, rfl, hO⟩ := hrel
    have HO := Lib.hid hO
    clear hO O1
    by_cases hlt : i < l.length
    · obtain ⟨b, o, x, rfl, hx, hbl, hsm, q0, q1, q2⟩ := (H.out.below HO.out.below).get hlt
      have hva := visAt_eq (k := k) hx
      obtain ⟨key, known, void⟩ := x
      have HA := Lib.hid hva
      have hvl := visF_len (ms := l) (k := k) i
      have HVL := Lib.hid hvl
      clear hx hva hvl
      cases void
      · by_cases hk : known ≤ k
        · have HK := Lib.hid hk
          obtain ⟨la, hla⟩ : ∃ la, lastF l k key l.length = la := ⟨_, rfl⟩
          have hc := last_any l hl k key hsm (some ⟨b, o, none⟩) cp wr (H.out.below HO.out.below)
          rw [hla] at hc
          have HLA := Lib.hid hla
          clear hla
          by_cases hl2 : la = (i : Int)
          · have g1 : (la == (i : Int)) = true := by simpa using hl2
            have HT : Hid (visAt l k i = true) := Lib.hid (by rw [HA.out, HLA.out]; simp [HK.out, hl2])
            clear hl2
            go_wp2_with (first | (go_at_call 105; refine hc.mono ?_; rintro e w' ⟨rfl, rfl⟩) | (at_builtin; refine wpl_push elInt rfl _ _ rfl HO.out rfl #[.int .i64 (i : Int)] rfl rfl rfl (by have := HVL.out; omega) (by decide) ?_; intro v' w' hO' hg))
            go_roundw
            case rel => exact ⟨i + 1, by omega, by go_num, hO'.eqv (by rw [vis_snoc HT.out]; simp) (by rw [vis_snoc HT.out]; simp)⟩
            case measure => simp [intOf]; omega
          · have g1 : (la == (i : Int)) = false := by simpa using hl2
            have HT : Hid (visAt l k i = false) := Lib.hid (by rw [HA.out, HLA.out]; simp [hl2])
            clear hl2
            go_wp2_with (go_at_call 105; refine hc.mono ?_; rintro e w' ⟨rfl, rfl⟩)
            go_roundw
            case rel => exact ⟨i + 1, by omega, by go_num, HO.out.eqv (by rw [vis_same HT.out]) (by rw [vis_same HT.out])⟩
            case measure => simp [intOf]; omega
        · have g0 : decide (known ≤ k) = false := by simpa using hk
          have HT : Hid (visAt l k i = false) := Lib.hid (by rw [HA.out]; simp [hk])
          clear hk
          go_wp2_with fail
          go_roundw
          case rel => exact ⟨i + 1, by omega, by go_num, HO.out.eqv (by rw [vis_same HT.out]) (by rw [vis_same HT.out])⟩
          case measure => simp [intOf]; omega
      · have HT : Hid (visAt l k i = false) := Lib.hid (by rw [HA.out]; simp)
        go_wp2_with fail
        go_roundw
        case rel => exact ⟨i + 1, by omega, by go_num, HO.out.eqv (by rw [vis_same HT.out]) (by rw [vis_same HT.out])⟩
        case measure => simp [intOf]; omega
    · go_wp2
      go_ret2
      exact ⟨_, rfl, HO.out.eqv (by rw [show i = l.length by omega]; rfl) (by rw [show i = l.length by omega]; rfl)⟩
end
end Go.Proofs.YtffmmkjoknghoaaGreat
