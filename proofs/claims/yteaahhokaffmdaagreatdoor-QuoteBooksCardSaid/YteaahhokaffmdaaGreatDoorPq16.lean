/- What the laws lean on. -/
import Derived.Test.YteaahhokaffmdaaGreatDoorPq14
import Derived.Test.YteaahhokaffmdaaGreatDoorShelfS
import Derived.IntWalk
import Derived.Maps.OwnSet
import Derived.Maps.OwnOps
import Derived.Maps.RangeWalk
import Derived.Maps.AppendAt
import Derived.Deep.AppendLies
import Derived.Sort.KeysCollected
import Derived.Sort.OwnSorted
import Derived.Sort.OwnSortedInts
import Derived.Deep.Fields
import Derived.Deep.Strs
import Derived.ShutString
import Derived.ChangeOld
import Derived.LaidMore
import Derived.Stop.Joined
import Derived.SevenTiedAt
import Derived.Test.YteaahhokaffmdaaGreatDoorTie
import Derived.Lay
import Derived.LaidOnce
import Derived.SizedLaws
import Derived.KernelRfl
namespace Go.Proofs.YteaahhokaffmdaaGreatDoor
set_option linter.unusedVariables false
set_option linter.unusedSimpArgs false
section
section
section
open Go.RowKit
set_option maxHeartbeats 4000000
theorem mksB_len {l : List MK} (h : mksB l = true) : l.length ≤ 4096 := by
  unfold mksB at h
  simp only [Bool.and_eq_true, decide_eq_true_eq] at h
  exact h.1
theorem mksB_from {l : List MK} (h : mksB l = true) : mksFrom 0 l = true := by
  unfold mksB at h
  simp only [Bool.and_eq_true, decide_eq_true_eq] at h
  exact h.2
theorem MK.ok_of {m : MK} (h : m.ok = true) : 1 ≤ m.key.size ∧ m.key.size ≤ 64 ∧ m.known ≤ 2147483647 := by
  unfold MK.ok at h
  simp only [Bool.and_eq_true, decide_eq_true_eq] at h
  omega
def prevM (l : List MK) (i : Nat) : Int := if i = 0 then 0 else match l[i - 1]? with | some x => x.known | none => 0
theorem prevM_succ {l : List MK} {i : Nat} {x : MK} (h : l[i]? = some x) : prevM l (i + 1) = x.known := by
  unfold prevM
  rw [if_neg (by omega), Nat.add_sub_cancel, h]
theorem prevM_lt {l : List MK} (h : mksB l = true) {i : Nat} {x : MK} (hx : l[i]? = some x) : 0 ≤ prevM l i ∧ prevM l i < x.known := by
  have h2 := mksB_from h
  unfold prevM
  by_cases hi : i = 0
  · rw [if_pos hi]
    have := mksFrom_get l 0 i x h2 hx
    omega
  · rw [if_neg hi]
    have hl := (List.getElem?_eq_some_iff.1 hx).1
    have hy : l[i - 1]? = some l[i - 1] := List.getElem?_eq_getElem (by omega)
    rw [hy]
    have h3 := mksFrom_get l 0 (i - 1) _ h2 hy
    have h4 := mksFrom_lt l 0 (i - 1) i _ x h2 hy hx (by omega)
    exact ⟨by show 0 ≤ l[i - 1].known; omega, h4⟩
theorem key_eq {a b : ByteArray} (h : (a.toList == b.toList) = true) : a = b := by
  rw [Lib.toList_data, Lib.toList_data] at h
  have h2 : a.data.toList = b.data.toList := by simpa using h
  cases a
  cases b
  simp at h2
  rw [h2]
theorem key_ne {a b : ByteArray} (h : (a.toList == b.toList) = false) : a ≠ b := fun e => by
  subst e
  simp at h
theorem mkQ {W : World} {b : Nat} {x : MK} {t : TypeId} (h : BlkAt W b (mkV x) t) : W.cell? ⟨b, 0, none⟩ = some (.string x.key) ∧ W.cell? ⟨b, 1, none⟩ = some (.int .i64 x.known) ∧ W.cell? ⟨b, 2, none⟩ = some (.bool x.void) :=
  ⟨h.cell rfl, h.cell rfl, h.cell rfl⟩
theorem aChk_ok (l : List MK) (hv : mksB l = true) (A : Option Addr) (cp : Nat) (w : World) (h : MkAt w A l) : Calls Tryz.prog 39 #[.slice A l.length cp] w (RetB (.int .i64 0) w) := by
  have hl := mksB_len hv
  have HV := Lib.hid hv
  clear hv
  go_enter Tryz.func39, Tryz.ntmps39
  go_wp2
  go_loopw [3, 11] (fun lv iv wr => ∃ i : Nat, i ≤ l.length ∧ iv = .int .i64 i ∧ lv = .int .i64 (prevM l i) ∧ MkAt wr A l ∧ Below w.heap.size w wr) (fun _ iv _ => l.length - (intOf iv).toNat)
  case atStart => exact ⟨0, by omega, rfl, rfl, h, Below.refl _ _⟩
  case round =>
    obtain ⟨i, hi, rfl, rfl, hS, hB⟩ := hrel
    clear h
    by_cases hlt : i < l.length
    · obtain ⟨b, o, x, rfl, hx, hbl, hsm, q0, q1, q2⟩ := hS.get hlt
      have hp := prevM_lt HV.out hx
      obtain ⟨hp1, hp2⟩ := hp
      have hk := MK.ok_of (mksFrom_get l 0 i x (mksB_from HV.out) hx).1
      obtain ⟨hk1, hk2, hk3⟩ := hk
      have g0 : ((x.key.size : Int) == 0) = false := by rw [beq_eq_false_iff_ne]; omega
      have HX := Lib.hid hx
      have HB2 := Lib.hid (BlkAt.new wr (mkV x) 94)
      have HS := Lib.hid hS
      have hB2 := bal hB (.cells (mkV x) 94)
      obtain ⟨p0, p1, p2⟩ := mkQ HB2.out
      clear hx hS
      go_wp2_with ((with_reducible refine wpl_store_new rfl 94 _ _ rfl (mkV x) ?_ ?_ (rowMk _) ?_ ?_); exact rfl; exact rfl; exact rfl)
      go_roundw
      case rel => exact ⟨i + 1, by omega, by go_num, by rw [prevM_succ HX.out], HS.out.below (bal0 _ _), hB2⟩
      case measure => simp [intOf]; omega
    · go_wp2
      go_ret
      exact ⟨rfl, hB⟩
set_option maxRecDepth 100000 in
theorem last_any (l : List MK) (hl : l.length ≤ 4096) (k : Int) (key : ByteArray) (hk : key.size ≤ maxLen) (A : Option Addr) (cp : Nat) (w : World) (h : MkAt w A l) : Calls Tryz.prog 64 #[.slice A l.length cp, .int .i64 k, .string key] w (RetW (.int .i64 (lastF l k key l.length)) w) := by
  have H := Lib.hid h
  clear h
  go_enter Tryz.func64, Tryz.ntmps64
  go_wp2
  go_loop [7, 8] (fun av iv => ∃ i : Nat, i ≤ l.length ∧ iv = .int .i64 i ∧ av = .int .i64 (lastF l k key i)) (fun _ iv => l.length - (intOf iv).toNat)
  case atStart => exact ⟨0, by omega, rfl, rfl⟩
  case round =>
    obtain ⟨i, hi, rfl, rfl⟩ := hrel
    by_cases hlt : i < l.length
    · obtain ⟨b, o, x, rfl, hx, hbl, hsm, q0, q1, q2⟩ := H.out.get hlt
      have HX := Lib.hid hx
      clear hx
      go_wp2
      · have hk2 := key_eq (by assumption : (x.key.toList == key.toList) = true)
        have hk1 : x.known ≤ k := by assumption
        go_round
        case rel => exact ⟨i + 1, by omega, by go_num, by rw [lastF_hit HX.out hk1 hk2]⟩
        case measure => simp [intOf]; omega
      · have hk2 := key_ne (by assumption : (x.key.toList == key.toList) = false)
        go_round
        case rel => exact ⟨i + 1, by omega, by go_num, by rw [lastF_miss HX.out (fun e => hk2 e.2)]⟩
        case measure => simp [intOf]; omega
      · have hk1 : ¬x.known ≤ k := by assumption
        go_round
        case rel => exact ⟨i + 1, by omega, by go_num, by rw [lastF_miss HX.out (fun e => hk1 e.1)]⟩
        case measure => simp [intOf]; omega
    · go_wp2
      go_ret
      exact ⟨ret_int (by rw [show i = l.length by omega]), rfl⟩
theorem bdN {B : Nat} {a w : World} (h : Below B a w) (q : Nat) : Below B a (w.drewN q) := ⟨h.os, h.tape, h.output, h.size, h.block⟩
set_option maxRecDepth 100000 in
theorem rMChk_ok (l : List MK) (hv : mksB l = true) (A : Option Addr) (cp : Nat) (w : World) (h : MkAt w A l) : Calls Tryz.prog 41 #[.slice A l.length cp] w (RetB (.int .i64 0) w) := by
  have hl := mksB_len hv
  have HV := Lib.hid hv
  clear hv
  go_enter Tryz.func41, Tryz.ntmps41
  go_wp2
  go_loopw [3] (fun iv wr => ∃ i : Nat, i ≤ l.length ∧ iv = .int .i64 i ∧ MkAt wr A l ∧ Below w.heap.size w wr) (fun iv _ => l.length - (intOf iv).toNat)
  case atStart => exact ⟨0, by omega, rfl, h, Below.refl _ _⟩
  case round =>
    obtain ⟨i, hi, rfl, hS, hB⟩ := hrel
    clear h
    by_cases hlt : i < l.length
    · obtain ⟨b, o, x, rfl, hx, hbl, hsm, q0, q1, q2⟩ := hS.get hlt
      have hp := prevM_lt HV.out hx
      obtain ⟨hp1, hp2⟩ := hp
      have hk := MK.ok_of (mksFrom_get l 0 i x (mksB_from HV.out) hx).1
      obtain ⟨hk1, hk2, hk3⟩ := hk
      have t1 : decide ((x.key.size : Int) < 1) = false := decide_eq_false (by omega)
      have t2 : decide (64 < (x.key.size : Int)) = false := decide_eq_false (by omega)
      have t3 : decide (x.known < 1) = false := decide_eq_false (by omega)
      have t4 : decide (2147483647 < x.known) = false := by simp; omega
      have t5 : decide (64 < x.key.size) = false := by simp; omega
      have t6 : decide (x.key.size < 1) = false := decide_eq_false (by omega)
      rcases Nat.eq_zero_or_pos i with hi0 | hi0
      · have d0 : decide (0 < i) = false := by simpa using hi0
        have HS := Lib.hid hS
        clear hi0 hp1 hp2 hx hS
        go_wp2
        go_quiet (fail)
        go_wp2
        go_roundw
        case rel => exact ⟨i + 1, by omega, by go_num, HS.out.below ⟨rfl, rfl, rfl, Nat.le_refl _, fun _ _ => rfl⟩, bdN hB _⟩
        case measure => simp [intOf]; omega
      · have d0 : decide (0 < i) = true := by simpa using hi0
        obtain ⟨b2, o2, y, e, hy, -, -, -, p1, -⟩ := hS.get (i := i - 1) (by omega)
        injection e with e
        injection e with e1 e2
        subst e1 e2
        have hlt2 : y.known < x.known := mksFrom_lt l 0 (i - 1) i y x (mksB_from HV.out) hy hx (by omega)
        have t7 : decide (x.known ≤ y.known) = false := by simp; omega
        have z0 : IntKind.i64.wrap ((i : Int) - 1) = (i : Int) - 1 := IntWalk.i64_in _ (by omega)
        have z1 : (0 : Int) ≤ (i : Int) - 1 := by omega
        have z4 : (1 : Int) ≤ (i : Int) := by omega
        have z5 : 1 ≤ i := by omega
        have z2 : (i : Int) - 1 < (l.length : Int) := by omega
        have z3 : ((i : Int) - 1).toNat = i - 1 := by omega
        have HS := Lib.hid hS
        clear hi0 hp1 hp2 hx hS hy
        go_wp2
        go_quiet (fail)
        go_wp2
        go_roundw
        case rel => exact ⟨i + 1, by omega, by go_num, HS.out.below ⟨rfl, rfl, rfl, Nat.le_refl _, fun _ _ => rfl⟩, bdN hB _⟩
        case measure => simp [intOf]; omega
    · go_wp2
      go_ret
      exact ⟨rfl, hB⟩
end
section
open Go.RowKit
set_option maxHeartbeats 4000000
def ListP (L : List Int) (w : World) (e : Ending) (w' : World) : Prop :=
  ∃ v, e = .returned (.tuple #[v, .int .i64 0]) ∧ OwnL w w' 3 1 v L.length (L.map (.int .i64))
theorem vis_snoc {ms : List MK} {k : Int} {i : Nat} (h : visAt ms k i = true) : visF ms k (i + 1) = visF ms k i ++ [(i : Int)] := by rw [visF, if_pos h]
theorem vis_same {ms : List MK} {k : Int} {i : Nat} (h : visAt ms k i = false) : visF ms k (i + 1) = visF ms k i := by rw [visF, if_neg (by simp [h])]; simp
theorem visAt_eq {ms : List MK} {k : Int} {i : Nat} {x : MK} (h : ms[i]? = some x) : visAt ms k i = (!x.void && decide (x.known ≤ k) && decide (lastF ms k x.key ms.length = i)) := by simp [visAt, h]
theorem OwnL.eqv {W0 W : World} {e : TypeId} {sz : Nat} {v : Value} {n n' : Nat} {xs xs' : List Value} (h : OwnL W0 W e sz v n xs) (hn : n = n') (hx : xs = xs') : OwnL W0 W e sz v n' xs' := by
  subst hn hx
  exact h
set_option maxRecDepth 100000 in
theorem rVis_ok (l : List MK) (hv : mksB l = true) (k : Int) (A : Option Addr) (cp : Nat) (w : World) (h : MkAt w A l) : Calls Tryz.prog 35 #[.slice A l.length cp, .int .i64 k] w (ListP (vis l k) w) := by
  have hl := mksB_len hv
  have H := Lib.hid h
  have HV := Lib.hid hv
  clear hv h
  go_enter Tryz.func35, Tryz.ntmps35
  go_wp2_with fail
  refine (rMChk_ok l HV.out A cp _ H.out).mono ?_
  rintro e w1 ⟨rfl, hb1⟩
  have O1 := Lib.hid (show OwnL w w1 3 1 (.slice none 0 0) 0 [] from ⟨hb1, World.ownsRow_nil ..⟩)
  clear hb1
  go_wp2_with fail
  go_loopw [7, 8] (fun ov iv wr => ∃ i : Nat, i ≤ l.length ∧ iv = .int .i64 i ∧ OwnL w wr 3 1 ov (visF l k i).length ((visF l k i).map (.int .i64))) (fun _ iv _ => l.length - (intOf iv).toNat)
  case atStart => exact ⟨0, by omega, rfl, O1.out⟩
  case round =>
    obtain ⟨i, hi, rfl, hO⟩ := hrel
    have HO := Lib.hid hO
    clear hO O1
    by_cases hlt : i < l.length
    · obtain ⟨b, o, x, rfl, hx, hbl, hsm, q0, q1, q2⟩ := (H.out.below HO.out.below).get hlt
      have hva := visAt_eq (k := k) hx
      obtain ⟨key, known, void⟩ := x
      have HA := Lib.hid hva
      have hvl := visF_len (ms := l) (k := k) i
      have HVL := Lib.hid hvl
      clear hx hva hvl
      cases void
      · by_cases hk : known ≤ k
        · have HK := Lib.hid hk
          obtain ⟨la, hla⟩ : ∃ la, lastF l k key l.length = la := ⟨_, rfl⟩
          have hc := last_any l hl k key hsm (some ⟨b, o, none⟩) cp wr (H.out.below HO.out.below)
          rw [hla] at hc
          have HLA := Lib.hid hla
          clear hla
          by_cases hl2 : la = (i : Int)
          · have g1 : (la == (i : Int)) = true := by simpa using hl2
            have HT : Hid (visAt l k i = true) := Lib.hid (by rw [HA.out, HLA.out]; simp [HK.out, hl2])
            clear hl2
            go_wp2_with (first | (go_at_call 64; refine hc.mono ?_; rintro e w' ⟨rfl, rfl⟩) | (at_builtin; refine wpl_push elInt rfl _ _ rfl HO.out rfl #[.int .i64 (i : Int)] rfl rfl rfl (by have := HVL.out; omega) (by decide) ?_; intro v' w' hO' hg))
            go_roundw
            case rel => exact ⟨i + 1, by omega, by go_num, hO'.eqv (by rw [vis_snoc HT.out]; simp) (by rw [vis_snoc HT.out]; simp)⟩
            case measure => simp [intOf]; omega
          · have g1 : (la == (i : Int)) = false := by simpa using hl2
            have HT : Hid (visAt l k i = false) := Lib.hid (by rw [HA.out, HLA.out]; simp [hl2])
            clear hl2
            go_wp2_with (go_at_call 64; refine hc.mono ?_; rintro e w' ⟨rfl, rfl⟩)
            go_roundw
            case rel => exact ⟨i + 1, by omega, by go_num, HO.out.eqv (by rw [vis_same HT.out]) (by rw [vis_same HT.out])⟩
            case measure => simp [intOf]; omega
        · have g0 : decide (known ≤ k) = false := by simpa using hk
          have HT : Hid (visAt l k i = false) := Lib.hid (by rw [HA.out]; simp [hk])
          clear hk
          go_wp2_with fail
          go_roundw
          case rel => exact ⟨i + 1, by omega, by go_num, HO.out.eqv (by rw [vis_same HT.out]) (by rw [vis_same HT.out])⟩
          case measure => simp [intOf]; omega
      · have HT : Hid (visAt l k i = false) := Lib.hid (by rw [HA.out]; simp)
        go_wp2_with fail
        go_roundw
        case rel => exact ⟨i + 1, by omega, by go_num, HO.out.eqv (by rw [vis_same HT.out]) (by rw [vis_same HT.out])⟩
        case measure => simp [intOf]; omega
    · go_wp2
      go_ret2
      exact ⟨_, rfl, HO.out.eqv (by rw [show i = l.length by omega]; rfl) (by rw [show i = l.length by omega]; rfl)⟩
end
end
section
section
open Go.RowKit Go.Maps
set_option maxHeartbeats 4000000
theorem lawS : Keyed Tryz.prog 9 := string_keyed Tryz.underlying9
structure MapC (D : DataW Unit) (f : ByteArray → Option Nat) : Prop where
  map : IsMap D
  no : ∀ key, f key = none → has D (.string key.data.toList) = false
  yes : ∀ key i, f key = some i → ∀ z, D.atKey (.string key.data.toList) z = .lit (.int .i64 (i : Int))
theorem data_inj {a b : ByteArray} (h : a.data.toList = b.data.toList) : a = b := by
  cases a
  cases b
  simp at h
  rw [h]
theorem MapC.put {D : DataW Unit} {f g : ByteArray → Option Nat} (h : MapC D f) (k0 : ByteArray) (i : Nat) (h1 : g k0 = some i) (h2 : ∀ key, key ≠ k0 → g key = f key) : MapC (D.put (.string k0.data.toList) (.lit (.int .i64 (i : Int)))) g := by
  refine ⟨h.map.put _ _, fun key hk => ?_, fun key j hk z => ?_⟩
  · by_cases e : key = k0
    · subst e
      rw [h1] at hk
      cases hk
    · rw [has_put_other (fun e2 => e (data_inj (by injection e2)))]
      exact h.no key (by rw [← h2 key e]; exact hk)
  · by_cases e : key = k0
    · subst e
      rw [h1] at hk
      injection hk with hk
      subst hk
      exact atKey_put_same h.map (by simp [WideAt.IsKeyLit]) _ _
    · rw [atKey_put_other (fun e2 => e (data_inj (by injection e2)))]
      exact h.yes key j (by rw [← h2 key e]; exact hk) z
theorem MapC.del {D : DataW Unit} {f g : ByteArray → Option Nat} (h : MapC D f) (k0 : ByteArray) (h1 : g k0 = none) (h2 : ∀ key, key ≠ k0 → g key = f key) : MapC (D.del (.string k0.data.toList)) g := by
  refine ⟨h.map.del _, fun key hk => ?_, fun key j hk z => ?_⟩
  · by_cases e : key = k0
    · subst e
      exact has_del_same
    · rw [has_del_other (fun e2 => e (data_inj (by injection e2)))]
      exact h.no key (by rw [← h2 key e]; exact hk)
  · by_cases e : key = k0
    · subst e
      rw [h1] at hk
      cases hk
    · rw [atKey_del_other (fun e2 => e (data_inj (by injection e2)))]
      exact h.yes key j (by rw [← h2 key e]; exact hk) z
theorem MapC.congr {D : DataW Unit} {f g : ByteArray → Option Nat} (h : MapC D f) (e : ∀ key, g key = f key) : MapC D g := ⟨h.map, fun key hk => h.no key (by rw [← e]; exact hk), fun key i hk => h.yes key i (by rw [← e]; exact hk)⟩
theorem MapC.nil (f : ByteArray → Option Nat) (h : ∀ key, f key = none) : MapC (.map []) f := ⟨isMap_empty, fun key _ => rfl, fun key i hk => by rw [h] at hk; cases hk⟩
def CntP (l : List MK) (k : Int) (w : World) (e : Ending) (w' : World) : Prop :=
  ∃ (B n : Nat) (D : DataW Unit), e = .returned (.map (some B)) ∧ w'.ownsMap Tryz.prog 9 (plainElem Tryz.prog 3) B n D ∧ n ≤ l.length ∧ MapC D (fun key => cntN l k key l.length) ∧ w.heap.size ≤ B ∧ Below w.heap.size w w'
theorem wf64n {x : Nat} (h : x ≤ 100000) : (Lit.int .i64 (x : Int)).wf = true := WalkArith.wf_i64 (by omega)
set_option maxRecDepth 100000 in
theorem cnt_ok (l : List MK) (hv : mksB l = true) (k : Int) (A : Option Addr) (cp : Nat) (w : World) (h : MkAt w A l) : Calls Tryz.prog 61 #[.slice A l.length cp, .int .i64 k] w (CntP l k w) := by
  have hl := mksB_len hv
  have H := Lib.hid h
  have HV := Lib.hid (mksB_from hv)
  clear hv h
  have hmm := @run_makeMap Tryz.prog
  go_enter Tryz.func61, Tryz.ntmps61
  go_wp2_with fail
  go_loopw [11] (fun iv wr => ∃ (i : Nat) (D : DataW Unit), i ≤ l.length ∧ iv = .int .i64 i ∧ wr.ownsMap Tryz.prog 9 (plainElem Tryz.prog 3) w.heap.size i D ∧ MapC D (fun key => cntN l k key i) ∧ Below w.heap.size w wr) (fun iv _ => l.length - (intOf iv).toNat)
  case atStart => exact ⟨0, .map [], by omega, rfl, World.ownsMap_made _ _ _ _, MapC.nil _ (fun key => cntN_zero ..), bal0 _ _⟩
  case round =>
    obtain ⟨i, D, hi, rfl, hown, hM, hB⟩ := hrel
    have HM := Lib.hid hM
    clear hM
    by_cases hlt : i < l.length
    · obtain ⟨b, o, x, rfl, hx, hbl, hsm, q0, q1, q2⟩ := (H.out.below hB).get hlt
      have hown1 := hown.alloc (.cells (mkV x) 94)
      obtain ⟨p0, p1, p2⟩ := mkQ (BlkAt.new wr (mkV x) 94)
      have hkey : keyOf Tryz.prog 9 (.string x.key) = some (.string x.key.data.toList) := WideMaps.keyOf_string_mk Tryz.underlying9 hsm
      have hB2 := bal hB (.cells (mkV x) 94)
      have hBs := hB.size
      have HX := Lib.hid hx
      have HO := Lib.hid hown1
      have HKE := Lib.hid hkey
      have HB2 := Lib.hid hB2
      clear hx hown hown1 hkey hB2
      by_cases hk : k < x.known
      · have HK := Lib.hid hk
        go_wp2_with ((with_reducible refine wpl_store_new rfl 94 _ _ rfl (mkV x) ?_ ?_ (rowMk _) ?_ ?_); exact rfl; exact rfl; exact rfl)
        go_ret
        exact ⟨w.heap.size, i, D, rfl, HO.out, hi, HM.out.congr (fun key => cntN_stop HV.out HX.out HK.out hi key), Nat.le_refl _, HB2.out⟩
      · have g0 : decide (k < x.known) = false := by simpa using hk
        have HK := Lib.hid (Int.not_lt.1 hk)
        clear hk
        cases hvd : x.void
        · have HVD := Lib.hid hvd
          rw [hvd] at p2
          clear hvd
          go_wp2_with (first
            | ((with_reducible refine wpl_store_new rfl 94 _ _ rfl (mkV x) ?_ ?_ (rowMk _) ?_ ?_); exact rfl; exact rfl; exact rfl)
            | (at_mapUpdate; refine wpList_mapUpdate_own _ rfl _ _ _ 89 rfl 9 3 lawS Tryz.underlying89 _ w.heap.size i _ rfl HO.out (by unfold maxLen; omega) _ _ _ rfl rfl HKE.out _ [] (plainElem_int Tryz.underlying3 (wf64n (by omega))) ?_; intro w1 hown1 hgrow1))
          go_roundw
          case rel => exact ⟨i + 1, _, by omega, by go_num, hown1, HM.out.put x.key i (cntN_set HX.out HK.out HVD.out) (fun key hne => cntN_miss HX.out (fun e => hne e.symm)), HB2.out.grown hgrow1 HB2.out.size (fun j hj => by cases hj; exact Nat.le_refl _)⟩
          case measure => simp [intOf]; omega
        · have HVD := Lib.hid hvd
          rw [hvd] at p2
          clear hvd
          go_wp2_with (first
            | ((with_reducible refine wpl_store_new rfl 94 _ _ rfl (mkV x) ?_ ?_ (rowMk _) ?_ ?_); exact rfl; exact rfl; exact rfl)
            | (at_delete; refine wpList_delete_own _ rfl _ _ 89 9 rfl 3 lawS Tryz.underlying89 _ w.heap.size i _ rfl HO.out _ _ rfl HKE.out ?_; intro w1 hown1 hturn1))
          go_roundw
          case rel => exact ⟨i + 1, _, by omega, by go_num, hown1.mono (by omega), HM.out.del x.key (cntN_void HX.out HK.out HVD.out) (fun key hne => cntN_miss HX.out (fun e => hne e.symm)), HB2.out.grown hturn1.grown HB2.out.size (fun j hj => by cases hj; exact Nat.le_refl _)⟩
          case measure => simp [intOf]; omega
    · have hie : i = l.length := by omega
      go_wp2
      go_ret
      exact ⟨w.heap.size, i, D, rfl, hown, hi, HM.out.congr (fun key => by rw [hie]), Nat.le_refl _, hB⟩
end
section
open Go.RowKit Go.Maps
set_option maxHeartbeats 4000000
structure CollI (f : ByteArray → Option Nat) (left : Lit → Bool) (out : List Int) : Prop where
  nodup : out.Nodup
  mem : ∀ i : Int, i ∈ out ↔ ∃ key j, f key = some j ∧ i = (j : Int) ∧ left (.string key.data.toList) = false
theorem CollI.start {D : DataW Unit} {f : ByteArray → Option Nat} (h : MapC D f) : CollI f (has D) [] := ⟨List.nodup_nil, fun i => by
  constructor
  · intro hi
    simp at hi
  · rintro ⟨key, j, h1, -, h2⟩
    have := has_true_of_atKey (h.yes key j h1)
    rw [this] at h2
    cases h2⟩
theorem CollI.step {D : DataW Unit} {f : ByteArray → Option Nat} {left : Lit → Bool} {out : List Int} (h : CollI f left out) (hM : MapC D f) (inj : ∀ k1 k2 j, f k1 = some j → f k2 = some j → k1 = k2) {x : List UInt8} {c : Int} (hl : left (.string x) = true) (hat : ∀ zd, D.atKey (.string x) zd = .lit (.int .i64 c)) :
    CollI f (fun z => left z && !z.sameKey (.string x)) (out ++ [c]) := by
  obtain ⟨key, rfl⟩ : ∃ key : ByteArray, key.data.toList = x := ⟨⟨x.toArray⟩, by simp⟩
  have hhas := has_true_of_atKey hat
  obtain ⟨j, hj⟩ : ∃ j, f key = some j := by
    cases hf : f key with
    | none =>
      rw [hM.no key hf] at hhas
      cases hhas
    | some j => exact ⟨j, rfl⟩
  have hc : c = (j : Int) := by
    have h1 := hat (.lit (.int .i64 0))
    rw [hM.yes key j hj] at h1
    injection h1 with h1
    injection h1 with h1 h2
    exact h2.symm
  subst hc
  have hnew : (j : Int) ∉ out := fun hx => by
    obtain ⟨k2, j2, h1, h2, h3⟩ := (h.mem _).1 hx
    obtain rfl : j = j2 := by omega
    have := inj _ _ _ hj h1
    subst this
    rw [hl] at h3
    cases h3
  refine ⟨List.nodup_append.2 ⟨h.nodup, by simp, fun a ha b hb e => ?_⟩, fun i => ?_⟩
  · simp at hb
    subst hb e
    exact hnew ha
  · rw [List.mem_append]
    constructor
    · rintro (hi | hi)
      · obtain ⟨k2, j2, h1, h2, h3⟩ := (h.mem _).1 hi
        exact ⟨k2, j2, h1, h2, by simp [h3]⟩
      · simp at hi
        exact ⟨key, j, hj, hi, by simp [Lit.sameKey]⟩
    · rintro ⟨k2, j2, h1, h2, h3⟩
      by_cases e : k2 = key
      · subst e
        rw [hj] at h1
        injection h1 with h1
        subst h1
        exact .inr (by simp [h2])
      · refine .inl ((h.mem _).2 ⟨k2, j2, h1, h2, ?_⟩)
        have hs : (Lit.string k2.data.toList).sameKey (.string key.data.toList) = false := sameKey_ne (fun e2 => e (data_inj (by injection e2)))
        rw [hs] at h3
        simpa using h3
theorem cnt_inj {ms : List MK} {k : Int} {n : Nat} (k1 k2 : ByteArray) (j : Nat) (h1 : cntN ms k k1 n = some j) (h2 : cntN ms k k2 n = some j) : k1 = k2 := by
  obtain ⟨m, a1, a2, -⟩ := cntN_key h1
  obtain ⟨m2, b1, b2, -⟩ := cntN_key h2
  rw [a1] at b1
  injection b1 with b1
  subst b1
  rw [← a2, b2]
theorem CollI.sorted {ms : List MK} {k : Int} {left : Lit → Bool} {out : List Int} (h : CollI (fun key => cntN ms k key ms.length) left out) (hl : ∀ kl, left kl = false) : out.mergeSort (fun x y => decide (x ≤ y)) = vis ms k := by
  have hasc : (vis ms k).Pairwise (· < ·) := visF_asc _
  have hp : out.Perm (vis ms k) := by
    refine (List.perm_ext_iff_of_nodup h.nodup (hasc.imp (fun h => by omega))).2 fun i => ?_
    rw [h.mem]
    constructor
    · rintro ⟨key, j, h1, rfl, -⟩
      exact (cntN_vis j).1 ⟨key, h1⟩
    · intro hi
      have hi2 := hi
      unfold vis at hi2
      obtain ⟨j, rfl, -, -⟩ := (visF_mem i _).1 hi2
      obtain ⟨key, hkey⟩ := (cntN_vis j).2 hi
      exact ⟨key, j, hkey, rfl, hl _⟩
  have tr : ∀ a b c : Int, decide (a ≤ b) = true → decide (b ≤ c) = true → decide (a ≤ c) = true := fun a b c h1 h2 => by simp only [decide_eq_true_eq] at *; omega
  have tot : ∀ a b : Int, (decide (a ≤ b) || decide (b ≤ a)) = true := fun a b => by simp only [Bool.or_eq_true, decide_eq_true_eq]; omega
  refine List.Perm.eq_of_pairwise (le := fun a b => decide (a ≤ b) = true) (fun a b _ _ h1 h2 => ?_) (List.pairwise_mergeSort tr tot out) (hasc.imp (fun h => by simp; omega)) ((List.mergeSort_perm out _).trans hp)
  simp only [decide_eq_true_eq] at h1 h2
  omega
section
variable {P : Program} {ops : Array Oper} {rest : List Oper} {o : Oper} {a : Act} {Q : Exit → Act → World → Prop}
theorem wpl_pushB {T E : TypeId} {sz bytes : Nat} (hel : ElT P T E sz bytes) (hgd : o.guard = none) (s x : Operand) (ho : o.op = .call { callee := .builtin .append, args := #[s, x], argTypes := #[T, T] })
    {W : World} {B : Nat} {v : Value} {n : Nat} {xs : List Value} (hO : W.ownsRow B E sz v n xs) (hBW : B ≤ W.heap.size) (hs : a.eval s = v) (news : Array Value) (hx : a.eval x = .slice (some ⟨W.heap.size, 0, none⟩) 1 1) (hl : news.size = sz) (h1 : news.toList.all (·.oneCell') = true)
    (hn : n ≤ 100000) (hb : bytes ≤ 10000)
    (h : ∀ v' w', w'.ownsRow B E sz v' (n + 1) (xs ++ news.toList) → (W.alloc (.cells news E)).grownBy w' v.ownBlock → wpList P ops Q rest (a.put o.dst v') w') : wpList P ops Q (o :: rest) a (W.alloc (.cells news E)) := by
  obtain ⟨i, z, hi, hz, hsz, hby, hzs⟩ := hel.info
  refine wpList_append_own _ hgd s x T ho B E i z sz bytes hel.sl hi hz hsz hby hzs hel.pos v n xs hs (hO.alloc _) ⟨W.heap.size, 0, none⟩ 1 1 news.toList hx (by simp [hl]) (fun j u hj => ?_) (fun u hu => ?_) (by unfold maxLen; omega) ?_ (by simp; omega) ?_
  · rw [Go.WideShapes.add_plain, Nat.zero_add, World.cell?_alloc_new]
    simpa using hj
  · exact List.all_eq_true.1 h1 u hu
  · have : (n + 1) * bytes ≤ 100001 * 10000 := Nat.mul_le_mul (by omega) hb
    omega
  · intro v' w' hown hg _
    exact h v' w' hown hg
end
open Go.Sort in
set_option maxRecDepth 100000 in
theorem sVis_ok (l : List MK) (hv : mksB l = true) (k : Int) (A : Option Addr) (cp : Nat) (w : World) (h : MkAt w A l) : Calls Tryz.prog 33 #[.slice A l.length cp, .int .i64 k] w (ListP (vis l k) w) := by
  have hl := mksB_len hv
  have H := Lib.hid h
  have HV := Lib.hid hv
  clear hv h
  go_enter Tryz.func33, Tryz.ntmps33
  go_wp2_with fail
  refine (aChk_ok l HV.out A cp _ H.out).mono ?_
  rintro e w1 ⟨rfl, hb1⟩
  have HB1 := Lib.hid hb1
  clear hb1
  go_wp2_with fail
  refine (cnt_ok l HV.out k A cp _ (H.out.below HB1.out)).mono ?_
  rintro e w2 ⟨B, n, D, rfl, hown, hn, hM, hBB, hb2⟩
  have HB2 := Lib.hid (bnext HB1.out hb2)
  have hs2 := HB2.out.size
  have hs1 := HB1.out.size
  have HM := Lib.hid hM
  have HOWN := Lib.hid hown
  have hBl := hown.lt
  have hsz := hown.size_le
  clear hb2 hM hown HB1
  go_wp2_with (at_range; refine wpList_range_own _ rfl _ 89 rfl 9 3 lawS Tryz.underlying89 _ B n _ rfl HOWN.out ?_; intro w3 hrg3 hg3 hs3)
  have HB3 : Hid (Below w.heap.size w w3) := Lib.hid (HB2.out.grown hg3 hs2 (fun j hj => by cases hj))
  have hr3 : w2.heap.size < w3.heap.size := by omega
  have HR3 := Lib.hid hrg3
  clear hrg3 hg3 hs3 HOWN
  go_frame
  go_loopw [7] (fun ov wr => ∃ (left : Lit → Bool) (cnt : Nat) (out : List Int), wr.ranges Tryz.prog 9 (plainElem Tryz.prog 3) B w2.heap.size n D left cnt ∧ CollI (fun key => cntN l k key l.length) left out ∧ out.length + cnt ≤ n ∧ wr.ownsRow w3.heap.size 3 1 ov out.length (out.map (.int .i64)) ∧ w3.heap.size ≤ wr.heap.size ∧ Below w.heap.size w wr) (fun _ wr => wr.rangeLeft B w2.heap.size)
  case atStart => exact ⟨_, _, [], HR3.out, CollI.start HM.out, by simpa using hsz, World.ownsRow_nil .., Nat.le_refl _, HB3.out⟩
  case round =>
    obtain ⟨left, cnt, out, hrg, hC, hcnt, hown, hws, hB⟩ := hrel
    have HC := Lib.hid hC
    have HO := Lib.hid hown
    have HR := Lib.hid hrg
    have HB := Lib.hid hB
    clear hC hown hrg hB HR3 HB3
    go_wp2_with (at_next; refine wpList_next_ranges _ rfl _ rfl 9 lawS _ encStr (Value.int .i64) (fun key kl hk => by obtain ⟨x, hx, _⟩ := Maps.keyOf_str Tryz.underlying9 hk; exact ⟨x, hx⟩) (fun v y hv => by obtain ⟨c, rfl, _⟩ := plainElem_int_inv Tryz.underlying3 hv; exact ⟨c, rfl⟩) B w2.heap.size n _ _ _ rfl HR.out ?_ ?_)
    · intro _ hl0
      have HL0 := Lib.hid hl0
      clear hl0
      have hS := HC.out.sorted HL0.out
      rcases HO.out.2 with ⟨rfl, h0⟩ | ⟨g, cap, cur, rfl, hbase, hb, h1, h2, h3, h4⟩
      · have hv0 : vis l k = [] := by
          rw [← hS, List.eq_nil_of_length_eq_zero h0, List.mergeSort_nil]
        have HV0 := Lib.hid hv0
        have Z := Lib.hid (show (0 : Nat) = out.length from h0.symm)
        clear hS hv0 h0
        have hc := Tryz.slices_Sort_int_none none 0 wr
        go_wp2_with (go_at_call 62; refine hc.mono ?_; rintro e w' ⟨rfl, rfl⟩)
        go_ret2
        exact ⟨_, rfl, HB.out, by rw [HV0.out]; exact World.ownsRow_nil ..⟩
      · have hH := holds_of_blockI hb (by simpa using h4)
        have hgl : g < wr.heap.size := (Array.getElem?_eq_some_iff.1 hb).1
        have hc := Tryz.slices_Sort_int g 0 cap out wr hH hgl (by omega)
        have hlen : (vis l k).length = out.length := by rw [← hS, List.length_mergeSort]
        rw [hS] at hc
        have FIN : Hid (∀ nn os, OwnL w (grow (putRow (Value.int .i64) (Sort.ahead wr nn) g 0 (vis l k).toArray) os) 3 1 (.slice (some ⟨g, 0, none⟩) out.length cap) (vis l k).length ((vis l k).map (.int .i64))) := Lib.hid (fun nn os => by
          have h5 := ownsRow_sortedI (n := nn) (os := os) hlen (Nat.le_trans (show w.heap.size ≤ w3.heap.size by omega) hbase) hb h1 h2 h3
          exact ⟨HB.out.grown (grownBy_sortedI _) HB.out.size (fun j hj => by cases hj; omega), by rw [hlen]; exact h5⟩)
        clear hS hH hlen hb h1 h2 h3 h4
        go_wp2_with (go_at_call 62; refine hc.mono ?_; rintro e w' ⟨rfl, nn, os, rfl⟩)
        go_ret2
        exact ⟨_, rfl, FIN.out _ _⟩
    · intro x c kl yd yp w4 cnt4 hkey hlk hv4 hat hrg4 hlt hg4 hs4 hen
      obtain ⟨x', ex, rfl, -⟩ := Maps.keyOf_str Tryz.underlying9 hkey
      obtain rfl : x = x' := encStr_inj ex
      obtain ⟨c', ec, ez, -⟩ := plainElem_int_inv Tryz.underlying3 hv4
      obtain rfl : c = c' := by injection ec
      have hat2 : ∀ zd, D.atKey (.string x) zd = .lit (.int .i64 c) := fun zd => by rw [hat zd]; exact (congrArg Prod.fst ez)
      have hC2 := HC.out.step HM.out (fun k1 k2 j => cnt_inj k1 k2 j) hlk hat2
      have hO4 := HO.out.kept hg4 (.inr (fun e => by have := (HO.out.lt _ e).1; omega))
      have hB4 : Below w.heap.size w w4 := HB.out.grown hg4 HB.out.size (fun j hj => by cases hj; omega)
      have hw4 : w3.heap.size ≤ w4.heap.size := by omega
      have HC2 := Lib.hid hC2
      have HO4 := Lib.hid hO4
      have HB4 := Lib.hid hB4
      have HR4 := Lib.hid hrg4
      have HR0 := Lib.hid HR.out
      clear hC2 hO4 hB4 hrg4 hat hat2 hv4 hkey hs4 ez
      go_wp2_with (at_builtin; refine wpl_pushB elInt rfl _ _ rfl HO4.out hw4 rfl #[.int .i64 c] rfl rfl rfl (by omega) (by decide) ?_; intro v' w5 hO5 hg5)
      have hR5 := (HR4.out.alloc (.cells #[.int .i64 c] 3)).kept hg5 (fun e => by have := (HO4.out.lt _ e.symm).1; omega) (fun e => by have := (HO4.out.lt _ e.symm).1; omega)
      have hB5 : Below w.heap.size w w5 := ((bal HB4.out (.cells #[.int .i64 c] 3)).grown hg5 (bal HB4.out (.cells #[.int .i64 c] 3)).size (fun j hj => by have := (HO4.out.lt _ hj).1; omega))
      go_roundw
      case rel => exact ⟨_, cnt4, out ++ [c], hR5, HC2.out, by simp; omega, by simpa using hO5, by have := hg5.size; simp at this; omega, hB5⟩
      case measure => rw [hR5.left_eq, HR0.out.left_eq]; omega
end
end
end
section
open Go.RowKit
set_option maxHeartbeats 4000000
def mkErr (l : List MK) : Int := if mksB l = true then 0 else 130
theorem mksFrom_drop (l : List MK) {i : Nat} {x : MK} (hx : l[i]? = some x) (last : Int) : mksFrom last (l.drop i) = (x.ok && decide (last < x.known) && mksFrom x.known (l.drop (i + 1))) := by
  obtain ⟨hl, e⟩ := List.getElem?_eq_some_iff.1 hx
  rw [List.drop_eq_getElem_cons hl, e]
  rfl
theorem mkErr_long {l : List MK} (h : ¬ l.length ≤ 4096) : mkErr l = 130 := by
  unfold mkErr mksB
  rw [decide_eq_false h, Bool.false_and]
  rfl
theorem mkErr_from {l : List MK} (h : l.length ≤ 4096) : mkErr l = if mksFrom 0 l = true then 0 else 130 := by
  unfold mkErr mksB
  rw [decide_eq_true h, Bool.true_and]
theorem mk_bad {l : List MK} (h : l.length ≤ 4096) {i : Nat} {x : MK} {last : Int} (hx : l[i]? = some x) (he : mksFrom 0 l = mksFrom last (l.drop i)) (hb : (x.ok && decide (last < x.known)) = false) : mkErr l = 130 := by
  rw [mkErr_from h, he, mksFrom_drop l hx, hb, Bool.false_and]
  rfl
theorem mk_next {l : List MK} {i : Nat} {x : MK} {last : Int} (hx : l[i]? = some x) (he : mksFrom 0 l = mksFrom last (l.drop i)) (hb : (x.ok && decide (last < x.known)) = true) : mksFrom 0 l = mksFrom (prevM l (i + 1)) (l.drop (i + 1)) := by
  rw [he, mksFrom_drop l hx, hb, Bool.true_and, prevM_succ hx]
theorem mk_end {l : List MK} (h : l.length ≤ 4096) {last : Int} (he : mksFrom 0 l = mksFrom last (l.drop l.length)) : mkErr l = 0 := by
  rw [mkErr_from h, he, List.drop_of_length_le (Nat.le_refl _)]
  rfl
theorem MK.ok_iff {x : MK} : x.ok = true ↔ (1 ≤ x.key.size ∧ x.key.size ≤ 64) ∧ x.known ≤ 2147483647 := by
  unfold MK.ok
  simp
  try omega
theorem aChk_any (l : List MK) (A : Option Addr) (cp : Nat) (w : World) (h : MkAt w A l) {v : Int} (hv : mkErr l = v) : Calls Tryz.prog 39 #[.slice A l.length cp] w (RetB (.int .i64 v) w) := by
  have hln := h.ln
  have HV := Lib.hid hv
  clear hv
  by_cases hl : l.length ≤ 4096
  · go_enter Tryz.func39, Tryz.ntmps39
    go_wp2
    go_loopw [3, 11] (fun lv iv wr => ∃ i : Nat, i ≤ l.length ∧ iv = .int .i64 i ∧ lv = .int .i64 (prevM l i) ∧ mksFrom 0 l = mksFrom (prevM l i) (l.drop i) ∧ MkAt wr A l ∧ Below w.heap.size w wr) (fun _ iv _ => l.length - (intOf iv).toNat)
    case atStart => exact ⟨0, by omega, rfl, rfl, rfl, h, Below.refl _ _⟩
    case round =>
      obtain ⟨i, hi, rfl, rfl, hE, hS, hB⟩ := hrel
      have HE := Lib.hid hE
      clear h hE
      by_cases hlt : i < l.length
      · obtain ⟨b, o, x, rfl, hx, hbl, hsm, q0, q1, q2⟩ := hS.get hlt
        unfold maxLen at hsm
        have HX := Lib.hid hx
        have HB2 := Lib.hid (BlkAt.new wr (mkV x) 94)
        have HS := Lib.hid hS
        have hB2 := bal hB (.cells (mkV x) 94)
        obtain ⟨p0, p1, p2⟩ := mkQ HB2.out
        obtain ⟨pm, hpm⟩ : ∃ pm, prevM l i = pm := ⟨_, rfl⟩
        have HPM := Lib.hid hpm
        rw [hpm]
        clear hx hS hpm
        cases hc : (x.ok && decide (pm < x.known))
        · have HC := Lib.hid hc
          have hbad : ¬ ((1 ≤ x.key.size ∧ x.key.size ≤ 64) ∧ x.known ≤ 2147483647 ∧ pm < x.known) := by
            rintro ⟨h1, h2, h3⟩
            rw [MK.ok_iff.2 ⟨h1, h2⟩, decide_eq_true h3] at hc
            exact absurd hc (by decide)
          have HBD := Lib.hid hbad
          have hres : v = 130 := by rw [← HV.out]; exact mk_bad hl HX.out HE.out (by rw [HPM.out]; exact HC.out)
          subst hres
          clear hc hbad
          by_cases c1 : x.key.size = 0
          · have g0 : ((x.key.size : Int) == 0) = true := by rw [beq_iff_eq]; omega
            go_wp2_with ((with_reducible refine wpl_store_new rfl 94 _ _ rfl (mkV x) ?_ ?_ (rowMk _) ?_ ?_); exact rfl; exact rfl; exact rfl)
            go_ret
            exact ⟨rfl, hB2⟩
          have g0 : ((x.key.size : Int) == 0) = false := by rw [beq_eq_false_iff_ne]; omega
          go_wp2_with ((with_reducible refine wpl_store_new rfl 94 _ _ rfl (mkV x) ?_ ?_ (rowMk _) ?_ ?_); exact rfl; exact rfl; exact rfl)
          all_goals first
            | (go_ret; exact ⟨rfl, hB2⟩)
            | exact absurd ⟨⟨by omega, by omega⟩, by omega, by omega⟩ HBD.out
        · have HC := Lib.hid hc
          rw [Bool.and_eq_true, MK.ok_iff, decide_eq_true_eq] at hc
          obtain ⟨⟨⟨hk1, hk2⟩, hk3⟩, hk4⟩ := hc
          have g0 : ((x.key.size : Int) == 0) = false := by rw [beq_eq_false_iff_ne]; omega
          go_wp2_with ((with_reducible refine wpl_store_new rfl 94 _ _ rfl (mkV x) ?_ ?_ (rowMk _) ?_ ?_); exact rfl; exact rfl; exact rfl)
          go_roundw
          case rel => exact ⟨i + 1, by omega, by go_num, by rw [prevM_succ HX.out], mk_next HX.out HE.out (by rw [HPM.out]; exact HC.out), HS.out.below (bal0 _ _), hB2⟩
          case measure => simp [intOf]; omega
      · go_wp2
        go_ret
        obtain rfl : i = l.length := by omega
        exact ⟨ret_int (by rw [← HV.out, mk_end hl HE.out]), hB⟩
  · have hres : v = 130 := by rw [← HV.out]; exact mkErr_long hl
    subst hres
    go_enter Tryz.func39, Tryz.ntmps39
    go_wp2
    go_ret
    exact ⟨rfl, Below.refl _ _⟩
set_option maxRecDepth 100000 in
theorem rMChk_any (l : List MK) (A : Option Addr) (cp : Nat) (w : World) (h : MkAt w A l) {v : Int} (hv : mkErr l = v) : Calls Tryz.prog 41 #[.slice A l.length cp] w (RetB (.int .i64 v) w) := by
  have hln := h.ln
  have HV := Lib.hid hv
  clear hv
  by_cases hl : l.length ≤ 4096
  · go_enter Tryz.func41, Tryz.ntmps41
    go_wp2
    go_loopw [3] (fun iv wr => ∃ i : Nat, i ≤ l.length ∧ iv = .int .i64 i ∧ (0 ≤ prevM l i ∧ mksFrom 0 l = mksFrom (prevM l i) (l.drop i)) ∧ MkAt wr A l ∧ Below w.heap.size w wr) (fun iv _ => l.length - (intOf iv).toNat)
    case atStart => exact ⟨0, by omega, rfl, ⟨Int.le_refl _, rfl⟩, h, Below.refl _ _⟩
    case round =>
      obtain ⟨i, hi, rfl, ⟨hp0, hE⟩, hS, hB⟩ := hrel
      have HE := Lib.hid hE
      clear h hE
      by_cases hlt : i < l.length
      · obtain ⟨b, o, x, rfl, hx, hbl, hsm, q0, q1, q2⟩ := hS.get hlt
        unfold maxLen at hsm
        have HX := Lib.hid hx
        obtain ⟨pm, hpm⟩ : ∃ pm, prevM l i = pm := ⟨_, rfl⟩
        rw [hpm] at hp0
        have HPM := Lib.hid hpm
        obtain ⟨t1, ht1⟩ : ∃ t, decide (x.key.size < 1) = t := ⟨_, rfl⟩
        obtain ⟨t2, ht2⟩ : ∃ t, decide (64 < x.key.size) = t := ⟨_, rfl⟩
        obtain ⟨t3, ht3⟩ : ∃ t, decide (x.known < 1) = t := ⟨_, rfl⟩
        obtain ⟨t4, ht4⟩ : ∃ t, decide (2147483647 < x.known) = t := ⟨_, rfl⟩
        obtain ⟨t5, ht5⟩ : ∃ t, decide (x.known ≤ pm) = t := ⟨_, rfl⟩
        have hc : (x.ok && decide (pm < x.known)) = !(t1 || t2 || t3 || t4 || t5) := by
          rw [← ht1, ← ht2, ← ht3, ← ht4, ← ht5, Bool.eq_iff_iff, Bool.and_eq_true, MK.ok_iff]
          simp only [Bool.not_eq_true', Bool.or_eq_false_iff, decide_eq_false_iff_not, decide_eq_true_eq]
          omega
        have HC := Lib.hid hc
        have HT := Lib.hid (And.intro ht3 (And.intro ht4 ht5))
        have u1 : decide ((x.key.size : Int) < 1) = t1 := by rw [← ht1, decide_eq_decide]; omega
        have u2 : decide ((64 : Int) < x.key.size) = t2 := by rw [← ht2, decide_eq_decide]; omega
        clear hc hpm
        have key : (t1 || t2 || t3 || t4 || t5) = true → v = 130 := fun h => by rw [← HV.out]; exact mk_bad hl HX.out HE.out (by rw [HPM.out, HC.out, h]; rfl)
        have key2 : (t1 || t2 || t3 || t4 || t5) = false → mksFrom 0 l = mksFrom (prevM l (i + 1)) (l.drop (i + 1)) ∧ 0 ≤ prevM l (i + 1) := fun h => ⟨mk_next HX.out HE.out (by rw [HPM.out, HC.out, h]; rfl), by
          rw [prevM_succ HX.out]
          have h5 : t5 = false := by revert h; cases t5 <;> simp
          have := ht5
          rw [h5, decide_eq_false_iff_not] at this
          omega⟩
        have HK := Lib.hid key
        have HK2 := Lib.hid key2
        clear key key2
        rcases Nat.eq_zero_or_pos i with hi0 | hi0
        · have d0 : decide (0 < i) = false := by simpa using hi0
          have h5 : t5 = true → t3 = true := by
            intro h
            rw [h, decide_eq_true_eq] at ht5
            have h0 : pm = 0 := by rw [← HPM.out, hi0]; rfl
            rw [← ht3, decide_eq_true_eq]
            omega
          have H5 := Lib.hid h5
          have HS := Lib.hid hS
          clear hi0 hx hS h5 ht5
          cases t1
          · cases t2
            · cases t3
              · cases t4
                · have h5 : t5 = false := by
                    cases h : t5
                    · rfl
                    · exact absurd (H5.out h) (by decide)
                  subst h5
                  go_wp2
                  go_quiet (fail)
                  go_wp2
                  go_roundw
                  case rel => exact ⟨i + 1, by omega, by go_num, ⟨(HK2.out rfl).2, (HK2.out rfl).1⟩, HS.out.below ⟨rfl, rfl, rfl, Nat.le_refl _, fun _ _ => rfl⟩, bdN hB _⟩
                  case measure => simp [intOf]; omega
                · obtain rfl := HK.out (by simp)
                  go_wp2
                  go_quiet (fail)
                  go_wp2
                  go_ret
                  exact ⟨rfl, bdN hB _⟩
              · obtain rfl := HK.out (by simp)
                go_wp2
                go_quiet (fail)
                go_wp2
                go_ret
                exact ⟨rfl, bdN hB _⟩
            · obtain rfl := HK.out (by simp)
              go_wp2
              go_quiet (fail)
              go_wp2
              go_ret
              exact ⟨rfl, bdN hB _⟩
          · obtain rfl := HK.out (by simp)
            go_wp2
            go_quiet (fail)
            go_wp2
            go_ret
            exact ⟨rfl, bdN hB _⟩
        · have d0 : decide (0 < i) = true := by simpa using hi0
          obtain ⟨b2, o2, y, e, hy, -, -, -, p1, -⟩ := hS.get (i := i - 1) (by omega)
          injection e with e
          injection e with e1 e2
          subst e1 e2
          have hpy : pm = y.known := by
            rw [← HPM.out]
            unfold prevM
            rw [if_neg (by omega), hy]
          subst hpy
          have z0 : IntKind.i64.wrap ((i : Int) - 1) = (i : Int) - 1 := IntWalk.i64_in _ (by omega)
          have z1 : (0 : Int) ≤ (i : Int) - 1 := by omega
          have z4 : (1 : Int) ≤ (i : Int) := by omega
          have z5 : 1 ≤ i := by omega
          have z2 : (i : Int) - 1 < (l.length : Int) := by omega
          have z3 : ((i : Int) - 1).toNat = i - 1 := by omega
          have HS := Lib.hid hS
          clear hi0 hx hS hy
          cases t1
          · cases t2
            · cases t3
              · cases t4
                · cases t5
                  · go_wp2
                    go_quiet (fail)
                    go_wp2
                    go_roundw
                    case rel => exact ⟨i + 1, by omega, by go_num, ⟨(HK2.out rfl).2, (HK2.out rfl).1⟩, HS.out.below ⟨rfl, rfl, rfl, Nat.le_refl _, fun _ _ => rfl⟩, bdN hB _⟩
                    case measure => simp [intOf]; omega
                  · obtain rfl := HK.out (by simp)
                    go_wp2
                    go_quiet (fail)
                    go_wp2
                    go_ret
                    exact ⟨rfl, bdN hB _⟩
                · obtain rfl := HK.out (by simp)
                  go_wp2
                  go_quiet (fail)
                  go_wp2
                  go_ret
                  exact ⟨rfl, bdN hB _⟩
              · obtain rfl := HK.out (by simp)
                go_wp2
                go_quiet (fail)
                go_wp2
                go_ret
                exact ⟨rfl, bdN hB _⟩
            · obtain rfl := HK.out (by simp)
              go_wp2
              go_quiet (fail)
              go_wp2
              go_ret
              exact ⟨rfl, bdN hB _⟩
          · obtain rfl := HK.out (by simp)
            go_wp2
            go_quiet (fail)
            go_wp2
            go_ret
            exact ⟨rfl, bdN hB _⟩
      · go_wp2
        go_ret
        obtain rfl : i = l.length := by omega
        exact ⟨ret_int (by rw [← HV.out, mk_end hl HE.out]), hB⟩
  · have hres : v = 130 := by rw [← HV.out]; exact mkErr_long hl
    subst hres
    go_enter Tryz.func41, Tryz.ntmps41
    go_wp2
    go_ret
    exact ⟨rfl, Below.refl _ _⟩
end
section
open Go.RowKit
set_option maxHeartbeats 4000000
structure SlG (e : TypeId) (sz : Nat) (v : Value) (n : Nat) (xs : List Value) (X : List Ent) : Prop where
  len : xs.length = n * sz
  is : (v = .slice none 0 0 ∧ n = 0 ∧ X = []) ∨ ∃ g cap cur, v = .slice (some ⟨g, 0, none⟩) n cap ∧ X = [(g, cur, e)] ∧ n ≤ cap ∧ cap ≤ maxLen ∧ cur.size = cap * sz ∧ cur.toList.take (n * sz) = xs
theorem SlG.nil (e : TypeId) (sz : Nat) : SlG e sz (.slice none 0 0) 0 [] [] := ⟨by simp, .inl ⟨rfl, rfl, rfl⟩⟩
end
section
open Go.RowKit
set_option maxHeartbeats 4000000
theorem FmtR.len {n : Int} {s : ByteArray} {e : Int} (h : FmtR n s e) : s.size ≤ 10 := by
  rcases h with ⟨y, m, d, -, rfl, -⟩ | ⟨-, rfl, -⟩
  · exact Nat.le_of_eq rfl
  · decide
noncomputable def dayL (n : Int) : List UInt8 := (Classical.choose (fmt_ex n)).data.toList
theorem dayL_is (n : Int) : ∃ e, FmtR n (bs (dayL n)) e := by
  obtain ⟨e, he⟩ := Classical.choose_spec (fmt_ex n)
  exact ⟨e, by unfold dayL; rw [bs_of]; exact he⟩
theorem dayL_len (n : Int) : (dayL n).length ≤ 10 := by
  obtain ⟨e, h⟩ := dayL_is n
  have := h.len
  rwa [bs_size] at this
noncomputable def QT.mark (q : QT) : MK := ⟨bs (q.key (dayL q.day)), q.known, q.void⟩
theorem key_cat (s i t : List UInt8) : bs s ++ ⟨#[44]⟩ ++ bs i ++ ⟨#[44]⟩ ++ bs t = bs (s ++ 44 :: (i ++ 44 :: t)) := by
  rw [show (⟨#[44]⟩ : ByteArray) = bs [44] from rfl, bs_append, bs_append, bs_append, bs_append]
  simp
theorem no63 {n : Nat} (h : n ≤ 9223372036854775807) : (9223372036854775807 < n) = False := by rw [eq_iff_iff, iff_false]; omega
set_option maxRecDepth 100000 in
theorem qkey_any (s i : List UInt8) (d : Int) (hs : s.length ≤ 1000) (hi : i.length ≤ 1000) (w : World) : Calls Tryz.prog 63 #[.string (bs s), .string (bs i), .int .i64 d] w (RetB (.string (bs (s ++ 44 :: (i ++ 44 :: dayL d)))) w) := by
  have F := Fr.start w
  obtain ⟨e, he⟩ := dayL_is d
  have g1 := fun w => dfmt_is he w
  have ht := dayL_len d
  rw [← key_cat]
  generalize dayL d = t at *
  rw [← bs_size] at hs hi ht
  clear he
  generalize bs s = A at *
  generalize bs i = I at *
  generalize bs t = T at *
  have k1 := no63 (n := A.size + 1) (by omega)
  have k2 := no63 (n := A.size + 1 + I.size) (by omega)
  have k3 := no63 (n := A.size + 1 + I.size + 1) (by omega)
  have k4 := no63 (n := A.size + 1 + I.size + 1 + T.size) (by omega)
  clear hs hi ht
  go_enter Tryz.func63, Tryz.ntmps63
  go_wp2_with (first | go_skip | ((go_at_call 53); (with_reducible refine fr_call F (g1 _) ?_); (clear F; intro W F); (try dsimp only)))
  go_ret
  exact ⟨rfl, F.below⟩
structure QuAt (W : World) (A : Option Addr) (L : List QT) : Prop where
  recs : RecsAt W A 72 (L.map fun q => (qC q).toList)
  a : ∀ q ∈ L, q.a < bp 32
  b : ∀ q ∈ L, q.b < bp 32
  s1 : ∀ q ∈ L, q.src.length ≤ 9223372036854775807
  s2 : ∀ q ∈ L, q.ins.length ≤ 9223372036854775807
  s3 : ∀ q ∈ L, q.cur.length ≤ 9223372036854775807
theorem QuAt.below {W W' : World} {A : Option Addr} {L : List QT} (h : QuAt W A L) (hb : Below W.heap.size W W') : QuAt W' A L := ⟨h.recs.below hb, h.a, h.b, h.s1, h.s2, h.s3⟩
theorem QuAt.ln {W : World} {A : Option Addr} {L : List QT} (h : QuAt W A L) : L.length ≤ 9223372036854775807 := by simpa using h.recs.ln
theorem QuAt.get {W : World} {A : Option Addr} {L : List QT} (h : QuAt W A L) {i : Nat} (hi : i < L.length) : ∃ b o q, A = some ⟨b, o, none⟩ ∧ L[i]? = some q ∧ (L.map fun q => (qC q).toList)[i]? = some (qC q).toList ∧ q ∈ L ∧ b < W.heap.size := by
  have hx : L[i]? = some L[i] := List.getElem?_eq_getElem hi
  have hm : (L.map fun q => (qC q).toList)[i]? = some (qC L[i]).toList := by rw [List.getElem?_map, hx, Option.map_some]
  obtain ⟨b, o, hA, hlt, hc⟩ := h.recs.rows i _ hm
  exact ⟨b, o, L[i], hA, hx, hm, List.getElem_mem hi, hlt⟩
theorem QuAt.cell {W : World} {b o i k : Nat} {L : List QT} {q : QT} {v : Value} (h : QuAt W (some ⟨b, o, none⟩) L) (hq : L[i]? = some q) (hv : (qC q)[k]? = some v) : W.cell? ⟨b, o + i * 72 + k, none⟩ = some v := by
  obtain ⟨b', o', hA, hlt, hc⟩ := h.recs.rows i (qC q).toList (by rw [List.getElem?_map, hq, Option.map_some])
  cases hA
  exact hc k v (by rw [Array.getElem?_toList]; exact hv)
theorem Fr.nil {w W : World} (h : Below w.heap.size w W) : Fr w W [] := ⟨h, by simp, by simp, by simp⟩
section
variable {P : Program} {a : Act} {w u W : World} {K : Act → World → Prop} {Q : Exit → Act → World → Prop} {e : TypeId} {sz n k bytes : Nat} {v : Value} {xs : List Value} {X : List Ent} {cs : Array Value} {t T : TypeId} {x s : Operand} {ops : Array Oper} {rest : List Oper} {dst : Option Tmp} {ty : TypeId} {pos : String} {af : Array Edge} {gd : Option (Nat × Bool)} {news : Array Value} {o : Oper} {E : Prop} {y : Ent}
theorem SlG.owned (S : SlG e sz v n xs X) (h : Fr u W X) : W.ownsRow u.heap.size e sz v n xs := by
  refine ⟨S.len, ?_⟩
  rcases S.is with ⟨h1, h2, -⟩ | ⟨g, cap, cur, h1, h2, h3, h4, h5, h6⟩
  · exact .inl ⟨h1, h2⟩
  · subst h2
    have hg := h.blk (g, cur, e) (by simp)
    have hg2 := h.own (g, cur, e) (by simp)
    exact .inr ⟨g, cap, cur, h1, hg2, hg.blk, h3, h4, h5, h6⟩
theorem SlG.ownL (S : SlG e sz v n xs X) (h : Fr u W X) : OwnL u W e sz v n xs := ⟨h.below, S.owned h⟩
theorem wPush (hop : o.op = .call { callee := .builtin .append, args := #[s, x], argTypes := #[T, T] }) (hel : ElT P T e sz bytes) (hm : n + 1 ≤ maxLen) (hb : (n + 1) * bytes ≤ 140737488355328) (S : SlG e sz v n xs X) (h : Fr u W ((k, news, e) :: X)) (hs : a.eval s = v) (hx : a.eval x = .slice (some ⟨k, 0, none⟩) 1 1) (hl : news.size = sz) (h1 : news.toList.all (·.oneCell') = true)
    (hk : ∀ v' X' W', SlG e sz v' (n + 1) (xs ++ news.toList) X' → Fr u W' X' → K (a.put o.dst v') W') : o.wp P a W K Q := by
  obtain ⟨i, z, hi, hz, hsz, hby, hzs⟩ := hel.info
  have hkW := h.here
  have hown := S.owned h.tl
  refine wp_append_own _ s x T hop u.heap.size e i z sz bytes hel.sl hi hz hsz hby hzs hel.pos v n xs hs hown ⟨k, 0, none⟩ 1 1 news.toList hx (by simp [hl]) (fun j y hj => ?_) (fun y hy => ?_) hm hb h.below.size ?_
  · rw [Go.WideShapes.add_plain, Nat.zero_add]
    exact hkW.cell (by simpa using hj)
  · exact List.all_eq_true.1 h1 y hy
  · intro v' w' hown' hg hnil
    have hbl : Below u.heap.size u w' := by
      refine ⟨hg.os.trans h.below.os, hg.tape.trans h.below.tape, hg.output.trans h.below.output, Nat.le_trans h.below.size hg.size, fun q hq => ?_⟩
      refine (hg.block q (Nat.lt_of_lt_of_le hq h.below.size) (fun e2 => ?_)).trans (h.below.block q hq)
      rcases S.is with ⟨h1, -, -⟩ | ⟨g, cap, cur, h1, h2, -⟩
      · subst h1; cases e2
      · subst h1
        injection e2 with e2
        subst h2
        have := h.own (g, cur, e) (by simp)
        have : u.heap.size ≤ g := this
        have e3 : q = g := e2
        omega
    rcases hown'.2 with ⟨h1, h2⟩ | ⟨g, cap, cur, h1, h2, h3, h4, h5, h6, h7⟩
    · omega
    · refine hk v' [(g, cur, e)] w' ⟨hown'.1, .inr ⟨g, cap, cur, h1, rfl, h4, h5, h6, h7⟩⟩ ⟨hbl, fun y hy => ?_, fun y hy => ?_, by simp⟩
      · simp at hy
        subst hy
        exact ⟨h3⟩
      · simp at hy
        subst hy
        exact h2
theorem wPush1 (hop : o.op = .call { callee := .builtin .append, args := #[s, x], argTypes := #[T, T] }) (hel : ElT P T e sz bytes) (hm : n + 1 ≤ maxLen) (hb : (n + 1) * bytes ≤ 140737488355328) (S : SlG e sz v n xs X) (h : Fr u W ((k, news, e) :: y :: X)) (hs : a.eval s = v) (hx : a.eval x = .slice (some ⟨k, 0, none⟩) 1 1) (hl : news.size = sz) (h1 : news.toList.all (·.oneCell') = true)
    (hk : ∀ v' X' W', SlG e sz v' (n + 1) (xs ++ news.toList) X' → Fr u W' X' → BlkAt W' y.1 y.2.1 y.2.2 → K (a.put o.dst v') W') : o.wp P a W K Q := by
  obtain ⟨i, z, hi, hz, hsz, hby, hzs⟩ := hel.info
  have hkW := h.here
  have hX := h.tl.tl
  have hy := h.blk y (by simp)
  have hdis := h.tl.dis
  have hown := S.owned hX
  refine wp_append_own _ s x T hop u.heap.size e i z sz bytes hel.sl hi hz hsz hby hzs hel.pos v n xs hs hown ⟨k, 0, none⟩ 1 1 news.toList hx (by simp [hl]) (fun j y hj => ?_) (fun y hy => ?_) hm hb h.below.size ?_
  · rw [Go.WideShapes.add_plain, Nat.zero_add]
    exact hkW.cell (by simpa using hj)
  · exact List.all_eq_true.1 h1 y hy
  · intro v' w' hown' hg hnil
    have hne : ∀ q : Nat, (∀ g cur, X = [(g, cur, e)] → q ≠ g) → some q ≠ v.ownBlock := by
      intro q hq e2
      rcases S.is with ⟨h1, -, -⟩ | ⟨g, cap, cur, h1, h2, -⟩
      · subst h1; cases e2
      · subst h1
        injection e2 with e2
        exact hq g cur h2 e2
    have hbl : Below u.heap.size u w' := by
      refine ⟨hg.os.trans h.below.os, hg.tape.trans h.below.tape, hg.output.trans h.below.output, Nat.le_trans h.below.size hg.size, fun q hq => ?_⟩
      refine (hg.block q (Nat.lt_of_lt_of_le hq h.below.size) (hne q (fun g cur hx2 e2 => ?_))).trans (h.below.block q hq)
      have := hX.own (g, cur, e) (by rw [hx2]; simp)
      have : u.heap.size ≤ g := this
      omega
    have hyb : BlkAt w' y.1 y.2.1 y.2.2 := by
      refine ⟨(hg.block y.1 hy.lt (hne y.1 (fun g cur hx2 e2 => ?_))).trans hy.blk⟩
      rw [hx2] at hdis
      simp at hdis
      exact hdis e2
    rcases hown'.2 with ⟨h1, h2⟩ | ⟨g, cap, cur, h1, h2, h3, h4, h5, h6, h7⟩
    · omega
    · refine hk v' [(g, cur, e)] w' ⟨hown'.1, .inr ⟨g, cap, cur, h1, rfl, h4, h5, h6, h7⟩⟩ ⟨hbl, fun y hy => ?_, fun y hy => ?_, by simp⟩ hyb
      · simp at hy
        subst hy
        exact ⟨h3⟩
      · simp at hy
        subst hy
        exact h2
theorem sPush1 (hgd : o.guard = none) (s x : Operand) (hop : o.op = .call { callee := .builtin .append, args := #[s, x], argTypes := #[T, T] }) (hel : ElT P T e sz bytes) (hm : n + 1 ≤ maxLen) (hb : (n + 1) * bytes ≤ 140737488355328) (S : SlG e sz v n xs X) (h : Fr u W ((k, news, e) :: y :: X)) (hs : a.eval s = v) (hx : a.eval x = .slice (some ⟨k, 0, none⟩) 1 1) (hl : news.size = sz) (h1 : news.toList.all (·.oneCell') = true)
    (hk : ∀ v' X' W', SlG e sz v' (n + 1) (xs ++ news.toList) X' → Fr u W' X' → BlkAt W' y.1 y.2.1 y.2.2 → K (a.put o.dst v') W') : if Region.wanted o (yielded ops a.tmps) = true then o.wp P a W K Q else E := by
  rw [if_pos (by simp [Region.wanted, hgd])]
  exact wPush1 hop hel hm hb S h hs hx hl h1 hk
theorem sPush (hgd : o.guard = none) (s x : Operand) (hop : o.op = .call { callee := .builtin .append, args := #[s, x], argTypes := #[T, T] }) (hel : ElT P T e sz bytes) (hm : n + 1 ≤ maxLen) (hb : (n + 1) * bytes ≤ 140737488355328) (S : SlG e sz v n xs X) (h : Fr u W ((k, news, e) :: X)) (hs : a.eval s = v) (hx : a.eval x = .slice (some ⟨k, 0, none⟩) 1 1) (hl : news.size = sz) (h1 : news.toList.all (·.oneCell') = true)
    (hk : ∀ v' X' W', SlG e sz v' (n + 1) (xs ++ news.toList) X' → Fr u W' X' → K (a.put o.dst v') W') : if Region.wanted o (yielded ops a.tmps) = true then o.wp P a W K Q else E := by
  rw [if_pos (by simp [Region.wanted, hgd])]
  exact wPush hop hel hm hb S h hs hx hl h1 hk
theorem fPushB (hel : ElT P T e sz bytes) (hm : n + 1 ≤ maxLen) (hb : (n + 1) * bytes ≤ 140737488355328) (S : SlG e sz v n xs X) (h : Fr u W ((k, news, e) :: X)) (hw : Region.wanted ⟨dst, .call { callee := .builtin .append, args := #[s, x], argTypes := #[T, T] }, ty, pos, af, gd⟩ (yielded ops a.tmps) = true) (hs : a.eval s = v) (hx : a.eval x = .slice (some ⟨k, 0, none⟩) 1 1) (hl : news.size = sz) (h1 : news.toList.all (·.oneCell') = true)
    (hk : ∀ v' X' W', SlG e sz v' (n + 1) (xs ++ news.toList) X' → Fr u W' X' → wpList P ops Q rest (a.put dst v') W') : wpList P ops Q (⟨dst, .call { callee := .builtin .append, args := #[s, x], argTypes := #[T, T] }, ty, pos, af, gd⟩ :: rest) a W :=
  wpList_want hw fun K hK => wPush rfl hel hm hb S h hs hx hl h1 (fun v' X' W' S' F' => hK _ _ (hk v' X' W' S' F'))
end
theorem elMk : ElT Tryz.prog 66 94 3 32 := ElT.of (z := .agg #[.string ⟨#[]⟩, .int .i64 0, .bool false]) Tryz.underlying66 (by kernel_rfl) rfl (by decide)
noncomputable def mkCs (l : List QT) : List Value := ((l.map QT.mark).map fun m => (mkV m).toList).flatten
theorem mkCs_snoc {L : List QT} {i : Nat} {q : QT} (h : L[i]? = some q) : mkCs (L.take (i + 1)) = mkCs (L.take i) ++ (mkV q.mark).toList := by
  obtain ⟨hl, e⟩ := List.getElem?_eq_some_iff.1 h
  unfold mkCs
  rw [List.take_succ_eq_append_getElem hl, e]
  simp
def MksP (L : List QT) (w : World) (e : Ending) (w' : World) : Prop := ∃ v, e = .returned v ∧ OwnL w w' 94 3 v L.length (mkCs L)
theorem mkqB {W : World} {b : Nat} {q : QT} {t : TypeId} (h : BlkAt W b (qC q) t) : W.cell? ⟨b, 0, none⟩ = some (.string (bs q.src)) ∧ W.cell? ⟨b, 1, none⟩ = some (.string (bs q.ins)) ∧ W.cell? ⟨b, 3, none⟩ = some (.int .i64 q.day) ∧ W.cell? ⟨b, 70, none⟩ = some (.int .i64 q.known) ∧ W.cell? ⟨b, 71, none⟩ = some (.bool q.void) :=
  ⟨h.cell (q_src q), h.cell (q_ins q), h.cell (q_day q), h.cell (q_known q), h.cell (q_void q)⟩
theorem mkq {u W : World} {b : Nat} {q : QT} {X : List Ent} {t : TypeId} (F : Fr u W ((b, qC q, t) :: X)) : W.cell? ⟨b, 0, none⟩ = some (.string (bs q.src)) ∧ W.cell? ⟨b, 1, none⟩ = some (.string (bs q.ins)) ∧ W.cell? ⟨b, 3, none⟩ = some (.int .i64 q.day) ∧ W.cell? ⟨b, 70, none⟩ = some (.int .i64 q.known) ∧ W.cell? ⟨b, 71, none⟩ = some (.bool q.void) :=
  ⟨F.here.cell (q_src q), F.here.cell (q_ins q), F.here.cell (q_day q), F.here.cell (q_known q), F.here.cell (q_void q)⟩
def QT.short (q : QT) : Prop := q.src.length ≤ 1000 ∧ q.ins.length ≤ 1000
set_option maxRecDepth 100000 in
theorem qmarks_any {L : List QT} {A : Option Addr} {cp : Nat} {w : World} (hL : L.length ≤ 1000000000000) (hsh : ∀ q ∈ L, q.short) (h : QuAt w A L) : Calls Tryz.prog 34 #[.slice A L.length cp] w (MksP L w) := by
  have F := Fr.start w
  have HA := Lib.hid h
  have HSH := Lib.hid hsh
  clear h hsh
  go_enter Tryz.func34, Tryz.ntmps34
  go_wp2_with (first | go_skip | refine aYQ ?_ | (refine aTQ ?_; clear F; intro W F) | refine aNQ ?_)
  go_loopw [3, 8] (fun ov iv wr => ∃ (i : Nat) (X : List Ent), i ≤ L.length ∧ iv = .int .i64 i ∧ SlG 94 3 ov i (mkCs (L.take i)) X ∧ Fr w wr X) (fun _ iv _ => L.length - (intOf iv).toNat)
  case atStart => exact ⟨0, [], by omega, rfl, SlG.nil _ _, F⟩
  case round =>
    clear F
    obtain ⟨i, X, hi, rfl, S, F⟩ := hrel
    by_cases hlt : i < L.length
    · obtain ⟨b, o, q, rfl, hq, hr, hm, hbl⟩ := HA.out.get hlt
      have HR := Lib.hid hr
      have HQ := Lib.hid hq
      have HS := Lib.hid S
      have hsh := HSH.out q hm
      have gk := fun w => qkey_any q.src q.ins q.day hsh.1 hsh.2 w
      clear hr hq hm S hsh
      go_wp2_with (first | go_skip | ((with_reducible apply fLo F (hr := HA.out.recs) (hi := HR.out)); exact rfl; (rw [qC_size]; decide); exact rfl; exact rowQ _) | refine aYQ ?_ | (refine aTQ ?_; clear F; intro W F) | refine aNQ ?_)
      (clear F; intro b5 W F; try simp only [Act.put, z6, z1, z2])
      go_upto_region 5 with (first | go_skip | refine aYQ ?_ | (refine aTQ ?_; clear F; intro W F) | refine aNQ ?_)
      have HF := Lib.hid F.drew
      have HD := Lib.hid (mkq F.drew)
      clear F
      go_region_held3 (fun W => W.cell? ⟨b5, 0, none⟩ = some (.string (bs q.src)) ∧ W.cell? ⟨b5, 1, none⟩ = some (.string (bs q.ins)) ∧ W.cell? ⟨b5, 3, none⟩ = some (.int .i64 q.day) ∧ W.cell? ⟨b5, 70, none⟩ = some (.int .i64 q.known) ∧ W.cell? ⟨b5, 71, none⟩ = some (.bool q.void))
        ((first | (with_reducible exact HD.out) | (with_reducible exact mkq H5.out) | (with_reducible exact mkq (H5.out.alloc _ _).tl) | (with_reducible exact mkqB HB5.out)))
        (first
        | (go_at_call 63; (with_reducible refine fr_call HF.out (gk _) ?_); intro W5 F5; have H5 := Lib.hid F5; clear F5)
        | (refine sPush1 (by rfl) _ _ (by rfl) elMk (by unfold maxLen; omega) (by omega) HS.out (H5.out.alloc _ _) (by rfl) (by rfl) (by rfl) (by rfl) ?_; intro v' X' W' S' F' B5; have HB5 := Lib.hid B5; clear B5))
      all_goals
        go_wp2_with fail
        go_roundw
        case rel => exact ⟨i + 1, X', by omega, by go_num, by rw [mkCs_snoc HQ.out]; exact S', F'⟩
        case measure => simp [intOf]; omega
    · obtain rfl : i = L.length := by omega
      rw [List.take_length] at S
      go_wp2_with (first | go_skip | refine aYQ ?_ | (refine aTQ ?_; clear F; intro W F) | refine aNQ ?_)
      go_ret
      exact ⟨_, rfl, S.ownL F⟩
abbrev Q5 (W : World) (b o i : Nat) (q : QT) : Prop := W.cell? ⟨b, o + i * 72, none⟩ = some (.string (bs q.src)) ∧ W.cell? ⟨b, o + i * 72 + 1, none⟩ = some (.string (bs q.ins)) ∧ W.cell? ⟨b, o + i * 72 + 3, none⟩ = some (.int .i64 q.day) ∧ W.cell? ⟨b, o + i * 72 + 70, none⟩ = some (.int .i64 q.known) ∧ W.cell? ⟨b, o + i * 72 + 71, none⟩ = some (.bool q.void)
theorem QuAt.q5 {w W : World} {b o i : Nat} {L : List QT} {q : QT} {X : List Ent} (h : QuAt w (some ⟨b, o, none⟩) L) (hq : L[i]? = some q) (F : Fr w W X) : Q5 W b o i q := by
  have h2 := h.below F.below
  exact ⟨h2.cell hq (q_src q), h2.cell hq (q_ins q), h2.cell hq (q_day q), h2.cell hq (q_known q), h2.cell hq (q_void q)⟩
set_option maxRecDepth 100000 in
theorem rmarks_any {L : List QT} {A : Option Addr} {cp : Nat} {w : World} (hL : L.length ≤ 1000000000000) (hsh : ∀ q ∈ L, q.short) (h : QuAt w A L) : Calls Tryz.prog 36 #[.slice A L.length cp] w (MksP L w) := by
  have F := Fr.start w
  have HA := Lib.hid h
  have HSH := Lib.hid hsh
  clear h hsh
  go_enter Tryz.func36, Tryz.ntmps36
  go_wp2_with (first | go_skip | refine aYQ ?_)
  go_loopw [3, 4] (fun ov iv wr => ∃ (i : Nat) (X : List Ent), i ≤ L.length ∧ iv = .int .i64 i ∧ SlG 94 3 ov i (mkCs (L.take i)) X ∧ Fr w wr X) (fun _ iv _ => L.length - (intOf iv).toNat)
  case atStart => exact ⟨0, [], by omega, rfl, SlG.nil _ _, F⟩
  case round =>
    clear F
    obtain ⟨i, X, hi, rfl, S, F⟩ := hrel
    by_cases hlt : i < L.length
    · obtain ⟨b, o, q, rfl, hq, hr, hm, hbl⟩ := HA.out.get hlt
      have HQ := Lib.hid hq
      have HS := Lib.hid S
      have hsh := HSH.out q hm
      obtain ⟨e, he⟩ := dayL_is q.day
      have g1 := fun w => rfmt_is he w
      have hd := dayL_len q.day
      have HE := Lib.hid (key_cat q.src q.ins (dayL q.day))
      have hC := fun (W : World) (X : List Ent) (F : Fr w W X) => HA.out.q5 hq F
      unfold Q5 at hC
      obtain ⟨h1, h2⟩ := hsh
      rw [← bs_size] at h1 h2 hd
      obtain ⟨K, hK⟩ : ∃ K, bs (q.src ++ 44 :: (q.ins ++ 44 :: dayL q.day)) = K := ⟨_, rfl⟩
      have HK := Lib.hid hK
      rw [hK] at HE
      clear hr hq hm S he hK
      generalize hqs : bs q.src = A1 at *
      generalize hqi : bs q.ins = I1 at *
      generalize hqd : bs (dayL q.day) = T1 at *
      have k1 := no63 (n := A1.size + 1) (by omega)
      have k2 := no63 (n := A1.size + 1 + I1.size) (by omega)
      have k3 := no63 (n := A1.size + 1 + I1.size + 1) (by omega)
      have k4 := no63 (n := A1.size + 1 + I1.size + 1 + T1.size) (by omega)
      clear h1 h2 hd hqs hqi hqd
      have hc0 := hC _ _ F
      have HC := Lib.hid hC
      clear hC
      obtain ⟨c0, c1, c3, c70, c71⟩ := hc0
      go_upto_region 6 with (first | go_skip | ((go_at_call 28); (with_reducible refine fr_call F (g1 _) ?_); (clear F; intro W F); (try dsimp only)) | refine aYQ ?_)
      clear c0 c1 c3 c70 c71
      have HF := Lib.hid F
      have HD := Lib.hid (HC.out _ _ F.drew)
      have HD5 := Lib.hid (fun o t => HC.out _ _ (HF.out.alloc o t).drew)
      clear F
      go_region_held3 (fun W => W.cell? ⟨b, o + i * 72, none⟩ = some (.string A1) ∧ W.cell? ⟨b, o + i * 72 + 1, none⟩ = some (.string I1) ∧ W.cell? ⟨b, o + i * 72 + 3, none⟩ = some (.int .i64 q.day) ∧ W.cell? ⟨b, o + i * 72 + 70, none⟩ = some (.int .i64 q.known) ∧ W.cell? ⟨b, o + i * 72 + 71, none⟩ = some (.bool q.void))
        ((first | (with_reducible exact HD.out) | (with_reducible exact HD5.out _ _) | (with_reducible exact HC.out _ _ F')))
        (first
        | (refine sPush (by rfl) _ _ (by rfl) elMk (by unfold maxLen; omega) (by omega) HS.out (HF.out.alloc _ _).drew (by rfl) (by rfl) (by rfl) (by rfl) ?_; intro v' X' W' S' F'))
      all_goals
        go_wp2_with fail
        go_roundw
        case rel => exact ⟨i + 1, X', by omega, by go_num, by rw [mkCs_snoc HQ.out]; rw [show (mkV q.mark).toList = [.string K, .int .i64 q.known, .bool q.void] by rw [← HK.out]; rfl]; rw [← HE.out]; exact S', F'⟩
        case measure => simp [intOf]; omega
    · obtain rfl : i = L.length := by omega
      rw [List.take_length] at S
      go_wp2_with (first | go_skip | refine aYQ ?_)
      go_ret
      exact ⟨_, rfl, S.ownL F⟩
end
section
open Go.RowKit
set_option maxHeartbeats 4000000
noncomputable def bkErr (L : List QT) : Int := if L.all QT.ok = true then mkErr (L.map QT.mark) else 141
theorem QuAt.wf {W : World} {A : Option Addr} {L : List QT} (h : QuAt W A L) {q : QT} (hq : q ∈ L) : q.wf := ⟨h.a q hq, h.b q hq, h.s1 q hq, h.s2 q hq, h.s3 q hq⟩
theorem ok_short {q : QT} (h : q.ok = true) : q.short := by
  unfold QT.ok QT.right at h
  rw [Bool.and_eq_true, Bool.and_eq_true, Bool.and_eq_true] at h
  obtain ⟨⟨h1, h2, -⟩, -⟩ := h
  unfold nameB at h1
  unfold paperB at h2
  simp only [Bool.and_eq_true, decide_eq_true_eq] at h1 h2
  exact ⟨by have := h1.1.1.2; omega, by have := h2.2; omega⟩
theorem mark_small {q : QT} (h : q.short) : q.mark.key.size ≤ maxLen := by
  have := dayL_len q.day
  obtain ⟨h1, h2⟩ := h
  unfold QT.mark QT.key maxLen
  dsimp only
  rw [bs_size]
  simp only [List.length_append, List.length_cons]
  omega
theorem MksP.at {L : List QT} {w W : World} {v : Value} (h : OwnL w W 94 3 v L.length (mkCs L)) (hL : L.length ≤ 1000000000000) (hsh : ∀ q ∈ L, q.short) : ∃ A cp, v = .slice A L.length cp ∧ MkAt W A (L.map QT.mark) := by
  obtain ⟨hn, A, cap, hv, hr, -⟩ := h.recs (fun x hx => by
    obtain ⟨m, -, rfl⟩ := List.mem_map.1 hx
    rfl) (by decide) (by simp; omega)
  refine ⟨A, cap, hv, hr, fun x hx => ?_⟩
  obtain ⟨q, hq, rfl⟩ := List.mem_map.1 hx
  exact mark_small (hsh q hq)
theorem bk_bad {L : List QT} {i : Nat} {q : QT} (hq : L[i]? = some q) (h : q.ok = false) : bkErr L = 141 := by
  unfold bkErr
  rw [if_neg]
  intro h2
  rw [List.all_eq_true] at h2
  obtain ⟨hl, e⟩ := List.getElem?_eq_some_iff.1 hq
  have := h2 q (e ▸ List.getElem_mem hl)
  rw [h] at this
  cases this
theorem all_snoc {L : List QT} {i : Nat} {q : QT} (hq : L[i]? = some q) (h : q.ok = true) (ha : (L.take i).all QT.ok = true) : (L.take (i + 1)).all QT.ok = true := by
  obtain ⟨hl, e⟩ := List.getElem?_eq_some_iff.1 hq
  rw [List.take_succ_eq_append_getElem hl, List.all_append, ha, e]
  simp [h]
set_option maxRecDepth 100000 in
theorem qcheck_any {L : List QT} {A : Option Addr} {cp : Nat} {w : World} (hL : L.length ≤ 1000000000000) (h : QuAt w A L) {v : Int} (hv : bkErr L = v) : Calls Tryz.prog 14 #[.slice A L.length cp] w (RetB (.int .i64 v) w) := by
  have F := Fr.start w
  have HA := Lib.hid h
  have HV := Lib.hid hv
  clear h hv
  go_enter Tryz.func14, Tryz.ntmps14
  go_wp2_with (first | go_skip | refine aYQ ?_ | (refine aTQ ?_; clear F; intro W F) | refine aNQ ?_)
  go_loopw [7] (fun iv wr => ∃ i : Nat, i ≤ L.length ∧ iv = .int .i64 i ∧ (L.take i).all QT.ok = true ∧ Fr w wr []) (fun iv _ => L.length - (intOf iv).toNat)
  case atStart => exact ⟨0, by omega, rfl, by simp, F⟩
  case round =>
    clear F
    obtain ⟨i, hi, rfl, ha, F⟩ := hrel
    have HP := Lib.hid ha
    clear ha
    by_cases hlt : i < L.length
    · obtain ⟨b, o, q, rfl, hq, hr, hm, hbl⟩ := HA.out.get hlt
      have HR := Lib.hid hr
      have HQ := Lib.hid hq
      have hwf := HA.out.wf hm
      obtain ⟨c1, h1⟩ : ∃ c, q.right = c := ⟨_, rfl⟩
      obtain ⟨c2, h2⟩ : ∃ c, knB q.known = c := ⟨_, rfl⟩
      have g1 := fun w => right_any hwf h1 w
      have g2 := fun w => qknown_any h2 w
      have hok : q.ok = (c1 && c2) := by unfold QT.ok; rw [h1, h2]
      have HO := Lib.hid hok
      clear hr hq hm hwf h1 h2 hok
      cases c1
      · have hres : v = 141 := by rw [← HV.out]; exact bk_bad HQ.out HO.out
        subst hres
        go_wp2_with (first | go_skip | ((with_reducible apply fLo F (hr := HA.out.recs) (hi := HR.out)); exact rfl; (rw [qC_size]; decide); exact rfl; exact rowQ _) | refine aYQ ?_ | (refine aTQ ?_; clear F; intro W F) | refine aNQ ?_)
        (clear F; intro b4 W F; try simp only [Act.put, z6, z1, z2])
        go_wp2_with (first | go_skip | ((go_at_call 37); (with_reducible refine fr_call F (g1 _) ?_); (clear F; intro W F); (try dsimp only)) | refine aYQ ?_ | (refine aTQ ?_; clear F; intro W F) | refine aNQ ?_)
        go_ret
        exact ⟨rfl, F.below⟩
      cases c2
      · have hres : v = 141 := by rw [← HV.out]; exact bk_bad HQ.out HO.out
        subst hres
        go_wp2_with (first | go_skip | ((with_reducible apply fLo F (hr := HA.out.recs) (hi := HR.out)); exact rfl; (rw [qC_size]; decide); exact rfl; exact rowQ _) | refine aYQ ?_ | (refine aTQ ?_; clear F; intro W F) | refine aNQ ?_)
        (clear F; intro b4 W F; try simp only [Act.put, z6, z1, z2])
        go_wp2_with (first | go_skip | ((go_at_call 37); (with_reducible refine fr_call F (g1 _) ?_); (clear F; intro W F); (try dsimp only)) | ((go_at_call 38); (with_reducible refine fr_call F (g2 _) ?_); (clear F; intro W F); (try dsimp only)) | refine aYQ ?_ | (refine aTQ ?_; clear F; intro W F) | refine aNQ ?_)
        go_ret
        exact ⟨rfl, F.below⟩
      go_wp2_with (first | go_skip | ((with_reducible apply fLo F (hr := HA.out.recs) (hi := HR.out)); exact rfl; (rw [qC_size]; decide); exact rfl; exact rowQ _) | refine aYQ ?_ | (refine aTQ ?_; clear F; intro W F) | refine aNQ ?_)
      (clear F; intro b4 W F; try simp only [Act.put, z6, z1, z2])
      go_wp2_with (first | go_skip | ((go_at_call 37); (with_reducible refine fr_call F (g1 _) ?_); (clear F; intro W F); (try dsimp only)) | ((go_at_call 38); (with_reducible refine fr_call F (g2 _) ?_); (clear F; intro W F); (try dsimp only)) | refine aYQ ?_ | (refine aTQ ?_; clear F; intro W F) | refine aNQ ?_)
      go_roundw
      case rel => exact ⟨i + 1, by omega, by go_num, all_snoc HQ.out HO.out HP.out, Fr.nil F.below⟩
      case measure => simp [intOf]; omega
    · obtain rfl : i = L.length := by omega
      have hall := HP.out
      rw [List.take_length] at hall
      have hsh : ∀ q ∈ L, q.short := fun q hq => ok_short (List.all_eq_true.1 hall q hq)
      have hmv : mkErr (L.map QT.mark) = v := by rw [← HV.out]; unfold bkErr; rw [if_pos hall]
      have HS := Lib.hid hsh
      have HM := Lib.hid hmv
      clear hall hsh hmv
      go_wp2_with (first | go_skip | (go_at_call 34; refine (qmarks_any hL HS.out (HA.out.below F.below)).mono ?_; rintro e W2 ⟨mv, rfl, hO⟩; have F2 := F.next hO.below; clear F; obtain ⟨A2, cp2, rfl, hMk⟩ := MksP.at hO hL HS.out; have GK := aChk_any _ A2 cp2 _ hMk HM.out; rw [List.length_map] at GK; clear hO hMk; have F := F2; clear F2) | (go_at_call 39; (with_reducible refine fr_call F GK ?_); (clear F; intro W F); (try dsimp only)) | refine aYQ ?_ | (refine aTQ ?_; clear F; intro W F) | refine aNQ ?_)
      go_ret
      exact ⟨rfl, F.below⟩
set_option maxRecDepth 100000 in
theorem rcheck_any {L : List QT} {A : Option Addr} {cp : Nat} {w : World} (hL : L.length ≤ 1000000000000) (h : QuAt w A L) {v : Int} (hv : bkErr L = v) : Calls Tryz.prog 15 #[.slice A L.length cp] w (RetB (.int .i64 v) w) := by
  have F := Fr.start w
  have HA := Lib.hid h
  have HV := Lib.hid hv
  clear h hv
  go_enter Tryz.func15, Tryz.ntmps15
  go_wp2_with (first | go_skip | refine aYQ ?_)
  go_loopw [3] (fun iv wr => ∃ i : Nat, i ≤ L.length ∧ iv = .int .i64 i ∧ (L.take i).all QT.ok = true ∧ Fr w wr []) (fun iv _ => L.length - (intOf iv).toNat)
  case atStart => exact ⟨0, by omega, rfl, by simp, F⟩
  case round =>
    clear F
    obtain ⟨i, hi, rfl, ha, F⟩ := hrel
    have HP := Lib.hid ha
    clear ha
    by_cases hlt : i < L.length
    · obtain ⟨b, o, q, rfl, hq, hr, hm, hbl⟩ := HA.out.get hlt
      have HR := Lib.hid hr
      have HQ := Lib.hid hq
      have hwf := HA.out.wf hm
      obtain ⟨c1, h1⟩ : ∃ c, q.ok = c := ⟨_, rfl⟩
      have g1 := fun w => qvalid_any hwf h1 w
      have HO := Lib.hid h1
      clear hr hq hm hwf h1
      cases c1
      · have hres : v = 141 := by rw [← HV.out]; exact bk_bad HQ.out HO.out
        subst hres
        go_wp2_with (first | go_skip | ((with_reducible apply fLo F (hr := HA.out.recs) (hi := HR.out)); exact rfl; (rw [qC_size]; decide); exact rfl; exact rowQ _) | ((go_at_call 40); (with_reducible refine fr_call F (g1 _) ?_); (clear F; intro W F); (try dsimp only)) | refine aYQ ?_)
        go_ret
        exact ⟨rfl, F.below⟩
      go_wp2_with (first | go_skip | ((with_reducible apply fLo F (hr := HA.out.recs) (hi := HR.out)); exact rfl; (rw [qC_size]; decide); exact rfl; exact rowQ _) | ((go_at_call 40); (with_reducible refine fr_call F (g1 _) ?_); (clear F; intro W F); (try dsimp only)) | refine aYQ ?_)
      go_roundw
      case rel => exact ⟨i + 1, by omega, by go_num, all_snoc HQ.out HO.out HP.out, Fr.nil F.below⟩
      case measure => simp [intOf]; omega
    · obtain rfl : i = L.length := by omega
      have hall := HP.out
      rw [List.take_length] at hall
      have hsh : ∀ q ∈ L, q.short := fun q hq => ok_short (List.all_eq_true.1 hall q hq)
      have hmv : mkErr (L.map QT.mark) = v := by rw [← HV.out]; unfold bkErr; rw [if_pos hall]
      have HS := Lib.hid hsh
      have HM := Lib.hid hmv
      clear hall hsh hmv
      go_wp2_with (first | go_skip | (go_at_call 36; refine (rmarks_any hL HS.out (HA.out.below F.below)).mono ?_; rintro e W2 ⟨mv, rfl, hO⟩; have F2 := F.next hO.below; clear F; obtain ⟨A2, cp2, rfl, hMk⟩ := MksP.at hO hL HS.out; have GK := rMChk_any _ A2 cp2 _ hMk HM.out; rw [List.length_map] at GK; clear hO hMk; have F := F2; clear F2) | (go_at_call 41; (with_reducible refine fr_call F GK ?_); (clear F; intro W F); (try dsimp only)) | refine aYQ ?_)
      go_ret
      exact ⟨rfl, F.below⟩
end
section
open Go.RowKit
set_option maxHeartbeats 4000000
theorem slQuo : SlT Tryz.prog 22 33 72 := ⟨Tryz.underlying22, by kernel_rfl⟩
theorem elQuo : ElT Tryz.prog 22 33 72 336 := ElT.of (z := .agg (qC q0)) Tryz.underlying22 (by rw [qZ]; kernel_rfl) (qC_size _) (by decide)
def qCs (l : List QT) : List Value := (l.map fun q => (qC q).toList).flatten
theorem qCs_snoc (l : List QT) (q : QT) : qCs (l ++ [q]) = qCs l ++ (qC q).toList := by simp [qCs]
def atI (L : List QT) (i : Int) : List QT := match L[i.toNat]? with | some q => [q] | none => []
def atIs (L : List QT) (I : List Int) : List QT := I.flatMap (atI L)
theorem atIs_snoc {L : List QT} {I : List Int} {j : Nat} {i : Int} {q : QT} (hj : I[j]? = some i) (hq : L[i.toNat]? = some q) : atIs L (I.take (j + 1)) = atIs L (I.take j) ++ [q] := by
  obtain ⟨hl, e⟩ := List.getElem?_eq_some_iff.1 hj
  rw [List.take_succ_eq_append_getElem hl, e]
  simp [atIs, atI, hq]
theorem atIs_len {L : List QT} : ∀ {I : List Int}, (∀ i ∈ I, i.toNat < L.length) → (atIs L I).length = I.length
  | [], _ => rfl
  | i :: I, h => by
    have h1 := h i (by simp)
    have ih := atIs_len (I := I) (fun x hx => h x (by simp [hx]))
    unfold atIs at ih ⊢
    rw [List.flatMap_cons, List.length_append, ih, List.length_cons]
    unfold atI
    rw [List.getElem?_eq_getElem h1]
    simp
    omega
noncomputable def visQ (L : List QT) (k : Int) : List QT := atIs L (vis (L.map QT.mark) k)
theorem vis_lt {L : List QT} {k i : Int} (h : i ∈ vis (L.map QT.mark) k) : 0 ≤ i ∧ i.toNat < L.length := by
  unfold vis at h
  obtain ⟨j, rfl, h1, -⟩ := (visF_mem i _).1 h
  rw [List.length_map] at h1
  exact ⟨by omega, by simpa using h1⟩
theorem flatC_q (q : QT) : flatC [.agg (qC q)] = qC q := by simp [flatC, Value.cells]
def VisP (V : List QT) (er : Int) (w : World) (e : Ending) (w' : World) : Prop := ∃ v, e = .returned (.tuple #[v, .int .i64 er]) ∧ OwnL w w' 33 72 v V.length (qCs V)
theorem OwnL.rebase {w W W' : World} {e : TypeId} {sz n : Nat} {v : Value} {xs : List Value} (h : OwnL W W' e sz v n xs) (hb : Below w.heap.size w W) : OwnL w W' e sz v n xs := by
  refine ⟨bnext hb h.below, h.own.1, ?_⟩
  rcases h.own.2 with h1 | ⟨g, cap, cur, h1, h2, h3⟩
  · exact .inl h1
  · exact .inr ⟨g, cap, cur, h1, Nat.le_trans hb.size h2, h3⟩
theorem ints_flat : ∀ I : List Int, I.map (Value.int .i64) = (I.map fun i => [Value.int .i64 i]).flatten
  | [] => rfl
  | i :: I => by
    have := ints_flat I
    simp [this]
theorem q_all (q : QT) : [Value.agg (qC q)].all (fun v => v.cells.size == 72) = true := by simp [Value.cells, qC_size]
theorem q_one (q : QT) : (flatC [.agg (qC q)]).toList.all (·.oneCell') = true := by
  rw [flatC_q]
  have := (rowQ q).one
  simpa using this
theorem q_flat (q : QT) : (flatC [.agg (qC q)]).size = 72 := by rw [flatC_q, qC_size]
theorem OwnL.ints {W W' : World} {v : Value} {I : List Int} (h : OwnL W W' 3 1 v I.length (I.map (.int .i64))) (hl : I.length ≤ 9223372036854775807) : ∃ A cp, v = .slice A I.length cp ∧ RecsAt W' A 1 (I.map fun i => [.int .i64 i]) := by
  rw [ints_flat] at h
  obtain ⟨hn, A, cap, hv, hr, -⟩ := h.recs (fun x hx => by obtain ⟨y, -, rfl⟩ := List.mem_map.1 hx; rfl) (by decide) (by simpa using hl)
  exact ⟨A, cap, hv, hr⟩
theorem RecsAt.int {w W : World} {A : Option Addr} {I : List Int} {j : Nat} {i : Int} {X : List Ent} (h : RecsAt w A 1 (I.map fun i => [.int .i64 i])) (hj : I[j]? = some i) (F : Fr w W X) : ∃ b o, A = some ⟨b, o, none⟩ ∧ W.cell? ⟨b, o + j, none⟩ = some (.int .i64 i) := by
  obtain ⟨b, o, hA, hlt, hc⟩ := (h.below F.below).rows j [.int .i64 i] (by rw [List.getElem?_map, hj]; rfl)
  refine ⟨b, o, hA, ?_⟩
  have := hc 0 _ rfl
  rwa [Nat.mul_one] at this
theorem bk_ok {L : List QT} (h : bkErr L = 0) : L.all QT.ok = true ∧ mksB (L.map QT.mark) = true ∧ L.length ≤ 4096 := by
  unfold bkErr at h
  by_cases h1 : L.all QT.ok = true
  · rw [if_pos h1] at h
    unfold mkErr at h
    by_cases h2 : mksB (L.map QT.mark) = true
    · have := mksB_len h2
      rw [List.length_map] at this
      exact ⟨h1, h2, this⟩
    · rw [if_neg h2] at h
      exact absurd h (by decide)
  · rw [if_neg h1] at h
    exact absurd h (by decide)
set_option maxRecDepth 100000 in
theorem qvis_any {L : List QT} {A : Option Addr} {cp : Nat} {k : Int} {w : World} (hL : L.length ≤ 1000000000000) (h : QuAt w A L) {er : Int} (her : bkErr L = er) : Calls Tryz.prog 9 #[.slice A L.length cp, .int .i64 k] w (VisP (if er = 0 then visQ L k else []) er w) := by
  have F := Fr.start w
  have HA := Lib.hid h
  have g1 := fun W (hb : Below w.heap.size w W) => qcheck_any (cp := cp) hL (h.below hb) her
  clear h
  by_cases h0 : er = 0
  · rw [if_pos h0]
    subst h0
    obtain ⟨hok, hmv, hl⟩ := bk_ok her
    have hsh : ∀ q ∈ L, q.short := fun q hq => ok_short (List.all_eq_true.1 hok q hq)
    have HS := Lib.hid hsh
    have HM := Lib.hid hmv
    have HIL0 : Hid ((vis (L.map QT.mark) k).length ≤ 4096) := Lib.hid (by have := visF_len (ms := L.map QT.mark) (k := k) (L.map QT.mark).length; rw [List.length_map] at this; unfold vis; rw [List.length_map]; omega)
    clear hok hmv hsh her
    go_enter Tryz.func9, Tryz.ntmps9
    go_wp2_with (first | go_skip | ((go_at_call 14); (with_reducible refine fr_call F (g1 _ F.below) ?_); (clear F; intro W F); (try dsimp only)) | (go_at_call 34; refine (qmarks_any hL HS.out (HA.out.below F.below)).mono ?_; rintro e W2 ⟨mv, rfl, hO⟩; have F2 := F.next hO.below; clear F; obtain ⟨A2, cp2, rfl, hMk⟩ := MksP.at hO hL HS.out; have GK := sVis_ok _ HM.out k A2 cp2 _ hMk; rw [List.length_map] at GK; clear hO hMk; have F := F2; clear F2) | (go_at_call 33; refine GK.mono ?_; rintro e W2 ⟨iv, rfl, hO⟩; have F2 := F.next hO.below; clear F; have hlv : (vis (L.map QT.mark) k).length ≤ 9223372036854775807 := (Nat.le_trans HIL0.out (by decide)); obtain ⟨A3, cp3, rfl, hI⟩ := hO.ints hlv; have HI := Lib.hid hI; clear hI hO GK g1; have F := F2; clear F2; (try dsimp only)) | refine aYQ ?_)
    have HW := Lib.hid F.below
    have HA2 := Lib.hid (HA.out.below F.below)
    have hvl : ∀ i ∈ vis (L.map QT.mark) k, 0 ≤ i ∧ i.toNat < L.length := fun i hi => vis_lt hi
    have HR0 : Hid (visQ L k = atIs L (vis (L.map QT.mark) k)) := Lib.hid rfl
    generalize vis (L.map QT.mark) k = I at *
    have HVL := Lib.hid hvl
    have HIL := HIL0
    clear hvl HA HS HM F HIL0
    have F := Fr.start W2
    have hIl : I.length ≤ 9223372036854775807 := by have := HI.out.ln; simpa using this
    go_loopw [9, 26] (fun ov jv wr => ∃ (j : Nat) (X : List Ent), j ≤ I.length ∧ jv = .int .i64 j ∧ SlG 33 72 ov j (qCs (atIs L (I.take j))) X ∧ Fr W2 wr X) (fun _ jv _ => I.length - (intOf jv).toNat)
    case atStart => exact ⟨0, [], by omega, rfl, SlG.nil _ _, F⟩
    case round =>
      clear F
      obtain ⟨j, X, hj, rfl, S, F⟩ := hrel
      have HS := Lib.hid S
      clear S
      by_cases hlt : j < I.length
      · have hji : I[j]? = some I[j] := List.getElem?_eq_getElem hlt
        obtain ⟨b3, o3, rfl, c0⟩ := HI.out.int hji F
        obtain ⟨hi0, hi1⟩ := HVL.out I[j] (List.getElem_mem hlt)
        obtain ⟨n, hn⟩ : ∃ n : Nat, I[j] = (n : Int) := ⟨I[j].toNat, by omega⟩
        rw [hn] at c0 hji hi1
        rw [Int.toNat_natCast] at hi1
        obtain ⟨b, o, q, rfl, hq, hr, hm, hbl⟩ := HA2.out.get hi1
        have HR := Lib.hid hr
        have HJ := Lib.hid (atIs_snoc hji (by rw [Int.toNat_natCast]; exact hq))
        have hjl : (qCs (atIs L (I.take j)) ++ (flatC [.agg (qC q)]).toList) = qCs (atIs L (I.take (j + 1))) := by rw [HJ.out, qCs_snoc, flatC_q]
        have HJL := Lib.hid hjl
        have hsm : I.length ≤ 4096 := HIL.out
        clear hr hq hm hji hi0 hn hjl
        go_wp2_with (first | go_skip | ((with_reducible apply fLo F (hr := HA2.out.recs) (hi := HR.out)); exact rfl; (rw [qC_size]; decide); exact rfl; exact rowQ _) | ((with_reducible apply fSli F slQuo); exact rfl; exact rfl; exact rfl; decide; decide; (go_simp; exact rfl); (exact q_all q)) | refine aYQ ?_)
        (clear F; intro b35 W F; try simp only [Act.put, z6, z1, z2])
        go_wp2_with (first | go_skip | ((with_reducible apply fPushB elQuo (n := j) (by unfold maxLen; omega) (by omega) HS.out F); exact rfl; exact rfl; exact rfl; exact q_flat q; exact q_one q; (clear F HS); (intro v' X' W' S' F')) | refine aYQ ?_)
        go_roundw
        case rel => exact ⟨j + 1, X', by omega, by go_num, by rw [← HJL.out]; exact S', F'⟩
        case measure => simp [intOf]; omega
      · obtain rfl : j = I.length := by omega
        have S := HS.out
        rw [List.take_length] at S
        go_wp2_with (first | go_skip | refine aYQ ?_)
        go_ret2
        exact ⟨_, rfl, ((S.ownL F).rebase HW.out).eqv (by rw [HR0.out, atIs_len (fun i hi => (HVL.out i hi).2)]) (by rw [HR0.out])⟩
  · rw [if_neg h0]
    have t0 : (er != 0) = true := by rw [bne_iff_ne]; exact h0
    clear her h0
    go_enter Tryz.func9, Tryz.ntmps9
    go_wp2_with (first | go_skip | ((go_at_call 14); (with_reducible refine fr_call F (g1 _ F.below) ?_); (clear F; intro W F); (try dsimp only)) | refine aYQ ?_)
    go_ret2
    exact ⟨_, rfl, (SlG.nil _ _).ownL F⟩
set_option maxRecDepth 100000 in
theorem rvis_any {L : List QT} {A : Option Addr} {cp : Nat} {k : Int} {w : World} (hL : L.length ≤ 1000000000000) (h : QuAt w A L) {er : Int} (her : bkErr L = er) : Calls Tryz.prog 10 #[.slice A L.length cp, .int .i64 k] w (VisP (if er = 0 then visQ L k else []) er w) := by
  have F := Fr.start w
  have HA := Lib.hid h
  have g1 := fun W (hb : Below w.heap.size w W) => rcheck_any (cp := cp) hL (h.below hb) her
  clear h
  by_cases h0 : er = 0
  · rw [if_pos h0]
    subst h0
    obtain ⟨hok, hmv, hl⟩ := bk_ok her
    have hsh : ∀ q ∈ L, q.short := fun q hq => ok_short (List.all_eq_true.1 hok q hq)
    have HS := Lib.hid hsh
    have HM := Lib.hid hmv
    have HIL0 : Hid ((vis (L.map QT.mark) k).length ≤ 4096) := Lib.hid (by have := visF_len (ms := L.map QT.mark) (k := k) (L.map QT.mark).length; rw [List.length_map] at this; unfold vis; rw [List.length_map]; omega)
    clear hok hmv hsh her
    go_enter Tryz.func10, Tryz.ntmps10
    go_wp2_with (first | go_skip | ((go_at_call 15); (with_reducible refine fr_call F (g1 _ F.below) ?_); (clear F; intro W F); (try dsimp only)) | (go_at_call 36; refine (rmarks_any hL HS.out (HA.out.below F.below)).mono ?_; rintro e W2 ⟨mv, rfl, hO⟩; have F2 := F.next hO.below; clear F; obtain ⟨A2, cp2, rfl, hMk⟩ := MksP.at hO hL HS.out; have GK := rVis_ok _ HM.out k A2 cp2 _ hMk; rw [List.length_map] at GK; clear hO hMk; have F := F2; clear F2) | (go_at_call 35; refine GK.mono ?_; rintro e W2 ⟨iv, rfl, hO⟩; have F2 := F.next hO.below; clear F; have hlv : (vis (L.map QT.mark) k).length ≤ 9223372036854775807 := (Nat.le_trans HIL0.out (by decide)); obtain ⟨A3, cp3, rfl, hI⟩ := hO.ints hlv; have HI := Lib.hid hI; clear hI hO GK g1; have F := F2; clear F2; (try dsimp only)) | refine aYQ ?_)
    have HW := Lib.hid F.below
    have HA2 := Lib.hid (HA.out.below F.below)
    have hvl : ∀ i ∈ vis (L.map QT.mark) k, 0 ≤ i ∧ i.toNat < L.length := fun i hi => vis_lt hi
    have HR0 : Hid (visQ L k = atIs L (vis (L.map QT.mark) k)) := Lib.hid rfl
    generalize vis (L.map QT.mark) k = I at *
    have HVL := Lib.hid hvl
    have HIL := HIL0
    clear hvl HA HS HM F HIL0
    have F := Fr.start W2
    have hIl : I.length ≤ 9223372036854775807 := by have := HI.out.ln; simpa using this
    go_loopw [9, 10] (fun ov jv wr => ∃ (j : Nat) (X : List Ent), j ≤ I.length ∧ jv = .int .i64 j ∧ SlG 33 72 ov j (qCs (atIs L (I.take j))) X ∧ Fr W2 wr X) (fun _ jv _ => I.length - (intOf jv).toNat)
    case atStart => exact ⟨0, [], by omega, rfl, SlG.nil _ _, F⟩
    case round =>
      clear F
      obtain ⟨j, X, hj, rfl, S, F⟩ := hrel
      have HS := Lib.hid S
      clear S
      by_cases hlt : j < I.length
      · have hji : I[j]? = some I[j] := List.getElem?_eq_getElem hlt
        obtain ⟨b3, o3, rfl, c0⟩ := HI.out.int hji F
        obtain ⟨hi0, hi1⟩ := HVL.out I[j] (List.getElem_mem hlt)
        obtain ⟨n, hn⟩ : ∃ n : Nat, I[j] = (n : Int) := ⟨I[j].toNat, by omega⟩
        rw [hn] at c0 hji hi1
        rw [Int.toNat_natCast] at hi1
        obtain ⟨b, o, q, rfl, hq, hr, hm, hbl⟩ := HA2.out.get hi1
        have HR := Lib.hid hr
        have HJ := Lib.hid (atIs_snoc hji (by rw [Int.toNat_natCast]; exact hq))
        have hjl : (qCs (atIs L (I.take j)) ++ (flatC [.agg (qC q)]).toList) = qCs (atIs L (I.take (j + 1))) := by rw [HJ.out, qCs_snoc, flatC_q]
        have HJL := Lib.hid hjl
        have hsm : I.length ≤ 4096 := HIL.out
        clear hr hq hm hji hi0 hn hjl
        go_wp2_with (first | go_skip | ((with_reducible apply fLo F (hr := HA2.out.recs) (hi := HR.out)); exact rfl; (rw [qC_size]; decide); exact rfl; exact rowQ _) | ((with_reducible apply fSli F slQuo); exact rfl; exact rfl; exact rfl; decide; decide; (go_simp; exact rfl); (exact q_all q)) | refine aYQ ?_)
        (clear F; intro b35 W F; try simp only [Act.put, z6, z1, z2])
        go_wp2_with (first | go_skip | ((with_reducible apply fPushB elQuo (n := j) (by unfold maxLen; omega) (by omega) HS.out F); exact rfl; exact rfl; exact rfl; exact q_flat q; exact q_one q; (clear F HS); (intro v' X' W' S' F')) | refine aYQ ?_)
        go_roundw
        case rel => exact ⟨j + 1, X', by omega, by go_num, by rw [← HJL.out]; exact S', F'⟩
        case measure => simp [intOf]; omega
      · obtain rfl : j = I.length := by omega
        have S := HS.out
        rw [List.take_length] at S
        go_wp2_with (first | go_skip | refine aYQ ?_)
        go_ret2
        exact ⟨_, rfl, ((S.ownL F).rebase HW.out).eqv (by rw [HR0.out, atIs_len (fun i hi => (HVL.out i hi).2)]) (by rw [HR0.out])⟩
  · rw [if_neg h0]
    have t0 : (er != 0) = true := by rw [bne_iff_ne]; exact h0
    clear her h0
    go_enter Tryz.func10, Tryz.ntmps10
    go_wp2_with (first | go_skip | ((go_at_call 15); (with_reducible refine fr_call F (g1 _ F.below) ?_); (clear F; intro W F); (try dsimp only)) | refine aYQ ?_)
    go_ret2
    exact ⟨_, rfl, (SlG.nil _ _).ownL F⟩
end
section
open Go.RowKit
set_option maxHeartbeats 4000000
theorem res_css {P : Program} {w : World} {fn : Func} {p q r : Tmp} {T t : TypeId} (h : fn.results = #[.cell p T, .tmp q, .tmp r]) {tmps : Array Value} {g : Nat} {cs : Array Value} {u v : Value} (hp : tmps.getD p undef = .pointer (some ⟨g, 0, none⟩)) (hq : tmps.getD q undef = u) (hv : tmps.getD r undef = v) (hb : BlkAt w g cs t) (hr : RowV P T cs) :
    (results fn tmps).run P w = .ok (.tuple #[.agg cs, u, v]) w := by
  have hp' : tmps[p]?.getD undef = .pointer (some ⟨g, 0, none⟩) := by simpa using hp
  have hq' : tmps[q]?.getD undef = u := by simpa using hq
  have hv' : tmps[r]?.getD undef = v := by simpa using hv
  simp [results, h, hp', hq', hv', asAddr, run_loadVar_blk hb hr]
def atP (s i : List UInt8) (d : Int) (q : QT) : Bool := (q.src == s) && ((q.ins == i) && (q.day == d))
def atV (V : List QT) (s i : List UInt8) (d : Int) : QT × Bool := match V.find? (atP s i d) with | some q => (q, true) | none => (q0, false)
theorem find_yes {V : List QT} {j : Nat} {q : QT} {p : QT → Bool} (hq : V[j]? = some q) (h0 : (V.take j).find? p = none) (h : p q = true) : V.find? p = some q := by
  obtain ⟨hl, e⟩ := List.getElem?_eq_some_iff.1 hq
  conv => lhs; rw [← List.take_append_drop j V, List.drop_eq_getElem_cons hl, e]
  rw [List.find?_append, h0, List.find?_cons, h]
  rfl
theorem find_no {V : List QT} {j : Nat} {q : QT} {p : QT → Bool} (hq : V[j]? = some q) (h0 : (V.take j).find? p = none) (h : p q = false) : (V.take (j + 1)).find? p = none := by
  obtain ⟨hl, e⟩ := List.getElem?_eq_some_iff.1 hq
  rw [List.take_succ_eq_append_getElem hl, e, List.find?_append, h0, List.find?_cons, h]
  rfl
theorem OwnL.list {w W W' : World} {L : List Ent} {e : TypeId} {sz n : Nat} {v : Value} {xs : List Value} (h : OwnL W W' e sz v n xs) (F : Fr w W L) : ∃ X, SlG e sz v n xs X ∧ Fr w W' (X ++ L) := by
  rcases h.own.2 with ⟨h1, h2⟩ | ⟨g, cap, cur, h1, h2, h3, h4, h5, h6, h7⟩
  · exact ⟨[], ⟨h.own.1, .inl ⟨h1, h2, rfl⟩⟩, F.next h.below⟩
  · exact ⟨[(g, cur, e)], ⟨h.own.1, .inr ⟨g, cap, cur, h1, rfl, h4, h5, h6, h7⟩⟩, F.push h.below h2 ⟨h3⟩⟩
theorem cur_row {V : List QT} {cur : Array Value} {j : Nat} {q : QT} (ht : cur.toList.take (V.length * 72) = qCs V) (hj : V[j]? = some q) (m : Nat) (v : Value) (hv : (qC q)[m]? = some v) : cur[j * 72 + m]? = some v := by
  have h1 : (V.map fun q => (qC q).toList)[j]? = some (qC q).toList := by rw [List.getElem?_map, hj, Option.map_some]
  have h2 := flat_get (n := 72) (V.map fun q => (qC q).toList) j _ (fun x hx => by
    obtain ⟨y, -, rfl⟩ := List.mem_map.1 hx
    rw [Array.length_toList, qC_size]) h1 m v (by rw [Array.getElem?_toList]; exact hv)
  have h3 : (qCs V)[j * 72 + m]? = some v := h2
  rw [← ht, List.getElem?_take] at h3
  split at h3
  · rw [Array.getElem?_toList] at h3
    exact h3
  · cases h3
theorem row_of {cur : Array Value} {k : Nat} {q : QT} (H : ∀ m v, (qC q)[m]? = some v → cur[k + m]? = some v) : (cur.toList.drop k).take (qC q).size = (qC q).toList := by
  have hlen : k + 72 ≤ cur.size := by
    have h1 : 71 < (qC q).size := by rw [qC_size]; decide
    have := H 71 _ (Array.getElem?_eq_getElem h1)
    have := (Array.getElem?_eq_some_iff.1 this).1
    omega
  apply List.ext_getElem?
  intro m
  by_cases hm : m < (qC q).size
  · rw [List.getElem?_take_of_lt hm, List.getElem?_drop, Array.getElem?_toList, Array.getElem?_toList, H m _ (Array.getElem?_eq_getElem hm), Array.getElem?_eq_getElem hm]
  · rw [List.getElem?_eq_none (by rw [List.length_take]; omega), List.getElem?_eq_none (by rw [Array.length_toList]; omega)]
section
variable {L : List QT} {A : Option Addr} {cp : Nat} {k d : Int} {s i : List UInt8} {w : World} {er : Int} {r : QT × Bool}
set_option maxRecDepth 100000 in
theorem qat_any (hL : L.length ≤ 1000000000000) (h : QuAt w A L) (her : bkErr L = er) (hr : (if er = 0 then atV (visQ L k) s i d else (q0, false)) = r) : Calls Tryz.prog 11 #[.slice A L.length cp, .int .i64 k, .string (bs s), .string (bs i), .int .i64 d] w (RetB (.tuple #[.agg (qC r.1), .bool r.2, .int .i64 er]) w) := by
  have F := Fr.start w
  have HA := Lib.hid h
  have g1 := fun W (hb : Below w.heap.size w W) => qvis_any (cp := cp) (k := k) hL (h.below hb) her
  clear h her hL
  obtain ⟨r1, r2⟩ := r
  dsimp only
  by_cases h0 : er = 0
  · subst h0
    rw [if_pos rfl] at hr
    simp only [if_true] at g1
    obtain ⟨V, hV⟩ : ∃ V, visQ L k = V := ⟨_, rfl⟩
    rw [hV] at g1 hr
    have HRR := Lib.hid hr
    clear hr hV
    go_enter Tryz.func11, Tryz.ntmps11
    go_wp2_with (first | go_skip | refine aYQ ?_ | (refine aTQ ?_; clear F; intro W F) | refine aNQ ?_)
    (clear F; intro b10 W F; try simp only [Act.put, z6, z1, z2])
    go_wp2_with (first | go_skip | (go_at_call 9; refine (g1 _ F.below).mono ?_; rintro e W2 ⟨v, rfl, hO⟩; obtain ⟨X, S, F2⟩ := hO.list F; clear F hO g1 HA; have F := F2; clear F2; obtain ⟨A2, cp2, hv2⟩ : ∃ A2 cp2, v = .slice A2 V.length cp2 := (by rcases S.is with ⟨h1, h2, -⟩ | ⟨g, cap, cur, h1, -⟩; exact ⟨none, 0, by rw [h1, h2]⟩; exact ⟨_, _, h1⟩); subst hv2; have HS := Lib.hid S; clear S; (try dsimp only)) | refine aYQ ?_ | (refine aTQ ?_; clear F; intro W F) | refine aNQ ?_)
    have hVl : V.length ≤ 9223372036854775807 := by
      rcases HS.out.is with ⟨-, h2, -⟩ | ⟨g, cap, cur, -, -, h3, h4, -⟩
      · omega
      · unfold maxLen at h4; omega
    go_loopw [29] (fun jv wr => ∃ j : Nat, j ≤ V.length ∧ jv = .int .i64 j ∧ (V.take j).find? (atP s i d) = none ∧ Fr w wr (X ++ [(b10, qC q0, 33)])) (fun jv _ => V.length - (intOf jv).toNat)
    case atStart => exact ⟨0, by omega, rfl, by simp, F⟩
    case round =>
      clear F
      obtain ⟨j, hj, rfl, hf, F⟩ := hrel
      have HFI := Lib.hid hf
      clear hf
      by_cases hlt : j < V.length
      · rcases HS.out.is with ⟨-, h2, -⟩ | ⟨g, cap, cur, h1, h2, h3, h4, h5, h6⟩
        · omega
        cases h1
        subst h2
        obtain ⟨q, hq⟩ : ∃ q, V[j]? = some q := ⟨_, List.getElem?_eq_getElem hlt⟩
        have H6 := Lib.hid h6
        have HQ := Lib.hid hq
        simp only [z7, z8] at F
        obtain ⟨c1, e1⟩ : ∃ c, (q.src == s) = c := ⟨_, rfl⟩
        obtain ⟨c2, e2⟩ : ∃ c, (q.ins == i) = c := ⟨_, rfl⟩
        obtain ⟨c3, e3⟩ : ∃ c, (q.day == d) = c := ⟨_, rfl⟩
        have HP : Hid (atP s i d q = (c1 && (c2 && c3))) := Lib.hid (by unfold atP; rw [e1, e2, e3])
        rw [← bs_toList q.src, ← bs_toList s] at e1
        rw [← bs_toList q.ins, ← bs_toList i] at e2
        clear hq h3 h4 h5 h6 HS
        cases hp : (c1 && (c2 && c3))
        · have HN := Lib.hid (find_no HQ.out HFI.out (by rw [HP.out, hp]))
          rcases (show c1 = false ∨ (c1 = true ∧ c2 = false) ∨ (c1 = true ∧ c2 = true ∧ c3 = false) by revert hp; cases c1 <;> cases c2 <;> cases c3 <;> simp) with rfl | ⟨rfl, rfl⟩ | ⟨rfl, rfl, rfl⟩
          all_goals
            clear hp
            go_wp2_with (first | go_skip | ((with_reducible apply fLm F); exact rfl; exact rfl; (exact tL); (with_reducible exact row_of (cur_row H6.out HQ.out)); (with_reducible exact rowQ _)) | refine aYQ ?_ | (refine aTQ ?_; clear F; intro W F) | refine aNQ ?_)
            (clear F; intro b16 W F; try simp only [Act.put, z6, z1, z2])
            go_wp2_with (first | go_skip | refine aYQ ?_ | (refine aTQ ?_; clear F; intro W F) | refine aNQ ?_)
            go_roundw
            case rel => exact ⟨j + 1, by omega, by go_num, HN.out, F.tl⟩
            case measure => simp [intOf]; omega
        · obtain ⟨rfl, rfl, rfl⟩ : c1 = true ∧ c2 = true ∧ c3 = true := by revert hp; cases c1 <;> cases c2 <;> cases c3 <;> simp
          have hY := find_yes HQ.out HFI.out (by rw [HP.out, hp])
          have hR := HRR.out
          unfold atV at hR
          rw [hY] at hR
          cases hR
          clear hp hY
          go_wp2_with (first | go_skip | ((with_reducible apply fLm F); exact rfl; exact rfl; (exact tL); (with_reducible exact row_of (cur_row H6.out HQ.out)); (with_reducible exact rowQ _)) | refine aYQ ?_ | (refine aTQ ?_; clear F; intro W F) | refine aNQ ?_)
          (clear F; intro b16 W F; try simp only [Act.put, z6, z1, z2])
          go_wp2_with (first | go_skip | refine aYQ ?_ | (refine aTQ ?_; clear F; intro W F) | refine aNQ ?_)
          exact bodyPost_ret (res_css rfl rfl rfl rfl (Fr.get F tL) (rowQ _)) rfl ⟨rfl, F.below⟩
      · obtain rfl : j = V.length := by omega
        have hR := HRR.out
        have hn := HFI.out
        rw [List.take_length] at hn
        unfold atV at hR
        rw [hn] at hR
        cases hR
        clear hn
        replace F : Fr w wr [(b10, qC q0, 33)] := F.sub (List.sublist_append_right _ _)
        clear HS
        go_wp2_with (first | go_skip | refine aYQ ?_ | (refine aTQ ?_; clear F; intro W F) | refine aNQ ?_)
        exact bodyPost_ret (res_css rfl rfl rfl rfl (Fr.get F tL) (rowQ _)) rfl ⟨rfl, F.below⟩
  · rw [if_neg h0] at hr
    cases hr
    simp only [if_neg h0] at g1
    have t0 : (er != 0) = true := by rw [bne_iff_ne]; exact h0
    clear h0 HA
    go_enter Tryz.func11, Tryz.ntmps11
    go_wp2_with (first | go_skip | refine aYQ ?_ | (refine aTQ ?_; clear F; intro W F) | refine aNQ ?_)
    (clear F; intro b10 W F; try simp only [Act.put, z6, z1, z2])
    go_wp2_with (first | go_skip | (go_at_call 9; refine (g1 _ F.below).mono ?_; rintro e W2 ⟨v, rfl, hO⟩; have F2 := F.next hO.below; clear F hO g1; have F := F2; clear F2; (try dsimp only)) | refine aYQ ?_ | (refine aTQ ?_; clear F; intro W F) | refine aNQ ?_)
    exact bodyPost_ret (res_css rfl rfl rfl rfl (Fr.get F tL) (rowQ _)) rfl ⟨rfl, F.below⟩
end
end
section
open Go.RowKit
theorem pre_len {u p : Nat} {a b : List UInt8} (hu : u < 10 ^ 15) (h : pointL (Lib.decDigits u) p = (a, b)) : a.length ≤ 15 := by
  have hl := dec_len 14 u hu
  unfold pointL at h
  dsimp only at h
  rw [Prod.mk.injEq] at h
  obtain ⟨h1, -⟩ := h
  subst h1
  rw [List.length_take]
  split
  · rw [List.length_append, List.length_replicate]; omega
  · omega
theorem txt_rdG {z : Int} {p : Nat} {a b t : List UInt8} (h : pointL (Lib.decDigits z.natAbs) p = (a, b)) {k : Nat} (hk : b = t ++ List.replicate k 48) :
    rdR (txtS (decide (z < 0)) a t) p true = (if 15 < a.length then (0, 0, false) else rdF (a ++ t) t.length (decide (z < 0))) ∧ (rdF (a ++ t) t.length (decide (z < 0))).2.2 = true ∧ numL (a ++ t) * 10 ^ (p - t.length) = z.natAbs ∧ t.length ≤ p ∧ (a.head? ≠ some 45) := by
  obtain ⟨h1, h2, h3, h4, h5, h6⟩ := point_facts _ h
  have htl : t.length + k = p := by rw [← h5, hk, List.length_append, List.length_replicate]
  have htd : t.all isD = true := by
    rw [hk, List.all_append, Bool.and_eq_true] at h2
    exact h2.1
  have hnum : numL (a ++ t) * 10 ^ k = z.natAbs := by rw [← h6, hk, ← List.append_assoc, numL_tail]
  have hG := fun neg : Bool => rdG_ok (a := a) (b := t) (p := p) (neg := neg) h1 htd h3 h4 (by omega)
  have hh45 : a.head? ≠ some 45 := by
    intro hh
    cases a with
    | nil => exact absurd rfl h3
    | cons c l =>
      rw [List.head?_cons, Option.some.injEq] at hh
      subst hh
      rw [List.all_cons] at h1
      exact absurd h1 (by simp [isD])
  refine ⟨?_, ?_, by rw [show p - t.length = k by omega]; exact hnum, by omega, hh45⟩
  · unfold rdR txtS
    by_cases hz : z < 0
    · rw [decide_eq_true hz, if_pos rfl, List.singleton_append, List.head?_cons, List.tail_cons, if_pos ⟨rfl, rfl⟩]
      exact hG true
    · rw [decide_eq_false hz, show (if false = true then [45] else ([] : List UInt8)) = [] from rfl, List.nil_append, if_neg]
      · exact hG false
      · rintro ⟨-, hh⟩
        have e : (if t = [] then a else a ++ 46 :: t).head? = a.head? := by
          split
          · rfl
          · cases a with
            | nil => exact absurd rfl h3
            | cons c l => rfl
        rw [e] at hh
        exact hh45 hh
  · rw [rdF_ok]
    by_cases hz : z < 0
    · rw [decide_eq_false (p := numL (a ++ t) = 0)]
      · simp
      · intro h0
        rw [h0, Nat.zero_mul] at hnum
        omega
    · rw [decide_eq_false hz]
      rfl
theorem rd_low {z : Int} {p : Nat} {a b t : List UInt8} (hp9 : p ≤ 9) (hz : z.natAbs < 10 ^ 15) (h : pointL (Lib.decDigits z.natAbs) p = (a, b)) {k : Nat} (hk : b = t ++ List.replicate k 48) :
    prsR (txtS (decide (z < 0)) a t) p = (lowN z ((10 ^ p : Nat) : Int), lowD z ((10 ^ p : Nat) : Int), 0) := by
  obtain ⟨h1, h2, h3, h4, -⟩ := txt_rdG h hk
  have ha := pre_len hz h
  rw [prs_rd (by omega) (by omega), h1, if_neg (by omega)]
  unfold prsO
  rw [if_pos h2]
  unfold rdF at h2 ⊢
  split
  · rename_i hq
    rw [if_pos hq] at h2
    exact absurd h2 (by decide)
  · dsimp only
    have hc : (0 : Int) < ((10 ^ (p - t.length) : Nat) : Int) := by exact_mod_cast Nat.pow_pos (by decide)
    have hd : (0 : Int) < ((10 ^ t.length : Nat) : Int) := by exact_mod_cast Nat.pow_pos (by decide)
    have e2 : ((10 ^ t.length : Nat) : Int) * ((10 ^ (p - t.length) : Nat) : Int) = ((10 ^ p : Nat) : Int) := by
      rw [← Int.natCast_mul, ← Nat.pow_add, Nat.add_sub_cancel' h4]
    have e1 : (if decide (z < 0) = true then -(numL (a ++ t) : Int) else (numL (a ++ t) : Int)) * ((10 ^ (p - t.length) : Nat) : Int) = z := by
      have h3' : (numL (a ++ t) : Int) * ((10 ^ (p - t.length) : Nat) : Int) = (z.natAbs : Int) := by rw [← h3, Int.natCast_mul]
      by_cases hz : z < 0
      · rw [decide_eq_true hz, if_pos rfl, Int.neg_mul, h3']; omega
      · rw [decide_eq_false hz, if_neg (by decide), h3']; omega
    obtain ⟨k1, k2⟩ := low_scale (n := if decide (z < 0) = true then -(numL (a ++ t) : Int) else (numL (a ++ t) : Int)) hd hc
    rw [e1, e2] at k1 k2
    rw [k1, k2]
theorem txt_back {n d : Int} {p : Nat} (h : okZ n d) (hp9 : p ≤ 9) (hx : n * ((10 ^ p : Nat) : Int) % d = 0) (hz : (n * ((10 ^ p : Nat) : Int) / d).natAbs < 10 ^ 15) :
    ∃ s, txtR (okZ n d) n d p = (s, 0) ∧ prsR s p = (n, d, 0) ∧ s.length ≤ (fmtL (n * ((10 ^ p : Nat) : Int) / d).natAbs (decide (n * ((10 ^ p : Nat) : Int) / d < 0)) p).length ∧ (0 ≤ n → s.head? ≠ some 45) := by
  obtain ⟨z, hzz⟩ : ∃ z, n * ((10 ^ p : Nat) : Int) / d = z := ⟨_, rfl⟩
  rw [hzz] at hz ⊢
  obtain ⟨a, b, hq⟩ : ∃ a b, pointL (Lib.decDigits z.natAbs) p = (a, b) := ⟨_, _, rfl⟩
  obtain ⟨t, ht⟩ : ∃ t, Lib.trimRightB b 48 = t := ⟨_, rfl⟩
  obtain ⟨k, hk⟩ := trim_zeros b
  rw [ht] at hk
  have ha := pre_len hz hq
  obtain ⟨-, hd, -⟩ := okZ_iff.1 h
  have hP : (0 : Int) < ((10 ^ p : Nat) : Int) := by exact_mod_cast Nat.pow_pos (by decide)
  have hzd : z * d = n * ((10 ^ p : Nat) : Int) := by rw [← hzz]; exact Int.ediv_mul_cancel (Int.dvd_of_emod_eq_zero hx)
  refine ⟨txtS (decide (z < 0)) a t, ?_, ?_, ?_, fun h0 => ?_⟩
  · unfold txtR
    have hc : chkE (okZ n d) (p : Int) = 0 := by
      unfold chkE
      rw [if_neg (by simpa using h), if_neg (by omega)]
    rw [if_neg (by simp [hc])]
    dsimp only
    rw [Int.toNat_natCast, if_neg (by simpa using hx), hzz]
    unfold txtZ
    dsimp only
    rw [hq, ht, if_neg (by simpa using ha)]
    unfold txtS
    by_cases h0 : z < 0
    · rw [decide_eq_true h0, if_pos h0, if_pos rfl]
    · rw [decide_eq_false h0, if_neg h0]
      rfl
  · rw [rd_low hp9 hz hq hk]
    have hs := mkR_ok (n := z) hP
    obtain ⟨e1, e2⟩ := low_mul (n := z) hP
    have hg := low_gcd (n := z) hP
    have hpos := lowD_pos (n := z) hP
    obtain ⟨s1, s2⟩ := low_scale (n := n) hd hP
    obtain ⟨t1, t2⟩ := low_self h
    obtain ⟨u1, u2⟩ := low_scale (n := z) hP hd
    rw [hzd, Int.mul_comm ((10 ^ p : Nat) : Int) d] at u1 u2
    rw [← u1, ← u2, s1, s2, t1, t2]
  · unfold fmtL
    rw [hq]
    show (txtS (decide (z < 0)) a t).length ≤ (txtS (decide (z < 0)) a b).length
    have hl : t.length ≤ b.length := by rw [hk, List.length_append]; omega
    unfold txtS
    rw [List.length_append, List.length_append]
    by_cases h0 : t = []
    · rw [if_pos h0]
      have hle : a.length ≤ (if b = [] then a else a ++ 46 :: b).length := by
        split
        · exact Nat.le_refl _
        · rw [List.length_append]; omega
      omega
    · have hb : b ≠ [] := by
        intro h1
        have h2 := List.length_pos_iff.2 h0
        rw [h1, List.length_nil] at hl
        omega
      rw [if_neg h0, if_neg hb, List.length_append, List.length_append, List.length_cons, List.length_cons]
      omega
  · obtain ⟨-, -, -, -, h45⟩ := txt_rdG hq hk
    obtain ⟨-, -, h3, -⟩ := point_facts _ hq
    have hz0 : ¬ z < 0 := by
      intro h1
      have := Int.mul_neg_of_neg_of_pos h1 hd
      have h2 := Int.mul_nonneg h0 (Int.le_of_lt hP)
      omega
    unfold txtS
    rw [decide_eq_false hz0, if_neg (by decide), List.nil_append]
    intro hh
    refine h45 ?_
    rw [← hh]
    split
    · rfl
    · cases a with
      | nil => exact absurd rfl h3
      | cons c l => rfl
end
section
open Go.RowKit
set_option maxHeartbeats 4000000
abbrev kS : List UInt8 := [98, 108, 111, 111, 109, 98, 101, 114, 103]
abbrev kI : List UInt8 := [65, 67, 77, 69]
abbrev kC : List UInt8 := [85, 83, 68]
abbrev kD : List UInt8 := [50, 48, 50, 54, 45, 48, 49, 45, 48, 53]
abbrev kP : List UInt8 := [49, 48, 49, 46, 50, 53]
abbrev kL : List UInt8 := [98, 108, 111, 111, 109, 98, 101, 114, 103, 44, 65, 67, 77, 69, 44, 85, 83, 68, 44, 50, 48, 50, 54, 45, 48, 49, 45, 48, 53, 44, 49, 48, 49, 46, 50, 53]
abbrev kM : List UInt8 := [98, 108, 111, 111, 109, 98, 101, 114, 103, 44, 65, 67, 77, 69, 44, 85, 83, 68, 44, 50, 48, 50, 54, 45, 48, 49, 45, 48, 53, 44, 45]
def qA : QT := ⟨kS, kI, kC, 9501, false, 405, false, 4, 3, false⟩
def qB : QT := ⟨kS, kI, kC, 9501, false, 0, false, 0, 4, true⟩
theorem cuts_L : cuts kL = [kS, kI, kC, kD, kP] := by decide +kernel
theorem cuts_M : cuts kM = [kS, kI, kC, kD, [45]] := by decide +kernel
theorem kn_day : ParseR (bs kD) 9501 0 := .inr ⟨by decide +kernel, .inl ⟨⟨by decide +kernel, by decide +kernel, by decide +kernel, by decide +kernel, by decide +kernel, by decide +kernel, by decide +kernel⟩, rfl⟩⟩
theorem ok405 : okZ 405 4 := okZ_iff.2 ⟨⟨Nat.lt_of_lt_of_le (by decide) bp15_big, Nat.lt_of_lt_of_le (by decide) bp15_big⟩, by decide, by decide⟩
theorem priceA : QT.price qA = true := by
  obtain ⟨s, h1, -⟩ := txt_back (p := 6) ok405 (by decide) (by decide) (by decide)
  have h2 : (txtR (okR qA.x qA.a qA.y qA.b) (sZ qA.x qA.a) (sZ qA.y qA.b) 6).2 = 0 := by
    show (txtR (okZ 405 4) 405 4 ((6 : Nat) : Int)).2 = 0
    rw [h1]
  unfold QT.price priceB
  rw [h2]
  decide
theorem rightA : QT.right qA = true := by
  unfold QT.right
  rw [priceA]
  decide +kernel
theorem rightB : QT.right qB = true := by
  unfold QT.right
  rw [show (if qB.void = true then qB.noP else qB.price) = true from rfl]
  decide +kernel
theorem kn_prs : prsR kP 6 = (405, 4, 0) := by decide +kernel
theorem kA : qprs (cuts kL) 9501 0 3 = (qA, 0) := by
  rw [cuts_L]
  unfold qprs
  dsimp only
  have hk : ¬ kP = [45] := by decide
  rw [if_neg hk, kn_prs, decide_eq_false hk]
  have h : QT.right ⟨kS, kI, kC, 9501, decide ((405 : Int) < 0), (405 : Int).natAbs, decide ((4 : Int) < 0), (4 : Int).natAbs, 3, false⟩ = true := rightA
  dsimp only
  rw [h]
  rfl
theorem kB : qprs (cuts kM) 9501 0 4 = (qB, 0) := by
  rw [cuts_M]
  unfold qprs
  dsimp only
  rw [if_pos rfl, decide_eq_true (p := ([45] : List UInt8) = [45]) rfl]
  have h : QT.right ⟨kS, kI, kC, 9501, decide ((0 : Int) < 0), (0 : Int).natAbs, decide ((0 : Int) < 0), (0 : Int).natAbs, 4, true⟩ = true := rightB
  dsimp only
  rw [h]
  rfl
theorem hd_L {s p' : List UInt8} (hc : cuts s = [kS, kI, kC, kD, p']) : ∀ a b c d p, cuts s = [a, b, c, d, p] → ParseR (bs d) 9501 0 := by
  intro a b c d p h
  rw [hc] at h
  injection h with _ h
  injection h with _ h
  injection h with _ h
  injection h with h _
  rw [← h]
  exact kn_day
theorem flatC_two (a b : QT) : (flatC [.agg (qC a), .agg (qC b)]).toList = (([a, b].map fun q => (qC q).toList)).flatten := by simp [flatC, Value.cells]
theorem quAt2 {W : World} {g : Nat} {a b : QT} {t : TypeId} (h : BlkAt W g (flatC [.agg (qC a), .agg (qC b)]) t) (ha : a.wf) (hb : b.wf) : QuAt W (some ⟨g, 0, none⟩) [a, b] := by
  refine ⟨⟨by simp, fun k r hr => ⟨g, 0, rfl, h.lt, fun j v hj => ?_⟩⟩, ?_, ?_, ?_, ?_, ?_⟩
  · rw [Nat.zero_add]
    refine h.cell ?_
    rw [← Array.getElem?_toList, flatC_two]
    exact flat_get _ k r (fun x hx => by
      obtain ⟨y, -, rfl⟩ := List.mem_map.1 hx
      rw [Array.length_toList, qC_size]) hr j v hj
  all_goals
    intro q hq
    simp only [List.mem_cons, List.not_mem_nil, or_false] at hq
    rcases hq with rfl | rfl
  · exact ha.a
  · exact hb.a
  · exact ha.b
  · exact hb.b
  · exact ha.s1
  · exact hb.s1
  · exact ha.s2
  · exact hb.s2
  · exact ha.s3
  · exact hb.s3
theorem lt32 {x : Nat} (h : x < bp 15) : x < bp 32 := Nat.lt_of_lt_of_le h (bp_le (by decide))
theorem wfA : qA.wf := ⟨lt32 (Nat.lt_of_lt_of_le (by decide) bp15_big), lt32 (Nat.lt_of_lt_of_le (by decide) bp15_big), by decide, by decide, by decide⟩
theorem wfB : qB.wf := ⟨bp_pos 32, bp_pos 32, by decide, by decide, by decide⟩
theorem bkAB : bkErr [qA, qB] = 0 := by
  have h1 : [qA, qB].all QT.ok = true := by
    simp only [List.all_cons, List.all_nil, QT.ok, rightA, rightB]
    decide
  have hk : 1 ≤ qA.mark.key.size ∧ qA.mark.key.size ≤ 64 := by
    have := dayL_len qA.day
    unfold QT.mark QT.key
    dsimp only
    rw [bs_size]
    simp only [List.length_append, List.length_cons]
    have e1 : qA.src.length = 9 := rfl
    have e2 : qA.ins.length = 4 := rfl
    omega
  have hA : qA.mark.ok = true := MK.ok_iff.2 ⟨hk, by decide⟩
  have hB : qB.mark.ok = true := MK.ok_iff.2 ⟨hk, by decide⟩
  unfold bkErr
  rw [if_pos h1]
  unfold mkErr mksB
  simp only [List.map_cons, List.map_nil, mksFrom, hA, hB]
  decide
theorem visAB3 : visQ [qA, qB] 3 = [qA] := by
  have h : vis ([qA, qB].map QT.mark) 3 = [0] := by
    obtain ⟨K, hK⟩ : ∃ K, qA.mark.key = K := ⟨_, rfl⟩
    have e1 : qA.mark = ⟨K, 3, false⟩ := by rw [← hK]; rfl
    have e2 : qB.mark = ⟨K, 4, true⟩ := by rw [← hK]; rfl
    rw [List.map_cons, List.map_cons, List.map_nil, e1, e2]
    simp [vis, visF, visAt, lastF]
  unfold visQ
  rw [h]
  rfl
theorem visAB4 : visQ [qA, qB] 4 = [] := by
  have h : vis ([qA, qB].map QT.mark) 4 = [] := by
    obtain ⟨K, hK⟩ : ∃ K, qA.mark.key = K := ⟨_, rfl⟩
    have e1 : qA.mark = ⟨K, 3, false⟩ := by rw [← hK]; rfl
    have e2 : qB.mark = ⟨K, 4, true⟩ := by rw [← hK]; rfl
    rw [List.map_cons, List.map_cons, List.map_nil, e1, e2]
    simp [vis, visF, visAt, lastF]
  unfold visQ
  rw [h]
  rfl
theorem k405 : mkR 405 4 = (405, 4, 0) := by decide +kernel
theorem kn_facts : ∃ a b : QT, (∀ w, Calls Tryz.prog 24 #[.string ⟨#[98, 108, 111, 111, 109, 98, 101, 114, 103, 44, 65, 67, 77, 69, 44, 85, 83, 68, 44, 50, 48, 50, 54, 45, 48, 49, 45, 48, 53, 44, 49, 48, 49, 46, 50, 53]⟩, .int .i64 3] w (RetB (.tuple #[.agg (qC a), .int .i64 0]) w)) ∧
    (∀ w, Calls Tryz.prog 24 #[.string ⟨#[98, 108, 111, 111, 109, 98, 101, 114, 103, 44, 65, 67, 77, 69, 44, 85, 83, 68, 44, 50, 48, 50, 54, 45, 48, 49, 45, 48, 53, 44, 45]⟩, .int .i64 4] w (RetB (.tuple #[.agg (qC b), .int .i64 0]) w)) ∧
    (∀ w g t c, BlkAt w g (flatC [.agg (qC a), .agg (qC b)]) t → Calls Tryz.prog 11 #[.slice (some ⟨g, 0, none⟩) 2 c, .int .i64 3, .string ⟨#[98, 108, 111, 111, 109, 98, 101, 114, 103]⟩, .string ⟨#[65, 67, 77, 69]⟩, .int .i64 9501] w (RetB (.tuple #[.agg (qC a), .bool true, .int .i64 0]) w)) ∧
    (∀ w g t c, BlkAt w g (flatC [.agg (qC a), .agg (qC b)]) t → Calls Tryz.prog 11 #[.slice (some ⟨g, 0, none⟩) 2 c, .int .i64 4, .string ⟨#[98, 108, 111, 111, 109, 98, 101, 114, 103]⟩, .string ⟨#[65, 67, 77, 69]⟩, .int .i64 9501] w (RetB (.tuple #[.agg (qC q0), .bool false, .int .i64 0]) w)) ∧
    b.void = true ∧ (∀ w, (Op.equalIn 10000 31 (.agg (ratC a.x a.a a.y a.b)) (.agg (RC 405 4))).run Tryz.prog w = .ok true w) ∧ (∀ w, (Op.equalIn 10000 33 (.agg (qC a)) (.agg (qC a))).run Tryz.prog w = .ok true w) :=
  ⟨qA, qB, fun w => qparse_any kL 3 (by decide) (hd_L cuts_L) kA w, fun w => qparse_any kM 4 (by decide) (hd_L cuts_M) kB w,
    fun w g t c h => qat_any (L := [qA, qB]) (s := kS) (i := kI) (er := 0) (r := (qA, true)) (by decide) (quAt2 h wfA wfB) bkAB (by rw [if_pos rfl, visAB3]; rfl),
    fun w g t c h => qat_any (L := [qA, qB]) (s := kS) (i := kI) (er := 0) (r := (q0, false)) (by decide) (quAt2 h wfA wfB) bkAB (by rw [if_pos rfl, visAB4]; rfl),
    rfl, fun w => eq_rat false 405 false 4 false 405 false 4 wfA.a wfA.b wfA.a wfA.b w, fun w => eq_quo qA wfA.a wfA.b w⟩
theorem q_all2 (a b : QT) : [Value.agg (qC a), .agg (qC b)].all (fun v => v.cells.size == 72) = true := by simp [Value.cells, qC_size]
set_option maxRecDepth 100000 in
theorem qknown14_any (w : World) : Calls Tryz.prog 13 #[] w (RetB (.bool true) w) := by
  have F := Fr.start w
  obtain ⟨a, b, g1, g2, g3, g4, hv, qe, qq⟩ := kn_facts
  have g5 := fun w => makeOf_any (n := 405) (d := 4) (by decide) (by decide) (by decide) (by decide) k405 w
  go_enter Tryz.func13, Tryz.ntmps13
  go_wp2_with (first | go_skip | ((go_at_call 24); (with_reducible refine fr_call F (g1 _) ?_); (clear F; intro W F); (try dsimp only)) | refine aYQ ?_ | (refine aTQ ?_; clear F; intro W F) | refine aNQ ?_)
  (clear F; intro b1 W F; try simp only [Act.put, z6, z1, z2])
  go_wp2_with (first | go_skip | ((go_at_call 24); (with_reducible refine fr_call F (g2 _) ?_); (clear F; intro W F); (try dsimp only)) | refine aYQ ?_ | (refine aTQ ?_; clear F; intro W F) | refine aNQ ?_)
  (clear F; intro b3 W F; try simp only [Act.put, z6, z1, z2])
  go_wp2_with (first | go_skip | ((with_reducible apply fSli F slQuo); exact rfl; exact rfl; exact rfl; decide; decide; (go_simp; exact rfl); (exact q_all2 _ _)) | refine aYQ ?_ | (refine aTQ ?_; clear F; intro W F) | refine aNQ ?_)
  (clear F; intro b22 W F; try simp only [Act.put, z6, z1, z2])
  go_wp2_with (first | go_skip | ((go_at_call 11); (with_reducible refine fr_call F (g3 _ _ _ _ (Fr.get F tL)) ?_); (clear F; intro W F); (try dsimp only)) | refine aYQ ?_ | (refine aTQ ?_; clear F; intro W F) | refine aNQ ?_)
  (clear F; intro b5 W F; try simp only [Act.put, z6, z1, z2])
  go_wp2_with (first | go_skip | ((with_reducible apply fSli F slQuo); exact rfl; exact rfl; exact rfl; decide; decide; (go_simp; exact rfl); (exact q_all2 _ _)) | refine aYQ ?_ | (refine aTQ ?_; clear F; intro W F) | refine aNQ ?_)
  (clear F; intro b30 W F; try simp only [Act.put, z6, z1, z2])
  go_wp2_with (first | go_skip | ((go_at_call 11); (with_reducible refine fr_call F (g4 _ _ _ _ (Fr.get F tL)) ?_); (clear F; intro W F); (try dsimp only)) | refine aYQ ?_ | (refine aTQ ?_; clear F; intro W F) | refine aNQ ?_)
  (clear F; intro b8 W F; try simp only [Act.put, z6, z1, z2])
  go_upto_region 5 with (first | go_skip | refine aYQ ?_ | (refine aTQ ?_; clear F; intro W F) | refine aNQ ?_)
  try simp only [Act.put, z6, z1, z2]
  refine wp_region_bm 37 (by kernel_rfl) rfl ?_
  replace F := F.drew
  revert F
  generalize World.drew _ = W
  intro F
  refine dg_one 0 1 (by kernel_rfl) rfl (by kernel_rfl) rfl (fun K hK => ?_)
  (simp only [z3, z4, z5])
  ((refine ⟨?_⟩); go_simp)
  (refine hK _ _ ?_; clear hK K)
  refine dg_one 1 3 (by kernel_rfl) rfl (by kernel_rfl) rfl (fun K hK => ?_)
  (simp only [z3, z4, z5])
  ((refine ⟨?_⟩); go_simp)
  (refine hK _ _ ?_; clear hK K)
  refine dg_one 2 7 (by kernel_rfl) rfl (by kernel_rfl) rfl (fun K hK => ?_)
  (simp only [z3, z4, z5])
  ((refine ⟨?_⟩); go_simp)
  (refine hK _ _ ?_; clear hK K)
  refine dg_one 3 15 (by kernel_rfl) rfl (by kernel_rfl) rfl (fun K hK => ?_)
  (simp only [z3, z4, z5])
  ((refine ⟨?_⟩); go_simp)
  (refine hK _ _ ?_; clear hK K)
  refine dg_one 4 31 (by kernel_rfl) rfl (by kernel_rfl) rfl (fun K hK => ?_)
  (simp only [z3, z4, z5])
  ((refine ⟨?_⟩); go_simp)
  (refine hK _ _ ?_; clear hK K)
  refine dg_one 5 63 (by kernel_rfl) rfl (by kernel_rfl) rfl (fun K hK => ?_)
  (simp only [z3, z4, z5])
  ((refine ⟨?_⟩); go_simp)
  (refine hK _ _ ?_; clear hK K)
  refine dg_one 6 127 (by kernel_rfl) rfl (by kernel_rfl) rfl (fun K hK => ?_)
  (simp only [z3, z4, z5])
  ((refine ⟨?_⟩); go_simp)
  (refine hK _ _ ?_; clear hK K)
  refine dg_one 7 255 (by kernel_rfl) rfl (by kernel_rfl) rfl (fun K hK => ?_)
  (simp only [z3, z4, z5])
  ((refine ⟨?_⟩); go_simp)
  (refine hK _ _ ?_; clear hK K)
  refine dg_one 8 511 (by kernel_rfl) rfl (by kernel_rfl) rfl (fun K hK => ?_)
  (simp only [z3, z4, z5])
  (first | ((with_reducible apply gLc F); exact rfl; (exact tL); (with_reducible exact scBool); (first | (with_reducible exact q_src _) | (with_reducible exact q_ins _) | (with_reducible exact q_cur _) | (with_reducible exact q_day _) | (with_reducible exact q_known _) | (with_reducible exact q_void _) | exact rfl); go_simp) | ((refine ⟨?_⟩); go_simp))
  (refine hK _ _ ?_; clear hK K)
  refine dg_one 9 1023 (by kernel_rfl) rfl (by kernel_rfl) rfl (fun K hK => ?_)
  (simp only [z3, z4, z5])
  ((refine ⟨?_⟩); go_simp)
  (refine hK _ _ ?_; clear hK K)
  refine dg_one 10 2047 (by kernel_rfl) rfl (by kernel_rfl) rfl (fun K hK => ?_)
  (simp only [z3, z4, z5])
  ((refine ⟨?_⟩); go_simp)
  (refine hK _ _ ?_; clear hK K)
  (refine dg_take 11 46 4095 (v := ?_) rfl (by kernel_rfl) (by kernel_rfl) (by kernel_rfl) (by kernel_rfl) (by kernel_rfl) (fun _ _ _ h => h) (Or.inl ⟨by kernel_rfl, ?_⟩) ?_; rotate_left; (focus (intro w; go_simp; try (with_reducible rfl))); (simp only [z1, z2]))
  apply dg_meet (f' := 23) (m' := 16383)
  · intro M
    refine dg_ready [12, 13] (by kernel_rfl) rfl ?_
    refine dg_want 12 8191 rfl (by kernel_rfl) rfl (fun K hK => ?_) ?_
    · skip
      (simp only [z3, z4, z5])
      (first | ((with_reducible apply gL F); exact rfl; (exact tL); (exact tR3); go_simp) | ((with_reducible apply gLm F); exact rfl; (exact tL); (first | (with_reducible exact q_rat _) | (exact tM3)); (exact tR3); go_simp) | ((refine ⟨?_⟩); go_simp))
      (refine hK _ _ ?_; clear hK K)
      refine dg_one 13 16383 (by kernel_rfl) rfl (by kernel_rfl) rfl (fun K hK => ?_)
      (simp only [z3, z4, z5])
      ((refine ⟨?_⟩); go_simp; (first | ((with_reducible refine fr_call F (g5 _) ?_); (try clear F); (intro W F); (try dsimp only)) | skip))
      (refine hK _ _ ?_; clear hK K)
      exact M _ F
    refine dg_want 13 12287 rfl (by kernel_rfl) rfl (fun K hK => ?_) ?_
    · skip
      (simp only [z3, z4, z5])
      ((refine ⟨?_⟩); go_simp; (first | ((with_reducible refine fr_call F (g5 _) ?_); (try clear F); (intro W F); (try dsimp only)) | skip))
      (refine hK _ _ ?_; clear hK K)
      refine dg_one 12 16383 (by kernel_rfl) rfl (by kernel_rfl) rfl (fun K hK => ?_)
      (simp only [z3, z4, z5])
      (first | ((with_reducible apply gL F); exact rfl; (exact tL); (exact tR3); go_simp) | ((with_reducible apply gLm F); exact rfl; (exact tL); (first | (with_reducible exact q_rat _) | (exact tM3)); (exact tR3); go_simp) | ((refine ⟨?_⟩); go_simp))
      (refine hK _ _ ?_; clear hK K)
      exact M _ F
    exact dg_nil
  clear F
  intro W F
  refine dg_one 14 32767 (by kernel_rfl) rfl (by kernel_rfl) rfl (fun K hK => ?_)
  (simp only [z3, z4, z5])
  ((refine ⟨?_⟩); go_simp)
  (refine hK _ _ ?_; clear hK K)
  refine dg_one 15 65535 (by kernel_rfl) rfl (by kernel_rfl) rfl (fun K hK => ?_)
  (simp only [z3, z4, z5])
  ((refine ⟨?_⟩); go_simp)
  (refine hK _ _ ?_; clear hK K)
  refine dg_one 16 131071 (by kernel_rfl) rfl (by kernel_rfl) rfl (fun K hK => ?_)
  (simp only [z3, z4, z5])
  ((refine ⟨?_⟩); go_simp)
  (refine hK _ _ ?_; clear hK K)
  refine dg_one 17 262143 (by kernel_rfl) rfl (by kernel_rfl) rfl (fun K hK => ?_)
  (simp only [z3, z4, z5])
  ((refine ⟨?_⟩); go_simp)
  (refine hK _ _ ?_; clear hK K)
  refine dg_one 18 524287 (by kernel_rfl) rfl (by kernel_rfl) rfl (fun K hK => ?_)
  (simp only [z3, z4, z5])
  ((refine ⟨?_⟩); go_simp)
  (refine hK _ _ ?_; clear hK K)
  refine dg_one 19 1048575 (by kernel_rfl) rfl (by kernel_rfl) rfl (fun K hK => ?_)
  (simp only [z3, z4, z5])
  ((refine ⟨?_⟩); go_simp)
  (refine hK _ _ ?_; clear hK K)
  refine dg_one 20 2097151 (by kernel_rfl) rfl (by kernel_rfl) rfl (fun K hK => ?_)
  (simp only [z3, z4, z5])
  ((refine ⟨?_⟩); go_simp)
  (refine hK _ _ ?_; clear hK K)
  refine dg_one 21 4194303 (by kernel_rfl) rfl (by kernel_rfl) rfl (fun K hK => ?_)
  (simp only [z3, z4, z5])
  ((refine ⟨?_⟩); go_simp)
  (refine hK _ _ ?_; clear hK K)
  refine dg_one 22 8388607 (by kernel_rfl) rfl (by kernel_rfl) rfl (fun K hK => ?_)
  (simp only [z3, z4, z5])
  ((refine ⟨?_⟩); go_simp)
  (refine hK _ _ ?_; clear hK K)
  refine dg_one 23 16777215 (by kernel_rfl) rfl (by kernel_rfl) rfl (fun K hK => ?_)
  (simp only [z3, z4, z5])
  ((refine ⟨?_⟩); go_simp)
  (refine hK _ _ ?_; clear hK K)
  apply dg_meet (f' := 11) (m' := 67108863)
  · intro M
    refine dg_ready [24, 25] (by kernel_rfl) rfl ?_
    refine dg_want 24 33554431 rfl (by kernel_rfl) rfl (fun K hK => ?_) ?_
    · skip
      (simp only [z3, z4, z5])
      (first | ((with_reducible apply gL F); exact rfl; (exact tL); (with_reducible exact rowQ _); go_simp) | ((refine ⟨?_⟩); go_simp))
      (refine hK _ _ ?_; clear hK K)
      refine dg_one 25 67108863 (by kernel_rfl) rfl (by kernel_rfl) rfl (fun K hK => ?_)
      (simp only [z3, z4, z5])
      (first | ((with_reducible apply gL F); exact rfl; (exact tL); (with_reducible exact rowQ _); go_simp) | ((refine ⟨?_⟩); go_simp))
      (refine hK _ _ ?_; clear hK K)
      exact M _ F
    refine dg_want 25 50331647 rfl (by kernel_rfl) rfl (fun K hK => ?_) ?_
    · skip
      (simp only [z3, z4, z5])
      (first | ((with_reducible apply gL F); exact rfl; (exact tL); (with_reducible exact rowQ _); go_simp) | ((refine ⟨?_⟩); go_simp))
      (refine hK _ _ ?_; clear hK K)
      refine dg_one 24 67108863 (by kernel_rfl) rfl (by kernel_rfl) rfl (fun K hK => ?_)
      (simp only [z3, z4, z5])
      (first | ((with_reducible apply gL F); exact rfl; (exact tL); (with_reducible exact rowQ _); go_simp) | ((refine ⟨?_⟩); go_simp))
      (refine hK _ _ ?_; clear hK K)
      exact M _ F
    exact dg_nil
  clear F
  intro W F
  refine dg_one 26 134217727 (by kernel_rfl) rfl (by kernel_rfl) rfl (fun K hK => ?_)
  (simp only [z3, z4, z5])
  ((refine ⟨?_⟩); go_simp)
  (refine hK _ _ ?_; clear hK K)
  refine dg_one 27 268435455 (by kernel_rfl) rfl (by kernel_rfl) rfl (fun K hK => ?_)
  (simp only [z3, z4, z5])
  ((refine ⟨?_⟩); go_simp)
  (refine hK _ _ ?_; clear hK K)
  refine dg_one 28 536870911 (by kernel_rfl) rfl (by kernel_rfl) rfl (fun K hK => ?_)
  (simp only [z3, z4, z5])
  ((refine ⟨?_⟩); go_simp)
  (refine hK _ _ ?_; clear hK K)
  refine dg_one 29 1073741823 (by kernel_rfl) rfl (by kernel_rfl) rfl (fun K hK => ?_)
  (simp only [z3, z4, z5])
  ((refine ⟨?_⟩); go_simp)
  (refine hK _ _ ?_; clear hK K)
  refine dg_one 30 2147483647 (by kernel_rfl) rfl (by kernel_rfl) rfl (fun K hK => ?_)
  (simp only [z3, z4, z5])
  ((refine ⟨?_⟩); go_simp)
  (refine hK _ _ ?_; clear hK K)
  refine dg_one 31 4294967295 (by kernel_rfl) rfl (by kernel_rfl) rfl (fun K hK => ?_)
  (simp only [z3, z4, z5])
  ((refine ⟨?_⟩); go_simp)
  (refine hK _ _ ?_; clear hK K)
  refine dg_one 32 8589934591 (by kernel_rfl) rfl (by kernel_rfl) rfl (fun K hK => ?_)
  (simp only [z3, z4, z5])
  ((refine ⟨?_⟩); go_simp)
  (refine hK _ _ ?_; clear hK K)
  refine dg_one 33 17179869183 (by kernel_rfl) rfl (by kernel_rfl) rfl (fun K hK => ?_)
  (simp only [z3, z4, z5])
  ((refine ⟨?_⟩); go_simp)
  (refine hK _ _ ?_; clear hK K)
  refine dg_one 34 34359738367 (by kernel_rfl) rfl (by kernel_rfl) rfl (fun K hK => ?_)
  (simp only [z3, z4, z5])
  ((refine ⟨?_⟩); go_simp)
  (refine hK _ _ ?_; clear hK K)
  refine dg_one 35 68719476735 (by kernel_rfl) rfl (by kernel_rfl) rfl (fun K hK => ?_)
  (simp only [z3, z4, z5])
  ((refine ⟨?_⟩); go_simp)
  (refine hK _ _ ?_; clear hK K)
  refine dg_one 36 137438953471 (by kernel_rfl) rfl (by kernel_rfl) rfl (fun K hK => ?_)
  (simp only [z3, z4, z5])
  ((refine ⟨?_⟩); go_simp)
  (refine hK _ _ ?_; clear hK K)
  refine dg_end (by kernel_rfl) ?_ _
  go_wp2_with (first | go_skip | refine aYQ ?_ | (refine aTQ ?_; clear F; intro W F) | refine aNQ ?_)
  go_ret
  exact ⟨rfl, F.below⟩
end
section
open Go.RowKit
set_option maxHeartbeats 4000000
theorem cur_row0 {V : List QT} {cur : Array Value} {j : Nat} {q : QT} (ht : cur.toList.take (V.length * 72) = qCs V) (hj : V[j]? = some q) {v : Value} (hv : (qC q)[0]? = some v) : cur[j * 72]? = some v := cur_row ht hj 0 v hv
section
variable {L : List QT} {A : Option Addr} {cp : Nat} {k d : Int} {s i : List UInt8} {w : World} {er : Int} {r : QT × Bool}
set_option maxRecDepth 100000 in
theorem rat_any (hL : L.length ≤ 1000000000000) (h : QuAt w A L) (her : bkErr L = er) (hr : (if er = 0 then atV (visQ L k) s i d else (q0, false)) = r) : Calls Tryz.prog 12 #[.slice A L.length cp, .int .i64 k, .string (bs s), .string (bs i), .int .i64 d] w (RetB (.tuple #[.agg (qC r.1), .bool r.2, .int .i64 er]) w) := by
  have F := Fr.start w
  have HA := Lib.hid h
  have g1 := fun W (hb : Below w.heap.size w W) => rvis_any (cp := cp) (k := k) hL (h.below hb) her
  clear h her hL
  obtain ⟨r1, r2⟩ := r
  dsimp only
  by_cases h0 : er = 0
  · subst h0
    rw [if_pos rfl] at hr
    simp only [if_true] at g1
    obtain ⟨V, hV⟩ : ∃ V, visQ L k = V := ⟨_, rfl⟩
    rw [hV] at g1 hr
    have HRR := Lib.hid hr
    clear hr hV
    go_enter Tryz.func12, Tryz.ntmps12
    go_wp2_with (first | go_skip | ((with_reducible apply fL F); exact rfl; exact rfl; (exact tL); (with_reducible exact rowQ _)) | ((with_reducible apply fLc F); exact rfl; exact rfl; (exact tL); (first | (with_reducible exact scStr) | (with_reducible exact scInt)); (first | (with_reducible exact cur_row0 H6.out HQ.out (q_src _)) | (with_reducible exact cur_row H6.out HQ.out 1 _ (q_ins _)) | (with_reducible exact cur_row H6.out HQ.out 3 _ (q_day _)) | (with_reducible exact q_src _) | (with_reducible exact q_ins _) | (with_reducible exact q_cur _) | (with_reducible exact q_day _) | (with_reducible exact q_known _) | (with_reducible exact q_void _) | exact rfl)) | ((with_reducible apply fA_quo F); exact rfl) | ((with_reducible apply fS F); exact rfl; exact rfl; exact rfl; (exact tL); (with_reducible exact rowQ _); (first | with_reducible exact (qC_size _).trans (qC_size _).symm | exact tS2); clear F; intro W F; simp only [z7, z8] at F) | ((with_reducible apply fB_quo0); exact rfl))
    (clear F; intro b10 W F; try simp only [Act.put, z6, z1, z2])
    go_wp2_with (first | go_skip | (go_at_call 10; refine (g1 _ F.below).mono ?_; rintro e W2 ⟨v, rfl, hO⟩; obtain ⟨X, S, F2⟩ := hO.list F; clear F hO g1 HA; have F := F2; clear F2; obtain ⟨A2, cp2, hv2⟩ : ∃ A2 cp2, v = .slice A2 V.length cp2 := (by rcases S.is with ⟨h1, h2, -⟩ | ⟨g, cap, cur, h1, -⟩; exact ⟨none, 0, by rw [h1, h2]⟩; exact ⟨_, _, h1⟩); subst hv2; have HS := Lib.hid S; clear S; (try dsimp only)) | ((with_reducible apply fL F); exact rfl; exact rfl; (exact tL); (with_reducible exact rowQ _)) | ((with_reducible apply fLc F); exact rfl; exact rfl; (exact tL); (first | (with_reducible exact scStr) | (with_reducible exact scInt)); (first | (with_reducible exact cur_row0 H6.out HQ.out (q_src _)) | (with_reducible exact cur_row H6.out HQ.out 1 _ (q_ins _)) | (with_reducible exact cur_row H6.out HQ.out 3 _ (q_day _)) | (with_reducible exact q_src _) | (with_reducible exact q_ins _) | (with_reducible exact q_cur _) | (with_reducible exact q_day _) | (with_reducible exact q_known _) | (with_reducible exact q_void _) | exact rfl)) | ((with_reducible apply fA_quo F); exact rfl) | ((with_reducible apply fS F); exact rfl; exact rfl; exact rfl; (exact tL); (with_reducible exact rowQ _); (first | with_reducible exact (qC_size _).trans (qC_size _).symm | exact tS2); clear F; intro W F; simp only [z7, z8] at F) | ((with_reducible apply fB_quo0); exact rfl))
    have hVl : V.length ≤ 9223372036854775807 := by
      rcases HS.out.is with ⟨-, h2, -⟩ | ⟨g, cap, cur, -, -, h3, h4, -⟩
      · omega
      · unfold maxLen at h4; omega
    go_loopw [15] (fun jv wr => ∃ j : Nat, j ≤ V.length ∧ jv = .int .i64 j ∧ (V.take j).find? (atP s i d) = none ∧ Fr w wr (X ++ [(b10, qC q0, 33)])) (fun jv _ => V.length - (intOf jv).toNat)
    case atStart => exact ⟨0, by omega, rfl, by simp, F⟩
    case round =>
      clear F
      obtain ⟨j, hj, rfl, hf, F⟩ := hrel
      have HFI := Lib.hid hf
      clear hf
      by_cases hlt : j < V.length
      · rcases HS.out.is with ⟨-, h2, -⟩ | ⟨g, cap, cur, h1, h2, h3, h4, h5, h6⟩
        · omega
        cases h1
        subst h2
        obtain ⟨q, hq⟩ : ∃ q, V[j]? = some q := ⟨_, List.getElem?_eq_getElem hlt⟩
        have H6 := Lib.hid h6
        have HQ := Lib.hid hq
        simp only [z7, z8] at F
        obtain ⟨c1, e1⟩ : ∃ c, (q.src == s) = c := ⟨_, rfl⟩
        obtain ⟨c2, e2⟩ : ∃ c, (q.ins == i) = c := ⟨_, rfl⟩
        obtain ⟨c3, e3⟩ : ∃ c, (q.day == d) = c := ⟨_, rfl⟩
        have HP : Hid (atP s i d q = (c1 && (c2 && c3))) := Lib.hid (by unfold atP; rw [e1, e2, e3])
        rw [← bs_toList q.src, ← bs_toList s] at e1
        rw [← bs_toList q.ins, ← bs_toList i] at e2
        clear hq h3 h4 h5 h6 HS
        cases hp : (c1 && (c2 && c3))
        · have HN := Lib.hid (find_no HQ.out HFI.out (by rw [HP.out, hp]))
          rcases (show c1 = false ∨ (c1 = true ∧ c2 = false) ∨ (c1 = true ∧ c2 = true ∧ c3 = false) by revert hp; cases c1 <;> cases c2 <;> cases c3 <;> simp) with rfl | ⟨rfl, rfl⟩ | ⟨rfl, rfl, rfl⟩
          all_goals
            clear hp
            go_wp2_with (first | go_skip | ((with_reducible apply fL F); exact rfl; exact rfl; (exact tL); (with_reducible exact rowQ _)) | ((with_reducible apply fLc F); exact rfl; exact rfl; (exact tL); (first | (with_reducible exact scStr) | (with_reducible exact scInt)); (first | (with_reducible exact cur_row0 H6.out HQ.out (q_src _)) | (with_reducible exact cur_row H6.out HQ.out 1 _ (q_ins _)) | (with_reducible exact cur_row H6.out HQ.out 3 _ (q_day _)) | (with_reducible exact q_src _) | (with_reducible exact q_ins _) | (with_reducible exact q_cur _) | (with_reducible exact q_day _) | (with_reducible exact q_known _) | (with_reducible exact q_void _) | exact rfl)) | ((with_reducible apply fA_quo F); exact rfl) | ((with_reducible apply fS F); exact rfl; exact rfl; exact rfl; (exact tL); (with_reducible exact rowQ _); (first | with_reducible exact (qC_size _).trans (qC_size _).symm | exact tS2); clear F; intro W F; simp only [z7, z8] at F) | ((with_reducible apply fB_quo0); exact rfl))
            go_roundw
            case rel => exact ⟨j + 1, by omega, by go_num, HN.out, F⟩
            case measure => simp [intOf]; omega
        · obtain ⟨rfl, rfl, rfl⟩ : c1 = true ∧ c2 = true ∧ c3 = true := by revert hp; cases c1 <;> cases c2 <;> cases c3 <;> simp
          have hY := find_yes HQ.out HFI.out (by rw [HP.out, hp])
          have hR := HRR.out
          unfold atV at hR
          rw [hY] at hR
          cases hR
          clear hp hY
          go_wp2_with (first | go_skip | ((with_reducible apply fLm F); exact rfl; exact rfl; (exact tL); (with_reducible exact row_of (cur_row H6.out HQ.out)); (with_reducible exact rowQ _)) | ((with_reducible apply fL F); exact rfl; exact rfl; (exact tL); (with_reducible exact rowQ _)) | ((with_reducible apply fLc F); exact rfl; exact rfl; (exact tL); (first | (with_reducible exact scStr) | (with_reducible exact scInt)); (first | (with_reducible exact cur_row0 H6.out HQ.out (q_src _)) | (with_reducible exact cur_row H6.out HQ.out 1 _ (q_ins _)) | (with_reducible exact cur_row H6.out HQ.out 3 _ (q_day _)) | (with_reducible exact q_src _) | (with_reducible exact q_ins _) | (with_reducible exact q_cur _) | (with_reducible exact q_day _) | (with_reducible exact q_known _) | (with_reducible exact q_void _) | exact rfl)) | ((with_reducible apply fA_quo F); exact rfl) | ((with_reducible apply fS F); exact rfl; exact rfl; exact rfl; (exact tL); (with_reducible exact rowQ _); (first | with_reducible exact (qC_size _).trans (qC_size _).symm | exact tS2); clear F; intro W F; simp only [z7, z8] at F) | ((with_reducible apply fB_quo0); exact rfl))
          exact bodyPost_ret (res_css rfl rfl rfl rfl (Fr.get F tL) (rowQ _)) rfl ⟨rfl, F.below⟩
      · obtain rfl : j = V.length := by omega
        have hR := HRR.out
        have hn := HFI.out
        rw [List.take_length] at hn
        unfold atV at hR
        rw [hn] at hR
        cases hR
        clear hn
        replace F : Fr w wr [(b10, qC q0, 33)] := F.sub (List.sublist_append_right _ _)
        clear HS
        go_wp2_with (first | go_skip | ((with_reducible apply fL F); exact rfl; exact rfl; (exact tL); (with_reducible exact rowQ _)) | ((with_reducible apply fLc F); exact rfl; exact rfl; (exact tL); (first | (with_reducible exact scStr) | (with_reducible exact scInt)); (first | (with_reducible exact cur_row0 H6.out HQ.out (q_src _)) | (with_reducible exact cur_row H6.out HQ.out 1 _ (q_ins _)) | (with_reducible exact cur_row H6.out HQ.out 3 _ (q_day _)) | (with_reducible exact q_src _) | (with_reducible exact q_ins _) | (with_reducible exact q_cur _) | (with_reducible exact q_day _) | (with_reducible exact q_known _) | (with_reducible exact q_void _) | exact rfl)) | ((with_reducible apply fA_quo F); exact rfl) | ((with_reducible apply fS F); exact rfl; exact rfl; exact rfl; (exact tL); (with_reducible exact rowQ _); (first | with_reducible exact (qC_size _).trans (qC_size _).symm | exact tS2); clear F; intro W F; simp only [z7, z8] at F) | ((with_reducible apply fB_quo0); exact rfl))
        exact bodyPost_ret (res_css rfl rfl rfl rfl (Fr.get F tL) (rowQ _)) rfl ⟨rfl, F.below⟩
  · rw [if_neg h0] at hr
    cases hr
    simp only [if_neg h0] at g1
    have t0 : (er != 0) = true := by rw [bne_iff_ne]; exact h0
    clear h0 HA
    go_enter Tryz.func12, Tryz.ntmps12
    go_wp2_with (first | go_skip | ((with_reducible apply fL F); exact rfl; exact rfl; (exact tL); (with_reducible exact rowQ _)) | ((with_reducible apply fLc F); exact rfl; exact rfl; (exact tL); (first | (with_reducible exact scStr) | (with_reducible exact scInt)); (first | (with_reducible exact cur_row0 H6.out HQ.out (q_src _)) | (with_reducible exact cur_row H6.out HQ.out 1 _ (q_ins _)) | (with_reducible exact cur_row H6.out HQ.out 3 _ (q_day _)) | (with_reducible exact q_src _) | (with_reducible exact q_ins _) | (with_reducible exact q_cur _) | (with_reducible exact q_day _) | (with_reducible exact q_known _) | (with_reducible exact q_void _) | exact rfl)) | ((with_reducible apply fA_quo F); exact rfl) | ((with_reducible apply fS F); exact rfl; exact rfl; exact rfl; (exact tL); (with_reducible exact rowQ _); (first | with_reducible exact (qC_size _).trans (qC_size _).symm | exact tS2); clear F; intro W F; simp only [z7, z8] at F) | ((with_reducible apply fB_quo0); exact rfl))
    (clear F; intro b10 W F; try simp only [Act.put, z6, z1, z2])
    go_wp2_with (first | go_skip | (go_at_call 10; refine (g1 _ F.below).mono ?_; rintro e W2 ⟨v, rfl, hO⟩; have F2 := F.next hO.below; clear F hO g1; have F := F2; clear F2; (try dsimp only)) | ((with_reducible apply fL F); exact rfl; exact rfl; (exact tL); (with_reducible exact rowQ _)) | ((with_reducible apply fLc F); exact rfl; exact rfl; (exact tL); (first | (with_reducible exact scStr) | (with_reducible exact scInt)); (first | (with_reducible exact cur_row0 H6.out HQ.out (q_src _)) | (with_reducible exact cur_row H6.out HQ.out 1 _ (q_ins _)) | (with_reducible exact cur_row H6.out HQ.out 3 _ (q_day _)) | (with_reducible exact q_src _) | (with_reducible exact q_ins _) | (with_reducible exact q_cur _) | (with_reducible exact q_day _) | (with_reducible exact q_known _) | (with_reducible exact q_void _) | exact rfl)) | ((with_reducible apply fA_quo F); exact rfl) | ((with_reducible apply fS F); exact rfl; exact rfl; exact rfl; (exact tL); (with_reducible exact rowQ _); (first | with_reducible exact (qC_size _).trans (qC_size _).symm | exact tS2); clear F; intro W F; simp only [z7, z8] at F) | ((with_reducible apply fB_quo0); exact rfl))
    exact bodyPost_ret (res_css rfl rfl rfl rfl (Fr.get F tL) (rowQ _)) rfl ⟨rfl, F.below⟩
end
end
section
open Go.RowKit
set_option maxHeartbeats 4000000
theorem rows_get {W : World} {A : Option Addr} {V : List QT} {i : Nat} {q : QT} (h : RecsAt W A 72 (V.map fun q => (qC q).toList)) (hq : V[i]? = some q) : ∃ b o, A = some ⟨b, o, none⟩ ∧ (V.map fun q => (qC q).toList)[i]? = some (qC q).toList := by
  have hm : (V.map fun q => (qC q).toList)[i]? = some (qC q).toList := by rw [List.getElem?_map, hq, Option.map_some]
  obtain ⟨b, o, hA, -, -⟩ := h.rows i _ hm
  exact ⟨b, o, hA, hm⟩
set_option maxRecDepth 100000 in
theorem same_any {V : List QT} {A1 A2 : Option Addr} {c1 c2 : Nat} {w : World} (h1 : RecsAt w A1 72 (V.map fun q => (qC q).toList)) (h2 : RecsAt w A2 72 (V.map fun q => (qC q).toList)) (ha : ∀ q ∈ V, q.a < bp 32 ∧ q.b < bp 32) : Calls Tryz.prog 16 #[.slice A1 V.length c1, .slice A2 V.length c2] w (RetB (.bool true) w) := by
  have F := Fr.start w
  have hl : V.length ≤ 9223372036854775807 := by simpa using h1.ln
  have H1 := Lib.hid h1
  have H2 := Lib.hid h2
  have HA := Lib.hid ha
  clear h1 h2 ha
  go_enter Tryz.func16, Tryz.ntmps16
  go_wp2_with (first | go_skip | refine aYQ ?_)
  go_loopw [5] (fun iv wr => ∃ i : Nat, i ≤ V.length ∧ iv = .int .i64 i ∧ Fr w wr []) (fun iv _ => V.length - (intOf iv).toNat)
  case atStart => exact ⟨0, by omega, rfl, F⟩
  case round =>
    clear F
    obtain ⟨i, hi, rfl, F⟩ := hrel
    by_cases hlt : i < V.length
    · have hq : V[i]? = some V[i] := List.getElem?_eq_getElem hlt
      obtain ⟨ha, hb⟩ := HA.out V[i] (List.getElem_mem hlt)
      generalize V[i] = q at *
      obtain ⟨b1, o1, rfl, hm⟩ := rows_get H1.out hq
      obtain ⟨b2, o2, rfl, -⟩ := rows_get H2.out hq
      have qq := fun w => eq_quo q ha hb w
      have HM := Lib.hid hm
      clear hq ha hb hm
      go_upto_region 6 with (first | go_skip | refine aYQ ?_)
      try simp only [Act.put, z6, z1, z2]
      refine wp_region_bm 9 (by kernel_rfl) rfl ?_
      replace F := F.drew
      revert F
      generalize World.drew _ = W
      intro F
      (refine dg_take 0 17 1 (v := ?_) rfl (by kernel_rfl) (by kernel_rfl) (by kernel_rfl) (by kernel_rfl) (by kernel_rfl) (fun _ _ _ h => h) (Or.inl ⟨by kernel_rfl, ?_⟩) ?_; rotate_left; (focus (intro w; go_simp; try (with_reducible rfl))); (simp only [z1, z2]))
      (refine dg_take 1 18 3 (v := ?_) rfl (by kernel_rfl) (by kernel_rfl) (by kernel_rfl) (by kernel_rfl) (by kernel_rfl) (fun _ _ _ h => h) (Or.inl ⟨by kernel_rfl, ?_⟩) ?_; rotate_left; (focus (intro w; go_simp; try (with_reducible rfl))); (simp only [z1, z2]))
      (refine dg_take 2 19 7 (v := ?_) rfl (by kernel_rfl) (by kernel_rfl) (by kernel_rfl) (by kernel_rfl) (by kernel_rfl) (fun _ _ _ h => h) (Or.inl ⟨by kernel_rfl, ?_⟩) ?_; rotate_left; (focus (intro w; go_simp; try (with_reducible rfl))); (simp only [z1, z2]))
      (refine dg_take 4 21 23 (v := ?_) rfl (by kernel_rfl) (by kernel_rfl) (by kernel_rfl) (by kernel_rfl) (by kernel_rfl) (fun _ _ _ h => h) (Or.inl ⟨by kernel_rfl, ?_⟩) ?_; rotate_left; (focus (intro w; go_simp; try (with_reducible rfl))); (simp only [z1, z2]))
      (refine dg_take 5 22 55 (v := ?_) rfl (by kernel_rfl) (by kernel_rfl) (by kernel_rfl) (by kernel_rfl) (by kernel_rfl) (fun _ _ _ h => h) (Or.inl ⟨by kernel_rfl, ?_⟩) ?_; rotate_left; (focus (intro w; go_simp; try (with_reducible rfl))); (simp only [z1, z2]))
      (refine dg_take 6 23 119 (v := ?_) rfl (by kernel_rfl) (by kernel_rfl) (by kernel_rfl) (by kernel_rfl) (by kernel_rfl) (fun _ _ _ h => h) (Or.inl ⟨by kernel_rfl, ?_⟩) ?_; rotate_left; (focus (intro w; go_simp; try (with_reducible rfl))); (simp only [z1, z2]))
      apply dg_meet (f' := 1) (m' := 255)
      · intro M
        refine dg_ready [3, 7] (by kernel_rfl) rfl ?_
        refine dg_want 3 127 rfl (by kernel_rfl) rfl (fun K hK => ?_) ?_
        · skip
          (simp only [z3, z4, z5])
          (first | ((with_reducible apply gLo F (hr := H1.out) (hi := HM.out)); (rw [qC_size]; decide); exact rfl; exact rowQ _; go_simp) | ((with_reducible apply gLo F (hr := H2.out) (hi := HM.out)); (rw [qC_size]; decide); exact rfl; exact rowQ _; go_simp) | (first | ((with_reducible apply gL F); exact rfl; (exact tL); (with_reducible exact rowQ _); go_simp) | ((refine ⟨?_⟩); go_simp)))
          (refine hK _ _ ?_; clear hK K)
          refine dg_one 7 255 (by kernel_rfl) rfl (by kernel_rfl) rfl (fun K hK => ?_)
          (simp only [z3, z4, z5])
          (first | ((with_reducible apply gLo F (hr := H1.out) (hi := HM.out)); (rw [qC_size]; decide); exact rfl; exact rowQ _; go_simp) | ((with_reducible apply gLo F (hr := H2.out) (hi := HM.out)); (rw [qC_size]; decide); exact rfl; exact rowQ _; go_simp) | (first | ((with_reducible apply gL F); exact rfl; (exact tL); (with_reducible exact rowQ _); go_simp) | ((refine ⟨?_⟩); go_simp)))
          (refine hK _ _ ?_; clear hK K)
          exact M _ F
        refine dg_want 7 247 rfl (by kernel_rfl) rfl (fun K hK => ?_) ?_
        · skip
          (simp only [z3, z4, z5])
          (first | ((with_reducible apply gLo F (hr := H1.out) (hi := HM.out)); (rw [qC_size]; decide); exact rfl; exact rowQ _; go_simp) | ((with_reducible apply gLo F (hr := H2.out) (hi := HM.out)); (rw [qC_size]; decide); exact rfl; exact rowQ _; go_simp) | (first | ((with_reducible apply gL F); exact rfl; (exact tL); (with_reducible exact rowQ _); go_simp) | ((refine ⟨?_⟩); go_simp)))
          (refine hK _ _ ?_; clear hK K)
          refine dg_one 3 255 (by kernel_rfl) rfl (by kernel_rfl) rfl (fun K hK => ?_)
          (simp only [z3, z4, z5])
          (first | ((with_reducible apply gLo F (hr := H1.out) (hi := HM.out)); (rw [qC_size]; decide); exact rfl; exact rowQ _; go_simp) | ((with_reducible apply gLo F (hr := H2.out) (hi := HM.out)); (rw [qC_size]; decide); exact rfl; exact rowQ _; go_simp) | (first | ((with_reducible apply gL F); exact rfl; (exact tL); (with_reducible exact rowQ _); go_simp) | ((refine ⟨?_⟩); go_simp)))
          (refine hK _ _ ?_; clear hK K)
          exact M _ F
        exact dg_nil
      clear F
      intro W F
      refine dg_one 8 511 (by kernel_rfl) rfl (by kernel_rfl) rfl (fun K hK => ?_)
      (simp only [z3, z4, z5])
      ((refine ⟨?_⟩); go_simp)
      (refine hK _ _ ?_; clear hK K)
      refine dg_end (by kernel_rfl) ?_ _
      go_wp2_with (first | go_skip | refine aYQ ?_)
      go_roundw
      case rel => exact ⟨i + 1, by omega, by go_num, Fr.nil F.below⟩
      case measure => simp [intOf]; omega
    · go_wp2_with (first | go_skip | refine aYQ ?_)
      go_ret
      exact ⟨rfl, F.below⟩
theorem VisP.at {W0 W : World} {V : List QT} {v : Value} (h : OwnL W0 W 33 72 v V.length (qCs V)) (hl : V.length ≤ 9223372036854775807) : ∃ A c, v = .slice A V.length c ∧ RecsAt W A 72 (V.map fun q => (qC q).toList) := by
  obtain ⟨hn, A, cap, hv, hr, -⟩ := h.recs (fun x hx => by
    obtain ⟨y, -, rfl⟩ := List.mem_map.1 hx
    rw [Array.length_toList, qC_size]) (by decide) (by simpa using hl)
  exact ⟨A, cap, hv, hr⟩
theorem visQ_mem {L : List QT} {k : Int} {q : QT} (h : q ∈ visQ L k) : q ∈ L := by
  unfold visQ atIs at h
  obtain ⟨i, -, hi⟩ := List.mem_flatMap.1 h
  unfold atI at hi
  split at hi
  · rename_i y hy
    rw [List.mem_singleton] at hi
    rw [hi]
    exact List.mem_of_getElem? hy
  · cases hi
theorem visQ_len {L : List QT} {k : Int} : (visQ L k).length ≤ L.length := by
  unfold visQ
  rw [atIs_len (fun i hi => (vis_lt hi).2)]
  have := visF_len (ms := L.map QT.mark) (k := k) (L.map QT.mark).length
  rw [List.length_map] at this
  unfold vis
  rw [List.length_map]
  exact this
theorem atV_of {V : List QT} {s i : List UInt8} {d : Int} {p : QT → Prop} (h0 : p q0) (h : ∀ q ∈ V, p q) : p (atV V s i d).1 := by
  unfold atV
  split
  · rename_i q hq
    exact h q (List.mem_of_find?_eq_some hq)
  · exact h0
set_option maxRecDepth 100000 in
theorem quoteBooks_any {L : List QT} {A : Option Addr} {cp : Nat} {k d : Int} {s i : List UInt8} {w : World} (hL : L.length ≤ 1000000000000) (h : QuAt w A L) : Calls Tryz.prog 3 #[.slice A L.length cp, .int .i64 k, .string (bs s), .string (bs i), .int .i64 d] w (RetB (.bool true) w) := by
  have F := Fr.start w
  obtain ⟨er, her⟩ : ∃ er, bkErr L = er := ⟨_, rfl⟩
  obtain ⟨V, hV⟩ : ∃ V, (if er = 0 then visQ L k else []) = V := ⟨_, rfl⟩
  obtain ⟨r, hr⟩ : ∃ r, (if er = 0 then atV (visQ L k) s i d else (q0, false)) = r := ⟨_, rfl⟩
  have hVl : V.length ≤ 9223372036854775807 := by
    rw [← hV]
    split
    · have := visQ_len (L := L) (k := k); omega
    · simp
  have hVb : ∀ q ∈ V, q.a < bp 32 ∧ q.b < bp 32 := by
    intro q hq
    rw [← hV] at hq
    split at hq
    · exact ⟨h.a q (visQ_mem hq), h.b q (visQ_mem hq)⟩
    · cases hq
  have hrb : r.1.a < bp 32 ∧ r.1.b < bp 32 := by
    rw [← hr]
    split
    · exact atV_of (p := fun q => q.a < bp 32 ∧ q.b < bp 32) ⟨bp_pos 32, bp_pos 32⟩ (fun q hq => ⟨h.a q (visQ_mem hq), h.b q (visQ_mem hq)⟩)
    · exact ⟨bp_pos 32, bp_pos 32⟩
  have g1 := fun W (hb : Below w.heap.size w W) => qvis_any (cp := cp) (k := k) hL (h.below hb) her
  have g2 := fun W (hb : Below w.heap.size w W) => rvis_any (cp := cp) (k := k) hL (h.below hb) her
  have g3 := fun W (hb : Below w.heap.size w W) => qat_any (cp := cp) (k := k) (d := d) (s := s) (i := i) hL (h.below hb) her hr
  have g4 := fun W (hb : Below w.heap.size w W) => rat_any (cp := cp) (k := k) (d := d) (s := s) (i := i) hL (h.below hb) her hr
  have g5 := fun W (hb : Below w.heap.size w W) => qcheck_any (cp := cp) hL (h.below hb) her
  have g6 := fun W (hb : Below w.heap.size w W) => rcheck_any (cp := cp) hL (h.below hb) her
  have g7 := fun w => qknown14_any w
  have qq := fun w => eq_quo r.1 hrb.1 hrb.2 w
  rw [hV] at g1 g2
  obtain ⟨r1, r2⟩ := r
  dsimp only at g3 g4 qq
  have HVL := Lib.hid hVl
  have HVB := Lib.hid hVb
  clear h her hV hr hVl hVb hrb hL
  generalize bs s = S at *
  generalize bs i = I at *
  go_enter Tryz.func3, Tryz.ntmps3
  go_upto_region 2 with (first | go_skip | (go_at_call 9; refine (g1 _ F.below).mono ?_; rintro e W1 ⟨v1, rfl, hO⟩; have F2 := F.next hO.below; clear F; obtain ⟨A1, c1, rfl, hR1⟩ := VisP.at hO HVL.out; have HR1 := Lib.hid hR1; clear hO hR1 g1; have F := F2; clear F2; (try dsimp only)) | refine aYQ ?_ | (refine aTQ ?_; clear F; intro W F) | refine aNQ ?_)
  go_upto_region 3 with (first | go_skip | (go_at_call 10; refine (g2 _ F.below).mono ?_; rintro e W2 ⟨v2, rfl, hO⟩; have F2 := F.next hO.below; have HR3 := Lib.hid (HR1.out.below hO.below); clear F HR1; obtain ⟨A2, c2, rfl, hR2⟩ := VisP.at hO HVL.out; have HR2 := Lib.hid hR2; clear hO hR2 g2; have F := F2; clear F2; (try dsimp only)) | refine aYQ ?_ | (refine aTQ ?_; clear F; intro W F) | refine aNQ ?_)
  have HW := Lib.hid F.below
  clear F
  have F := Fr.start W2
  go_wp2_with (first | go_skip | ((go_at_call 11); (with_reducible refine fr_call F (g3 _ (bnext HW.out F.below)) ?_); (clear F; intro W F); (try dsimp only)) | refine aYQ ?_ | (refine aTQ ?_; clear F; intro W F) | refine aNQ ?_)
  (clear F; intro b15 W F; try simp only [Act.put, z6, z1, z2])
  go_wp2_with (first | go_skip | ((go_at_call 12); (with_reducible refine fr_call F (g4 _ (bnext HW.out F.below)) ?_); (clear F; intro W F); (try dsimp only)) | refine aYQ ?_ | (refine aTQ ?_; clear F; intro W F) | refine aNQ ?_)
  (clear F; intro b18 W F; try simp only [Act.put, z6, z1, z2])
  go_wp2_with (first | go_skip | ((go_at_call 13); (with_reducible refine fr_call F (g7 _) ?_); (clear F; intro W F); (try dsimp only)) | ((go_at_call 14); (with_reducible refine fr_call F (g5 _ (bnext HW.out F.below)) ?_); (clear F; intro W F); (try dsimp only)) | ((go_at_call 15); (with_reducible refine fr_call F (g6 _ (bnext HW.out F.below)) ?_); (clear F; intro W F); (try dsimp only)) | ((go_at_call 16); (with_reducible refine fr_call F (same_any (HR3.out.below F.below) (HR2.out.below F.below) HVB.out) ?_); (clear F; intro W F); (try dsimp only)) | refine aYQ ?_ | (refine aTQ ?_; clear F; intro W F) | refine aNQ ?_)
  go_ret
  exact ⟨rfl, bnext HW.out F.below⟩
end
section
section
open Go.ChangeShapes Go.WideShapes Go.ChangeAt Go.RowKit Go.Deep
theorem own : ownKnob Tryz.prog.godebug = none := by kernel_rfl
theorem laidOut : laidOutB Tryz.prog = true := by kernel_rfl
section
variable {H : Type} {enc : TypeId × Value → H}
theorem trodAll_below {P : Program} (hl : laidOutB P = true) {W W' : World} (hb : Below W.heap.size W W') : ∀ {ts : List TypeId} {vs : List Value} {ds : List (DataW H)} {ps : List MemPlace},
    (∀ t ∈ ts, P.readableRec t = true ∧ t < P.types.size) → DataW.TrodAll enc P W 0 (fun _ => true) true ts vs ds ps → (∀ x ∈ ps, x.block < W.heap.size) →
    DataW.TrodAll enc P W' 0 (fun b => decide (b < W.heap.size)) true ts vs ds ps
  | [], [], [], _, _, h, _ => h
  | t :: _, _ :: _, _ :: _, _, hT, ⟨p, q, h1, h2, e⟩, hs =>
    ⟨p, q, Below.trod hl (hT t (by simp)).1 (hT t (by simp)).2 h1 hb (fun x hx => hs x (by rw [e]; exact List.mem_append_left _ hx)),
      trodAll_below hl hb (fun u hu => hT u (by simp [hu])) h2 (fun x hx => hs x (by rw [e]; exact List.mem_append_right _ hx)), e⟩
theorem law_post {f : Func} {s : ChangeSpec} {W W' : World} {args : Array Value} {ds : List (DataW H)} {before : List MemPlace} {e : Ending}
    (hv : s.vars = []) (hs : s.fn H ds = { results := [.lit (.bool true)], args := ds })
    (hT0 : (f.params.toList.all fun t => Tryz.prog.readableRec t && decide (t < Tryz.prog.types.size)) = true) (hR : f.resultTypes = #[4])
    (hW : DataW.Whole enc Tryz.prog f.params.toList s.vars false W args.toList ds [] before) (h : RetB (.bool true) W e W') :
    ∃ v, e = .returned v ∧ s.post enc Tryz.prog f false true false false W args v W' := by
  have hT : ∀ t ∈ f.params.toList, Tryz.prog.readableRec t = true ∧ t < Tryz.prog.types.size := fun t ht => by
    have := List.all_eq_true.1 hT0 t ht
    simpa using this
  obtain ⟨he, hb⟩ := h
  have hlt := hW.lt
  refine ⟨_, he, ds, [], before, [], before, [], hW, ?_, ?_, ?_, ?_, fun h => by cases h⟩
  · rw [hR]
    simp only [List.append_nil, hs]
    exact trodAll_mk1 (shut_bool Tryz.underlying4 _)
  · obtain ⟨p, q, hA, hV, rfl, _, _⟩ := hW
    rw [hv] at hV
    obtain ⟨_, rfl⟩ := trodVars_none hV
    simp only [List.append_nil, hs]
    have hA' : DataW.TrodAll enc Tryz.prog W 0 (fun _ => true) true f.params.toList args.toList ds p := hA
    exact trodAll_below laidOut hb hT hA' (fun x hx => hlt x (by simpa using hx))
  · simp only [List.append_nil, hs, hv]
    rfl
  · exact hb.frame _
end
end
end
section
open Go.ChangeShapes Go.WideShapes Go.ChangeAt Go.RowKit Go.Deep
theorem lims_of (n : Nat) (k : Nat → Nat) (hk : ∀ i, i < n → k i < 4294967296) : ∃ a, a < bp n ∧ ∀ i, i < n → lim a i = k i := by
  induction n with
  | zero => exact ⟨0, bp_pos 0, fun i h => absurd h (by omega)⟩
  | succ n ih =>
    obtain ⟨a, h1, h2⟩ := ih (fun i h => hk i (by omega))
    refine ⟨setM a n (k n), setM_new_lt h1 (hk n (by omega)), fun i hi => ?_⟩
    by_cases e : i = n
    · subst e
      rw [lim_set (hk i (by omega)), if_pos rfl]
    · rw [lim_set (hk n (by omega)), if_neg e]
      exact h2 i (by omega)
section
variable {H : Type} {enc : TypeId × Value → H}
theorem open_arr {W : World} {base : Nat} {sp : Nat → Bool} {held : Bool} {fuel : Nat} {cs : List Value} {x : DataW H × List MemPlace}
    (h : DataW.trod enc Tryz.prog W base sp held fuel 27 cs = some x) : ∃ a, a < bp 32 ∧ cs = (limA 32 a).toList := by
  obtain ⟨e, hu, he, hce⟩ := arr_und
  obtain ⟨xs, m, -, -, hl, hx, hel⟩ := DataW.trod_array hu h
  have hce1 : Tryz.prog.cellsOf e = 1 := by
    unfold Program.cellsOf
    cases hi : Tryz.prog.info? e with
    | none => rw [hi] at hce; cases hce
    | some i => rw [hi] at hce; simpa using hce
  have hl32 : cs.length = 32 := hl.trans (by kernel_rfl)
  have key : ∀ i, ∃ k : Nat, i < 32 → cs[i]? = some (.int .u32 (k : Int)) ∧ k < 4294967296 := by
    intro i
    by_cases hi : i < 32
    · have h1 := hel i hi
      rw [hce1, Nat.mul_one] at h1
      have h2 : xs[i]? = some xs[i] := List.getElem?_eq_getElem (by omega)
      rw [h2] at h1
      obtain ⟨n, hn, -, hw⟩ := DataW.trod_int he h1
      have h3 : cs[i]? = some (.int .u32 n) := by
        have h4 : cs[i]? = some cs[i] := List.getElem?_eq_getElem (by omega)
        have h5 : (List.take 1 (cs.drop i))[0]? = some cs[i] := by rw [List.getElem?_take_of_lt (by omega), List.getElem?_drop, Nat.add_zero]; exact h4
        rw [hn] at h5
        rw [h4, ← h5]
        rfl
      have hb : 0 ≤ n ∧ n < 4294967296 := by
        simp [Lit.wf, IntKind.min, IntKind.max, IntKind.signed, IntKind.bits] at hw
        omega
      exact ⟨n.toNat, fun _ => ⟨by rw [h3, Int.toNat_of_nonneg hb.1], by omega⟩⟩
    · exact ⟨0, fun h => absurd h hi⟩
  obtain ⟨a, ha, hlim⟩ := lims_of 32 (fun i => (key i).choose) (fun i hi => ((key i).choose_spec hi).2)
  refine ⟨a, ha, List.ext_getElem? fun i => ?_⟩
  by_cases hi : i < 32
  · have h6 : (limA 32 a).toList[i]? = (limA 32 a)[i]? := by simp
    rw [h6, limA_at hi, hlim i hi]
    exact ((key i).choose_spec hi).1
  · rw [List.getElem?_eq_none (by omega), List.getElem?_eq_none (by rw [Array.length_toList, limA_size]; omega)]
set_option maxRecDepth 100000 in
theorem open_int33 {W : World} {base : Nat} {sp : Nat → Bool} {held : Bool} {fuel : Nat} {cs : List Value} {x : DataW H × List MemPlace}
    (h : DataW.trod enc Tryz.prog W base sp held fuel 29 cs = some x) : ∃ (n : Bool) (a : Nat), a < bp 32 ∧ cs = (intC n a).toList := by
  obtain ⟨y0, y1, n, -, hl, h0, h1⟩ := trod_struct2 Tryz.underlying29 h
  have hl33 : cs.length = 33 := hl.trans (by kernel_rfl)
  have c0 : Tryz.prog.cellsOf 4 = 1 := by kernel_rfl
  have c1 : Tryz.prog.cellsOf 27 = 32 := by kernel_rfl
  have h0' : DataW.trod enc Tryz.prog W base sp held n 4 (cs.take 1) = some y0 := by rw [← c0]; exact h0
  have h1' : DataW.trod enc Tryz.prog W base sp held n 27 ((cs.drop 1).take 32) = some y1 := by rw [← c1]; exact h1
  obtain ⟨b, hb, -⟩ := DataW.trod_bool Tryz.underlying4 h0'
  obtain ⟨a, ha, hc⟩ := open_arr h1'
  refine ⟨b, a, ha, ?_⟩
  rw [List.take_of_length_le (by rw [List.length_drop]; omega)] at hc
  unfold intC
  rw [Array.toList_append, ← hc]
  show cs = [.bool b] ++ cs.drop 1
  rw [← hb, List.take_append_drop]
set_option maxRecDepth 100000 in
theorem open_rat {W : World} {base : Nat} {sp : Nat → Bool} {held : Bool} {fuel : Nat} {cs : List Value} {x : DataW H × List MemPlace}
    (h : DataW.trod enc Tryz.prog W base sp held fuel 31 cs = some x) : ∃ (p : Bool) (a : Nat) (q : Bool) (b : Nat), a < bp 32 ∧ b < bp 32 ∧ cs = (ratC p a q b).toList := by
  obtain ⟨y0, y1, n, -, hl, h0, h1⟩ := trod_struct2 Tryz.underlying31 h
  have hl66 : cs.length = 66 := hl.trans (by kernel_rfl)
  have c0 : Tryz.prog.cellsOf 29 = 33 := by kernel_rfl
  have h0' : DataW.trod enc Tryz.prog W base sp held n 29 (cs.take 33) = some y0 := by rw [← c0]; exact h0
  have h1' : DataW.trod enc Tryz.prog W base sp held n 29 ((cs.drop 33).take 33) = some y1 := by rw [← c0]; exact h1
  obtain ⟨p, a, ha, e1⟩ := open_int33 h0'
  obtain ⟨q, b, hb, e2⟩ := open_int33 h1'
  rw [List.take_of_length_le (by rw [List.length_drop]; omega)] at e2
  refine ⟨p, a, q, b, ha, hb, ?_⟩
  unfold ratC
  rw [Array.toList_append, ← e1, ← e2, List.take_append_drop]
end
theorem gP10 : Tryz.prog.globalNamed "internal/strconv.uint64pow10" = some 6 := by kernel_rfl
end
section
open Go.ChangeShapes Go.WideShapes Go.ChangeAt Go.RowKit Go.Deep
abbrev laid7 : List (String × DataW Unit) := [("math/bits.deBruijn32tab", Rows.laid_math_bits_deBruijn32tab), ("math/bits.deBruijn64tab", Rows.laid_math_bits_deBruijn64tab), ("internal/strconv.uint64pow10", Rows.laid_internal_strconv_uint64pow10), ("unicode/utf8.acceptRanges", Rows.laid_unicode_utf8_acceptRanges), ("strconv.ErrRange", Rows.laid_strconv_ErrRange), ("strconv.ErrSyntax", Rows.laid_strconv_ErrSyntax), ("unicode/utf8.first", Rows.laid_unicode_utf8_first)]
theorem tab7 {W : World} (h : laidMetH Tryz.prog laid7 W) : Tab W := by
  rw [MakeChecks.laidMetH_plain _ _ _ (by kernel_rfl)] at h
  obtain ⟨ps, ⟨g0, t0, cs0, f0, p0, q0, hg0, ht0, hv0, hd0, ⟨g1, t1, cs1, f1, p1, q1, hg1, ht1, hv1, hd1, ⟨g2, t2, cs2, f2, p2, q2, hg2, ht2, hv2, hd2, _, _⟩, _⟩, _⟩, _, _⟩ := h
  obtain rfl := Option.some.inj (gP10.symm.trans hg2)
  obtain ⟨t, e, n, hty, hu, he, hce, hct⟩ : ∃ t e n, (Tryz.prog.globals[6]?).map (·.type) = some t ∧ Tryz.prog.underlying t = some (.array n e) ∧ Tryz.prog.underlying e = some (.int .u64) ∧ Tryz.prog.cellsOf e = 1 ∧ Tryz.prog.cellsOf t = n := ⟨_, _, _, by kernel_rfl, Tryz.underlying261, Tryz.underlying171, by kernel_rfl, by kernel_rfl⟩
  obtain rfl := Option.some.inj (hty.symm.trans ht2)
  unfold Tab Lib.TabIs
  rw [hv2, ← Lib.cells_of_tab hu he hce hct hd2]
theorem door7 (os : Os) (args : Array Value) : laidMetH Tryz.prog laid7 ((World.laidAll Tryz.prog os laid7).forCall (fun _ _ => 0) ⟨#[], args, []⟩).memory := by
  rw [MakeChecks.laidMetH_plain _ _ _ (by kernel_rfl)]
  exact laidMet_laidAll _ (by kernel_rfl) (by kernel_rfl)
end
section
open Go.ChangeShapes Go.WideShapes Go.ChangeAt Go.RowKit Go.Deep
theorem maxL {s : ByteArray} (h : s.size ≤ maxLen) : s.data.toList.length ≤ 9223372036854775807 := by
  unfold maxLen at h
  have : s.data.toList.length = s.size := by simp
  omega
section
variable {H : Type} {enc : TypeId × Value → H}
theorem qstr1 {W : World} {n : Nat} {c : Value} {y : DataW H × List MemPlace} (h : DataW.trod enc Tryz.prog W 0 (fun _ => true) true n 9 [c] = some y) : ∃ s : ByteArray, c = .string s ∧ s.size ≤ maxLen := by
  obtain ⟨s, hs, _, hm⟩ := DataW.trod_string Tryz.underlying9 h
  simp only [List.cons.injEq, and_true] at hs
  exact ⟨s, hs, hm⟩
theorem qint1 {W : World} {n : Nat} {c : Value} {y : DataW H × List MemPlace} (h : DataW.trod enc Tryz.prog W 0 (fun _ => true) true n 3 [c] = some y) : ∃ s : Int, c = .int .i64 s := by
  obtain ⟨s, hs, _, _⟩ := DataW.trod_int Tryz.underlying3 h
  simp only [List.cons.injEq, and_true] at hs
  exact ⟨s, hs⟩
theorem qbool1 {W : World} {n : Nat} {c : Value} {y : DataW H × List MemPlace} (h : DataW.trod enc Tryz.prog W 0 (fun _ => true) true n 4 [c] = some y) : ∃ s : Bool, c = .bool s := by
  obtain ⟨s, hs, _⟩ := DataW.trod_bool Tryz.underlying4 h
  simp only [List.cons.injEq, and_true] at hs
  exact ⟨s, hs⟩
def QT.good (q : QT) : Prop := q.a < bp 32 ∧ q.b < bp 32 ∧ q.src.length ≤ 9223372036854775807 ∧ q.ins.length ≤ 9223372036854775807 ∧ q.cur.length ≤ 9223372036854775807
set_option maxRecDepth 100000 in
theorem open_q1 {W : World} {fuel : Nat} {cs : List Value} {x : DataW H × List MemPlace}
    (h : DataW.trod enc Tryz.prog W 0 (fun _ => true) true fuel 33 cs = some x) (hl : cs.length = 72) : ∃ q : QT, cs = (qC q).toList ∧ q.good := by
  obtain ⟨xs, n, _, _, hl2, hlen, hf⟩ := DataW.trod_struct Tryz.underlying33 h
  obtain ⟨c0, c1, c2, c3, r, rfl⟩ : ∃ c0 c1 c2 c3 r, cs = c0 :: c1 :: c2 :: c3 :: r := by
    match cs, hl with
    | c0 :: c1 :: c2 :: c3 :: r, _ => exact ⟨c0, c1, c2, c3, r, rfl⟩
  have hr : r.length = 68 := by simpa using hl
  match xs, hlen with
  | [y0, y1, y2, y3, y4, y5, y6], _ =>
    have h0 : DataW.trod enc Tryz.prog W 0 (fun _ => true) true n 9 [c0] = some y0 := hf 0 _ rfl
    have h1 : DataW.trod enc Tryz.prog W 0 (fun _ => true) true n 9 [c1] = some y1 := hf 1 _ rfl
    have h2 : DataW.trod enc Tryz.prog W 0 (fun _ => true) true n 9 [c2] = some y2 := hf 2 _ rfl
    have h3 : DataW.trod enc Tryz.prog W 0 (fun _ => true) true n 3 [c3] = some y3 := hf 3 _ rfl
    have h4 : DataW.trod enc Tryz.prog W 0 (fun _ => true) true n 31 (r.take (Tryz.prog.cellsOf 31)) = some y4 := hf 4 _ rfl
    rw [show Tryz.prog.cellsOf 31 = 66 by kernel_rfl] at h4
    have h5 : DataW.trod enc Tryz.prog W 0 (fun _ => true) true n 3 ((r.drop 66).take 1) = some y5 := hf 5 _ rfl
    have h6 : DataW.trod enc Tryz.prog W 0 (fun _ => true) true n 4 ((r.drop 67).take 1) = some y6 := hf 6 _ rfl
    obtain ⟨u, v, huv⟩ : ∃ u v, r.drop 66 = [u, v] := by
      have : (r.drop 66).length = 2 := by rw [List.length_drop, hr]
      match r.drop 66, this with
      | [u, v], _ => exact ⟨u, v, rfl⟩
    have h67 : r.drop 67 = [v] := by
      have : r.drop 67 = (r.drop 66).drop 1 := by rw [List.drop_drop]
      rw [this, huv]
      rfl
    rw [huv] at h5
    rw [h67] at h6
    obtain ⟨a0, rfl, b0⟩ := qstr1 h0
    obtain ⟨a1, rfl, b1⟩ := qstr1 h1
    obtain ⟨a2, rfl, b2⟩ := qstr1 h2
    obtain ⟨a3, rfl⟩ := qint1 h3
    obtain ⟨a5, rfl⟩ := qint1 h5
    obtain ⟨a6, rfl⟩ := qbool1 h6
    obtain ⟨p, m, q, k, hm, hk, hc⟩ := open_rat h4
    refine ⟨⟨a0.data.toList, a1.data.toList, a2.data.toList, a3, p, m, q, k, a5, a6⟩, ?_, hm, hk, maxL b0, maxL b1, maxL b2⟩
    unfold qC qHd qTl
    rw [Array.toList_append, Array.toList_append, ← hc, bs_of, bs_of, bs_of]
    show Value.string a0 :: Value.string a1 :: Value.string a2 :: Value.int .i64 a3 :: r = _
    conv => lhs; rw [← List.take_append_drop 66 r, huv]
    rfl
theorem cells_quo : Tryz.prog.cellsOf 33 = 72 := by kernel_rfl
theorem open_quotes {W : World} {A : Option Addr} {len cap : Nat} {d : DataW H} {p : List MemPlace}
    (h : DataW.Trod enc Tryz.prog W 0 (fun _ => true) true 22 (.slice A len cap) d p) : ∃ L : List QT, len = L.length ∧ QuAt W A L := by
  obtain ⟨L, h1, h2, h3⟩ := open_recs (fun x => (qC x).toList) QT.good 72 q0 (fun y => by rw [Array.length_toList, qC_size]) Tryz.underlying22 cells_quo (by omega)
    (fun fuel cs x ht hl => open_q1 ht hl) h
  exact ⟨L, h1, h2, fun q hq => (h3 q hq).1, fun q hq => (h3 q hq).2.1, fun q hq => (h3 q hq).2.2.1, fun q hq => (h3 q hq).2.2.2.1, fun q hq => (h3 q hq).2.2.2.2⟩
theorem quotes_len {W : World} {A : Option Addr} {len cap j : Nat} {d : DataW H} {p : List MemPlace} {ts : List TypeId} {ds : List (DataW H)}
    (h : DataW.Trod enc Tryz.prog W 0 (fun _ => true) true 22 (.slice A len cap) d p) (hz : (DataW.weightsEach Tryz.prog ts ds).all (· ≤ reachBytes) = true) (ht : ts[j]? = some 22) (hd : ds[j]? = some d) : len ≤ 1000000000000 := by
  obtain ⟨fuel, hf⟩ := h
  rcases open_slice Tryz.underlying22 hf with ⟨hc, _⟩ | ⟨a, l, c, m, k, D, Pl, hc, _, hle, hcap, hmm, hx, hel⟩
  · simp [Value.cells] at hc
    omega
  · simp [Value.cells] at hc
    obtain ⟨rfl, rfl, rfl⟩ := hc
    injection hx with hx1 hx2
    have := sized_slice hz ht (hd.trans (congrArg some hx1)) Tryz.underlying22
    rw [show Tryz.prog.bytesOf 33 = 336 by kernel_rfl] at this
    unfold reachBytes at this
    simp at this
    omega
end
end
section
def hH : List Char := [104, 97, 114, 110, 101, 115, 115].map Char.ofNat
def hS : List Char := [49, 97, 50, 56, 100, 98, 50, 50, 52, 102, 101, 101, 52, 56, 52, 54, 48, 98, 99, 55, 55, 102, 98, 101, 100, 49, 48, 98, 50, 100, 101, 55, 53, 101, 54, 98, 54, 102, 100, 55, 101, 51, 48, 100, 98, 52, 55, 55, 100, 57, 57, 98, 53, 53, 102, 48, 101, 99, 57, 57, 51, 49, 97, 57].map Char.ofNat
def hC : List Char := [99, 117, 116].map Char.ofNat
def hQ : List Char := [97, 116, 32, 102, 117, 110, 100, 97, 100, 109, 105, 110, 47, 102, 117, 110, 100, 97, 100, 109, 105, 110, 108, 97, 119, 49, 52, 46, 81, 117, 111, 116, 101, 66, 111, 111, 107, 115, 32, 102, 117, 110, 100, 97, 100, 109, 105, 110, 47, 102, 117, 110, 100, 97, 100, 109, 105, 110, 108, 97, 119, 49, 52, 46, 81, 117, 111, 116, 101, 80, 108, 97, 121, 115, 32, 102, 117, 110, 100, 97, 100, 109, 105, 110, 47, 102, 117, 110, 100, 97, 100, 109, 105, 110, 108, 97, 119, 49, 52, 46, 81, 117, 111, 116, 101, 67, 111, 114, 114, 101, 99, 116, 115, 32, 102, 117, 110, 100, 97, 100, 109, 105, 110, 47, 102, 117, 110, 100, 97, 100, 109, 105, 110, 108, 97, 119, 49, 52, 46, 81, 117, 111, 116, 101, 76, 105, 110, 101, 115, 32, 102, 117, 110, 100, 97, 100, 109, 105, 110, 47, 102, 117, 110, 100, 97, 100, 109, 105, 110, 108, 97, 119, 49, 52, 46, 81, 117, 111, 116, 101, 82, 101, 97, 100, 115, 32, 102, 117, 110, 100, 97, 100, 109, 105, 110, 47, 102, 117, 110, 100, 97, 100, 109, 105, 110, 108, 97, 119, 49, 52, 46, 81, 117, 111, 116, 101, 66, 97, 99, 107].map Char.ofNat
def hB : Char := Char.ofNat 32
theorem ord_eq : Tryz.prog.initOrder = String.ofList (hH ++ hB :: (hS ++ hB :: (hC ++ hB :: hQ))) := by kernel_rfl
theorem ord_list : Tryz.prog.initOrder.toList = hH ++ hB :: (hS ++ hB :: (hC ++ hB :: hQ)) := by rw [ord_eq]; exact String.toList_ofList
theorem words_app (p r : List Char) (h : p.all (fun c => decide (c ≠ hB)) = true) : wordsSigns (p ++ hB :: r) = p :: wordsSigns r := by
  induction p with
  | nil => rfl
  | cons c p ih =>
    simp only [List.all_cons, Bool.and_eq_true, decide_eq_true_eq] at h
    have ih' := ih h.2
    show wordsSigns (c :: (p ++ hB :: r)) = (c :: p) :: wordsSigns r
    rw [wordsSigns.eq_def]
    split
    · rename_i hh; cases hh
    · rename_i r' hh
      injection hh with h1 h2
      exact absurd h1 h.1
    · rename_i c' r' _ hh
      injection hh with h1 h2
      subst h1 h2
      rw [ih']
theorem behind_at (h : List Char) (t : List Char) (r : List (List Char)) (hh : ((h == "harness".toList || h == "ownmain".toList) && isSumSigns t) = true) : behindMainWord (h :: t :: r) = r := by
  show (if ((h == "harness".toList || h == "ownmain".toList) && isSumSigns t) = true then r else h :: t :: r) = r
  rw [if_pos hh]
theorem behind : behindMainWord (wordsSigns Tryz.prog.initOrder.toList) = hC :: wordsSigns hQ := by
  rw [ord_list, words_app _ _ (by decide +kernel), words_app _ _ (by decide +kernel), words_app _ _ (by decide +kernel)]
  exact behind_at _ _ _ (by decide +kernel)
theorem st1 (o : String) (os : List String) (w : List Char) (ws : List (List Char)) (h : (w == o.toList) = false) : stripLifts (o :: os) (w :: ws) = stripLifts os (w :: ws) := by
  rw [stripLifts, h]; rfl
theorem strip_cut (ws : List (List Char)) : stripLifts liftWords (hC :: ws) = ([], hC :: ws) := by
  show stripLifts ["finals", "reflectrows", "leanrows", "onebuild", "publicsums", "eqguard", "ownunsafe", "libbeside", "ownbeside", "reflbeside", "aliases", "afterinit", "crcplain", "roadunsafe", "fmthandon"] (hC :: ws) = _
  rw [st1 _ _ _ _ (by decide +kernel), st1 _ _ _ _ (by decide +kernel), st1 _ _ _ _ (by decide +kernel), st1 _ _ _ _ (by decide +kernel), st1 _ _ _ _ (by decide +kernel), st1 _ _ _ _ (by decide +kernel), st1 _ _ _ _ (by decide +kernel), st1 _ _ _ _ (by decide +kernel), st1 _ _ _ _ (by decide +kernel), st1 _ _ _ _ (by decide +kernel), st1 _ _ _ _ (by decide +kernel), st1 _ _ _ _ (by decide +kernel), st1 _ _ _ _ (by decide +kernel), st1 _ _ _ _ (by decide +kernel), st1 _ _ _ _ (by decide +kernel)]
  rfl
theorem mayEnter_of (P : Program) (ws : List (List Char)) (h : behindMainWord (wordsSigns P.initOrder.toList) = hC :: ws) (h1 : P.laysLater = false) (h2 : P.bearsReflect = false) (h3 : P.doorFits [] = true) : P.mayEnter = true := by
  unfold Program.mayEnter
  rw [h]
  simp only [strip_cut, h1, h2, h3]
  have e : ((List.head? (hC :: ws)) == some "cut".toList) = true := by
    show (hC == "cut".toList) = true
    decide +kernel
  rw [e]
  simp
theorem headLifts_of (P : Program) (ws : List (List Char)) (h : behindMainWord (wordsSigns P.initOrder.toList) = hC :: ws) : P.headLifts = [] := by
  unfold Program.headLifts
  rw [h]
  simp only [strip_cut]
  split <;> rfl
theorem liftsFinal_of (P : Program) (ws : List (List Char)) (h : behindMainWord (wordsSigns P.initOrder.toList) = hC :: ws) : P.liftsFinal = false := by
  unfold Program.liftsFinal
  rw [h, headLifts_of P ws h]
  have e : ((List.head? (hC :: ws)) == some "carried".toList) = false := by
    show (hC == "carried".toList) = false
    decide +kernel
  simp only [e]
  simp
theorem make_of (P : Program) (ws : List (List Char)) (h : behindMainWord (wordsSigns P.initOrder.toList) = hC :: ws) : P.make = some .cut := by
  unfold Program.make
  rw [h]
  have e1 : (hC == "gc".toList || hC == "spec".toList) = false := by decide +kernel
  have e2 : (hC == "cut".toList) = true := by decide +kernel
  simp only [e1, e2]
  simp
theorem mayEnter_eq : Tryz.prog.mayEnter = true := mayEnter_of _ _ behind (by kernel_rfl) (by kernel_rfl) (by kernel_rfl)
theorem liftsFinal_eq : Tryz.prog.liftsFinal = false := liftsFinal_of _ _ behind
theorem make_eq : Tryz.prog.make = some .cut := make_of _ _ behind
end
end Go.Proofs.YteaahhokaffmdaaGreatDoor
