/-
  Suspensions: lists, checked.
-/
import Derived.Test.YtffmmkjoknghoaaGreatSusWalk
import Derived.Deep.RegionHeld3
import Derived.Test.YtffmmkjoknghoaaGreatRegion
import Derived.IntWalk
namespace Go.Proofs.YtffmmkjoknghoaaGreat
open Go.RowKit
set_option linter.unusedVariables false
set_option maxHeartbeats 4000000
/-- A suspension in a box, beside a list. -/
structure CkS (W : World) (g : Nat) (x : SU) (A : Option Addr) (l : List SU) : Prop where
  blk : BlkAt W g (suV x) 77
  su : SuAt W A l
theorem CkS.next {W W' : World} {g : Nat} {x : SU} {A : Option Addr} {l : List SU} (h : CkS W g x A l) (hb : Below W.heap.size W W') : CkS W' g x A l := ⟨h.blk.next hb, h.su.below hb⟩
theorem CkS.q {W : World} {g : Nat} {x : SU} {A : Option Addr} {l : List SU} (h : CkS W g x A l) : (W.cell? ⟨g, 0, none⟩ = some (.string x.key) ∧ W.cell? ⟨g, 1, none⟩ = some (.string x.fund) ∧ W.cell? ⟨g, 2, none⟩ = some (.int .i64 x.frm) ∧ W.cell? ⟨g, 3, none⟩ = some (.int .i64 x.til) ∧ W.cell? ⟨g, 4, none⟩ = some (.int .i64 x.known) ∧ W.cell? ⟨g, 5, none⟩ = some (.bool x.void)) ∧ CkS W g x A l := ⟨suQ h.blk, h⟩
/-- .. and the number of the record before it. -/
theorem CkS.q2 {W : World} {g b o : Nat} {x y : SU} {l : List SU} {i : Nat} (h : CkS W g x (some ⟨b, o, none⟩) l) (hy : l[i]? = some y) : (W.cell? ⟨g, 0, none⟩ = some (.string x.key) ∧ W.cell? ⟨g, 1, none⟩ = some (.string x.fund) ∧ W.cell? ⟨g, 2, none⟩ = some (.int .i64 x.frm) ∧ W.cell? ⟨g, 3, none⟩ = some (.int .i64 x.til) ∧ W.cell? ⟨g, 4, none⟩ = some (.int .i64 x.known) ∧ W.cell? ⟨g, 5, none⟩ = some (.bool x.void)) ∧ W.cell? ⟨b, o + i * 6 + 4, none⟩ = some (.int .i64 y.known) ∧ CkS W g x (some ⟨b, o, none⟩) l := by
  refine ⟨suQ h.blk, ?_, h⟩
  obtain ⟨b2, o2, z, e, hz, -, -, -, -, -, -, hk, -⟩ := h.su.get (i := i) (List.getElem?_eq_some_iff.1 hy).1
  injection e with e
  injection e with e1 e2
  subst e1 e2
  rw [hy] at hz
  injection hz with hz
  subst hz
  exact hk
/-- The number of the record before place i. -/
def prevK (l : List SU) (i : Nat) : Int := if i = 0 then 0 else match l[i - 1]? with | some x => x.known | none => 0
theorem prevK_succ {l : List SU} {i : Nat} {x : SU} (h : l[i]? = some x) : prevK l (i + 1) = x.known := by
  unfold prevK
  rw [if_neg (by omega), Nat.add_sub_cancel, h]
theorem susFrom_drop (l : List SU) {i : Nat} {x : SU} (hx : l[i]? = some x) (last : Int) : susFrom last (l.drop i) = (x.ok && decide (last < x.known) && susFrom x.known (l.drop (i + 1))) := by
  have hl := List.getElem?_eq_some_iff.1 hx
  obtain ⟨hl, e⟩ := hl
  rw [List.drop_eq_getElem_cons hl, e]
  rfl
theorem SU.ok_known {x : SU} (h : x.ok = true) : 1 ≤ x.known := by
  unfold SU.ok at h
  simp only [Bool.and_eq_true] at h
  exact ((knB_iff _).1 h.1.2).1
theorem right_is (hN : NameC 65) {x : SU} {v : Bool} (hv : x.ok = v) (w : World) (hs : x.small) : Calls Tryz.prog 44 #[.agg #[.string x.key, .string x.fund, .int .i64 x.frm, .int .i64 x.til, .int .i64 x.known, .bool x.void]] w (RetB (.bool v) w) := by
  subst hv
  exact right_any hN x w hs
theorem suval_is (hN : NameC 72) {x : SU} {v : Bool} (hv : x.ok = v) (w : World) (hs : x.small) : Calls Tryz.prog 100 #[.agg #[.string x.key, .string x.fund, .int .i64 x.frm, .int .i64 x.til, .int .i64 x.known, .bool x.void]] w (RetB (.bool v) w) := by
  subst hv
  exact suval_any hN x w hs
set_option maxRecDepth 100000 in
theorem sChk_any (hN : NameC 65) (l : List SU) (A : Option Addr) (cp : Nat) (w : World) (h : SuAt w A l) : Calls Tryz.prog 17 #[.slice A l.length cp] w (RetB (.int .i64 (susErr l)) w) := by
  have hln := h.ln
  by_cases hl : l.length ≤ 4096
  · obtain ⟨v, hv⟩ : ∃ v, susErr l = v := ⟨_, rfl⟩
    rw [hv]
    have HV := Lib.hid hv
    clear hv
    go_enter Tryz.func17, Tryz.ntmps17
    go_wp2
    go_loopw [10] (fun iv wr => ∃ i : Nat, i ≤ l.length ∧ iv = .int .i64 i ∧ susFrom 0 l = susFrom (prevK l i) (l.drop i) ∧ SuAt wr A l ∧ Below w.heap.size w wr) (fun iv _ => l.length - (intOf iv).toNat)
    case atStart => exact ⟨0, by omega, rfl, rfl, h, Below.refl _ _⟩
    case round =>
      obtain ⟨i, hi, rfl, hE, hS, hB⟩ := hrel
      have HE := Lib.hid hE
      clear hE h
      by_cases hlt : i < l.length
      · obtain ⟨b, o, x, rfl, hx, hbl, hsm, q0, q1, q2, q3, q4, q5⟩ := hS.get hlt
        have HX := Lib.hid hx
        have HD := Lib.hid (susFrom_drop l hx)
        have HS := Lib.hid hS
        clear hx
        have hC0 : CkS (wr.alloc (.cells (suV x) 77)) wr.heap.size x (some ⟨b, o, none⟩) l := ⟨BlkAt.new _ _ _, hS.below (bal0 _ _)⟩
        have HC := Lib.hid hC0
        have hB2 := bal hB (.cells (suV x) 77)
        clear hS hC0
        cases hok : x.ok
        · have hr := right_is hN hok (hs := hsm)
          have HO := Lib.hid hok
          clear hok
          go_wp2_with ((with_reducible refine wpl_store_new rfl 77 _ _ rfl (suV x) ?_ ?_ (rowSu _) ?_ ?_); exact rfl; exact rfl; exact rfl)
          clear q0 q1 q2 q3 q4 q5
          obtain ⟨p0, p1, p2, p3, p4, p5⟩ := suQ HC.out.blk
          (refine wp_region_any (by kernel_rfl) ?_; try (change wpAny _ _ _ _ _ _ _ (World.drew _)))
          (refine wpAny_ready (rs := [0]) (by kernel_rfl) (by simp) ?_; refine AllReady.cons rfl (fun K hK => ?_) AllReady.nil; go_simp)
          (refine hK _ _ ?_; clear hK K)
          (refine wpAny_ready (rs := [1]) (by kernel_rfl) (by simp) ?_; refine AllReady.cons rfl (fun K hK => ?_) AllReady.nil; go_simp)
          refine (hr _).mono ?_
          rintro e w4 ⟨rfl, hb4⟩
          go_wp2_with fail
          ((refine rg_take 2 17 (v := ?_) rfl (by kernel_rfl) (by kernel_rfl) (by kernel_rfl) (by kernel_rfl) (fun _ _ _ h => h) (Or.inl ⟨by kernel_rfl, ?_⟩) ?_; rotate_left; (focus (intro w; go_simp; try (with_reducible rfl))); (simp only [List.set_cons_zero, List.set_cons_succ])); (refine rg_take 3 18 (v := ?_) rfl (by kernel_rfl) (by kernel_rfl) (by kernel_rfl) (by kernel_rfl) (fun _ _ _ h => h) (Or.inl ⟨by kernel_rfl, ?_⟩) ?_; rotate_left; (focus (intro w; go_simp; try (with_reducible rfl))); (simp only [List.set_cons_zero, List.set_cons_succ])))
          ((refine rg_take 4 19 (v := undef) rfl (by kernel_rfl) (by kernel_rfl) (by kernel_rfl) (by kernel_rfl) (fun _ _ _ h => h) (Or.inr ⟨by kernel_rfl, rfl⟩) ?_; (simp only [List.set_cons_zero, List.set_cons_succ])); (refine rg_take 5 20 (v := undef) rfl (by kernel_rfl) (by kernel_rfl) (by kernel_rfl) (by kernel_rfl) (fun _ _ _ h => h) (Or.inr ⟨by kernel_rfl, rfl⟩) ?_; (simp only [List.set_cons_zero, List.set_cons_succ])); (refine rg_take 6 21 (v := undef) rfl (by kernel_rfl) (by kernel_rfl) (by kernel_rfl) (by kernel_rfl) (fun _ _ _ h => h) (Or.inr ⟨by kernel_rfl, rfl⟩) ?_; (simp only [List.set_cons_zero, List.set_cons_succ])); (refine rg_take 7 22 (v := undef) rfl (by kernel_rfl) (by kernel_rfl) (by kernel_rfl) (by kernel_rfl) (fun _ _ _ h => h) (Or.inr ⟨by kernel_rfl, rfl⟩) ?_; (simp only [List.set_cons_zero, List.set_cons_succ])); (refine rg_take 8 23 (v := undef) rfl (by kernel_rfl) (by kernel_rfl) (by kernel_rfl) (by kernel_rfl) (fun _ _ _ h => h) (Or.inr ⟨by kernel_rfl, rfl⟩) ?_; (simp only [List.set_cons_zero, List.set_cons_succ])); (refine rg_take 9 24 (v := undef) rfl (by kernel_rfl) (by kernel_rfl) (by kernel_rfl) (by kernel_rfl) (fun _ _ _ h => h) (Or.inr ⟨by kernel_rfl, rfl⟩) ?_; (simp only [List.set_cons_zero, List.set_cons_succ])); (refine rg_take 10 25 (v := undef) rfl (by kernel_rfl) (by kernel_rfl) (by kernel_rfl) (by kernel_rfl) (fun _ _ _ h => h) (Or.inr ⟨by kernel_rfl, rfl⟩) ?_; (simp only [List.set_cons_zero, List.set_cons_succ])); (refine rg_take 11 26 (v := undef) rfl (by kernel_rfl) (by kernel_rfl) (by kernel_rfl) (by kernel_rfl) (fun _ _ _ h => h) (Or.inr ⟨by kernel_rfl, rfl⟩) ?_; (simp only [List.set_cons_zero, List.set_cons_succ])); (refine rg_take 12 27 (v := undef) rfl (by kernel_rfl) (by kernel_rfl) (by kernel_rfl) (by kernel_rfl) (fun _ _ _ h => h) (Or.inr ⟨by kernel_rfl, rfl⟩) ?_; (simp only [List.set_cons_zero, List.set_cons_succ])); (refine rg_take 13 28 (v := undef) rfl (by kernel_rfl) (by kernel_rfl) (by kernel_rfl) (by kernel_rfl) (fun _ _ _ h => h) (Or.inr ⟨by kernel_rfl, rfl⟩) ?_; (simp only [List.set_cons_zero, List.set_cons_succ])); (refine rg_take 14 29 (v := undef) rfl (by kernel_rfl) (by kernel_rfl) (by kernel_rfl) (by kernel_rfl) (fun _ _ _ h => h) (Or.inr ⟨by kernel_rfl, rfl⟩) ?_; (simp only [List.set_cons_zero, List.set_cons_succ])); (refine rg_take 15 30 (v := undef) rfl (by kernel_rfl) (by kernel_rfl) (by kernel_rfl) (by kernel_rfl) (fun _ _ _ h => h) (Or.inr ⟨by kernel_rfl, rfl⟩) ?_; (simp only [List.set_cons_zero, List.set_cons_succ])); (refine rg_take 16 31 (v := undef) rfl (by kernel_rfl) (by kernel_rfl) (by kernel_rfl) (by kernel_rfl) (fun _ _ _ h => h) (Or.inr ⟨by kernel_rfl, rfl⟩) ?_; (simp only [List.set_cons_zero, List.set_cons_succ])))
          ((refine rg_take 17 32 (v := ?_) rfl (by kernel_rfl) (by kernel_rfl) (by kernel_rfl) (by kernel_rfl) (fun _ _ _ h => h) (Or.inl ⟨by kernel_rfl, ?_⟩) ?_; rotate_left; (focus (intro w; go_simp; try (with_reducible rfl))); (simp only [List.set_cons_zero, List.set_cons_succ])))
          (refine wpAny_done (by kernel_rfl) ?_ _)
          go_wp2_with fail
          go_ret
          exact ⟨ret_int (by rw [← HV.out, susErr_bad (by unfold susB; rw [HE.out, HD.out, HO.out]; simp)]), bnext (bnext hB2 ((Below.refl _ _).drew)) hb4⟩
        · have hr := right_is hN hok (hs := hsm)
          have HO := Lib.hid hok
          have hk1 := SU.ok_known hok
          clear hok
          rcases Nat.eq_zero_or_pos i with hi0 | hi0
          · have d0 : decide (0 < i) = false := by simpa using hi0
            have HP : Hid (prevK l i = 0) := Lib.hid (by rw [hi0]; rfl)
            have HK1 := Lib.hid hk1
            clear hk1 hi0
            go_wp2_with ((with_reducible refine wpl_store_new rfl 77 _ _ rfl (suV x) ?_ ?_ (rowSu _) ?_ ?_); exact rfl; exact rfl; exact rfl)
            clear q0 q1 q2 q3 q4 q5
            obtain ⟨p0, p1, p2, p3, p4, p5⟩ := suQ HC.out.blk
            (refine wp_region_any (by kernel_rfl) ?_; try (change wpAny _ _ _ _ _ _ _ (World.drew _)))
            (refine wpAny_ready (rs := [0]) (by kernel_rfl) (by simp) ?_; refine AllReady.cons rfl (fun K hK => ?_) AllReady.nil; go_simp)
            (refine hK _ _ ?_; clear hK K)
            (refine wpAny_ready (rs := [1]) (by kernel_rfl) (by simp) ?_; refine AllReady.cons rfl (fun K hK => ?_) AllReady.nil; go_simp)
            refine (hr _).mono ?_
            rintro e w4 ⟨rfl, hb4⟩
            go_wp2_with fail
            ((refine rg_take 2 17 (v := ?_) rfl (by kernel_rfl) (by kernel_rfl) (by kernel_rfl) (by kernel_rfl) (fun _ _ _ h => h) (Or.inl ⟨by kernel_rfl, ?_⟩) ?_; rotate_left; (focus (intro w; go_simp; try (with_reducible rfl))); (simp only [List.set_cons_zero, List.set_cons_succ])); (refine rg_take 3 18 (v := ?_) rfl (by kernel_rfl) (by kernel_rfl) (by kernel_rfl) (by kernel_rfl) (fun _ _ _ h => h) (Or.inl ⟨by kernel_rfl, ?_⟩) ?_; rotate_left; (focus (intro w; go_simp; try (with_reducible rfl))); (simp only [List.set_cons_zero, List.set_cons_succ])); (refine rg_take 4 19 (v := ?_) rfl (by kernel_rfl) (by kernel_rfl) (by kernel_rfl) (by kernel_rfl) (fun _ _ _ h => h) (Or.inl ⟨by kernel_rfl, ?_⟩) ?_; rotate_left; (focus (intro w; go_simp; try (with_reducible rfl))); (simp only [List.set_cons_zero, List.set_cons_succ])); (refine rg_take 5 20 (v := ?_) rfl (by kernel_rfl) (by kernel_rfl) (by kernel_rfl) (by kernel_rfl) (fun _ _ _ h => h) (Or.inl ⟨by kernel_rfl, ?_⟩) ?_; rotate_left; (focus (intro w; go_simp; try (with_reducible rfl))); (simp only [List.set_cons_zero, List.set_cons_succ])); (refine rg_take 6 21 (v := ?_) rfl (by kernel_rfl) (by kernel_rfl) (by kernel_rfl) (by kernel_rfl) (fun _ _ _ h => h) (Or.inl ⟨by kernel_rfl, ?_⟩) ?_; rotate_left; (focus (intro w; go_simp; try (with_reducible rfl))); (simp only [List.set_cons_zero, List.set_cons_succ])))
            ((refine rg_take 7 22 (v := undef) rfl (by kernel_rfl) (by kernel_rfl) (by kernel_rfl) (by kernel_rfl) (fun _ _ _ h => h) (Or.inr ⟨by kernel_rfl, rfl⟩) ?_; (simp only [List.set_cons_zero, List.set_cons_succ])); (refine rg_take 8 23 (v := undef) rfl (by kernel_rfl) (by kernel_rfl) (by kernel_rfl) (by kernel_rfl) (fun _ _ _ h => h) (Or.inr ⟨by kernel_rfl, rfl⟩) ?_; (simp only [List.set_cons_zero, List.set_cons_succ])); (refine rg_take 9 24 (v := undef) rfl (by kernel_rfl) (by kernel_rfl) (by kernel_rfl) (by kernel_rfl) (fun _ _ _ h => h) (Or.inr ⟨by kernel_rfl, rfl⟩) ?_; (simp only [List.set_cons_zero, List.set_cons_succ])); (refine rg_take 10 25 (v := undef) rfl (by kernel_rfl) (by kernel_rfl) (by kernel_rfl) (by kernel_rfl) (fun _ _ _ h => h) (Or.inr ⟨by kernel_rfl, rfl⟩) ?_; (simp only [List.set_cons_zero, List.set_cons_succ])); (refine rg_take 11 26 (v := undef) rfl (by kernel_rfl) (by kernel_rfl) (by kernel_rfl) (by kernel_rfl) (fun _ _ _ h => h) (Or.inr ⟨by kernel_rfl, rfl⟩) ?_; (simp only [List.set_cons_zero, List.set_cons_succ])); (refine rg_take 12 27 (v := undef) rfl (by kernel_rfl) (by kernel_rfl) (by kernel_rfl) (by kernel_rfl) (fun _ _ _ h => h) (Or.inr ⟨by kernel_rfl, rfl⟩) ?_; (simp only [List.set_cons_zero, List.set_cons_succ])); (refine rg_take 13 28 (v := undef) rfl (by kernel_rfl) (by kernel_rfl) (by kernel_rfl) (by kernel_rfl) (fun _ _ _ h => h) (Or.inr ⟨by kernel_rfl, rfl⟩) ?_; (simp only [List.set_cons_zero, List.set_cons_succ])); (refine rg_take 14 29 (v := undef) rfl (by kernel_rfl) (by kernel_rfl) (by kernel_rfl) (by kernel_rfl) (fun _ _ _ h => h) (Or.inr ⟨by kernel_rfl, rfl⟩) ?_; (simp only [List.set_cons_zero, List.set_cons_succ])); (refine rg_take 15 30 (v := undef) rfl (by kernel_rfl) (by kernel_rfl) (by kernel_rfl) (by kernel_rfl) (fun _ _ _ h => h) (Or.inr ⟨by kernel_rfl, rfl⟩) ?_; (simp only [List.set_cons_zero, List.set_cons_succ])))
            ((refine rg_take 16 31 (v := ?_) rfl (by kernel_rfl) (by kernel_rfl) (by kernel_rfl) (by kernel_rfl) (fun _ _ _ h => h) (Or.inl ⟨by kernel_rfl, ?_⟩) ?_; rotate_left; (focus (intro w; go_simp; try (with_reducible rfl))); (simp only [List.set_cons_zero, List.set_cons_succ])); (refine rg_take 17 32 (v := ?_) rfl (by kernel_rfl) (by kernel_rfl) (by kernel_rfl) (by kernel_rfl) (fun _ _ _ h => h) (Or.inl ⟨by kernel_rfl, ?_⟩) ?_; rotate_left; (focus (intro w; go_simp; try (with_reducible rfl))); (simp only [List.set_cons_zero, List.set_cons_succ])))
            (refine wpAny_done (by kernel_rfl) ?_ _)
            go_wp2_with fail
            go_roundw
            case rel => exact ⟨i + 1, by omega, by go_num, by rw [HE.out, HD.out, HO.out, HP.out, prevK_succ HX.out, Bool.true_and, decide_eq_true (by have := HK1.out; omega), Bool.true_and], (HC.out.next ((Below.refl _ _).drew)).su.below hb4, bnext (bnext hB2 ((Below.refl _ _).drew)) hb4⟩
            case measure => simp [intOf]; omega
          · have d0 : decide (0 < i) = true := by simpa using hi0
            obtain ⟨y, hy⟩ : ∃ y, l[i - 1]? = some y := ⟨l[i - 1], List.getElem?_eq_getElem (by omega)⟩
            have HP : Hid (prevK l i = y.known) := Lib.hid (by unfold prevK; rw [if_neg (by omega), hy])
            have HY := Lib.hid hy
            have z0 : IntKind.i64.wrap ((i : Int) - 1) = (i : Int) - 1 := IntWalk.i64_in _ (by omega)
            have z1 : (0 : Int) ≤ (i : Int) - 1 := by omega
            have z4 : (1 : Int) ≤ (i : Int) := by omega
            have z5 : 1 ≤ i := by omega
            have z2 : (i : Int) - 1 < (l.length : Int) := by omega
            have z3 : ((i : Int) - 1).toNat = i - 1 := by omega
            clear hy hk1
            by_cases hlt2 : x.known ≤ y.known
            · have HLT := Lib.hid hlt2
              go_wp2_with ((with_reducible refine wpl_store_new rfl 77 _ _ rfl (suV x) ?_ ?_ (rowSu _) ?_ ?_); exact rfl; exact rfl; exact rfl)
              clear q0 q1 q2 q3 q4 q5
              have HCd := Lib.hid (HC.out.next ((Below.refl _ _).drew))
              go_region_held3 (fun W => (W.cell? ⟨wr.heap.size, 0, none⟩ = some (.string x.key) ∧ W.cell? ⟨wr.heap.size, 1, none⟩ = some (.string x.fund) ∧ W.cell? ⟨wr.heap.size, 2, none⟩ = some (.int .i64 x.frm) ∧ W.cell? ⟨wr.heap.size, 3, none⟩ = some (.int .i64 x.til) ∧ W.cell? ⟨wr.heap.size, 4, none⟩ = some (.int .i64 x.known) ∧ W.cell? ⟨wr.heap.size, 5, none⟩ = some (.bool x.void)) ∧ W.cell? ⟨b, o + (i - 1) * 6 + 4, none⟩ = some (.int .i64 y.known) ∧ CkS W wr.heap.size x (some ⟨b, o, none⟩) l)
                ((first
                  | (with_reducible exact HA.out.q2 HY.out)
                  | (with_reducible exact HCd.out.q2 HY.out)))
                ((go_at_call 44; refine (hr _).mono ?_; rintro e w4 ⟨rfl, hb4⟩; have HA := Lib.hid (HCd.out.next hb4)))
              go_wp2_with fail
              go_ret
              exact ⟨ret_int (by rw [← HV.out, susErr_bad (by unfold susB; rw [HE.out, HD.out, HP.out, decide_eq_false (show ¬(y.known < x.known) by have := HLT.out; omega)]; simp)]), bnext (bnext hB2 ((Below.refl _ _).drew)) hb4⟩
            · have HLT := Lib.hid (Int.not_le.1 hlt2)
              go_wp2_with ((with_reducible refine wpl_store_new rfl 77 _ _ rfl (suV x) ?_ ?_ (rowSu _) ?_ ?_); exact rfl; exact rfl; exact rfl)
              clear q0 q1 q2 q3 q4 q5
              have HCd := Lib.hid (HC.out.next ((Below.refl _ _).drew))
              go_region_held3 (fun W => (W.cell? ⟨wr.heap.size, 0, none⟩ = some (.string x.key) ∧ W.cell? ⟨wr.heap.size, 1, none⟩ = some (.string x.fund) ∧ W.cell? ⟨wr.heap.size, 2, none⟩ = some (.int .i64 x.frm) ∧ W.cell? ⟨wr.heap.size, 3, none⟩ = some (.int .i64 x.til) ∧ W.cell? ⟨wr.heap.size, 4, none⟩ = some (.int .i64 x.known) ∧ W.cell? ⟨wr.heap.size, 5, none⟩ = some (.bool x.void)) ∧ W.cell? ⟨b, o + (i - 1) * 6 + 4, none⟩ = some (.int .i64 y.known) ∧ CkS W wr.heap.size x (some ⟨b, o, none⟩) l)
                ((first
                  | (with_reducible exact HA.out.q2 HY.out)
                  | (with_reducible exact HCd.out.q2 HY.out)))
                ((go_at_call 44; refine (hr _).mono ?_; rintro e w4 ⟨rfl, hb4⟩; have HA := Lib.hid (HCd.out.next hb4)))
              go_wp2_with fail
              go_roundw
              case rel => exact ⟨i + 1, by omega, by go_num, by rw [HE.out, HD.out, HO.out, HP.out, prevK_succ HX.out, Bool.true_and, decide_eq_true HLT.out, Bool.true_and], (HC.out.next ((Below.refl _ _).drew)).su.below hb4, bnext (bnext hB2 ((Below.refl _ _).drew)) hb4⟩
              case measure => simp [intOf]; omega
      · go_wp2
        go_ret
        exact ⟨ret_int (by rw [← HV.out, susErr_ok (by unfold susB; rw [HE.out, List.drop_of_length_le (by omega)]; simp [susFrom, hl])]), hB⟩
  · rw [susErr_bad (by simp [susB, hl])]
    go_enter Tryz.func17, Tryz.ntmps17
    go_wp2
    go_ret
    exact ⟨rfl, Below.refl _ _⟩
end Go.Proofs.YtffmmkjoknghoaaGreat
