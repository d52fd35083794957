/-
  Suspensions: the document's check of a list.
-/
import Derived.Test.YtffmmkjoknghoaaGreatSusCheck
namespace Go.Proofs.YtffmmkjoknghoaaGreat
open Go.RowKit
set_option linter.unusedVariables false
set_option maxHeartbeats 4000000
theorem SuAt.q {W : World} {b o i : Nat} {x : SU} {l : List SU} (h : SuAt W (some ⟨b, o, none⟩) l) (hx : l[i]? = some x) : W.cell? ⟨b, o + i * 6, none⟩ = some (.string x.key) ∧ W.cell? ⟨b, o + i * 6 + 1, none⟩ = some (.string x.fund) ∧ W.cell? ⟨b, o + i * 6 + 2, none⟩ = some (.int .i64 x.frm) ∧
    W.cell? ⟨b, o + i * 6 + 3, none⟩ = some (.int .i64 x.til) ∧ W.cell? ⟨b, o + i * 6 + 4, none⟩ = some (.int .i64 x.known) ∧ W.cell? ⟨b, o + i * 6 + 5, none⟩ = some (.bool x.void) := by
  obtain ⟨b2, o2, z, e, hz, -, -, h0, h1, h2, h3, h4, h5⟩ := h.get (i := i) (List.getElem?_eq_some_iff.1 hx).1
  injection e with e
  injection e with e1 e2
  subst e1 e2
  rw [hx] at hz
  injection hz with hz
  subst hz
  exact ⟨h0, h1, h2, h3, h4, h5⟩
theorem SuAt.q2 {W : World} {b o i j : Nat} {x y : SU} {l : List SU} (h : SuAt W (some ⟨b, o, none⟩) l) (hx : l[i]? = some x) (hy : l[j]? = some y) : (W.cell? ⟨b, o + i * 6, none⟩ = some (.string x.key) ∧ W.cell? ⟨b, o + i * 6 + 1, none⟩ = some (.string x.fund) ∧ W.cell? ⟨b, o + i * 6 + 2, none⟩ = some (.int .i64 x.frm) ∧
    W.cell? ⟨b, o + i * 6 + 3, none⟩ = some (.int .i64 x.til) ∧ W.cell? ⟨b, o + i * 6 + 4, none⟩ = some (.int .i64 x.known) ∧ W.cell? ⟨b, o + i * 6 + 5, none⟩ = some (.bool x.void)) ∧ W.cell? ⟨b, o + j * 6 + 4, none⟩ = some (.int .i64 y.known) ∧ SuAt W (some ⟨b, o, none⟩) l := ⟨h.q hx, (h.q hy).2.2.2.2.1, h⟩
set_option maxRecDepth 100000 in
theorem rChk_any (hN : NameC 72) (l : List SU) (A : Option Addr) (cp : Nat) (w : World) (h : SuAt w A l) : Calls Tryz.prog 70 #[.slice A l.length cp] w (RetB (.int .i64 (susErr l)) w) := by
  have hln := h.ln
  by_cases hl : l.length ≤ 4096
  · obtain ⟨v, hv⟩ : ∃ v, susErr l = v := ⟨_, rfl⟩
    rw [hv]
    have HV := Lib.hid hv
    clear hv
    go_enter Tryz.func70, Tryz.ntmps70
    go_wp2
    go_loopw [3] (fun iv wr => ∃ i : Nat, i ≤ l.length ∧ iv = .int .i64 i ∧ susFrom 0 l = susFrom (prevK l i) (l.drop i) ∧ SuAt wr A l ∧ Below w.heap.size w wr) (fun iv _ => l.length - (intOf iv).toNat)
    case atStart => exact ⟨0, by omega, rfl, rfl, h, Below.refl _ _⟩
    case round =>
      obtain ⟨i, hi, rfl, hE, hS, hB⟩ := hrel
      have HE := Lib.hid hE
      clear hE h
      by_cases hlt : i < l.length
      · obtain ⟨b, o, x, rfl, hx, hbl, hsm, p0, p1, p2, p3, p4, p5⟩ := hS.get hlt
        have HX := Lib.hid hx
        have HD := Lib.hid (susFrom_drop l hx)
        have HS := Lib.hid hS
        have HC := Lib.hid (hS.below ((Below.refl _ _).drew))
        clear hx hS
        cases hok : x.ok
        · have hr := suval_is hN hok (hs := hsm)
          have HO := Lib.hid hok
          clear hok
          go_wp2_with fail
          (refine wp_region_any (by kernel_rfl) ?_; try (change wpAny _ _ _ _ _ _ _ (World.drew _)))
          ((refine rg_take 0 13 (v := ?_) rfl (by kernel_rfl) (by kernel_rfl) (by kernel_rfl) (by kernel_rfl) (fun _ _ _ h => h) (Or.inl ⟨by kernel_rfl, ?_⟩) ?_; rotate_left; (focus (intro w; go_simp; try (with_reducible rfl))); (simp only [List.set_cons_zero, List.set_cons_succ])); (refine rg_take 1 14 (v := ?_) rfl (by kernel_rfl) (by kernel_rfl) (by kernel_rfl) (by kernel_rfl) (fun _ _ _ h => h) (Or.inl ⟨by kernel_rfl, ?_⟩) ?_; rotate_left; (focus (intro w; go_simp; try (with_reducible rfl))); (simp only [List.set_cons_zero, List.set_cons_succ])); (refine rg_take 2 15 (v := ?_) rfl (by kernel_rfl) (by kernel_rfl) (by kernel_rfl) (by kernel_rfl) (fun _ _ _ h => h) (Or.inl ⟨by kernel_rfl, ?_⟩) ?_; rotate_left; (focus (intro w; go_simp; try (with_reducible rfl))); (simp only [List.set_cons_zero, List.set_cons_succ])))
          (refine wpAny_ready (rs := [3]) (by kernel_rfl) (by simp) ?_; refine AllReady.cons rfl (fun K hK => ?_) AllReady.nil; go_simp)
          (refine hK _ _ ?_; clear hK K)
          (refine wpAny_ready (rs := [4]) (by kernel_rfl) (by simp) ?_; refine AllReady.cons rfl (fun K hK => ?_) AllReady.nil; go_simp)
          refine (hr _).mono ?_
          rintro e w4 ⟨rfl, hb4⟩
          go_wp2_with fail
          ((refine rg_take 5 18 (v := ?_) rfl (by kernel_rfl) (by kernel_rfl) (by kernel_rfl) (by kernel_rfl) (fun _ _ _ h => h) (Or.inl ⟨by kernel_rfl, ?_⟩) ?_; rotate_left; (focus (intro w; go_simp; try (with_reducible rfl))); (simp only [List.set_cons_zero, List.set_cons_succ])); (refine rg_take 6 19 (v := ?_) rfl (by kernel_rfl) (by kernel_rfl) (by kernel_rfl) (by kernel_rfl) (fun _ _ _ h => h) (Or.inl ⟨by kernel_rfl, ?_⟩) ?_; rotate_left; (focus (intro w; go_simp; try (with_reducible rfl))); (simp only [List.set_cons_zero, List.set_cons_succ])))
          ((refine rg_take 7 20 (v := undef) rfl (by kernel_rfl) (by kernel_rfl) (by kernel_rfl) (by kernel_rfl) (fun _ _ _ h => h) (Or.inr ⟨by kernel_rfl, rfl⟩) ?_; (simp only [List.set_cons_zero, List.set_cons_succ])); (refine rg_take 8 21 (v := undef) rfl (by kernel_rfl) (by kernel_rfl) (by kernel_rfl) (by kernel_rfl) (fun _ _ _ h => h) (Or.inr ⟨by kernel_rfl, rfl⟩) ?_; (simp only [List.set_cons_zero, List.set_cons_succ])); (refine rg_take 9 22 (v := undef) rfl (by kernel_rfl) (by kernel_rfl) (by kernel_rfl) (by kernel_rfl) (fun _ _ _ h => h) (Or.inr ⟨by kernel_rfl, rfl⟩) ?_; (simp only [List.set_cons_zero, List.set_cons_succ])); (refine rg_take 10 23 (v := undef) rfl (by kernel_rfl) (by kernel_rfl) (by kernel_rfl) (by kernel_rfl) (fun _ _ _ h => h) (Or.inr ⟨by kernel_rfl, rfl⟩) ?_; (simp only [List.set_cons_zero, List.set_cons_succ])); (refine rg_take 11 24 (v := undef) rfl (by kernel_rfl) (by kernel_rfl) (by kernel_rfl) (by kernel_rfl) (fun _ _ _ h => h) (Or.inr ⟨by kernel_rfl, rfl⟩) ?_; (simp only [List.set_cons_zero, List.set_cons_succ])); (refine rg_take 12 25 (v := undef) rfl (by kernel_rfl) (by kernel_rfl) (by kernel_rfl) (by kernel_rfl) (fun _ _ _ h => h) (Or.inr ⟨by kernel_rfl, rfl⟩) ?_; (simp only [List.set_cons_zero, List.set_cons_succ])); (refine rg_take 13 26 (v := undef) rfl (by kernel_rfl) (by kernel_rfl) (by kernel_rfl) (by kernel_rfl) (fun _ _ _ h => h) (Or.inr ⟨by kernel_rfl, rfl⟩) ?_; (simp only [List.set_cons_zero, List.set_cons_succ])); (refine rg_take 14 27 (v := undef) rfl (by kernel_rfl) (by kernel_rfl) (by kernel_rfl) (by kernel_rfl) (fun _ _ _ h => h) (Or.inr ⟨by kernel_rfl, rfl⟩) ?_; (simp only [List.set_cons_zero, List.set_cons_succ])); (refine rg_take 15 28 (v := undef) rfl (by kernel_rfl) (by kernel_rfl) (by kernel_rfl) (by kernel_rfl) (fun _ _ _ h => h) (Or.inr ⟨by kernel_rfl, rfl⟩) ?_; (simp only [List.set_cons_zero, List.set_cons_succ])); (refine rg_take 16 29 (v := undef) rfl (by kernel_rfl) (by kernel_rfl) (by kernel_rfl) (by kernel_rfl) (fun _ _ _ h => h) (Or.inr ⟨by kernel_rfl, rfl⟩) ?_; (simp only [List.set_cons_zero, List.set_cons_succ])); (refine rg_take 17 30 (v := undef) rfl (by kernel_rfl) (by kernel_rfl) (by kernel_rfl) (by kernel_rfl) (fun _ _ _ h => h) (Or.inr ⟨by kernel_rfl, rfl⟩) ?_; (simp only [List.set_cons_zero, List.set_cons_succ])); (refine rg_take 18 31 (v := undef) rfl (by kernel_rfl) (by kernel_rfl) (by kernel_rfl) (by kernel_rfl) (fun _ _ _ h => h) (Or.inr ⟨by kernel_rfl, rfl⟩) ?_; (simp only [List.set_cons_zero, List.set_cons_succ])); (refine rg_take 19 32 (v := undef) rfl (by kernel_rfl) (by kernel_rfl) (by kernel_rfl) (by kernel_rfl) (fun _ _ _ h => h) (Or.inr ⟨by kernel_rfl, rfl⟩) ?_; (simp only [List.set_cons_zero, List.set_cons_succ])); (refine rg_take 20 33 (v := undef) rfl (by kernel_rfl) (by kernel_rfl) (by kernel_rfl) (by kernel_rfl) (fun _ _ _ h => h) (Or.inr ⟨by kernel_rfl, rfl⟩) ?_; (simp only [List.set_cons_zero, List.set_cons_succ])); (refine rg_take 21 34 (v := undef) rfl (by kernel_rfl) (by kernel_rfl) (by kernel_rfl) (by kernel_rfl) (fun _ _ _ h => h) (Or.inr ⟨by kernel_rfl, rfl⟩) ?_; (simp only [List.set_cons_zero, List.set_cons_succ])); (refine rg_take 22 35 (v := undef) rfl (by kernel_rfl) (by kernel_rfl) (by kernel_rfl) (by kernel_rfl) (fun _ _ _ h => h) (Or.inr ⟨by kernel_rfl, rfl⟩) ?_; (simp only [List.set_cons_zero, List.set_cons_succ])))
          ((refine rg_take 23 36 (v := ?_) rfl (by kernel_rfl) (by kernel_rfl) (by kernel_rfl) (by kernel_rfl) (fun _ _ _ h => h) (Or.inl ⟨by kernel_rfl, ?_⟩) ?_; rotate_left; (focus (intro w; go_simp; try (with_reducible rfl))); (simp only [List.set_cons_zero, List.set_cons_succ])))
          (refine wpAny_done (by kernel_rfl) ?_ _)
          go_wp2_with fail
          go_ret
          exact ⟨ret_int (by rw [← HV.out, susErr_bad (by unfold susB; rw [HE.out, HD.out, HO.out]; simp)]), bnext (bnext hB ((Below.refl _ _).drew)) hb4⟩
        · have hr := suval_is hN hok (hs := hsm)
          have HO := Lib.hid hok
          have hk1 := SU.ok_known hok
          clear hok
          rcases Nat.eq_zero_or_pos i with hi0 | hi0
          · have d0 : decide (0 < i) = false := by simpa using hi0
            have HP : Hid (prevK l i = 0) := Lib.hid (by rw [hi0]; rfl)
            have HK1 := Lib.hid hk1
            clear hk1 hi0
            go_wp2_with fail
            (refine wp_region_any (by kernel_rfl) ?_; try (change wpAny _ _ _ _ _ _ _ (World.drew _)))
            ((refine rg_take 0 13 (v := ?_) rfl (by kernel_rfl) (by kernel_rfl) (by kernel_rfl) (by kernel_rfl) (fun _ _ _ h => h) (Or.inl ⟨by kernel_rfl, ?_⟩) ?_; rotate_left; (focus (intro w; go_simp; try (with_reducible rfl))); (simp only [List.set_cons_zero, List.set_cons_succ])); (refine rg_take 1 14 (v := ?_) rfl (by kernel_rfl) (by kernel_rfl) (by kernel_rfl) (by kernel_rfl) (fun _ _ _ h => h) (Or.inl ⟨by kernel_rfl, ?_⟩) ?_; rotate_left; (focus (intro w; go_simp; try (with_reducible rfl))); (simp only [List.set_cons_zero, List.set_cons_succ])); (refine rg_take 2 15 (v := ?_) rfl (by kernel_rfl) (by kernel_rfl) (by kernel_rfl) (by kernel_rfl) (fun _ _ _ h => h) (Or.inl ⟨by kernel_rfl, ?_⟩) ?_; rotate_left; (focus (intro w; go_simp; try (with_reducible rfl))); (simp only [List.set_cons_zero, List.set_cons_succ])))
            (refine wpAny_ready (rs := [3]) (by kernel_rfl) (by simp) ?_; refine AllReady.cons rfl (fun K hK => ?_) AllReady.nil; go_simp)
            (refine hK _ _ ?_; clear hK K)
            (refine wpAny_ready (rs := [4]) (by kernel_rfl) (by simp) ?_; refine AllReady.cons rfl (fun K hK => ?_) AllReady.nil; go_simp)
            refine (hr _).mono ?_
            rintro e w4 ⟨rfl, hb4⟩
            go_wp2_with fail
            ((refine rg_take 5 18 (v := ?_) rfl (by kernel_rfl) (by kernel_rfl) (by kernel_rfl) (by kernel_rfl) (fun _ _ _ h => h) (Or.inl ⟨by kernel_rfl, ?_⟩) ?_; rotate_left; (focus (intro w; go_simp; try (with_reducible rfl))); (simp only [List.set_cons_zero, List.set_cons_succ])); (refine rg_take 6 19 (v := ?_) rfl (by kernel_rfl) (by kernel_rfl) (by kernel_rfl) (by kernel_rfl) (fun _ _ _ h => h) (Or.inl ⟨by kernel_rfl, ?_⟩) ?_; rotate_left; (focus (intro w; go_simp; try (with_reducible rfl))); (simp only [List.set_cons_zero, List.set_cons_succ])); (refine rg_take 7 20 (v := ?_) rfl (by kernel_rfl) (by kernel_rfl) (by kernel_rfl) (by kernel_rfl) (fun _ _ _ h => h) (Or.inl ⟨by kernel_rfl, ?_⟩) ?_; rotate_left; (focus (intro w; go_simp; try (with_reducible rfl))); (simp only [List.set_cons_zero, List.set_cons_succ])); (refine rg_take 8 21 (v := ?_) rfl (by kernel_rfl) (by kernel_rfl) (by kernel_rfl) (by kernel_rfl) (fun _ _ _ h => h) (Or.inl ⟨by kernel_rfl, ?_⟩) ?_; rotate_left; (focus (intro w; go_simp; try (with_reducible rfl))); (simp only [List.set_cons_zero, List.set_cons_succ])); (refine rg_take 9 22 (v := ?_) rfl (by kernel_rfl) (by kernel_rfl) (by kernel_rfl) (by kernel_rfl) (fun _ _ _ h => h) (Or.inl ⟨by kernel_rfl, ?_⟩) ?_; rotate_left; (focus (intro w; go_simp; try (with_reducible rfl))); (simp only [List.set_cons_zero, List.set_cons_succ])))
            ((refine rg_take 10 23 (v := undef) rfl (by kernel_rfl) (by kernel_rfl) (by kernel_rfl) (by kernel_rfl) (fun _ _ _ h => h) (Or.inr ⟨by kernel_rfl, rfl⟩) ?_; (simp only [List.set_cons_zero, List.set_cons_succ])); (refine rg_take 11 24 (v := undef) rfl (by kernel_rfl) (by kernel_rfl) (by kernel_rfl) (by kernel_rfl) (fun _ _ _ h => h) (Or.inr ⟨by kernel_rfl, rfl⟩) ?_; (simp only [List.set_cons_zero, List.set_cons_succ])); (refine rg_take 12 25 (v := undef) rfl (by kernel_rfl) (by kernel_rfl) (by kernel_rfl) (by kernel_rfl) (fun _ _ _ h => h) (Or.inr ⟨by kernel_rfl, rfl⟩) ?_; (simp only [List.set_cons_zero, List.set_cons_succ])); (refine rg_take 13 26 (v := undef) rfl (by kernel_rfl) (by kernel_rfl) (by kernel_rfl) (by kernel_rfl) (fun _ _ _ h => h) (Or.inr ⟨by kernel_rfl, rfl⟩) ?_; (simp only [List.set_cons_zero, List.set_cons_succ])); (refine rg_take 14 27 (v := undef) rfl (by kernel_rfl) (by kernel_rfl) (by kernel_rfl) (by kernel_rfl) (fun _ _ _ h => h) (Or.inr ⟨by kernel_rfl, rfl⟩) ?_; (simp only [List.set_cons_zero, List.set_cons_succ])); (refine rg_take 15 28 (v := undef) rfl (by kernel_rfl) (by kernel_rfl) (by kernel_rfl) (by kernel_rfl) (fun _ _ _ h => h) (Or.inr ⟨by kernel_rfl, rfl⟩) ?_; (simp only [List.set_cons_zero, List.set_cons_succ])); (refine rg_take 16 29 (v := undef) rfl (by kernel_rfl) (by kernel_rfl) (by kernel_rfl) (by kernel_rfl) (fun _ _ _ h => h) (Or.inr ⟨by kernel_rfl, rfl⟩) ?_; (simp only [List.set_cons_zero, List.set_cons_succ])); (refine rg_take 17 30 (v := undef) rfl (by kernel_rfl) (by kernel_rfl) (by kernel_rfl) (by kernel_rfl) (fun _ _ _ h => h) (Or.inr ⟨by kernel_rfl, rfl⟩) ?_; (simp only [List.set_cons_zero, List.set_cons_succ])); (refine rg_take 18 31 (v := undef) rfl (by kernel_rfl) (by kernel_rfl) (by kernel_rfl) (by kernel_rfl) (fun _ _ _ h => h) (Or.inr ⟨by kernel_rfl, rfl⟩) ?_; (simp only [List.set_cons_zero, List.set_cons_succ])); (refine rg_take 19 32 (v := undef) rfl (by kernel_rfl) (by kernel_rfl) (by kernel_rfl) (by kernel_rfl) (fun _ _ _ h => h) (Or.inr ⟨by kernel_rfl, rfl⟩) ?_; (simp only [List.set_cons_zero, List.set_cons_succ])); (refine rg_take 20 33 (v := undef) rfl (by kernel_rfl) (by kernel_rfl) (by kernel_rfl) (by kernel_rfl) (fun _ _ _ h => h) (Or.inr ⟨by kernel_rfl, rfl⟩) ?_; (simp only [List.set_cons_zero, List.set_cons_succ])); (refine rg_take 21 34 (v := undef) rfl (by kernel_rfl) (by kernel_rfl) (by kernel_rfl) (by kernel_rfl) (fun _ _ _ h => h) (Or.inr ⟨by kernel_rfl, rfl⟩) ?_; (simp only [List.set_cons_zero, List.set_cons_succ])))
            ((refine rg_take 22 35 (v := ?_) rfl (by kernel_rfl) (by kernel_rfl) (by kernel_rfl) (by kernel_rfl) (fun _ _ _ h => h) (Or.inl ⟨by kernel_rfl, ?_⟩) ?_; rotate_left; (focus (intro w; go_simp; try (with_reducible rfl))); (simp only [List.set_cons_zero, List.set_cons_succ])); (refine rg_take 23 36 (v := ?_) rfl (by kernel_rfl) (by kernel_rfl) (by kernel_rfl) (by kernel_rfl) (fun _ _ _ h => h) (Or.inl ⟨by kernel_rfl, ?_⟩) ?_; rotate_left; (focus (intro w; go_simp; try (with_reducible rfl))); (simp only [List.set_cons_zero, List.set_cons_succ])))
            (refine wpAny_done (by kernel_rfl) ?_ _)
            go_wp2_with fail
            go_roundw
            case rel => exact ⟨i + 1, by omega, by go_num, by rw [HE.out, HD.out, HO.out, HP.out, prevK_succ HX.out, Bool.true_and, decide_eq_true (by have := HK1.out; omega), Bool.true_and], HC.out.below hb4, bnext (bnext hB ((Below.refl _ _).drew)) hb4⟩
            case measure => simp [intOf]; omega
          · have d0 : decide (0 < i) = true := by simpa using hi0
            obtain ⟨y, hy⟩ : ∃ y, l[i - 1]? = some y := ⟨l[i - 1], List.getElem?_eq_getElem (by omega)⟩
            have HP : Hid (prevK l i = y.known) := Lib.hid (by unfold prevK; rw [if_neg (by omega), hy])
            have HY := Lib.hid hy
            have z0 : IntKind.i64.wrap ((i : Int) - 1) = (i : Int) - 1 := IntWalk.i64_in _ (by omega)
            have z1 : (0 : Int) ≤ (i : Int) - 1 := by omega
            have z4 : (1 : Int) ≤ (i : Int) := by omega
            have z5 : 1 ≤ i := by omega
            have z2 : (i : Int) - 1 < (l.length : Int) := by omega
            have z3 : ((i : Int) - 1).toNat = i - 1 := by omega
            clear hy hk1
            by_cases hlt2 : x.known ≤ y.known
            · have HLT := Lib.hid hlt2
              clear p0 p1 p2 p3 p4 p5
              go_wp2_with fail
              go_region_held3 (fun W => (W.cell? ⟨b, o + i * 6, none⟩ = some (.string x.key) ∧ W.cell? ⟨b, o + i * 6 + 1, none⟩ = some (.string x.fund) ∧ W.cell? ⟨b, o + i * 6 + 2, none⟩ = some (.int .i64 x.frm) ∧ W.cell? ⟨b, o + i * 6 + 3, none⟩ = some (.int .i64 x.til) ∧ W.cell? ⟨b, o + i * 6 + 4, none⟩ = some (.int .i64 x.known) ∧ W.cell? ⟨b, o + i * 6 + 5, none⟩ = some (.bool x.void)) ∧ W.cell? ⟨b, o + (i - 1) * 6 + 4, none⟩ = some (.int .i64 y.known) ∧ SuAt W (some ⟨b, o, none⟩) l)
                ((first
                  | (with_reducible exact HA.out.q2 HX.out HY.out)
                  | (with_reducible exact HC.out.q2 HX.out HY.out)))
                ((go_at_call 100; refine (hr _).mono ?_; rintro e w4 ⟨rfl, hb4⟩; have HA := Lib.hid (HC.out.below hb4)))
              go_wp2_with fail
              go_ret
              exact ⟨ret_int (by rw [← HV.out, susErr_bad (by unfold susB; rw [HE.out, HD.out, HP.out, decide_eq_false (show ¬(y.known < x.known) by have := HLT.out; omega)]; simp)]), bnext (bnext hB ((Below.refl _ _).drew)) hb4⟩
            · have HLT := Lib.hid (Int.not_le.1 hlt2)
              clear p0 p1 p2 p3 p4 p5
              go_wp2_with fail
              go_region_held3 (fun W => (W.cell? ⟨b, o + i * 6, none⟩ = some (.string x.key) ∧ W.cell? ⟨b, o + i * 6 + 1, none⟩ = some (.string x.fund) ∧ W.cell? ⟨b, o + i * 6 + 2, none⟩ = some (.int .i64 x.frm) ∧ W.cell? ⟨b, o + i * 6 + 3, none⟩ = some (.int .i64 x.til) ∧ W.cell? ⟨b, o + i * 6 + 4, none⟩ = some (.int .i64 x.known) ∧ W.cell? ⟨b, o + i * 6 + 5, none⟩ = some (.bool x.void)) ∧ W.cell? ⟨b, o + (i - 1) * 6 + 4, none⟩ = some (.int .i64 y.known) ∧ SuAt W (some ⟨b, o, none⟩) l)
                ((first
                  | (with_reducible exact HA.out.q2 HX.out HY.out)
                  | (with_reducible exact HC.out.q2 HX.out HY.out)))
                ((go_at_call 100; refine (hr _).mono ?_; rintro e w4 ⟨rfl, hb4⟩; have HA := Lib.hid (HC.out.below hb4)))
              go_wp2_with fail
              go_roundw
              case rel => exact ⟨i + 1, by omega, by go_num, by rw [HE.out, HD.out, HO.out, HP.out, prevK_succ HX.out, Bool.true_and, decide_eq_true HLT.out, Bool.true_and], HC.out.below hb4, bnext (bnext hB ((Below.refl _ _).drew)) hb4⟩
              case measure => simp [intOf]; omega
      · go_wp2
        go_ret
        exact ⟨ret_int (by rw [← HV.out, susErr_ok (by unfold susB; rw [HE.out, List.drop_of_length_le (by omega)]; simp [susFrom, hl])]), hB⟩
  · rw [susErr_bad (by simp [susB, hl])]
    go_enter Tryz.func70, Tryz.ntmps70
    go_wp2
    go_ret
    exact ⟨rfl, Below.refl _ _⟩
end Go.Proofs.YtffmmkjoknghoaaGreat
