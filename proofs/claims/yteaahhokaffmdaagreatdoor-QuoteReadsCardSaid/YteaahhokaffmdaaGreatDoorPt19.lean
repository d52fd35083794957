/- What the laws lean on. -/
import Derived.Test.YteaahhokaffmdaaGreatDoorPt18
namespace Go.Proofs.YteaahhokaffmdaaGreatDoor
set_option linter.unusedVariables false
set_option linter.unusedSimpArgs false
section
open Go.RowKit
set_option maxHeartbeats 4000000
theorem one_sz {xs : List ByteArray} {s : ByteArray} (h : s ∈ xs) (hd : (xs.all fun s => decide (s.size ≤ 20)) = true) : s.size ≤ 20 := by
 have := List.all_eq_true.1 hd s h
 exact of_decide_eq_true this
theorem one_szD {D s : ByteArray} {a b : ByteArray} (hD : D.size ≤ 20) (h : s ∈ [D, D, D, a, b]) (ha : a.size ≤ 20 := by decide) (hb : b.size ≤ 20 := by decide) : s.size ≤ 20 := by
 simp only [List.mem_cons, List.not_mem_nil, or_false] at h
 rcases h with rfl | rfl | rfl | rfl | rfl <;> assumption
theorem quoteLines_S {q : QT} (hq : q.wf) (S : ByteArray) (hS : S.size ≤ 2000000) (k : Int) (w : World) : Calls Tryz.prog 6 #[.string S, .int .i64 k, .agg (qC q)] w (RetB (.bool true) w) := by
 have h := quoteLines_any hq S.data.toList (by simpa using hS) k w
 rw [bs_of] at h
 exact h
theorem sbX5 {p : Prop} (h : p := by (repeat (first | exact hX5 | apply List.Sublist.cons))) : p := h
theorem sbX6 {p : Prop} (h : p := by (repeat (first | exact hX6 | apply List.Sublist.cons))) : p := h
set_option maxRecDepth 100000 in
theorem quoteReads_any (A0 : Option Addr) (L0 : List Int) (cap : Nat) (n : Int) {x : Bool} {ra : Nat} {y : Bool} {rb : Nat} (hra : ra < bp 32) (hrb : rb < bp 32) {w : World} (hL : IntsAt w A0 L0) : Calls Tryz.prog 7 #[.slice A0 L0.length cap, .int .i64 n, .agg (ratC x ra y rb)] w (RetB (.bool true) w) := by
 have F := Fr.start w
 go_enter Tryz.func7, Tryz.ntmps7
 go_wp2_with (first | go_skip | refine aYQ ?_ | ((with_reducible apply fSli F slInt); exact rfl; exact rfl; exact rfl; decide; decide; (go_simp; exact rfl); exact rfl) | ((with_reducible apply fSli F slStr); exact rfl; exact rfl; exact rfl; decide; decide; (go_simp; exact rfl); exact rfl) | (refine aTQ ?_; clear F; intro W F) | refine aNQ ?_)
 (clear F; intro b5 W F; try simp only [Act.put, z6, z1, z2])
 go_upto_region 2 with (first | go_skip | refine aYQ ?_ | ((with_reducible apply fSli F slInt); exact rfl; exact rfl; exact rfl; decide; decide; (go_simp; exact rfl); exact rfl) | ((with_reducible apply fSli F slStr); exact rfl; exact rfl; exact rfl; decide; decide; (go_simp; exact rfl); exact rfl) | (refine aTQ ?_; clear F; intro W F) | refine aNQ ?_)
 rename World => W0
 have T0 := tape_start (cap := cap) (hL.below F.below)
 have HO := Lib.hid (fun u W N L (T : Tp (W0.alloc (.cells #[.slice A0 L0.length cap, .int .i64 0] 43)) u W0.heap.size W0.heap.size N) (G : Fr u W L) => (show RetB (.bool true) w (.returned (.bool true)) W from ⟨rfl, bnext F.below (qtape_out T G)⟩))
 have hB5 := (F.here).al (.cells #[.slice A0 L0.length cap, .int .i64 0] 43)
 have hn5 : b5 ≠ W0.heap.size := Nat.ne_of_lt F.here.lt
 have HB5 := Lib.hid (fun u W N L (T : Tp (W0.alloc (.cells #[.slice A0 L0.length cap, .int .i64 0] 43)) u W0.heap.size W0.heap.size N) (G : Fr u W L) => Tp.keep T G hB5 hn5)
 clear hL F hB5 hn5
 have F := Fr.start (W0.alloc (.cells #[.slice A0 L0.length cap, .int .i64 0] 43))
 have T := Tp.start T0
 clear T0
 generalize W0.alloc (.cells #[.slice A0 L0.length cap, .int .i64 0] 43) = w1 at *
 generalize W0.heap.size = b at *
 go_wp2_with (first | go_skip | ((go_at_call 17); (with_reducible refine fr_tap F T (tday (T.at F)) ?_); (try clear F T); (rintro _ u W ⟨day, rfl, hday⟩ T F); (obtain ⟨e, he⟩ := dayL_is day); (have hDl := dayL_len day); (have g3 := fun w => rfmt_is he w); (rw [← bs_size] at hDl); (generalize bs (dayL day) = D at *); (have hD : D.size ≤ 20 := Nat.le_trans hDl (by decide)); (clear he hDl hday); (try dsimp only)) | ((go_at_call 28); (with_reducible refine fr_call F (g3 _) ?_); (clear F; intro W F); (try dsimp only)) | refine aYQ ?_ | ((with_reducible apply fSli F slInt); exact rfl; exact rfl; exact rfl; decide; decide; (go_simp; exact rfl); exact rfl) | ((with_reducible apply fSli F slStr); exact rfl; exact rfl; exact rfl; decide; decide; (go_simp; exact rfl); exact rfl) | (refine aTQ ?_; clear F; intro W F) | refine aNQ ?_)
 (clear F; intro b23 W F; try simp only [Act.put, z6, z1, z2])
 go_wp2_with (first | go_skip | ((go_at_call 29); (with_reducible refine fr_tap F T (toneF (N := 900) [⟨#[97]⟩, ⟨#[98, 108, 111, 111, 109, 98, 101, 114, 103]⟩, ⟨#[65]⟩, ⟨#[]⟩] F (T.less (by omega)) tL (by with_unfolding_all rfl) (by with_unfolding_all rfl) (by simp) (by simp)) ?_); (try clear F T); (rintro _ u W ⟨s0, rfl, hs⟩ T F); (have z0 := one_sz hs (by decide)); (clear hs); (try dsimp only)) | refine aYQ ?_ | ((with_reducible apply fSli F slInt); exact rfl; exact rfl; exact rfl; decide; decide; (go_simp; exact rfl); exact rfl) | ((with_reducible apply fSli F slStr); exact rfl; exact rfl; exact rfl; decide; decide; (go_simp; exact rfl); exact rfl) | (refine aTQ ?_; clear F; intro W F) | refine aNQ ?_)
 (clear F; intro b26 W F; try simp only [Act.put, z6, z1, z2])
 go_wp2_with (first | go_skip | ((go_at_call 29); (with_reducible refine fr_tap F T (toneF (N := 890) [⟨#[44]⟩, ⟨#[44]⟩, ⟨#[]⟩] F (T.less (by omega)) tL (by with_unfolding_all rfl) (by with_unfolding_all rfl) (by simp) (by simp)) ?_); (try clear F T); (rintro _ u W ⟨s1, rfl, hs⟩ T F); (have z1 := one_sz hs (by decide)); (clear hs); (try dsimp only)) | refine aYQ ?_ | ((with_reducible apply fSli F slInt); exact rfl; exact rfl; exact rfl; decide; decide; (go_simp; exact rfl); exact rfl) | ((with_reducible apply fSli F slStr); exact rfl; exact rfl; exact rfl; decide; decide; (go_simp; exact rfl); exact rfl) | (refine aTQ ?_; clear F; intro W F) | refine aNQ ?_)
 (clear F; intro b30 W F; try simp only [Act.put, z6, z1, z2])
 go_wp2_with (first | go_skip | ((go_at_call 29); (with_reducible refine fr_tap F T (toneF (N := 880) [⟨#[65, 67, 77, 69]⟩, ⟨#[88, 49]⟩, ⟨#[97, 99, 109, 101]⟩, ⟨#[65, 66, 67, 68, 69, 70, 71, 72, 73, 74, 75, 76, 77]⟩] F (T.less (by omega)) tL (by with_unfolding_all rfl) (by with_unfolding_all rfl) (by simp) (by simp)) ?_); (try clear F T); (rintro _ u W ⟨s2, rfl, hs⟩ T F); (have z2 := one_sz hs (by decide)); (clear hs); (try dsimp only)) | refine aYQ ?_ | ((with_reducible apply fSli F slInt); exact rfl; exact rfl; exact rfl; decide; decide; (go_simp; exact rfl); exact rfl) | ((with_reducible apply fSli F slStr); exact rfl; exact rfl; exact rfl; decide; decide; (go_simp; exact rfl); exact rfl) | (refine aTQ ?_; clear F; intro W F) | refine aNQ ?_)
 (clear F; intro b35 W F; try simp only [Act.put, z6, z1, z2])
 go_wp2_with (first | go_skip | ((go_at_call 29); (with_reducible refine fr_tap F T (toneF (N := 870) [⟨#[85, 83, 68]⟩, ⟨#[69, 85, 82]⟩, ⟨#[85, 83]⟩] F (T.less (by omega)) tL (by with_unfolding_all rfl) (by with_unfolding_all rfl) (by simp) (by simp)) ?_); (try clear F T); (rintro _ u W ⟨s3, rfl, hs⟩ T F); (have z3 := one_sz hs (by decide)); (clear hs); (try dsimp only)) | refine aYQ ?_ | ((with_reducible apply fSli F slInt); exact rfl; exact rfl; exact rfl; decide; decide; (go_simp; exact rfl); exact rfl) | ((with_reducible apply fSli F slStr); exact rfl; exact rfl; exact rfl; decide; decide; (go_simp; exact rfl); exact rfl) | (refine aTQ ?_; clear F; intro W F) | refine aNQ ?_)
 (clear F; intro b43 W F; try simp only [Act.put, z6, z1, z2])
 go_wp2_with (first | go_skip | ((go_at_call 29); (with_reducible refine fr_tap F T (toneF (N := 860) [D, D, D, ⟨#[50, 48, 50, 54, 45, 48, 50, 45, 51, 48]⟩, ⟨#[50, 48, 50, 54, 45, 49, 45, 53]⟩] F (T.less (by omega)) tL (by with_unfolding_all rfl) (by with_unfolding_all rfl) (by simp) (by simp)) ?_); (try clear F T); (rintro _ u W ⟨s4, rfl, hs⟩ T F); (have z4 := one_szD hD hs); (clear hs); (try dsimp only)) | refine aYQ ?_ | ((with_reducible apply fSli F slInt); exact rfl; exact rfl; exact rfl; decide; decide; (go_simp; exact rfl); exact rfl) | ((with_reducible apply fSli F slStr); exact rfl; exact rfl; exact rfl; decide; decide; (go_simp; exact rfl); exact rfl) | (refine aTQ ?_; clear F; intro W F) | refine aNQ ?_)
 (clear F; intro b48 W F; try simp only [Act.put, z6, z1, z2])
 go_wp2_with (first | go_skip | ((go_at_call 29); (with_reducible refine fr_tap F T (toneF (N := 850) [⟨#[49, 48, 49, 46, 50, 53]⟩, ⟨#[49]⟩, ⟨#[48]⟩, ⟨#[45, 49]⟩, ⟨#[45]⟩, ⟨#[48, 46, 48, 48, 48, 48, 48, 49]⟩, ⟨#[48, 46, 48, 48, 48, 48, 48, 48, 49]⟩, ⟨#[49, 48, 48, 48, 48, 48, 48, 48, 48, 48]⟩, ⟨#[49, 48, 48, 48, 48, 48, 48, 48, 48, 48, 46, 49]⟩, ⟨#[48, 49]⟩, ⟨#[]⟩] F (T.less (by omega)) tL (by with_unfolding_all rfl) (by with_unfolding_all rfl) (by simp) (by simp)) ?_); (try clear F T); (rintro _ u W ⟨s5, rfl, hs⟩ T F); (have z5 := one_sz hs (by decide)); (clear hs); (try dsimp only)) | refine aYQ ?_ | ((with_reducible apply fSli F slInt); exact rfl; exact rfl; exact rfl; decide; decide; (go_simp; exact rfl); exact rfl) | ((with_reducible apply fSli F slStr); exact rfl; exact rfl; exact rfl; decide; decide; (go_simp; exact rfl); exact rfl) | (refine aTQ ?_; clear F; intro W F) | refine aNQ ?_)
 (clear F; intro b52 W F; try simp only [Act.put, z6, z1, z2])
 go_upto_region 4 with (first | go_skip | ((go_at_call 29); (with_reducible refine fr_tap F T (toneF (N := 840) [⟨#[]⟩, ⟨#[]⟩, ⟨#[]⟩, ⟨#[44]⟩, ⟨#[32]⟩] F (T.less (by omega)) tL (by with_unfolding_all rfl) (by with_unfolding_all rfl) (by simp) (by simp)) ?_); (try clear F T); (rintro _ u W ⟨s6, rfl, hs⟩ T F); (have z6 := one_sz hs (by decide)); (clear hs); (try dsimp only)) | refine aYQ ?_ | ((with_reducible apply fSli F slInt); exact rfl; exact rfl; exact rfl; decide; decide; (go_simp; exact rfl); exact rfl) | ((with_reducible apply fSli F slStr); exact rfl; exact rfl; exact rfl; decide; decide; (go_simp; exact rfl); exact rfl) | (refine aTQ ?_; clear F; intro W F) | refine aNQ ?_)
 have hS : (s0 ++ s1 ++ s2 ++ ⟨#[44]⟩ ++ s3 ++ ⟨#[44]⟩ ++ s4 ++ ⟨#[44]⟩ ++ s5 ++ s6).size ≤ 2000000 := by
  simp only [ByteArray.size_append]
  have : (⟨#[44]⟩ : ByteArray).size = 1 := rfl
  omega
 generalize s0 ++ s1 ++ s2 ++ ⟨#[44]⟩ ++ s3 ++ ⟨#[44]⟩ ++ s4 ++ ⟨#[44]⟩ ++ s5 ++ s6 = S at *
 clear z0 z1 z2 z3 z4 z5 z6 g3 hD
 replace F := F.sub (L' := []) (by repeat (first | exact List.Sublist.slnil | apply List.Sublist.cons_cons | apply List.Sublist.cons))
 go_cut [11] from 11 to 61 (fun v wr => ∃ (q : QT) (u : World) (b11 : Nat), q.wf ∧ v = .pointer (some ⟨b11, 0, none⟩) ∧ Tp w1 u b b 700 ∧ Fr u wr [(b11, qC q, 33)])
 case first =>
  go_wp2_with (first | go_skip | ((go_at_call 17); (with_reducible refine fr_tap F T (tday (N := 800) ((T.less (by omega)).at F)) ?_); (try clear F T); (rintro _ u W ⟨day2, rfl, hday2⟩ T F); (try dsimp only)) | ((go_at_call 19); (with_reducible refine fr_tap F T (tnext (N := 790) 9 (by decide) (by decide) ((T.less (by omega)).at F)) ?_); (try clear F T); (rintro _ u W ⟨kn, rfl, hkn⟩ T F); (try dsimp only)) | ((go_at_call 23); (with_reducible refine fr_tap F T (tquote (N := 700) hday2 ((T.less (by omega)).at F)) ?_); (try clear F T); (rintro _ u W ⟨q, rfl, hq⟩ T F); (try dsimp only)) | refine aYQ ?_ | ((with_reducible apply fSli F slInt); exact rfl; exact rfl; exact rfl; decide; decide; (go_simp; exact rfl); exact rfl) | ((with_reducible apply fSli F slStr); exact rfl; exact rfl; exact rfl; decide; decide; (go_simp; exact rfl); exact rfl) | (refine aTQ ?_; clear F; intro W F) | refine aNQ ?_)
  (clear F; intro b11 W F; try simp only [Act.put, z6, z1, z2])
  go_wp2_with (first | go_skip | refine aYQ ?_ | ((with_reducible apply fSli F slInt); exact rfl; exact rfl; exact rfl; decide; decide; (go_simp; exact rfl); exact rfl) | ((with_reducible apply fSli F slStr); exact rfl; exact rfl; exact rfl; decide; decide; (go_simp; exact rfl); exact rfl) | (refine aTQ ?_; clear F; intro W F) | refine aNQ ?_)
  go_meet
  exact ⟨q, _, b11, hq.wf, rfl, T, F⟩
 case rest =>
 clear F T
 obtain ⟨q, u, b11, hw, rfl, T, F⟩ := hcut
 go_upto_block 0 with (first | go_skip | ((go_at_call 19); (with_reducible refine fr_tap F T (tnext (N := 650) 7 (by decide) (by decide) ((T.less (by omega)).at F)) ?_); (try clear F T); (rintro _ u W ⟨k, rfl, hk⟩ T F); (try dsimp only)) | refine aYQ ?_ | ((with_reducible apply fSli F slInt); exact rfl; exact rfl; exact rfl; decide; decide; (go_simp; exact rfl); exact rfl) | ((with_reducible apply fSli F slStr); exact rfl; exact rfl; exact rfl; decide; decide; (go_simp; exact rfl); exact rfl) | (refine aTQ ?_; clear F; intro W F) | refine aNQ ?_)
 go_cut [] from 64 to 111 (fun wr => ∃ (q : QT) (u : World), q.wf ∧ Tp w1 u b b 600 ∧ Fr u wr [(b11, qC q, 33)])
 case first =>
  rcases (show k = 0 ∨ k = 1 ∨ k = 2 ∨ k = 3 ∨ k = 4 ∨ k = 5 ∨ k = 6 by omega) with rfl | rfl | rfl | rfl | rfl | rfl | rfl
  ·skip
   go_wp2_with (first | go_skip | refine aYQ ?_ | ((with_reducible apply fSli F slInt); exact rfl; exact rfl; exact rfl; decide; decide; (go_simp; exact rfl); exact rfl) | ((with_reducible apply fSli F slStr); exact rfl; exact rfl; exact rfl; decide; decide; (go_simp; exact rfl); exact rfl) | (refine aTQ ?_; clear F; intro W F) | refine aNQ ?_)
   (clear F; intro b71 W F; try simp only [Act.put, z6, z1, z2])
   go_wp2_with (first | go_skip | ((go_at_call 29); (with_reducible refine fr_tap F T (toneF (N := 600) [⟨#[]⟩, ⟨#[65]⟩, ⟨#[97, 98, 99, 100, 101, 102, 103, 104, 105, 106, 107, 108, 109, 110, 111, 112, 113]⟩] F (T.less (by omega)) tL (by with_unfolding_all rfl) (by with_unfolding_all rfl) (by simp) (by simp)) ?_); (try clear F T); (rintro _ u W ⟨s, rfl, hs⟩ T F); (have hz := one_sz hs (by decide)); (obtain ⟨l, rfl⟩ : ∃ l, s = bs l := ⟨_, (bs_of s).symm⟩); (rw [bs_size] at hz); (clear hs); (try dsimp only)) | refine aYQ ?_ | ((with_reducible apply fSli F slInt); exact rfl; exact rfl; exact rfl; decide; decide; (go_simp; exact rfl); exact rfl) | ((with_reducible apply fSli F slStr); exact rfl; exact rfl; exact rfl; decide; decide; (go_simp; exact rfl); exact rfl) | (refine aTQ ?_; clear F; intro W F) | refine aNQ ?_)
   go_meet
   exact ⟨{ q with src := l }, u, ⟨hw.a, hw.b, by dsimp only; omega, hw.s2, hw.s3⟩, T, F.sub (by repeat (first | exact List.Sublist.slnil | apply List.Sublist.cons_cons | apply List.Sublist.cons))⟩
  ·skip
   go_wp2_with (first | go_skip | refine aYQ ?_ | ((with_reducible apply fSli F slInt); exact rfl; exact rfl; exact rfl; decide; decide; (go_simp; exact rfl); exact rfl) | ((with_reducible apply fSli F slStr); exact rfl; exact rfl; exact rfl; decide; decide; (go_simp; exact rfl); exact rfl) | (refine aTQ ?_; clear F; intro W F) | refine aNQ ?_)
   (clear F; intro b77 W F; try simp only [Act.put, z6, z1, z2])
   go_wp2_with (first | go_skip | ((go_at_call 29); (with_reducible refine fr_tap F T (toneF (N := 600) [⟨#[]⟩, ⟨#[97]⟩, ⟨#[65, 66, 67, 68, 69, 70, 71, 72, 73, 74, 75, 76, 77]⟩] F (T.less (by omega)) tL (by with_unfolding_all rfl) (by with_unfolding_all rfl) (by simp) (by simp)) ?_); (try clear F T); (rintro _ u W ⟨s, rfl, hs⟩ T F); (have hz := one_sz hs (by decide)); (obtain ⟨l, rfl⟩ : ∃ l, s = bs l := ⟨_, (bs_of s).symm⟩); (rw [bs_size] at hz); (clear hs); (try dsimp only)) | refine aYQ ?_ | ((with_reducible apply fSli F slInt); exact rfl; exact rfl; exact rfl; decide; decide; (go_simp; exact rfl); exact rfl) | ((with_reducible apply fSli F slStr); exact rfl; exact rfl; exact rfl; decide; decide; (go_simp; exact rfl); exact rfl) | (refine aTQ ?_; clear F; intro W F) | refine aNQ ?_)
   go_meet
   exact ⟨{ q with ins := l }, u, ⟨hw.a, hw.b, hw.s1, by dsimp only; omega, hw.s3⟩, T, F.sub (by repeat (first | exact List.Sublist.slnil | apply List.Sublist.cons_cons | apply List.Sublist.cons))⟩
  ·skip
   go_wp2_with (first | go_skip | refine aYQ ?_ | ((with_reducible apply fSli F slInt); exact rfl; exact rfl; exact rfl; decide; decide; (go_simp; exact rfl); exact rfl) | ((with_reducible apply fSli F slStr); exact rfl; exact rfl; exact rfl; decide; decide; (go_simp; exact rfl); exact rfl) | (refine aTQ ?_; clear F; intro W F) | refine aNQ ?_)
   (clear F; intro b83 W F; try simp only [Act.put, z6, z1, z2])
   go_wp2_with (first | go_skip | ((go_at_call 29); (with_reducible refine fr_tap F T (toneF (N := 600) [⟨#[]⟩, ⟨#[117, 115, 100]⟩, ⟨#[85, 83, 68, 88]⟩] F (T.less (by omega)) tL (by with_unfolding_all rfl) (by with_unfolding_all rfl) (by simp) (by simp)) ?_); (try clear F T); (rintro _ u W ⟨s, rfl, hs⟩ T F); (have hz := one_sz hs (by decide)); (obtain ⟨l, rfl⟩ : ∃ l, s = bs l := ⟨_, (bs_of s).symm⟩); (rw [bs_size] at hz); (clear hs); (try dsimp only)) | refine aYQ ?_ | ((with_reducible apply fSli F slInt); exact rfl; exact rfl; exact rfl; decide; decide; (go_simp; exact rfl); exact rfl) | ((with_reducible apply fSli F slStr); exact rfl; exact rfl; exact rfl; decide; decide; (go_simp; exact rfl); exact rfl) | (refine aTQ ?_; clear F; intro W F) | refine aNQ ?_)
   go_meet
   exact ⟨{ q with cur := l }, u, ⟨hw.a, hw.b, hw.s1, hw.s2, by dsimp only; omega⟩, T, F.sub (by repeat (first | exact List.Sublist.slnil | apply List.Sublist.cons_cons | apply List.Sublist.cons))⟩
  ·skip
   go_wp2_with (first | go_skip | refine aYQ ?_ | ((with_reducible apply fSli F slInt); exact rfl; exact rfl; exact rfl; decide; decide; (go_simp; exact rfl); exact rfl) | ((with_reducible apply fSli F slStr); exact rfl; exact rfl; exact rfl; decide; decide; (go_simp; exact rfl); exact rfl) | (refine aTQ ?_; clear F; intro W F) | refine aNQ ?_)
   (clear F; intro b90 W F; try simp only [Act.put, z6, z1, z2])
   go_wp2_with (first | go_skip | ((go_at_call 30); (with_reducible refine fr_tap F T (tpickF (N := 600) [n, -1, 73049] F (T.less (by omega)) tL (by with_unfolding_all rfl) (by with_unfolding_all rfl) (by simp) (by simp)) ?_); (try clear F T); (rintro _ u W ⟨z, rfl, hz⟩ T F); (clear hz); (try dsimp only)) | refine aYQ ?_ | ((with_reducible apply fSli F slInt); exact rfl; exact rfl; exact rfl; decide; decide; (go_simp; exact rfl); exact rfl) | ((with_reducible apply fSli F slStr); exact rfl; exact rfl; exact rfl; decide; decide; (go_simp; exact rfl); exact rfl) | (refine aTQ ?_; clear F; intro W F) | refine aNQ ?_)
   go_meet
   exact ⟨{ q with day := z }, u, ⟨hw.a, hw.b, hw.s1, hw.s2, hw.s3⟩, T, F.sub (by repeat (first | exact List.Sublist.slnil | apply List.Sublist.cons_cons | apply List.Sublist.cons))⟩
  ·skip
   have gO1 := fun w => makeOf_any (n := 0) (d := 1) (by decide) (by decide) (by decide) (by decide) k01 w
   have gO2 := fun w => makeOf_any (n := 1) (d := 3) (by decide) (by decide) (by decide) (by decide) k13 w
   have gO3 := fun w => makeOf_any (n := 1) (d := 10000000) (by decide) (by decide) (by decide) (by decide) k17 w
   have gO4 := fun w => makeOf_any (n := 2000000000) (d := 1) (by decide) (by decide) (by decide) (by decide) k29 w
   go_upto_region 16 with (first | go_skip | refine aYQ ?_ | ((with_reducible apply fSli F slInt); exact rfl; exact rfl; exact rfl; decide; decide; (go_simp; exact rfl); exact rfl) | ((with_reducible apply fSli F slStr); exact rfl; exact rfl; exact rfl; decide; decide; (go_simp; exact rfl); exact rfl) | (refine aTQ ?_; clear F; intro W F) | refine aNQ ?_)
   try simp only [Act.put, z6, z1, z2]
   refine wp_region_bm 11 (by kernel_rfl) rfl ?_
   replace F := F.drew
   revert F
   generalize World.drew _ = W
   intro F
   (refine dg_take 0 95 1 (v := ?_) rfl (by kernel_rfl) (by kernel_rfl) (by kernel_rfl) (by kernel_rfl) (by kernel_rfl) (fun _ _ _ h => h) (Or.inl ⟨by kernel_rfl, ?_⟩) ?_; rotate_left; (focus (intro w; go_simp; try (with_reducible rfl))); (simp only [z1, z2]))
   apply dg_meet (f' := 4) (m' := 127)
   ·intro M
    refine dg_ready [1, 2, 6] (by kernel_rfl) rfl ?_
    refine dg_want 1 3 rfl (by kernel_rfl) rfl (fun K hK => ?_) ?_
    ·skip
     (simp only [z3, z4, z5])
     (first | ((with_reducible refine gLW (HB5.out _ _ _ _ T F) ?_ ?_ ?_); exact rfl; (with_reducible exact rowRat _ _ _ _); go_simp) | (first | ((with_reducible apply gL F); exact rfl; (exact tL); (exact tR3); go_simp) | ((with_reducible apply gLm F); exact rfl; (exact tL); (first | (with_reducible exact q_rat _) | (exact tM3)); (exact tR3); go_simp) | ((refine ⟨?_⟩); go_simp)))
     (refine hK _ _ ?_; clear hK K)
     refine dg_ready [2, 6] (by kernel_rfl) rfl ?_
     refine dg_want 2 7 rfl (by kernel_rfl) rfl (fun K hK => ?_) ?_
     ·skip
      (simp only [z3, z4, z5])
      ((refine ⟨?_⟩); go_simp; (first | ((with_reducible refine fr_call F (gO1 _) ?_); (try clear F); (intro W F); (try dsimp only)) | skip))
      (refine hK _ _ ?_; clear hK K)
      refine dg_ready [3, 6] (by kernel_rfl) rfl ?_
      refine dg_want 3 15 rfl (by kernel_rfl) rfl (fun K hK => ?_) ?_
      ·skip
       (simp only [z3, z4, z5])
       ((refine ⟨?_⟩); go_simp; (first | ((with_reducible refine fr_call F (gO2 _) ?_); (try clear F); (intro W F); (try dsimp only)) | skip))
       (refine hK _ _ ?_; clear hK K)
       refine dg_ready [4, 6] (by kernel_rfl) rfl ?_
       refine dg_want 4 31 rfl (by kernel_rfl) rfl (fun K hK => ?_) ?_
       ·skip
        (simp only [z3, z4, z5])
        ((refine ⟨?_⟩); go_simp; (first | ((with_reducible refine fr_call F (gO3 _) ?_); (try clear F); (intro W F); (try dsimp only)) | skip))
        (refine hK _ _ ?_; clear hK K)
        refine dg_ready [5, 6] (by kernel_rfl) rfl ?_
        refine dg_want 5 63 rfl (by kernel_rfl) rfl (fun K hK => ?_) ?_
        ·skip
         (simp only [z3, z4, z5])
         ((refine ⟨?_⟩); go_simp; (first | ((with_reducible refine fr_call F (gO4 _) ?_); (try clear F); (intro W F); (try dsimp only)) | skip))
         (refine hK _ _ ?_; clear hK K)
         refine dg_one 6 127 (by kernel_rfl) rfl (by kernel_rfl) rfl (fun K hK => ?_)
         (simp only [z3, z4, z5])
         ((with_reducible apply gB_rat0); go_simp)
         (refine hK _ _ ?_; clear hK K)
         exact M _ F
        refine dg_want 6 95 rfl (by kernel_rfl) rfl (fun K hK => ?_) ?_
        ·skip
         (simp only [z3, z4, z5])
         ((with_reducible apply gB_rat0); go_simp)
         (refine hK _ _ ?_; clear hK K)
         refine dg_one 5 127 (by kernel_rfl) rfl (by kernel_rfl) rfl (fun K hK => ?_)
         (simp only [z3, z4, z5])
         ((refine ⟨?_⟩); go_simp; (first | ((with_reducible refine fr_call F (gO4 _) ?_); (try clear F); (intro W F); (try dsimp only)) | skip))
         (refine hK _ _ ?_; clear hK K)
         exact M _ F
        exact dg_nil
       refine dg_want 6 79 rfl (by kernel_rfl) rfl (fun K hK => ?_) ?_
       ·skip
        (simp only [z3, z4, z5])
        ((with_reducible apply gB_rat0); go_simp)
        (refine hK _ _ ?_; clear hK K)
        refine dg_one 4 95 (by kernel_rfl) rfl (by kernel_rfl) rfl (fun K hK => ?_)
        (simp only [z3, z4, z5])
        ((refine ⟨?_⟩); go_simp; (first | ((with_reducible refine fr_call F (gO3 _) ?_); (try clear F); (intro W F); (try dsimp only)) | skip))
        (refine hK _ _ ?_; clear hK K)
        refine dg_one 5 127 (by kernel_rfl) rfl (by kernel_rfl) rfl (fun K hK => ?_)
        (simp only [z3, z4, z5])
        ((refine ⟨?_⟩); go_simp; (first | ((with_reducible refine fr_call F (gO4 _) ?_); (try clear F); (intro W F); (try dsimp only)) | skip))
        (refine hK _ _ ?_; clear hK K)
        exact M _ F
       exact dg_nil
      refine dg_want 6 71 rfl (by kernel_rfl) rfl (fun K hK => ?_) ?_
      ·skip
       (simp only [z3, z4, z5])
       ((with_reducible apply gB_rat0); go_simp)
       (refine hK _ _ ?_; clear hK K)
       refine dg_one 3 79 (by kernel_rfl) rfl (by kernel_rfl) rfl (fun K hK => ?_)
       (simp only [z3, z4, z5])
       ((refine ⟨?_⟩); go_simp; (first | ((with_reducible refine fr_call F (gO2 _) ?_); (try clear F); (intro W F); (try dsimp only)) | skip))
       (refine hK _ _ ?_; clear hK K)
       refine dg_one 4 95 (by kernel_rfl) rfl (by kernel_rfl) rfl (fun K hK => ?_)
       (simp only [z3, z4, z5])
       ((refine ⟨?_⟩); go_simp; (first | ((with_reducible refine fr_call F (gO3 _) ?_); (try clear F); (intro W F); (try dsimp only)) | skip))
       (refine hK _ _ ?_; clear hK K)
       refine dg_one 5 127 (by kernel_rfl) rfl (by kernel_rfl) rfl (fun K hK => ?_)
       (simp only [z3, z4, z5])
       ((refine ⟨?_⟩); go_simp; (first | ((with_reducible refine fr_call F (gO4 _) ?_); (try clear F); (intro W F); (try dsimp only)) | skip))
       (refine hK _ _ ?_; clear hK K)
       exact M _ F
      exact dg_nil
     refine dg_want 6 67 rfl (by kernel_rfl) rfl (fun K hK => ?_) ?_
     ·skip
      (simp only [z3, z4, z5])
      ((with_reducible apply gB_rat0); go_simp)
      (refine hK _ _ ?_; clear hK K)
      refine dg_one 2 71 (by kernel_rfl) rfl (by kernel_rfl) rfl (fun K hK => ?_)
      (simp only [z3, z4, z5])
      ((refine ⟨?_⟩); go_simp; (first | ((with_reducible refine fr_call F (gO1 _) ?_); (try clear F); (intro W F); (try dsimp only)) | skip))
      (refine hK _ _ ?_; clear hK K)
      refine dg_one 3 79 (by kernel_rfl) rfl (by kernel_rfl) rfl (fun K hK => ?_)
      (simp only [z3, z4, z5])
      ((refine ⟨?_⟩); go_simp; (first | ((with_reducible refine fr_call F (gO2 _) ?_); (try clear F); (intro W F); (try dsimp only)) | skip))
      (refine hK _ _ ?_; clear hK K)
      refine dg_one 4 95 (by kernel_rfl) rfl (by kernel_rfl) rfl (fun K hK => ?_)
      (simp only [z3, z4, z5])
      ((refine ⟨?_⟩); go_simp; (first | ((with_reducible refine fr_call F (gO3 _) ?_); (try clear F); (intro W F); (try dsimp only)) | skip))
      (refine hK _ _ ?_; clear hK K)
      refine dg_one 5 127 (by kernel_rfl) rfl (by kernel_rfl) rfl (fun K hK => ?_)
      (simp only [z3, z4, z5])
      ((refine ⟨?_⟩); go_simp; (first | ((with_reducible refine fr_call F (gO4 _) ?_); (try clear F); (intro W F); (try dsimp only)) | skip))
      (refine hK _ _ ?_; clear hK K)
      exact M _ F
     exact dg_nil
    refine dg_want 2 5 rfl (by kernel_rfl) rfl (fun K hK => ?_) ?_
    ·skip
     (simp only [z3, z4, z5])
     ((refine ⟨?_⟩); go_simp; (first | ((with_reducible refine fr_call F (gO1 _) ?_); (try clear F); (intro W F); (try dsimp only)) | skip))
     (refine hK _ _ ?_; clear hK K)
     refine dg_ready [1, 3, 6] (by kernel_rfl) rfl ?_
     refine dg_want 1 7 rfl (by kernel_rfl) rfl (fun K hK => ?_) ?_
     ·skip
      (simp only [z3, z4, z5])
      (first | ((with_reducible refine gLW (HB5.out _ _ _ _ T F) ?_ ?_ ?_); exact rfl; (with_reducible exact rowRat _ _ _ _); go_simp) | (first | ((with_reducible apply gL F); exact rfl; (exact tL); (exact tR3); go_simp) | ((with_reducible apply gLm F); exact rfl; (exact tL); (first | (with_reducible exact q_rat _) | (exact tM3)); (exact tR3); go_simp) | ((refine ⟨?_⟩); go_simp)))
      (refine hK _ _ ?_; clear hK K)
      refine dg_ready [3, 6] (by kernel_rfl) rfl ?_
      refine dg_want 3 15 rfl (by kernel_rfl) rfl (fun K hK => ?_) ?_
      ·skip
       (simp only [z3, z4, z5])
       ((refine ⟨?_⟩); go_simp; (first | ((with_reducible refine fr_call F (gO2 _) ?_); (try clear F); (intro W F); (try dsimp only)) | skip))
       (refine hK _ _ ?_; clear hK K)
       refine dg_ready [4, 6] (by kernel_rfl) rfl ?_
       refine dg_want 4 31 rfl (by kernel_rfl) rfl (fun K hK => ?_) ?_
       ·skip
        (simp only [z3, z4, z5])
        ((refine ⟨?_⟩); go_simp; (first | ((with_reducible refine fr_call F (gO3 _) ?_); (try clear F); (intro W F); (try dsimp only)) | skip))
        (refine hK _ _ ?_; clear hK K)
        refine dg_ready [5, 6] (by kernel_rfl) rfl ?_
        refine dg_want 5 63 rfl (by kernel_rfl) rfl (fun K hK => ?_) ?_
        ·skip
         (simp only [z3, z4, z5])
         ((refine ⟨?_⟩); go_simp; (first | ((with_reducible refine fr_call F (gO4 _) ?_); (try clear F); (intro W F); (try dsimp only)) | skip))
         (refine hK _ _ ?_; clear hK K)
         refine dg_one 6 127 (by kernel_rfl) rfl (by kernel_rfl) rfl (fun K hK => ?_)
         (simp only [z3, z4, z5])
         ((with_reducible apply gB_rat0); go_simp)
         (refine hK _ _ ?_; clear hK K)
         exact M _ F
        refine dg_want 6 95 rfl (by kernel_rfl) rfl (fun K hK => ?_) ?_
        ·skip
         (simp only [z3, z4, z5])
         ((with_reducible apply gB_rat0); go_simp)
         (refine hK _ _ ?_; clear hK K)
         refine dg_one 5 127 (by kernel_rfl) rfl (by kernel_rfl) rfl (fun K hK => ?_)
         (simp only [z3, z4, z5])
         ((refine ⟨?_⟩); go_simp; (first | ((with_reducible refine fr_call F (gO4 _) ?_); (try clear F); (intro W F); (try dsimp only)) | skip))
         (refine hK _ _ ?_; clear hK K)
         exact M _ F
        exact dg_nil
       refine dg_want 6 79 rfl (by kernel_rfl) rfl (fun K hK => ?_) ?_
       ·skip
        (simp only [z3, z4, z5])
        ((with_reducible apply gB_rat0); go_simp)
        (refine hK _ _ ?_; clear hK K)
        refine dg_one 4 95 (by kernel_rfl) rfl (by kernel_rfl) rfl (fun K hK => ?_)
        (simp only [z3, z4, z5])
        ((refine ⟨?_⟩); go_simp; (first | ((with_reducible refine fr_call F (gO3 _) ?_); (try clear F); (intro W F); (try dsimp only)) | skip))
        (refine hK _ _ ?_; clear hK K)
        refine dg_one 5 127 (by kernel_rfl) rfl (by kernel_rfl) rfl (fun K hK => ?_)
        (simp only [z3, z4, z5])
        ((refine ⟨?_⟩); go_simp; (first | ((with_reducible refine fr_call F (gO4 _) ?_); (try clear F); (intro W F); (try dsimp only)) | skip))
        (refine hK _ _ ?_; clear hK K)
        exact M _ F
       exact dg_nil
      refine dg_want 6 71 rfl (by kernel_rfl) rfl (fun K hK => ?_) ?_
      ·skip
       (simp only [z3, z4, z5])
       ((with_reducible apply gB_rat0); go_simp)
       (refine hK _ _ ?_; clear hK K)
       refine dg_one 3 79 (by kernel_rfl) rfl (by kernel_rfl) rfl (fun K hK => ?_)
       (simp only [z3, z4, z5])
       ((refine ⟨?_⟩); go_simp; (first | ((with_reducible refine fr_call F (gO2 _) ?_); (try clear F); (intro W F); (try dsimp only)) | skip))
       (refine hK _ _ ?_; clear hK K)
       refine dg_one 4 95 (by kernel_rfl) rfl (by kernel_rfl) rfl (fun K hK => ?_)
       (simp only [z3, z4, z5])
       ((refine ⟨?_⟩); go_simp; (first | ((with_reducible refine fr_call F (gO3 _) ?_); (try clear F); (intro W F); (try dsimp only)) | skip))
       (refine hK _ _ ?_; clear hK K)
       refine dg_one 5 127 (by kernel_rfl) rfl (by kernel_rfl) rfl (fun K hK => ?_)
       (simp only [z3, z4, z5])
       ((refine ⟨?_⟩); go_simp; (first | ((with_reducible refine fr_call F (gO4 _) ?_); (try clear F); (intro W F); (try dsimp only)) | skip))
       (refine hK _ _ ?_; clear hK K)
       exact M _ F
      exact dg_nil
     refine dg_want 3 13 rfl (by kernel_rfl) rfl (fun K hK => ?_) ?_
     ·skip
      (simp only [z3, z4, z5])
      ((refine ⟨?_⟩); go_simp; (first | ((with_reducible refine fr_call F (gO2 _) ?_); (try clear F); (intro W F); (try dsimp only)) | skip))
      (refine hK _ _ ?_; clear hK K)
      refine dg_ready [1, 4, 6] (by kernel_rfl) rfl ?_
      refine dg_want 1 15 rfl (by kernel_rfl) rfl (fun K hK => ?_) ?_
      ·skip
       (simp only [z3, z4, z5])
       (first | ((with_reducible refine gLW (HB5.out _ _ _ _ T F) ?_ ?_ ?_); exact rfl; (with_reducible exact rowRat _ _ _ _); go_simp) | (first | ((with_reducible apply gL F); exact rfl; (exact tL); (exact tR3); go_simp) | ((with_reducible apply gLm F); exact rfl; (exact tL); (first | (with_reducible exact q_rat _) | (exact tM3)); (exact tR3); go_simp) | ((refine ⟨?_⟩); go_simp)))
       (refine hK _ _ ?_; clear hK K)
       refine dg_ready [4, 6] (by kernel_rfl) rfl ?_
       refine dg_want 4 31 rfl (by kernel_rfl) rfl (fun K hK => ?_) ?_
       ·skip
        (simp only [z3, z4, z5])
        ((refine ⟨?_⟩); go_simp; (first | ((with_reducible refine fr_call F (gO3 _) ?_); (try clear F); (intro W F); (try dsimp only)) | skip))
        (refine hK _ _ ?_; clear hK K)
        refine dg_ready [5, 6] (by kernel_rfl) rfl ?_
        refine dg_want 5 63 rfl (by kernel_rfl) rfl (fun K hK => ?_) ?_
        ·skip
         (simp only [z3, z4, z5])
         ((refine ⟨?_⟩); go_simp; (first | ((with_reducible refine fr_call F (gO4 _) ?_); (try clear F); (intro W F); (try dsimp only)) | skip))
         (refine hK _ _ ?_; clear hK K)
         refine dg_one 6 127 (by kernel_rfl) rfl (by kernel_rfl) rfl (fun K hK => ?_)
         (simp only [z3, z4, z5])
         ((with_reducible apply gB_rat0); go_simp)
         (refine hK _ _ ?_; clear hK K)
         exact M _ F
        refine dg_want 6 95 rfl (by kernel_rfl) rfl (fun K hK => ?_) ?_
        ·skip
         (simp only [z3, z4, z5])
         ((with_reducible apply gB_rat0); go_simp)
         (refine hK _ _ ?_; clear hK K)
         refine dg_one 5 127 (by kernel_rfl) rfl (by kernel_rfl) rfl (fun K hK => ?_)
         (simp only [z3, z4, z5])
         ((refine ⟨?_⟩); go_simp; (first | ((with_reducible refine fr_call F (gO4 _) ?_); (try clear F); (intro W F); (try dsimp only)) | skip))
         (refine hK _ _ ?_; clear hK K)
         exact M _ F
        exact dg_nil
       refine dg_want 6 79 rfl (by kernel_rfl) rfl (fun K hK => ?_) ?_
       ·skip
        (simp only [z3, z4, z5])
        ((with_reducible apply gB_rat0); go_simp)
        (refine hK _ _ ?_; clear hK K)
        refine dg_one 4 95 (by kernel_rfl) rfl (by kernel_rfl) rfl (fun K hK => ?_)
        (simp only [z3, z4, z5])
        ((refine ⟨?_⟩); go_simp; (first | ((with_reducible refine fr_call F (gO3 _) ?_); (try clear F); (intro W F); (try dsimp only)) | skip))
        (refine hK _ _ ?_; clear hK K)
        refine dg_one 5 127 (by kernel_rfl) rfl (by kernel_rfl) rfl (fun K hK => ?_)
        (simp only [z3, z4, z5])
        ((refine ⟨?_⟩); go_simp; (first | ((with_reducible refine fr_call F (gO4 _) ?_); (try clear F); (intro W F); (try dsimp only)) | skip))
        (refine hK _ _ ?_; clear hK K)
        exact M _ F
       exact dg_nil
      refine dg_want 4 29 rfl (by kernel_rfl) rfl (fun K hK => ?_) ?_
      ·skip
       (simp only [z3, z4, z5])
       ((refine ⟨?_⟩); go_simp; (first | ((with_reducible refine fr_call F (gO3 _) ?_); (try clear F); (intro W F); (try dsimp only)) | skip))
       (refine hK _ _ ?_; clear hK K)
       refine dg_ready [1, 5, 6] (by kernel_rfl) rfl ?_
       refine dg_want 1 31 rfl (by kernel_rfl) rfl (fun K hK => ?_) ?_
       ·skip
        (simp only [z3, z4, z5])
        (first | ((with_reducible refine gLW (HB5.out _ _ _ _ T F) ?_ ?_ ?_); exact rfl; (with_reducible exact rowRat _ _ _ _); go_simp) | (first | ((with_reducible apply gL F); exact rfl; (exact tL); (exact tR3); go_simp) | ((with_reducible apply gLm F); exact rfl; (exact tL); (first | (with_reducible exact q_rat _) | (exact tM3)); (exact tR3); go_simp) | ((refine ⟨?_⟩); go_simp)))
        (refine hK _ _ ?_; clear hK K)
        refine dg_ready [5, 6] (by kernel_rfl) rfl ?_
        refine dg_want 5 63 rfl (by kernel_rfl) rfl (fun K hK => ?_) ?_
        ·skip
         (simp only [z3, z4, z5])
         ((refine ⟨?_⟩); go_simp; (first | ((with_reducible refine fr_call F (gO4 _) ?_); (try clear F); (intro W F); (try dsimp only)) | skip))
         (refine hK _ _ ?_; clear hK K)
         refine dg_one 6 127 (by kernel_rfl) rfl (by kernel_rfl) rfl (fun K hK => ?_)
         (simp only [z3, z4, z5])
         ((with_reducible apply gB_rat0); go_simp)
         (refine hK _ _ ?_; clear hK K)
         exact M _ F
        refine dg_want 6 95 rfl (by kernel_rfl) rfl (fun K hK => ?_) ?_
        ·skip
         (simp only [z3, z4, z5])
         ((with_reducible apply gB_rat0); go_simp)
         (refine hK _ _ ?_; clear hK K)
         refine dg_one 5 127 (by kernel_rfl) rfl (by kernel_rfl) rfl (fun K hK => ?_)
         (simp only [z3, z4, z5])
         ((refine ⟨?_⟩); go_simp; (first | ((with_reducible refine fr_call F (gO4 _) ?_); (try clear F); (intro W F); (try dsimp only)) | skip))
         (refine hK _ _ ?_; clear hK K)
         exact M _ F
        exact dg_nil
       refine dg_want 5 61 rfl (by kernel_rfl) rfl (fun K hK => ?_) ?_
       ·skip
        (simp only [z3, z4, z5])
        ((refine ⟨?_⟩); go_simp; (first | ((with_reducible refine fr_call F (gO4 _) ?_); (try clear F); (intro W F); (try dsimp only)) | skip))
        (refine hK _ _ ?_; clear hK K)
        refine dg_ready [1, 6] (by kernel_rfl) rfl ?_
        refine dg_want 1 63 rfl (by kernel_rfl) rfl (fun K hK => ?_) ?_
        ·skip
         (simp only [z3, z4, z5])
         (first | ((with_reducible refine gLW (HB5.out _ _ _ _ T F) ?_ ?_ ?_); exact rfl; (with_reducible exact rowRat _ _ _ _); go_simp) | (first | ((with_reducible apply gL F); exact rfl; (exact tL); (exact tR3); go_simp) | ((with_reducible apply gLm F); exact rfl; (exact tL); (first | (with_reducible exact q_rat _) | (exact tM3)); (exact tR3); go_simp) | ((refine ⟨?_⟩); go_simp)))
         (refine hK _ _ ?_; clear hK K)
         refine dg_one 6 127 (by kernel_rfl) rfl (by kernel_rfl) rfl (fun K hK => ?_)
         (simp only [z3, z4, z5])
         ((with_reducible apply gB_rat0); go_simp)
         (refine hK _ _ ?_; clear hK K)
         exact M _ F
        refine dg_want 6 125 rfl (by kernel_rfl) rfl (fun K hK => ?_) ?_
        ·skip
         (simp only [z3, z4, z5])
         ((with_reducible apply gB_rat0); go_simp)
         (refine hK _ _ ?_; clear hK K)
         refine dg_one 1 127 (by kernel_rfl) rfl (by kernel_rfl) rfl (fun K hK => ?_)
         (simp only [z3, z4, z5])
         (first | ((with_reducible refine gLW (HB5.out _ _ _ _ T F) ?_ ?_ ?_); exact rfl; (with_reducible exact rowRat _ _ _ _); go_simp) | (first | ((with_reducible apply gL F); exact rfl; (exact tL); (exact tR3); go_simp) | ((with_reducible apply gLm F); exact rfl; (exact tL); (first | (with_reducible exact q_rat _) | (exact tM3)); (exact tR3); go_simp) | ((refine ⟨?_⟩); go_simp)))
         (refine hK _ _ ?_; clear hK K)
         exact M _ F
        exact dg_nil
       refine dg_want 6 93 rfl (by kernel_rfl) rfl (fun K hK => ?_) ?_
       ·skip
        (simp only [z3, z4, z5])
        ((with_reducible apply gB_rat0); go_simp)
        (refine hK _ _ ?_; clear hK K)
        refine dg_ready [1, 5] (by kernel_rfl) rfl ?_
        refine dg_want 1 95 rfl (by kernel_rfl) rfl (fun K hK => ?_) ?_
        ·skip
         (simp only [z3, z4, z5])
         (first | ((with_reducible refine gLW (HB5.out _ _ _ _ T F) ?_ ?_ ?_); exact rfl; (with_reducible exact rowRat _ _ _ _); go_simp) | (first | ((with_reducible apply gL F); exact rfl; (exact tL); (exact tR3); go_simp) | ((with_reducible apply gLm F); exact rfl; (exact tL); (first | (with_reducible exact q_rat _) | (exact tM3)); (exact tR3); go_simp) | ((refine ⟨?_⟩); go_simp)))
         (refine hK _ _ ?_; clear hK K)
         refine dg_one 5 127 (by kernel_rfl) rfl (by kernel_rfl) rfl (fun K hK => ?_)
         (simp only [z3, z4, z5])
         ((refine ⟨?_⟩); go_simp; (first | ((with_reducible refine fr_call F (gO4 _) ?_); (try clear F); (intro W F); (try dsimp only)) | skip))
         (refine hK _ _ ?_; clear hK K)
         exact M _ F
        refine dg_want 5 125 rfl (by kernel_rfl) rfl (fun K hK => ?_) ?_
        ·skip
         (simp only [z3, z4, z5])
         ((refine ⟨?_⟩); go_simp; (first | ((with_reducible refine fr_call F (gO4 _) ?_); (try clear F); (intro W F); (try dsimp only)) | skip))
         (refine hK _ _ ?_; clear hK K)
         refine dg_one 1 127 (by kernel_rfl) rfl (by kernel_rfl) rfl (fun K hK => ?_)
         (simp only [z3, z4, z5])
         (first | ((with_reducible refine gLW (HB5.out _ _ _ _ T F) ?_ ?_ ?_); exact rfl; (with_reducible exact rowRat _ _ _ _); go_simp) | (first | ((with_reducible apply gL F); exact rfl; (exact tL); (exact tR3); go_simp) | ((with_reducible apply gLm F); exact rfl; (exact tL); (first | (with_reducible exact q_rat _) | (exact tM3)); (exact tR3); go_simp) | ((refine ⟨?_⟩); go_simp)))
         (refine hK _ _ ?_; clear hK K)
         exact M _ F
        exact dg_nil
       exact dg_nil
      refine dg_want 6 77 rfl (by kernel_rfl) rfl (fun K hK => ?_) ?_
      ·skip
       (simp only [z3, z4, z5])
       ((with_reducible apply gB_rat0); go_simp)
       (refine hK _ _ ?_; clear hK K)
       refine dg_ready [1, 4] (by kernel_rfl) rfl ?_
       refine dg_want 1 79 rfl (by kernel_rfl) rfl (fun K hK => ?_) ?_
       ·skip
        (simp only [z3, z4, z5])
        (first | ((with_reducible refine gLW (HB5.out _ _ _ _ T F) ?_ ?_ ?_); exact rfl; (with_reducible exact rowRat _ _ _ _); go_simp) | (first | ((with_reducible apply gL F); exact rfl; (exact tL); (exact tR3); go_simp) | ((with_reducible apply gLm F); exact rfl; (exact tL); (first | (with_reducible exact q_rat _) | (exact tM3)); (exact tR3); go_simp) | ((refine ⟨?_⟩); go_simp)))
        (refine hK _ _ ?_; clear hK K)
        refine dg_one 4 95 (by kernel_rfl) rfl (by kernel_rfl) rfl (fun K hK => ?_)
        (simp only [z3, z4, z5])
        ((refine ⟨?_⟩); go_simp; (first | ((with_reducible refine fr_call F (gO3 _) ?_); (try clear F); (intro W F); (try dsimp only)) | skip))
        (refine hK _ _ ?_; clear hK K)
        refine dg_one 5 127 (by kernel_rfl) rfl (by kernel_rfl) rfl (fun K hK => ?_)
        (simp only [z3, z4, z5])
        ((refine ⟨?_⟩); go_simp; (first | ((with_reducible refine fr_call F (gO4 _) ?_); (try clear F); (intro W F); (try dsimp only)) | skip))
        (refine hK _ _ ?_; clear hK K)
        exact M _ F
       refine dg_want 4 93 rfl (by kernel_rfl) rfl (fun K hK => ?_) ?_
       ·skip
        (simp only [z3, z4, z5])
        ((refine ⟨?_⟩); go_simp; (first | ((with_reducible refine fr_call F (gO3 _) ?_); (try clear F); (intro W F); (try dsimp only)) | skip))
        (refine hK _ _ ?_; clear hK K)
        refine dg_ready [1, 5] (by kernel_rfl) rfl ?_
        refine dg_want 1 95 rfl (by kernel_rfl) rfl (fun K hK => ?_) ?_
        ·skip
         (simp only [z3, z4, z5])
         (first | ((with_reducible refine gLW (HB5.out _ _ _ _ T F) ?_ ?_ ?_); exact rfl; (with_reducible exact rowRat _ _ _ _); go_simp) | (first | ((with_reducible apply gL F); exact rfl; (exact tL); (exact tR3); go_simp) | ((with_reducible apply gLm F); exact rfl; (exact tL); (first | (with_reducible exact q_rat _) | (exact tM3)); (exact tR3); go_simp) | ((refine ⟨?_⟩); go_simp)))
         (refine hK _ _ ?_; clear hK K)
         refine dg_one 5 127 (by kernel_rfl) rfl (by kernel_rfl) rfl (fun K hK => ?_)
         (simp only [z3, z4, z5])
         ((refine ⟨?_⟩); go_simp; (first | ((with_reducible refine fr_call F (gO4 _) ?_); (try clear F); (intro W F); (try dsimp only)) | skip))
         (refine hK _ _ ?_; clear hK K)
         exact M _ F
        refine dg_want 5 125 rfl (by kernel_rfl) rfl (fun K hK => ?_) ?_
        ·skip
         (simp only [z3, z4, z5])
         ((refine ⟨?_⟩); go_simp; (first | ((with_reducible refine fr_call F (gO4 _) ?_); (try clear F); (intro W F); (try dsimp only)) | skip))
         (refine hK _ _ ?_; clear hK K)
         refine dg_one 1 127 (by kernel_rfl) rfl (by kernel_rfl) rfl (fun K hK => ?_)
         (simp only [z3, z4, z5])
         (first | ((with_reducible refine gLW (HB5.out _ _ _ _ T F) ?_ ?_ ?_); exact rfl; (with_reducible exact rowRat _ _ _ _); go_simp) | (first | ((with_reducible apply gL F); exact rfl; (exact tL); (exact tR3); go_simp) | ((with_reducible apply gLm F); exact rfl; (exact tL); (first | (with_reducible exact q_rat _) | (exact tM3)); (exact tR3); go_simp) | ((refine ⟨?_⟩); go_simp)))
         (refine hK _ _ ?_; clear hK K)
         exact M _ F
        exact dg_nil
       exact dg_nil
      exact dg_nil
     refine dg_want 6 69 rfl (by kernel_rfl) rfl (fun K hK => ?_) ?_
     ·skip
      (simp only [z3, z4, z5])
      ((with_reducible apply gB_rat0); go_simp)
      (refine hK _ _ ?_; clear hK K)
      refine dg_ready [1, 3] (by kernel_rfl) rfl ?_
      refine dg_want 1 71 rfl (by kernel_rfl) rfl (fun K hK => ?_) ?_
      ·skip
       (simp only [z3, z4, z5])
       (first | ((with_reducible refine gLW (HB5.out _ _ _ _ T F) ?_ ?_ ?_); exact rfl; (with_reducible exact rowRat _ _ _ _); go_simp) | (first | ((with_reducible apply gL F); exact rfl; (exact tL); (exact tR3); go_simp) | ((with_reducible apply gLm F); exact rfl; (exact tL); (first | (with_reducible exact q_rat _) | (exact tM3)); (exact tR3); go_simp) | ((refine ⟨?_⟩); go_simp)))
       (refine hK _ _ ?_; clear hK K)
       refine dg_one 3 79 (by kernel_rfl) rfl (by kernel_rfl) rfl (fun K hK => ?_)
       (simp only [z3, z4, z5])
       ((refine ⟨?_⟩); go_simp; (first | ((with_reducible refine fr_call F (gO2 _) ?_); (try clear F); (intro W F); (try dsimp only)) | skip))
       (refine hK _ _ ?_; clear hK K)
       refine dg_one 4 95 (by kernel_rfl) rfl (by kernel_rfl) rfl (fun K hK => ?_)
       (simp only [z3, z4, z5])
       ((refine ⟨?_⟩); go_simp; (first | ((with_reducible refine fr_call F (gO3 _) ?_); (try clear F); (intro W F); (try dsimp only)) | skip))
       (refine hK _ _ ?_; clear hK K)
       refine dg_one 5 127 (by kernel_rfl) rfl (by kernel_rfl) rfl (fun K hK => ?_)
       (simp only [z3, z4, z5])
       ((refine ⟨?_⟩); go_simp; (first | ((with_reducible refine fr_call F (gO4 _) ?_); (try clear F); (intro W F); (try dsimp only)) | skip))
       (refine hK _ _ ?_; clear hK K)
       exact M _ F
      refine dg_want 3 77 rfl (by kernel_rfl) rfl (fun K hK => ?_) ?_
      ·skip
       (simp only [z3, z4, z5])
       ((refine ⟨?_⟩); go_simp; (first | ((with_reducible refine fr_call F (gO2 _) ?_); (try clear F); (intro W F); (try dsimp only)) | skip))
       (refine hK _ _ ?_; clear hK K)
       refine dg_ready [1, 4] (by kernel_rfl) rfl ?_
       refine dg_want 1 79 rfl (by kernel_rfl) rfl (fun K hK => ?_) ?_
       ·skip
        (simp only [z3, z4, z5])
        (first | ((with_reducible refine gLW (HB5.out _ _ _ _ T F) ?_ ?_ ?_); exact rfl; (with_reducible exact rowRat _ _ _ _); go_simp) | (first | ((with_reducible apply gL F); exact rfl; (exact tL); (exact tR3); go_simp) | ((with_reducible apply gLm F); exact rfl; (exact tL); (first | (with_reducible exact q_rat _) | (exact tM3)); (exact tR3); go_simp) | ((refine ⟨?_⟩); go_simp)))
        (refine hK _ _ ?_; clear hK K)
        refine dg_one 4 95 (by kernel_rfl) rfl (by kernel_rfl) rfl (fun K hK => ?_)
        (simp only [z3, z4, z5])
        ((refine ⟨?_⟩); go_simp; (first | ((with_reducible refine fr_call F (gO3 _) ?_); (try clear F); (intro W F); (try dsimp only)) | skip))
        (refine hK _ _ ?_; clear hK K)
        refine dg_one 5 127 (by kernel_rfl) rfl (by kernel_rfl) rfl (fun K hK => ?_)
        (simp only [z3, z4, z5])
        ((refine ⟨?_⟩); go_simp; (first | ((with_reducible refine fr_call F (gO4 _) ?_); (try clear F); (intro W F); (try dsimp only)) | skip))
        (refine hK _ _ ?_; clear hK K)
        exact M _ F
       refine dg_want 4 93 rfl (by kernel_rfl) rfl (fun K hK => ?_) ?_
       ·skip
        (simp only [z3, z4, z5])
        ((refine ⟨?_⟩); go_simp; (first | ((with_reducible refine fr_call F (gO3 _) ?_); (try clear F); (intro W F); (try dsimp only)) | skip))
        (refine hK _ _ ?_; clear hK K)
        refine dg_ready [1, 5] (by kernel_rfl) rfl ?_
        refine dg_want 1 95 rfl (by kernel_rfl) rfl (fun K hK => ?_) ?_
        ·skip
         (simp only [z3, z4, z5])
         (first | ((with_reducible refine gLW (HB5.out _ _ _ _ T F) ?_ ?_ ?_); exact rfl; (with_reducible exact rowRat _ _ _ _); go_simp) | (first | ((with_reducible apply gL F); exact rfl; (exact tL); (exact tR3); go_simp) | ((with_reducible apply gLm F); exact rfl; (exact tL); (first | (with_reducible exact q_rat _) | (exact tM3)); (exact tR3); go_simp) | ((refine ⟨?_⟩); go_simp)))
         (refine hK _ _ ?_; clear hK K)
         refine dg_one 5 127 (by kernel_rfl) rfl (by kernel_rfl) rfl (fun K hK => ?_)
         (simp only [z3, z4, z5])
         ((refine ⟨?_⟩); go_simp; (first | ((with_reducible refine fr_call F (gO4 _) ?_); (try clear F); (intro W F); (try dsimp only)) | skip))
         (refine hK _ _ ?_; clear hK K)
         exact M _ F
        refine dg_want 5 125 rfl (by kernel_rfl) rfl (fun K hK => ?_) ?_
        ·skip
         (simp only [z3, z4, z5])
         ((refine ⟨?_⟩); go_simp; (first | ((with_reducible refine fr_call F (gO4 _) ?_); (try clear F); (intro W F); (try dsimp only)) | skip))
         (refine hK _ _ ?_; clear hK K)
         refine dg_one 1 127 (by kernel_rfl) rfl (by kernel_rfl) rfl (fun K hK => ?_)
         (simp only [z3, z4, z5])
         (first | ((with_reducible refine gLW (HB5.out _ _ _ _ T F) ?_ ?_ ?_); exact rfl; (with_reducible exact rowRat _ _ _ _); go_simp) | (first | ((with_reducible apply gL F); exact rfl; (exact tL); (exact tR3); go_simp) | ((with_reducible apply gLm F); exact rfl; (exact tL); (first | (with_reducible exact q_rat _) | (exact tM3)); (exact tR3); go_simp) | ((refine ⟨?_⟩); go_simp)))
         (refine hK _ _ ?_; clear hK K)
         exact M _ F
        exact dg_nil
       exact dg_nil
      exact dg_nil
     exact dg_nil
    refine dg_want 6 65 rfl (by kernel_rfl) rfl (fun K hK => ?_) ?_
    ·skip
     (simp only [z3, z4, z5])
     ((with_reducible apply gB_rat0); go_simp)
     (refine hK _ _ ?_; clear hK K)
     refine dg_ready [1, 2] (by kernel_rfl) rfl ?_
     refine dg_want 1 67 rfl (by kernel_rfl) rfl (fun K hK => ?_) ?_
     ·skip
      (simp only [z3, z4, z5])
      (first | ((with_reducible refine gLW (HB5.out _ _ _ _ T F) ?_ ?_ ?_); exact rfl; (with_reducible exact rowRat _ _ _ _); go_simp) | (first | ((with_reducible apply gL F); exact rfl; (exact tL); (exact tR3); go_simp) | ((with_reducible apply gLm F); exact rfl; (exact tL); (first | (with_reducible exact q_rat _) | (exact tM3)); (exact tR3); go_simp) | ((refine ⟨?_⟩); go_simp)))
      (refine hK _ _ ?_; clear hK K)
      refine dg_one 2 71 (by kernel_rfl) rfl (by kernel_rfl) rfl (fun K hK => ?_)
      (simp only [z3, z4, z5])
      ((refine ⟨?_⟩); go_simp; (first | ((with_reducible refine fr_call F (gO1 _) ?_); (try clear F); (intro W F); (try dsimp only)) | skip))
      (refine hK _ _ ?_; clear hK K)
      refine dg_one 3 79 (by kernel_rfl) rfl (by kernel_rfl) rfl (fun K hK => ?_)
      (simp only [z3, z4, z5])
      ((refine ⟨?_⟩); go_simp; (first | ((with_reducible refine fr_call F (gO2 _) ?_); (try clear F); (intro W F); (try dsimp only)) | skip))
      (refine hK _ _ ?_; clear hK K)
      refine dg_one 4 95 (by kernel_rfl) rfl (by kernel_rfl) rfl (fun K hK => ?_)
      (simp only [z3, z4, z5])
      ((refine ⟨?_⟩); go_simp; (first | ((with_reducible refine fr_call F (gO3 _) ?_); (try clear F); (intro W F); (try dsimp only)) | skip))
      (refine hK _ _ ?_; clear hK K)
      refine dg_one 5 127 (by kernel_rfl) rfl (by kernel_rfl) rfl (fun K hK => ?_)
      (simp only [z3, z4, z5])
      ((refine ⟨?_⟩); go_simp; (first | ((with_reducible refine fr_call F (gO4 _) ?_); (try clear F); (intro W F); (try dsimp only)) | skip))
      (refine hK _ _ ?_; clear hK K)
      exact M _ F
     refine dg_want 2 69 rfl (by kernel_rfl) rfl (fun K hK => ?_) ?_
     ·skip
      (simp only [z3, z4, z5])
      ((refine ⟨?_⟩); go_simp; (first | ((with_reducible refine fr_call F (gO1 _) ?_); (try clear F); (intro W F); (try dsimp only)) | skip))
      (refine hK _ _ ?_; clear hK K)
      refine dg_ready [1, 3] (by kernel_rfl) rfl ?_
      refine dg_want 1 71 rfl (by kernel_rfl) rfl (fun K hK => ?_) ?_
      ·skip
       (simp only [z3, z4, z5])
       (first | ((with_reducible refine gLW (HB5.out _ _ _ _ T F) ?_ ?_ ?_); exact rfl; (with_reducible exact rowRat _ _ _ _); go_simp) | (first | ((with_reducible apply gL F); exact rfl; (exact tL); (exact tR3); go_simp) | ((with_reducible apply gLm F); exact rfl; (exact tL); (first | (with_reducible exact q_rat _) | (exact tM3)); (exact tR3); go_simp) | ((refine ⟨?_⟩); go_simp)))
       (refine hK _ _ ?_; clear hK K)
       refine dg_one 3 79 (by kernel_rfl) rfl (by kernel_rfl) rfl (fun K hK => ?_)
       (simp only [z3, z4, z5])
       ((refine ⟨?_⟩); go_simp; (first | ((with_reducible refine fr_call F (gO2 _) ?_); (try clear F); (intro W F); (try dsimp only)) | skip))
       (refine hK _ _ ?_; clear hK K)
       refine dg_one 4 95 (by kernel_rfl) rfl (by kernel_rfl) rfl (fun K hK => ?_)
       (simp only [z3, z4, z5])
       ((refine ⟨?_⟩); go_simp; (first | ((with_reducible refine fr_call F (gO3 _) ?_); (try clear F); (intro W F); (try dsimp only)) | skip))
       (refine hK _ _ ?_; clear hK K)
       refine dg_one 5 127 (by kernel_rfl) rfl (by kernel_rfl) rfl (fun K hK => ?_)
       (simp only [z3, z4, z5])
       ((refine ⟨?_⟩); go_simp; (first | ((with_reducible refine fr_call F (gO4 _) ?_); (try clear F); (intro W F); (try dsimp only)) | skip))
       (refine hK _ _ ?_; clear hK K)
       exact M _ F
      refine dg_want 3 77 rfl (by kernel_rfl) rfl (fun K hK => ?_) ?_
      ·skip
       (simp only [z3, z4, z5])
       ((refine ⟨?_⟩); go_simp; (first | ((with_reducible refine fr_call F (gO2 _) ?_); (try clear F); (intro W F); (try dsimp only)) | skip))
       (refine hK _ _ ?_; clear hK K)
       refine dg_ready [1, 4] (by kernel_rfl) rfl ?_
       refine dg_want 1 79 rfl (by kernel_rfl) rfl (fun K hK => ?_) ?_
       ·skip
        (simp only [z3, z4, z5])
        (first | ((with_reducible refine gLW (HB5.out _ _ _ _ T F) ?_ ?_ ?_); exact rfl; (with_reducible exact rowRat _ _ _ _); go_simp) | (first | ((with_reducible apply gL F); exact rfl; (exact tL); (exact tR3); go_simp) | ((with_reducible apply gLm F); exact rfl; (exact tL); (first | (with_reducible exact q_rat _) | (exact tM3)); (exact tR3); go_simp) | ((refine ⟨?_⟩); go_simp)))
        (refine hK _ _ ?_; clear hK K)
        refine dg_one 4 95 (by kernel_rfl) rfl (by kernel_rfl) rfl (fun K hK => ?_)
        (simp only [z3, z4, z5])
        ((refine ⟨?_⟩); go_simp; (first | ((with_reducible refine fr_call F (gO3 _) ?_); (try clear F); (intro W F); (try dsimp only)) | skip))
        (refine hK _ _ ?_; clear hK K)
        refine dg_one 5 127 (by kernel_rfl) rfl (by kernel_rfl) rfl (fun K hK => ?_)
        (simp only [z3, z4, z5])
        ((refine ⟨?_⟩); go_simp; (first | ((with_reducible refine fr_call F (gO4 _) ?_); (try clear F); (intro W F); (try dsimp only)) | skip))
        (refine hK _ _ ?_; clear hK K)
        exact M _ F
       refine dg_want 4 93 rfl (by kernel_rfl) rfl (fun K hK => ?_) ?_
       ·skip
        (simp only [z3, z4, z5])
        ((refine ⟨?_⟩); go_simp; (first | ((with_reducible refine fr_call F (gO3 _) ?_); (try clear F); (intro W F); (try dsimp only)) | skip))
        (refine hK _ _ ?_; clear hK K)
        refine dg_ready [1, 5] (by kernel_rfl) rfl ?_
        refine dg_want 1 95 rfl (by kernel_rfl) rfl (fun K hK => ?_) ?_
        ·skip
         (simp only [z3, z4, z5])
         (first | ((with_reducible refine gLW (HB5.out _ _ _ _ T F) ?_ ?_ ?_); exact rfl; (with_reducible exact rowRat _ _ _ _); go_simp) | (first | ((with_reducible apply gL F); exact rfl; (exact tL); (exact tR3); go_simp) | ((with_reducible apply gLm F); exact rfl; (exact tL); (first | (with_reducible exact q_rat _) | (exact tM3)); (exact tR3); go_simp) | ((refine ⟨?_⟩); go_simp)))
         (refine hK _ _ ?_; clear hK K)
         refine dg_one 5 127 (by kernel_rfl) rfl (by kernel_rfl) rfl (fun K hK => ?_)
         (simp only [z3, z4, z5])
         ((refine ⟨?_⟩); go_simp; (first | ((with_reducible refine fr_call F (gO4 _) ?_); (try clear F); (intro W F); (try dsimp only)) | skip))
         (refine hK _ _ ?_; clear hK K)
         exact M _ F
        refine dg_want 5 125 rfl (by kernel_rfl) rfl (fun K hK => ?_) ?_
        ·skip
         (simp only [z3, z4, z5])
         ((refine ⟨?_⟩); go_simp; (first | ((with_reducible refine fr_call F (gO4 _) ?_); (try clear F); (intro W F); (try dsimp only)) | skip))
         (refine hK _ _ ?_; clear hK K)
         refine dg_one 1 127 (by kernel_rfl) rfl (by kernel_rfl) rfl (fun K hK => ?_)
         (simp only [z3, z4, z5])
         (first | ((with_reducible refine gLW (HB5.out _ _ _ _ T F) ?_ ?_ ?_); exact rfl; (with_reducible exact rowRat _ _ _ _); go_simp) | (first | ((with_reducible apply gL F); exact rfl; (exact tL); (exact tR3); go_simp) | ((with_reducible apply gLm F); exact rfl; (exact tL); (first | (with_reducible exact q_rat _) | (exact tM3)); (exact tR3); go_simp) | ((refine ⟨?_⟩); go_simp)))
         (refine hK _ _ ?_; clear hK K)
         exact M _ F
        exact dg_nil
       exact dg_nil
      exact dg_nil
     exact dg_nil
    exact dg_nil
   clear F
   intro W F
   refine dg_one 7 255 (by kernel_rfl) rfl (by kernel_rfl) rfl (fun K hK => ?_)
   (simp only [z3, z4, z5])
   ((with_reducible apply gSli F slRat); exact rfl; exact rfl; decide; decide; (go_simp; exact rfl); (exact rats_all _ _ _ _); intro b102 W F; (try go_simp))
   (refine hK _ _ ?_; clear hK K)
   refine dg_one 8 511 (by kernel_rfl) rfl (by kernel_rfl) rfl (fun K hK => ?_)
   (simp only [z3, z4, z5])
   ((refine ⟨?_⟩); go_simp; (first | ((with_reducible refine fr_tap F T (trpick (N := 600) (n := 6) (rdXS ⟨x, ra, y, rb⟩) rfl (by simp [rdXS]) (by simp [rdXS]) (rats_blk (Fr.get F (b := b102) tL)) (Fr.off F T (g := b102) tL) ((T.less (by omega)).at F)) ?_); (try clear F T); (rintro _ u W ⟨r, rfl, hr⟩ T F); (try dsimp only)) | skip))
   (refine hK _ _ ?_; clear hK K)
   refine dg_one 9 1023 (by kernel_rfl) rfl (by kernel_rfl) rfl (fun K hK => ?_)
   (simp only [z3, z4, z5])
   ((refine ⟨?_⟩); go_simp)
   (refine hK _ _ ?_; clear hK K)
   refine dg_one 10 2047 (by kernel_rfl) rfl (by kernel_rfl) rfl (fun K hK => ?_)
   (simp only [z3, z4, z5])
   ((with_reducible apply gSm F); exact rfl; exact rfl; exact tL; (with_reducible exact rowRat _ _ _ _); (simp only [qC_size, ratC_size]; decide); (with_reducible exact q_spl _ _ _ _ _); (clear F; intro W F; simp only [z7, z8] at F; (try go_simp)))
   (refine hK _ _ ?_; clear hK K)
   refine dg_end (by kernel_rfl) ?_ _
   go_wp2_with (first | go_skip | refine aYQ ?_ | ((with_reducible apply fSli F slInt); exact rfl; exact rfl; exact rfl; decide; decide; (go_simp; exact rfl); exact rfl) | ((with_reducible apply fSli F slStr); exact rfl; exact rfl; exact rfl; decide; decide; (go_simp; exact rfl); exact rfl) | (refine aTQ ?_; clear F; intro W F) | refine aNQ ?_)
   go_meet
   exact ⟨{ q with x := r.x, a := r.a, y := r.y, b := r.b }, u, ⟨(rats_b hra hrb hr).1, (rats_b hra hrb hr).2, hw.s1, hw.s2, hw.s3⟩, T, F.sub (by repeat (first | exact List.Sublist.slnil | apply List.Sublist.cons_cons | apply List.Sublist.cons))⟩
  ·skip
   go_wp2_with (first | go_skip | refine aYQ ?_ | ((with_reducible apply fSli F slInt); exact rfl; exact rfl; exact rfl; decide; decide; (go_simp; exact rfl); exact rfl) | ((with_reducible apply fSli F slStr); exact rfl; exact rfl; exact rfl; decide; decide; (go_simp; exact rfl); exact rfl) | (refine aTQ ?_; clear F; intro W F) | refine aNQ ?_)
   (clear F; intro b109 W F; try simp only [Act.put, z6, z1, z2])
   go_wp2_with (first | go_skip | ((go_at_call 30); (with_reducible refine fr_tap F T (tpickF (N := 600) [n, 0, 2147483647, 2147483648] F (T.less (by omega)) tL (by with_unfolding_all rfl) (by with_unfolding_all rfl) (by simp) (by simp)) ?_); (try clear F T); (rintro _ u W ⟨z, rfl, hz⟩ T F); (clear hz); (try dsimp only)) | refine aYQ ?_ | ((with_reducible apply fSli F slInt); exact rfl; exact rfl; exact rfl; decide; decide; (go_simp; exact rfl); exact rfl) | ((with_reducible apply fSli F slStr); exact rfl; exact rfl; exact rfl; decide; decide; (go_simp; exact rfl); exact rfl) | (refine aTQ ?_; clear F; intro W F) | refine aNQ ?_)
   go_meet
   exact ⟨{ q with known := z }, u, ⟨hw.a, hw.b, hw.s1, hw.s2, hw.s3⟩, T, F.sub (by repeat (first | exact List.Sublist.slnil | apply List.Sublist.cons_cons | apply List.Sublist.cons))⟩
  ·skip
   go_wp2_with (first | go_skip | refine aYQ ?_ | ((with_reducible apply fSli F slInt); exact rfl; exact rfl; exact rfl; decide; decide; (go_simp; exact rfl); exact rfl) | ((with_reducible apply fSli F slStr); exact rfl; exact rfl; exact rfl; decide; decide; (go_simp; exact rfl); exact rfl) | (refine aTQ ?_; clear F; intro W F) | refine aNQ ?_)
   go_meet
   exact ⟨{ q with void := !q.void }, u, ⟨hw.a, hw.b, hw.s1, hw.s2, hw.s3⟩, T.less (by omega), F⟩
 case rest =>
 clear F T hw hk
 obtain ⟨q, u, hw, T, F⟩ := hcut
 clear HB5
 go_upto_region 19 with (first | go_skip | refine aYQ ?_ | ((with_reducible apply fSli F slInt); exact rfl; exact rfl; exact rfl; decide; decide; (go_simp; exact rfl); exact rfl) | ((with_reducible apply fSli F slStr); exact rfl; exact rfl; exact rfl; decide; decide; (go_simp; exact rfl); exact rfl) | (refine aTQ ?_; clear F; intro W F) | refine aNQ ?_)
 have hB11 := F.here
 have hn11 := Fr.off F T (g := b11) tL
 have HO3 := Lib.hid (fun u' W N L (T' : Tp wc u' b b N) (G : Fr u' W L) => HO.out u' W N L (quos_tp F T T') G)
 have HB11 := Lib.hid (fun u' W N L (T' : Tp wc u' b b N) (G : Fr u' W L) => Tp.keep T' G hB11 hn11)
 have T9 := T.less (M := 400 + 11 * 2) (by omega)
 clear hB11 hn11 HO
 go_upto_region 20 with (first | go_skip | (go_at_call 18; (refine (tquotes (n := 2) (by decide) (by decide) (T9.at F)).mono ?_); (rintro e' W2 ⟨L, v, X, u2, rfl, hLn, hM, SB, T2, F2⟩); clear F T T9; have T := T2; have F := F2; clear T2 F2; (try dsimp only)) | refine aYQ ?_ | ((with_reducible apply fSli F slInt); exact rfl; exact rfl; exact rfl; decide; decide; (go_simp; exact rfl); exact rfl) | ((with_reducible apply fSli F slStr); exact rfl; exact rfl; exact rfl; decide; decide; (go_simp; exact rfl); exact rfl) | (refine aTQ ?_; clear F; intro W F) | refine aNQ ?_)
 obtain ⟨er, her⟩ : ∃ er, bkErr (L ++ [q]) = er := ⟨_, rfl⟩
 have hwL : ∀ x ∈ L, x.wf := fun x hx => (hM.mem x hx).wf
 have hl2 : (L ++ [q]).length = 3 := by simp [hLn]
 have gQ : ∀ (v' : Value) (X' : List Ent) (u W : World), SlG 33 72 v' (2 + 1) (qCs L ++ (qC q).toList) X' → Fr u W X' → Calls Tryz.prog 14 #[v'] W (RetB (.int .i64 er) W) := fun v' X' u W S G => by
  rw [← hLn] at S
  obtain ⟨A, c, rfl, h⟩ := chk_more S G (by omega) hwL hw
  exact qcheck_any (by rw [hl2]; decide) h her
 have gR : ∀ (v' : Value) (X' : List Ent) (u W : World), SlG 33 72 v' (2 + 1) (qCs L ++ (qC q).toList) X' → Fr u W X' → Calls Tryz.prog 15 #[v'] W (RetB (.int .i64 er) W) := fun v' X' u W S G => by
  rw [← hLn] at S
  obtain ⟨A, c, rfl, h⟩ := chk_more S G (by omega) hwL hw
  exact rcheck_any (by rw [hl2]; decide) h her
 have gL := fun k W => quoteLines_S hw S hS k W
 clear hM her hwL hl2 hLn hS hw
 try simp only [Act.put, z6, z1, z2]
 refine wp_region_bm 24 (by kernel_rfl) rfl ?_
 replace F := F.drew
 revert F
 generalize World.drew _ = W
 intro F
 (refine dg_take 0 114 1 (v := ?_) rfl (by kernel_rfl) (by kernel_rfl) (by kernel_rfl) (by kernel_rfl) (by kernel_rfl) (fun _ _ _ h => h) (Or.inl ⟨by kernel_rfl, ?_⟩) ?_; rotate_left; (focus (intro w; go_simp; try (with_reducible rfl))); (simp only [z1, z2]))
 (refine dg_take 1 115 3 (v := ?_) rfl (by kernel_rfl) (by kernel_rfl) (by kernel_rfl) (by kernel_rfl) (by kernel_rfl) (fun _ _ _ h => h) (Or.inl ⟨by kernel_rfl, ?_⟩) ?_; rotate_left; (focus (intro w; go_simp; try (with_reducible rfl))); (simp only [z1, z2]))
 (refine dg_take 2 116 7 (v := ?_) rfl (by kernel_rfl) (by kernel_rfl) (by kernel_rfl) (by kernel_rfl) (by kernel_rfl) (fun _ _ _ h => h) (Or.inl ⟨by kernel_rfl, ?_⟩) ?_; rotate_left; (focus (intro w; go_simp; try (with_reducible rfl))); (simp only [z1, z2]))
 apply dg_m3 (f' := 18) (m' := 63) (H := fun (b117 : Nat) (z : Int) (u : World) (W : World) => Tp wc u b b 300 ∧ Fr u W X)
 ·intro M
  refine dg_ready [3, 5] (by kernel_rfl) rfl ?_
  refine dg_want 3 15 rfl (by kernel_rfl) rfl (fun K hK => ?_) ?_
  ·skip
   (simp only [z3, z4, z5])
   ((with_reducible apply gSli F slInt); exact rfl; exact rfl; decide; decide; (go_simp; exact rfl); exact rfl; intro b117 W F; (try go_simp))
   (refine hK _ _ ?_; clear hK K)
   refine dg_ready [4, 5] (by kernel_rfl) rfl ?_
   refine dg_want 4 31 rfl (by kernel_rfl) rfl (fun K hK => ?_) ?_
   ·skip
    (simp only [z3, z4, z5])
    ((refine ⟨?_⟩); go_simp; (first | ((with_reducible refine fr_tap F T (tpickF (N := 300) [1, 0, 2147483647, 2147483648, n] F (T.less (by omega)) tL (by with_unfolding_all rfl) (by with_unfolding_all rfl) (by simp) (by simp)) ?_); (try clear F T); (rintro _ u W ⟨z, rfl, hz⟩ T F); (replace F := Fr.last F); (try dsimp only)) | skip))
    (refine hK _ _ ?_; clear hK K)
    refine dg_one 5 63 (by kernel_rfl) rfl (by kernel_rfl) rfl (fun K hK => ?_)
    (simp only [z3, z4, z5])
    (first | ((with_reducible refine gLW (HB11.out _ _ _ _ T F) ?_ ?_ ?_); exact rfl; (with_reducible exact rowQ _); go_simp) | (first | ((with_reducible apply gL F); exact rfl; (exact tL); (with_reducible exact rowQ _); go_simp) | ((refine ⟨?_⟩); go_simp)))
    (refine hK _ _ ?_; clear hK K)
    exact M b117 z u W ⟨T, F⟩
   refine dg_want 5 47 rfl (by kernel_rfl) rfl (fun K hK => ?_) ?_
   ·skip
    (simp only [z3, z4, z5])
    (first | ((with_reducible refine gLW (HB11.out _ _ _ _ T F) ?_ ?_ ?_); exact rfl; (with_reducible exact rowQ _); go_simp) | (first | ((with_reducible apply gL F); exact rfl; (exact tL); (with_reducible exact rowQ _); go_simp) | ((refine ⟨?_⟩); go_simp)))
    (refine hK _ _ ?_; clear hK K)
    refine dg_one 4 63 (by kernel_rfl) rfl (by kernel_rfl) rfl (fun K hK => ?_)
    (simp only [z3, z4, z5])
    ((refine ⟨?_⟩); go_simp; (first | ((with_reducible refine fr_tap F T (tpickF (N := 300) [1, 0, 2147483647, 2147483648, n] F (T.less (by omega)) tL (by with_unfolding_all rfl) (by with_unfolding_all rfl) (by simp) (by simp)) ?_); (try clear F T); (rintro _ u W ⟨z, rfl, hz⟩ T F); (replace F := Fr.last F); (try dsimp only)) | skip))
    (refine hK _ _ ?_; clear hK K)
    exact M b117 z u W ⟨T, F⟩
   exact dg_nil
  refine dg_want 5 39 rfl (by kernel_rfl) rfl (fun K hK => ?_) ?_
  ·skip
   (simp only [z3, z4, z5])
   (first | ((with_reducible refine gLW (HB11.out _ _ _ _ T F) ?_ ?_ ?_); exact rfl; (with_reducible exact rowQ _); go_simp) | (first | ((with_reducible apply gL F); exact rfl; (exact tL); (with_reducible exact rowQ _); go_simp) | ((refine ⟨?_⟩); go_simp)))
   (refine hK _ _ ?_; clear hK K)
   refine dg_one 3 47 (by kernel_rfl) rfl (by kernel_rfl) rfl (fun K hK => ?_)
   (simp only [z3, z4, z5])
   ((with_reducible apply gSli F slInt); exact rfl; exact rfl; decide; decide; (go_simp; exact rfl); exact rfl; intro b117 W F; (try go_simp))
   (refine hK _ _ ?_; clear hK K)
   refine dg_one 4 63 (by kernel_rfl) rfl (by kernel_rfl) rfl (fun K hK => ?_)
   (simp only [z3, z4, z5])
   ((refine ⟨?_⟩); go_simp; (first | ((with_reducible refine fr_tap F T (tpickF (N := 300) [1, 0, 2147483647, 2147483648, n] F (T.less (by omega)) tL (by with_unfolding_all rfl) (by with_unfolding_all rfl) (by simp) (by simp)) ?_); (try clear F T); (rintro _ u W ⟨z, rfl, hz⟩ T F); (replace F := Fr.last F); (try dsimp only)) | skip))
   (refine hK _ _ ?_; clear hK K)
   exact M b117 z u W ⟨T, F⟩
  exact dg_nil
 clear F T
 intro b117 z u W hM
 obtain ⟨T, F⟩ := hM
 refine dg_one 6 127 (by kernel_rfl) rfl (by kernel_rfl) rfl (fun K hK => ?_)
 (simp only [z3, z4, z5])
 ((refine ⟨?_⟩); go_simp; (first | ((with_reducible refine fr_call F (gL _ _) ?_); (try clear F); (intro W F); (try dsimp only)) | skip))
 (refine hK _ _ ?_; clear hK K)
 refine dg_one 7 255 (by kernel_rfl) rfl (by kernel_rfl) rfl (fun K hK => ?_)
 (simp only [z3, z4, z5])
 ((refine ⟨?_⟩); go_simp)
 (refine hK _ _ ?_; clear hK K)
 (refine dg_take 8 122 511 (v := ?_) rfl (by kernel_rfl) (by kernel_rfl) (by kernel_rfl) (by kernel_rfl) (by kernel_rfl) (fun _ _ _ h => h) (Or.inl ⟨by kernel_rfl, ?_⟩) ?_; rotate_left; (focus (intro w; go_simp; try (with_reducible rfl))); (simp only [z1, z2]))
 (refine dg_take 13 127 8703 (v := ?_) rfl (by kernel_rfl) (by kernel_rfl) (by kernel_rfl) (by kernel_rfl) (by kernel_rfl) (fun _ _ _ h => h) (Or.inl ⟨by kernel_rfl, ?_⟩) ?_; rotate_left; (focus (intro w; go_simp; try (with_reducible rfl))); (simp only [z1, z2]))
 apply dg_m4 (f' := 8) (m' := 65535) (H := fun (v5 : Value) (b124 : Nat) (b129 : Nat) (Y5 : Ents) (W : World) => SlG 33 72 v 2 (qCs L) Y5 ∧ Tp wc u b b 300 ∧ Fr u W ((b129, flatC [.agg (qC q)], 33) :: Y5))
 ·intro M
  refine dg_ready [9, 14] (by kernel_rfl) rfl ?_
  refine dg_want 9 9215 rfl (by kernel_rfl) rfl (fun K hK => ?_) ?_
  ·skip
   (simp only [z3, z4, z5])
   (first | ((with_reducible refine gLW (HB11.out _ _ _ _ T F) ?_ ?_ ?_); exact rfl; (with_reducible exact rowQ _); go_simp) | (first | ((with_reducible apply gL F); exact rfl; (exact tL); (with_reducible exact rowQ _); go_simp) | ((refine ⟨?_⟩); go_simp)))
   (refine hK _ _ ?_; clear hK K)
   refine dg_ready [10, 14] (by kernel_rfl) rfl ?_
   refine dg_want 10 10239 rfl (by kernel_rfl) rfl (fun K hK => ?_) ?_
   ·skip
    (simp only [z3, z4, z5])
    ((with_reducible apply gSli F slQuo); exact rfl; exact rfl; decide; decide; (go_simp; exact rfl); (exact q_all _); intro b124 W F; (try go_simp))
    (refine hK _ _ ?_; clear hK K)
    refine dg_ready [11, 14] (by kernel_rfl) rfl ?_
    refine dg_want 11 12287 rfl (by kernel_rfl) rfl (fun K hK => ?_) ?_
    ·skip
     (simp only [z3, z4, z5])
     ((first | (with_reducible refine gPushK (A := [(b124, flatC [.agg (qC q)], 33)]) SB F (by decide) (by decide) (Fr.get F (b := b124) tL) ?_ ?_ ?_) | (with_reducible refine gPushK (A := [(b129, flatC [.agg (qC q)], 33), (b124, flatC [.agg (qC q)], 33)]) SB F (by decide) (by decide) (Fr.get F (b := b124) tL) ?_ ?_ ?_) | (with_reducible refine gPushK (A := [(b124, flatC [.agg (qC q)], 33), (b129, flatC [.agg (qC q)], 33)]) SB F (by decide) (by decide) (Fr.get F (b := b124) tL) ?_ ?_ ?_)); exact rfl; exact rfl; (clear F); (intro v5 X5 W Y5 Z5 S5 hX5 SB5 hY5 F); (simp only [z7, z8] at F); (try go_simp))
     (refine hK _ _ ?_; clear hK K)
     refine dg_ready [12, 14] (by kernel_rfl) rfl ?_
     refine dg_want 12 16383 rfl (by kernel_rfl) rfl (fun K hK => ?_) ?_
     ·skip
      (simp only [z3, z4, z5])
      ((refine ⟨?_⟩); go_simp; (first | ((with_reducible refine fr_call F (gQ _ _ _ _ S5 (F.sub sbX5)) ?_); (try clear F); (intro W F); (try dsimp only)) | skip))
      (refine hK _ _ ?_; clear hK K)
      refine dg_one 14 32767 (by kernel_rfl) rfl (by kernel_rfl) rfl (fun K hK => ?_)
      (simp only [z3, z4, z5])
      (first | ((with_reducible refine gLW (HB11.out _ _ _ _ T F) ?_ ?_ ?_); exact rfl; (with_reducible exact rowQ _); go_simp) | (first | ((with_reducible apply gL F); exact rfl; (exact tL); (with_reducible exact rowQ _); go_simp) | ((refine ⟨?_⟩); go_simp)))
      (refine hK _ _ ?_; clear hK K)
      refine dg_one 15 65535 (by kernel_rfl) rfl (by kernel_rfl) rfl (fun K hK => ?_)
      (simp only [z3, z4, z5])
      ((with_reducible apply gSli F slQuo); exact rfl; exact rfl; decide; decide; (go_simp; exact rfl); (exact q_all _); intro b129 W F; (try go_simp))
      (refine hK _ _ ?_; clear hK K)
      exact M v5 b124 b129 Y5 W ⟨SB5, T, F.sub (by repeat (first | exact hY5 | apply List.Sublist.cons_cons | apply List.Sublist.cons))⟩
     refine dg_want 14 28671 rfl (by kernel_rfl) rfl (fun K hK => ?_) ?_
     ·skip
      (simp only [z3, z4, z5])
      (first | ((with_reducible refine gLW (HB11.out _ _ _ _ T F) ?_ ?_ ?_); exact rfl; (with_reducible exact rowQ _); go_simp) | (first | ((with_reducible apply gL F); exact rfl; (exact tL); (with_reducible exact rowQ _); go_simp) | ((refine ⟨?_⟩); go_simp)))
      (refine hK _ _ ?_; clear hK K)
      refine dg_ready [12, 15] (by kernel_rfl) rfl ?_
      refine dg_want 12 32767 rfl (by kernel_rfl) rfl (fun K hK => ?_) ?_
      ·skip
       (simp only [z3, z4, z5])
       ((refine ⟨?_⟩); go_simp; (first | ((with_reducible refine fr_call F (gQ _ _ _ _ S5 (F.sub sbX5)) ?_); (try clear F); (intro W F); (try dsimp only)) | skip))
       (refine hK _ _ ?_; clear hK K)
       refine dg_one 15 65535 (by kernel_rfl) rfl (by kernel_rfl) rfl (fun K hK => ?_)
       (simp only [z3, z4, z5])
       ((with_reducible apply gSli F slQuo); exact rfl; exact rfl; decide; decide; (go_simp; exact rfl); (exact q_all _); intro b129 W F; (try go_simp))
       (refine hK _ _ ?_; clear hK K)
       exact M v5 b124 b129 Y5 W ⟨SB5, T, F.sub (by repeat (first | exact hY5 | apply List.Sublist.cons_cons | apply List.Sublist.cons))⟩
      refine dg_want 15 61439 rfl (by kernel_rfl) rfl (fun K hK => ?_) ?_
      ·skip
       (simp only [z3, z4, z5])
       ((with_reducible apply gSli F slQuo); exact rfl; exact rfl; decide; decide; (go_simp; exact rfl); (exact q_all _); intro b129 W F; (try go_simp))
       (refine hK _ _ ?_; clear hK K)
       refine dg_one 12 65535 (by kernel_rfl) rfl (by kernel_rfl) rfl (fun K hK => ?_)
       (simp only [z3, z4, z5])
       ((refine ⟨?_⟩); go_simp; (first | ((with_reducible refine fr_call F (gQ _ _ _ _ S5 (F.sub sbX5)) ?_); (try clear F); (intro W F); (try dsimp only)) | skip))
       (refine hK _ _ ?_; clear hK K)
       exact M v5 b124 b129 Y5 W ⟨SB5, T, F.sub (by repeat (first | exact hY5 | apply List.Sublist.cons_cons | apply List.Sublist.cons))⟩
      exact dg_nil
     exact dg_nil
    refine dg_want 14 26623 rfl (by kernel_rfl) rfl (fun K hK => ?_) ?_
    ·skip
     (simp only [z3, z4, z5])
     (first | ((with_reducible refine gLW (HB11.out _ _ _ _ T F) ?_ ?_ ?_); exact rfl; (with_reducible exact rowQ _); go_simp) | (first | ((with_reducible apply gL F); exact rfl; (exact tL); (with_reducible exact rowQ _); go_simp) | ((refine ⟨?_⟩); go_simp)))
     (refine hK _ _ ?_; clear hK K)
     refine dg_ready [11, 15] (by kernel_rfl) rfl ?_
     refine dg_want 11 28671 rfl (by kernel_rfl) rfl (fun K hK => ?_) ?_
     ·skip
      (simp only [z3, z4, z5])
      ((first | (with_reducible refine gPushK (A := [(b124, flatC [.agg (qC q)], 33)]) SB F (by decide) (by decide) (Fr.get F (b := b124) tL) ?_ ?_ ?_) | (with_reducible refine gPushK (A := [(b129, flatC [.agg (qC q)], 33), (b124, flatC [.agg (qC q)], 33)]) SB F (by decide) (by decide) (Fr.get F (b := b124) tL) ?_ ?_ ?_) | (with_reducible refine gPushK (A := [(b124, flatC [.agg (qC q)], 33), (b129, flatC [.agg (qC q)], 33)]) SB F (by decide) (by decide) (Fr.get F (b := b124) tL) ?_ ?_ ?_)); exact rfl; exact rfl; (clear F); (intro v5 X5 W Y5 Z5 S5 hX5 SB5 hY5 F); (simp only [z7, z8] at F); (try go_simp))
      (refine hK _ _ ?_; clear hK K)
      refine dg_ready [12, 15] (by kernel_rfl) rfl ?_
      refine dg_want 12 32767 rfl (by kernel_rfl) rfl (fun K hK => ?_) ?_
      ·skip
       (simp only [z3, z4, z5])
       ((refine ⟨?_⟩); go_simp; (first | ((with_reducible refine fr_call F (gQ _ _ _ _ S5 (F.sub sbX5)) ?_); (try clear F); (intro W F); (try dsimp only)) | skip))
       (refine hK _ _ ?_; clear hK K)
       refine dg_one 15 65535 (by kernel_rfl) rfl (by kernel_rfl) rfl (fun K hK => ?_)
       (simp only [z3, z4, z5])
       ((with_reducible apply gSli F slQuo); exact rfl; exact rfl; decide; decide; (go_simp; exact rfl); (exact q_all _); intro b129 W F; (try go_simp))
       (refine hK _ _ ?_; clear hK K)
       exact M v5 b124 b129 Y5 W ⟨SB5, T, F.sub (by repeat (first | exact hY5 | apply List.Sublist.cons_cons | apply List.Sublist.cons))⟩
      refine dg_want 15 61439 rfl (by kernel_rfl) rfl (fun K hK => ?_) ?_
      ·skip
       (simp only [z3, z4, z5])
       ((with_reducible apply gSli F slQuo); exact rfl; exact rfl; decide; decide; (go_simp; exact rfl); (exact q_all _); intro b129 W F; (try go_simp))
       (refine hK _ _ ?_; clear hK K)
       refine dg_one 12 65535 (by kernel_rfl) rfl (by kernel_rfl) rfl (fun K hK => ?_)
       (simp only [z3, z4, z5])
       ((refine ⟨?_⟩); go_simp; (first | ((with_reducible refine fr_call F (gQ _ _ _ _ S5 (F.sub sbX5)) ?_); (try clear F); (intro W F); (try dsimp only)) | skip))
       (refine hK _ _ ?_; clear hK K)
       exact M v5 b124 b129 Y5 W ⟨SB5, T, F.sub (by repeat (first | exact hY5 | apply List.Sublist.cons_cons | apply List.Sublist.cons))⟩
      exact dg_nil
     refine dg_want 15 59391 rfl (by kernel_rfl) rfl (fun K hK => ?_) ?_
     ·skip
      (simp only [z3, z4, z5])
      ((with_reducible apply gSli F slQuo); exact rfl; exact rfl; decide; decide; (go_simp; exact rfl); (exact q_all _); intro b129 W F; (try go_simp))
      (refine hK _ _ ?_; clear hK K)
      refine dg_one 11 61439 (by kernel_rfl) rfl (by kernel_rfl) rfl (fun K hK => ?_)
      (simp only [z3, z4, z5])
      ((first | (with_reducible refine gPushK (A := [(b124, flatC [.agg (qC q)], 33)]) SB F (by decide) (by decide) (Fr.get F (b := b124) tL) ?_ ?_ ?_) | (with_reducible refine gPushK (A := [(b129, flatC [.agg (qC q)], 33), (b124, flatC [.agg (qC q)], 33)]) SB F (by decide) (by decide) (Fr.get F (b := b124) tL) ?_ ?_ ?_) | (with_reducible refine gPushK (A := [(b124, flatC [.agg (qC q)], 33), (b129, flatC [.agg (qC q)], 33)]) SB F (by decide) (by decide) (Fr.get F (b := b124) tL) ?_ ?_ ?_)); exact rfl; exact rfl; (clear F); (intro v5 X5 W Y5 Z5 S5 hX5 SB5 hY5 F); (simp only [z7, z8] at F); (try go_simp))
      (refine hK _ _ ?_; clear hK K)
      refine dg_one 12 65535 (by kernel_rfl) rfl (by kernel_rfl) rfl (fun K hK => ?_)
      (simp only [z3, z4, z5])
      ((refine ⟨?_⟩); go_simp; (first | ((with_reducible refine fr_call F (gQ _ _ _ _ S5 (F.sub sbX5)) ?_); (try clear F); (intro W F); (try dsimp only)) | skip))
      (refine hK _ _ ?_; clear hK K)
      exact M v5 b124 b129 Y5 W ⟨SB5, T, F.sub (by repeat (first | exact hY5 | apply List.Sublist.cons_cons | apply List.Sublist.cons))⟩
     exact dg_nil
    exact dg_nil
   refine dg_want 14 25599 rfl (by kernel_rfl) rfl (fun K hK => ?_) ?_
   ·skip
    (simp only [z3, z4, z5])
    (first | ((with_reducible refine gLW (HB11.out _ _ _ _ T F) ?_ ?_ ?_); exact rfl; (with_reducible exact rowQ _); go_simp) | (first | ((with_reducible apply gL F); exact rfl; (exact tL); (with_reducible exact rowQ _); go_simp) | ((refine ⟨?_⟩); go_simp)))
    (refine hK _ _ ?_; clear hK K)
    refine dg_ready [10, 15] (by kernel_rfl) rfl ?_
    refine dg_want 10 26623 rfl (by kernel_rfl) rfl (fun K hK => ?_) ?_
    ·skip
     (simp only [z3, z4, z5])
     ((with_reducible apply gSli F slQuo); exact rfl; exact rfl; decide; decide; (go_simp; exact rfl); (exact q_all _); intro b124 W F; (try go_simp))
     (refine hK _ _ ?_; clear hK K)
     refine dg_ready [11, 15] (by kernel_rfl) rfl ?_
     refine dg_want 11 28671 rfl (by kernel_rfl) rfl (fun K hK => ?_) ?_
     ·skip
      (simp only [z3, z4, z5])
      ((first | (with_reducible refine gPushK (A := [(b124, flatC [.agg (qC q)], 33)]) SB F (by decide) (by decide) (Fr.get F (b := b124) tL) ?_ ?_ ?_) | (with_reducible refine gPushK (A := [(b129, flatC [.agg (qC q)], 33), (b124, flatC [.agg (qC q)], 33)]) SB F (by decide) (by decide) (Fr.get F (b := b124) tL) ?_ ?_ ?_) | (with_reducible refine gPushK (A := [(b124, flatC [.agg (qC q)], 33), (b129, flatC [.agg (qC q)], 33)]) SB F (by decide) (by decide) (Fr.get F (b := b124) tL) ?_ ?_ ?_)); exact rfl; exact rfl; (clear F); (intro v5 X5 W Y5 Z5 S5 hX5 SB5 hY5 F); (simp only [z7, z8] at F); (try go_simp))
      (refine hK _ _ ?_; clear hK K)
      refine dg_ready [12, 15] (by kernel_rfl) rfl ?_
      refine dg_want 12 32767 rfl (by kernel_rfl) rfl (fun K hK => ?_) ?_
      ·skip
       (simp only [z3, z4, z5])
       ((refine ⟨?_⟩); go_simp; (first | ((with_reducible refine fr_call F (gQ _ _ _ _ S5 (F.sub sbX5)) ?_); (try clear F); (intro W F); (try dsimp only)) | skip))
       (refine hK _ _ ?_; clear hK K)
       refine dg_one 15 65535 (by kernel_rfl) rfl (by kernel_rfl) rfl (fun K hK => ?_)
       (simp only [z3, z4, z5])
       ((with_reducible apply gSli F slQuo); exact rfl; exact rfl; decide; decide; (go_simp; exact rfl); (exact q_all _); intro b129 W F; (try go_simp))
       (refine hK _ _ ?_; clear hK K)
       exact M v5 b124 b129 Y5 W ⟨SB5, T, F.sub (by repeat (first | exact hY5 | apply List.Sublist.cons_cons | apply List.Sublist.cons))⟩
      refine dg_want 15 61439 rfl (by kernel_rfl) rfl (fun K hK => ?_) ?_
      ·skip
       (simp only [z3, z4, z5])
       ((with_reducible apply gSli F slQuo); exact rfl; exact rfl; decide; decide; (go_simp; exact rfl); (exact q_all _); intro b129 W F; (try go_simp))
       (refine hK _ _ ?_; clear hK K)
       refine dg_one 12 65535 (by kernel_rfl) rfl (by kernel_rfl) rfl (fun K hK => ?_)
       (simp only [z3, z4, z5])
       ((refine ⟨?_⟩); go_simp; (first | ((with_reducible refine fr_call F (gQ _ _ _ _ S5 (F.sub sbX5)) ?_); (try clear F); (intro W F); (try dsimp only)) | skip))
       (refine hK _ _ ?_; clear hK K)
       exact M v5 b124 b129 Y5 W ⟨SB5, T, F.sub (by repeat (first | exact hY5 | apply List.Sublist.cons_cons | apply List.Sublist.cons))⟩
      exact dg_nil
     refine dg_want 15 59391 rfl (by kernel_rfl) rfl (fun K hK => ?_) ?_
     ·skip
      (simp only [z3, z4, z5])
      ((with_reducible apply gSli F slQuo); exact rfl; exact rfl; decide; decide; (go_simp; exact rfl); (exact q_all _); intro b129 W F; (try go_simp))
      (refine hK _ _ ?_; clear hK K)
      refine dg_one 11 61439 (by kernel_rfl) rfl (by kernel_rfl) rfl (fun K hK => ?_)
      (simp only [z3, z4, z5])
      ((first | (with_reducible refine gPushK (A := [(b124, flatC [.agg (qC q)], 33)]) SB F (by decide) (by decide) (Fr.get F (b := b124) tL) ?_ ?_ ?_) | (with_reducible refine gPushK (A := [(b129, flatC [.agg (qC q)], 33), (b124, flatC [.agg (qC q)], 33)]) SB F (by decide) (by decide) (Fr.get F (b := b124) tL) ?_ ?_ ?_) | (with_reducible refine gPushK (A := [(b124, flatC [.agg (qC q)], 33), (b129, flatC [.agg (qC q)], 33)]) SB F (by decide) (by decide) (Fr.get F (b := b124) tL) ?_ ?_ ?_)); exact rfl; exact rfl; (clear F); (intro v5 X5 W Y5 Z5 S5 hX5 SB5 hY5 F); (simp only [z7, z8] at F); (try go_simp))
      (refine hK _ _ ?_; clear hK K)
      refine dg_one 12 65535 (by kernel_rfl) rfl (by kernel_rfl) rfl (fun K hK => ?_)
      (simp only [z3, z4, z5])
      ((refine ⟨?_⟩); go_simp; (first | ((with_reducible refine fr_call F (gQ _ _ _ _ S5 (F.sub sbX5)) ?_); (try clear F); (intro W F); (try dsimp only)) | skip))
      (refine hK _ _ ?_; clear hK K)
      exact M v5 b124 b129 Y5 W ⟨SB5, T, F.sub (by repeat (first | exact hY5 | apply List.Sublist.cons_cons | apply List.Sublist.cons))⟩
     exact dg_nil
    refine dg_want 15 58367 rfl (by kernel_rfl) rfl (fun K hK => ?_) ?_
    ·skip
     (simp only [z3, z4, z5])
     ((with_reducible apply gSli F slQuo); exact rfl; exact rfl; decide; decide; (go_simp; exact rfl); (exact q_all _); intro b129 W F; (try go_simp))
     (refine hK _ _ ?_; clear hK K)
     refine dg_one 10 59391 (by kernel_rfl) rfl (by kernel_rfl) rfl (fun K hK => ?_)
     (simp only [z3, z4, z5])
     ((with_reducible apply gSli F slQuo); exact rfl; exact rfl; decide; decide; (go_simp; exact rfl); (exact q_all _); intro b124 W F; (try go_simp))
     (refine hK _ _ ?_; clear hK K)
     refine dg_one 11 61439 (by kernel_rfl) rfl (by kernel_rfl) rfl (fun K hK => ?_)
     (simp only [z3, z4, z5])
     ((first | (with_reducible refine gPushK (A := [(b124, flatC [.agg (qC q)], 33)]) SB F (by decide) (by decide) (Fr.get F (b := b124) tL) ?_ ?_ ?_) | (with_reducible refine gPushK (A := [(b129, flatC [.agg (qC q)], 33), (b124, flatC [.agg (qC q)], 33)]) SB F (by decide) (by decide) (Fr.get F (b := b124) tL) ?_ ?_ ?_) | (with_reducible refine gPushK (A := [(b124, flatC [.agg (qC q)], 33), (b129, flatC [.agg (qC q)], 33)]) SB F (by decide) (by decide) (Fr.get F (b := b124) tL) ?_ ?_ ?_)); exact rfl; exact rfl; (clear F); (intro v5 X5 W Y5 Z5 S5 hX5 SB5 hY5 F); (simp only [z7, z8] at F); (try go_simp))
     (refine hK _ _ ?_; clear hK K)
     refine dg_one 12 65535 (by kernel_rfl) rfl (by kernel_rfl) rfl (fun K hK => ?_)
     (simp only [z3, z4, z5])
     ((refine ⟨?_⟩); go_simp; (first | ((with_reducible refine fr_call F (gQ _ _ _ _ S5 (F.sub sbX5)) ?_); (try clear F); (intro W F); (try dsimp only)) | skip))
     (refine hK _ _ ?_; clear hK K)
     exact M v5 b124 b129 Y5 W ⟨SB5, T, F.sub (by repeat (first | exact hY5 | apply List.Sublist.cons_cons | apply List.Sublist.cons))⟩
    exact dg_nil
   exact dg_nil
  refine dg_want 14 25087 rfl (by kernel_rfl) rfl (fun K hK => ?_) ?_
  ·skip
   (simp only [z3, z4, z5])
   (first | ((with_reducible refine gLW (HB11.out _ _ _ _ T F) ?_ ?_ ?_); exact rfl; (with_reducible exact rowQ _); go_simp) | (first | ((with_reducible apply gL F); exact rfl; (exact tL); (with_reducible exact rowQ _); go_simp) | ((refine ⟨?_⟩); go_simp)))
   (refine hK _ _ ?_; clear hK K)
   refine dg_ready [9, 15] (by kernel_rfl) rfl ?_
   refine dg_want 9 25599 rfl (by kernel_rfl) rfl (fun K hK => ?_) ?_
   ·skip
    (simp only [z3, z4, z5])
    (first | ((with_reducible refine gLW (HB11.out _ _ _ _ T F) ?_ ?_ ?_); exact rfl; (with_reducible exact rowQ _); go_simp) | (first | ((with_reducible apply gL F); exact rfl; (exact tL); (with_reducible exact rowQ _); go_simp) | ((refine ⟨?_⟩); go_simp)))
    (refine hK _ _ ?_; clear hK K)
    refine dg_ready [10, 15] (by kernel_rfl) rfl ?_
    refine dg_want 10 26623 rfl (by kernel_rfl) rfl (fun K hK => ?_) ?_
    ·skip
     (simp only [z3, z4, z5])
     ((with_reducible apply gSli F slQuo); exact rfl; exact rfl; decide; decide; (go_simp; exact rfl); (exact q_all _); intro b124 W F; (try go_simp))
     (refine hK _ _ ?_; clear hK K)
     refine dg_ready [11, 15] (by kernel_rfl) rfl ?_
     refine dg_want 11 28671 rfl (by kernel_rfl) rfl (fun K hK => ?_) ?_
     ·skip
      (simp only [z3, z4, z5])
      ((first | (with_reducible refine gPushK (A := [(b124, flatC [.agg (qC q)], 33)]) SB F (by decide) (by decide) (Fr.get F (b := b124) tL) ?_ ?_ ?_) | (with_reducible refine gPushK (A := [(b129, flatC [.agg (qC q)], 33), (b124, flatC [.agg (qC q)], 33)]) SB F (by decide) (by decide) (Fr.get F (b := b124) tL) ?_ ?_ ?_) | (with_reducible refine gPushK (A := [(b124, flatC [.agg (qC q)], 33), (b129, flatC [.agg (qC q)], 33)]) SB F (by decide) (by decide) (Fr.get F (b := b124) tL) ?_ ?_ ?_)); exact rfl; exact rfl; (clear F); (intro v5 X5 W Y5 Z5 S5 hX5 SB5 hY5 F); (simp only [z7, z8] at F); (try go_simp))
      (refine hK _ _ ?_; clear hK K)
      refine dg_ready [12, 15] (by kernel_rfl) rfl ?_
      refine dg_want 12 32767 rfl (by kernel_rfl) rfl (fun K hK => ?_) ?_
      ·skip
       (simp only [z3, z4, z5])
       ((refine ⟨?_⟩); go_simp; (first | ((with_reducible refine fr_call F (gQ _ _ _ _ S5 (F.sub sbX5)) ?_); (try clear F); (intro W F); (try dsimp only)) | skip))
       (refine hK _ _ ?_; clear hK K)
       refine dg_one 15 65535 (by kernel_rfl) rfl (by kernel_rfl) rfl (fun K hK => ?_)
       (simp only [z3, z4, z5])
       ((with_reducible apply gSli F slQuo); exact rfl; exact rfl; decide; decide; (go_simp; exact rfl); (exact q_all _); intro b129 W F; (try go_simp))
       (refine hK _ _ ?_; clear hK K)
       exact M v5 b124 b129 Y5 W ⟨SB5, T, F.sub (by repeat (first | exact hY5 | apply List.Sublist.cons_cons | apply List.Sublist.cons))⟩
      refine dg_want 15 61439 rfl (by kernel_rfl) rfl (fun K hK => ?_) ?_
      ·skip
       (simp only [z3, z4, z5])
       ((with_reducible apply gSli F slQuo); exact rfl; exact rfl; decide; decide; (go_simp; exact rfl); (exact q_all _); intro b129 W F; (try go_simp))
       (refine hK _ _ ?_; clear hK K)
       refine dg_one 12 65535 (by kernel_rfl) rfl (by kernel_rfl) rfl (fun K hK => ?_)
       (simp only [z3, z4, z5])
       ((refine ⟨?_⟩); go_simp; (first | ((with_reducible refine fr_call F (gQ _ _ _ _ S5 (F.sub sbX5)) ?_); (try clear F); (intro W F); (try dsimp only)) | skip))
       (refine hK _ _ ?_; clear hK K)
       exact M v5 b124 b129 Y5 W ⟨SB5, T, F.sub (by repeat (first | exact hY5 | apply List.Sublist.cons_cons | apply List.Sublist.cons))⟩
      exact dg_nil
     refine dg_want 15 59391 rfl (by kernel_rfl) rfl (fun K hK => ?_) ?_
     ·skip
      (simp only [z3, z4, z5])
      ((with_reducible apply gSli F slQuo); exact rfl; exact rfl; decide; decide; (go_simp; exact rfl); (exact q_all _); intro b129 W F; (try go_simp))
      (refine hK _ _ ?_; clear hK K)
      refine dg_one 11 61439 (by kernel_rfl) rfl (by kernel_rfl) rfl (fun K hK => ?_)
      (simp only [z3, z4, z5])
      ((first | (with_reducible refine gPushK (A := [(b124, flatC [.agg (qC q)], 33)]) SB F (by decide) (by decide) (Fr.get F (b := b124) tL) ?_ ?_ ?_) | (with_reducible refine gPushK (A := [(b129, flatC [.agg (qC q)], 33), (b124, flatC [.agg (qC q)], 33)]) SB F (by decide) (by decide) (Fr.get F (b := b124) tL) ?_ ?_ ?_) | (with_reducible refine gPushK (A := [(b124, flatC [.agg (qC q)], 33), (b129, flatC [.agg (qC q)], 33)]) SB F (by decide) (by decide) (Fr.get F (b := b124) tL) ?_ ?_ ?_)); exact rfl; exact rfl; (clear F); (intro v5 X5 W Y5 Z5 S5 hX5 SB5 hY5 F); (simp only [z7, z8] at F); (try go_simp))
      (refine hK _ _ ?_; clear hK K)
      refine dg_one 12 65535 (by kernel_rfl) rfl (by kernel_rfl) rfl (fun K hK => ?_)
      (simp only [z3, z4, z5])
      ((refine ⟨?_⟩); go_simp; (first | ((with_reducible refine fr_call F (gQ _ _ _ _ S5 (F.sub sbX5)) ?_); (try clear F); (intro W F); (try dsimp only)) | skip))
      (refine hK _ _ ?_; clear hK K)
      exact M v5 b124 b129 Y5 W ⟨SB5, T, F.sub (by repeat (first | exact hY5 | apply List.Sublist.cons_cons | apply List.Sublist.cons))⟩
     exact dg_nil
    refine dg_want 15 58367 rfl (by kernel_rfl) rfl (fun K hK => ?_) ?_
    ·skip
     (simp only [z3, z4, z5])
     ((with_reducible apply gSli F slQuo); exact rfl; exact rfl; decide; decide; (go_simp; exact rfl); (exact q_all _); intro b129 W F; (try go_simp))
     (refine hK _ _ ?_; clear hK K)
     refine dg_one 10 59391 (by kernel_rfl) rfl (by kernel_rfl) rfl (fun K hK => ?_)
     (simp only [z3, z4, z5])
     ((with_reducible apply gSli F slQuo); exact rfl; exact rfl; decide; decide; (go_simp; exact rfl); (exact q_all _); intro b124 W F; (try go_simp))
     (refine hK _ _ ?_; clear hK K)
     refine dg_one 11 61439 (by kernel_rfl) rfl (by kernel_rfl) rfl (fun K hK => ?_)
     (simp only [z3, z4, z5])
     ((first | (with_reducible refine gPushK (A := [(b124, flatC [.agg (qC q)], 33)]) SB F (by decide) (by decide) (Fr.get F (b := b124) tL) ?_ ?_ ?_) | (with_reducible refine gPushK (A := [(b129, flatC [.agg (qC q)], 33), (b124, flatC [.agg (qC q)], 33)]) SB F (by decide) (by decide) (Fr.get F (b := b124) tL) ?_ ?_ ?_) | (with_reducible refine gPushK (A := [(b124, flatC [.agg (qC q)], 33), (b129, flatC [.agg (qC q)], 33)]) SB F (by decide) (by decide) (Fr.get F (b := b124) tL) ?_ ?_ ?_)); exact rfl; exact rfl; (clear F); (intro v5 X5 W Y5 Z5 S5 hX5 SB5 hY5 F); (simp only [z7, z8] at F); (try go_simp))
     (refine hK _ _ ?_; clear hK K)
     refine dg_one 12 65535 (by kernel_rfl) rfl (by kernel_rfl) rfl (fun K hK => ?_)
     (simp only [z3, z4, z5])
     ((refine ⟨?_⟩); go_simp; (first | ((with_reducible refine fr_call F (gQ _ _ _ _ S5 (F.sub sbX5)) ?_); (try clear F); (intro W F); (try dsimp only)) | skip))
     (refine hK _ _ ?_; clear hK K)
     exact M v5 b124 b129 Y5 W ⟨SB5, T, F.sub (by repeat (first | exact hY5 | apply List.Sublist.cons_cons | apply List.Sublist.cons))⟩
    exact dg_nil
   refine dg_want 15 57855 rfl (by kernel_rfl) rfl (fun K hK => ?_) ?_
   ·skip
    (simp only [z3, z4, z5])
    ((with_reducible apply gSli F slQuo); exact rfl; exact rfl; decide; decide; (go_simp; exact rfl); (exact q_all _); intro b129 W F; (try go_simp))
    (refine hK _ _ ?_; clear hK K)
    refine dg_one 9 58367 (by kernel_rfl) rfl (by kernel_rfl) rfl (fun K hK => ?_)
    (simp only [z3, z4, z5])
    (first | ((with_reducible refine gLW (HB11.out _ _ _ _ T F) ?_ ?_ ?_); exact rfl; (with_reducible exact rowQ _); go_simp) | (first | ((with_reducible apply gL F); exact rfl; (exact tL); (with_reducible exact rowQ _); go_simp) | ((refine ⟨?_⟩); go_simp)))
    (refine hK _ _ ?_; clear hK K)
    refine dg_one 10 59391 (by kernel_rfl) rfl (by kernel_rfl) rfl (fun K hK => ?_)
    (simp only [z3, z4, z5])
    ((with_reducible apply gSli F slQuo); exact rfl; exact rfl; decide; decide; (go_simp; exact rfl); (exact q_all _); intro b124 W F; (try go_simp))
    (refine hK _ _ ?_; clear hK K)
    refine dg_one 11 61439 (by kernel_rfl) rfl (by kernel_rfl) rfl (fun K hK => ?_)
    (simp only [z3, z4, z5])
    ((first | (with_reducible refine gPushK (A := [(b124, flatC [.agg (qC q)], 33)]) SB F (by decide) (by decide) (Fr.get F (b := b124) tL) ?_ ?_ ?_) | (with_reducible refine gPushK (A := [(b129, flatC [.agg (qC q)], 33), (b124, flatC [.agg (qC q)], 33)]) SB F (by decide) (by decide) (Fr.get F (b := b124) tL) ?_ ?_ ?_) | (with_reducible refine gPushK (A := [(b124, flatC [.agg (qC q)], 33), (b129, flatC [.agg (qC q)], 33)]) SB F (by decide) (by decide) (Fr.get F (b := b124) tL) ?_ ?_ ?_)); exact rfl; exact rfl; (clear F); (intro v5 X5 W Y5 Z5 S5 hX5 SB5 hY5 F); (simp only [z7, z8] at F); (try go_simp))
    (refine hK _ _ ?_; clear hK K)
    refine dg_one 12 65535 (by kernel_rfl) rfl (by kernel_rfl) rfl (fun K hK => ?_)
    (simp only [z3, z4, z5])
    ((refine ⟨?_⟩); go_simp; (first | ((with_reducible refine fr_call F (gQ _ _ _ _ S5 (F.sub sbX5)) ?_); (try clear F); (intro W F); (try dsimp only)) | skip))
    (refine hK _ _ ?_; clear hK K)
    exact M v5 b124 b129 Y5 W ⟨SB5, T, F.sub (by repeat (first | exact hY5 | apply List.Sublist.cons_cons | apply List.Sublist.cons))⟩
   exact dg_nil
  exact dg_nil
 clear F
 intro v5 b124 b129 Y5 W hM
 obtain ⟨SB, T, F⟩ := hM
 refine dg_one 16 131071 (by kernel_rfl) rfl (by kernel_rfl) rfl (fun K hK => ?_)
 (simp only [z3, z4, z5])
 ((with_reducible refine gPushK (A := [(b129, flatC [.agg (qC q)], 33)]) SB F (by decide) (by decide) (Fr.get F (b := b129) tL) ?_ ?_ ?_); exact rfl; exact rfl; (clear F); (intro v6 X6 W Y6 Z6 S6 hX6 SB6 hY6 F); (simp only [z7, z8] at F); (try go_simp))
 (refine hK _ _ ?_; clear hK K)
 refine dg_one 17 262143 (by kernel_rfl) rfl (by kernel_rfl) rfl (fun K hK => ?_)
 (simp only [z3, z4, z5])
 ((refine ⟨?_⟩); go_simp; (first | ((with_reducible refine fr_call F (gR _ _ _ _ S6 (F.sub sbX6)) ?_); (try clear F); (intro W F); (try dsimp only)) | skip))
 (refine hK _ _ ?_; clear hK K)
 refine dg_one 18 524287 (by kernel_rfl) rfl (by kernel_rfl) rfl (fun K hK => ?_)
 (simp only [z3, z4, z5])
 ((refine ⟨?_⟩); go_simp)
 (refine hK _ _ ?_; clear hK K)
 refine dg_one 19 1048575 (by kernel_rfl) rfl (by kernel_rfl) rfl (fun K hK => ?_)
 (simp only [z3, z4, z5])
 ((refine ⟨?_⟩); go_simp)
 (refine hK _ _ ?_; clear hK K)
 refine dg_one 20 2097151 (by kernel_rfl) rfl (by kernel_rfl) rfl (fun K hK => ?_)
 (simp only [z3, z4, z5])
 ((refine ⟨?_⟩); go_simp)
 (refine hK _ _ ?_; clear hK K)
 refine dg_one 21 4194303 (by kernel_rfl) rfl (by kernel_rfl) rfl (fun K hK => ?_)
 (simp only [z3, z4, z5])
 ((refine ⟨?_⟩); go_simp; (first | ((with_reducible refine fr_call F (qknown14_any _) ?_); (try clear F); (intro W F); (try dsimp only)) | skip))
 (refine hK _ _ ?_; clear hK K)
 refine dg_one 22 8388607 (by kernel_rfl) rfl (by kernel_rfl) rfl (fun K hK => ?_)
 (simp only [z3, z4, z5])
 ((refine ⟨?_⟩); go_simp)
 (refine hK _ _ ?_; clear hK K)
 refine dg_one 23 16777215 (by kernel_rfl) rfl (by kernel_rfl) rfl (fun K hK => ?_)
 (simp only [z3, z4, z5])
 ((refine ⟨?_⟩); go_simp)
 (refine hK _ _ ?_; clear hK K)
 refine dg_end (by kernel_rfl) ?_ _
 go_wp2_with (first | go_skip | refine aYQ ?_ | ((with_reducible apply fSli F slInt); exact rfl; exact rfl; exact rfl; decide; decide; (go_simp; exact rfl); exact rfl) | ((with_reducible apply fSli F slStr); exact rfl; exact rfl; exact rfl; decide; decide; (go_simp; exact rfl); exact rfl) | (refine aTQ ?_; clear F; intro W F) | refine aNQ ?_)
 go_ret
 exact HO3.out _ _ _ _ T F
end
end Go.Proofs.YteaahhokaffmdaaGreatDoor
