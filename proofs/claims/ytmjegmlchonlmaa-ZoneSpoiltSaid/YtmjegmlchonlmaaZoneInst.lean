/-
  The program's Local and Instant.
-/
import Derived.Test.YtmjegmlchonlmaaZoneRange
namespace Go.Proofs.Ytmjegmlchonlmaa
open Go.RowKit Go.Shelf

theorem zLocal_any (z : ZN) (A : Option Addr) (c : Nat) (t : Int) (w : World) (hz : ZAt w z A) :
    Calls Try.prog 26 #[.agg #[.string z.name, .int .i64 z.off, .slice A z.cs.length c], .int .i64 t] w (RetB (.tuple #[.int .i64 (z.localD t), .int .i64 (z.localM t), .int .i64 (z.localE t)]) w) := by
  have hz1 : ZAt (w.alloc (.cells #[.string z.name, .int .i64 z.off, .slice A z.cs.length c] 24)) z A := hz.below (bal0 _ _)
  have hw1 : Below w.heap.size w (w.alloc (.cells #[.string z.name, .int .i64 z.off, .slice A z.cs.length c] 24)) := bal0 _ _
  have hof := zOffsetAt_any z A c t _ hz1
  cases ho : z.ok
  · obtain ⟨f1, f2⟩ := ZN.offset_bad ho t
    obtain ⟨e1, e2, e3⟩ := ZN.local_err (z := z) (t := t) (by rw [f2]; decide)
    rw [e1, e2, e3, f2]
    rw [f1, f2] at hof
    clear e1 e2 e3 f1 f2
    have HOF := Lib.hid hof
    clear hof
    go_enter Try.func26, Try.ntmps26
    go_wp2_with (go_at_call 24; refine HOF.out.mono ?_; rintro e w' ⟨rfl, hb⟩)
    go_ret3
    exact ⟨rfl, bnext hw1 hb⟩
  · cases hi : instB t
    · obtain ⟨f1, f2⟩ := ZN.offset_inst ho hi
      obtain ⟨e1, e2, e3⟩ := ZN.local_err (z := z) (t := t) (by rw [f2]; decide)
      rw [e1, e2, e3, f2]
      rw [f1, f2] at hof
      clear e1 e2 e3 f1 f2
      have HOF := Lib.hid hof
      clear hof
      go_enter Try.func26, Try.ntmps26
      go_wp2_with (go_at_call 24; refine HOF.out.mono ?_; rintro e w' ⟨rfl, hb⟩)
      go_ret3
      exact ⟨rfl, bnext hw1 hb⟩
    · obtain ⟨f1, f2⟩ := ZN.offset_good ho hi
      rw [f1, f2] at hof
      have hbd := ZN.offset_bd ho t
      rw [instB_iff] at hi
      have hN : z.locN t = t + offAt z.off z.cs t := rfl
      generalize offAt z.off z.cs t = k at hof hbd hN
      have HOF := Lib.hid hof
      obtain ⟨h1, h2⟩ := hi
      obtain ⟨h3, h4⟩ := hbd
      clear hof f1
      cases hd : instB (z.locN t)
      · obtain ⟨e1, e2, e3⟩ := ZN.local_day f2 hd
        rw [e1, e2, e3]
        clear e1 e2 e3 f2
        have hdd : ¬ (0 ≤ t + k) ∨ ¬ (t + k ≤ 105190559) := by rw [← hN]; exact instB_no hd
        clear hN hd ho hz hz1
        rcases hdd with hdd | hdd
        all_goals
          go_enter Try.func26, Try.ntmps26
          go_wp2_with (go_at_call 24; refine HOF.out.mono ?_; rintro e w' ⟨rfl, hb⟩)
          go_ret3
          exact ⟨rfl, bnext hw1 hb⟩
      · obtain ⟨e1, e2, e3⟩ := ZN.local_good f2 hd
        rw [e1, e2, e3]
        clear e1 e2 e3 f2
        rw [instB_iff] at hd
        rw [hN] at hd ⊢
        obtain ⟨h5, h6⟩ := hd
        clear hN ho hz hz1
        go_enter Try.func26, Try.ntmps26
        go_wp2_with (go_at_call 24; refine HOF.out.mono ?_; rintro e w' ⟨rfl, hb⟩)
        go_ret3
        exact ⟨rfl, bnext hw1 hb⟩

attribute [local go_sem] Oper.semAt_some

theorem w64 {n : Int} (h1 : -9223372036854775808 ≤ n) (h2 : n ≤ 9223372036854775807) : wrap64 n = n := by unfold wrap64; omega
/-- No interval that has come holds the first instant. -/
def NotYetI (l : Int) (pre : List (Int × Int × Int)) : Prop := ∀ y ∈ pre, y.2.1 ≤ max y.1 (wrap64 (l - y.2.2))
/-- The last interval that has come is the first that holds the instant v. -/
def CameI (l v : Int) (pre : List (Int × Int × Int)) : Prop := ∃ q x, pre = q ++ [x] ∧ NotYetI l q ∧ v = max x.1 (wrap64 (l - x.2.2)) ∧ v < x.2.1
theorem notYetI_snoc {l : Int} {pre : List (Int × Int × Int)} {x : Int × Int × Int} (h : NotYetI l pre) (hx : x.2.1 ≤ max x.1 (wrap64 (l - x.2.2))) : NotYetI l (pre ++ [x]) := by
  intro y hy
  rcases List.mem_append.1 hy with h1 | h1
  · exact h y h1
  · simp at h1; subst h1; exact hx
theorem ivs_off (f o : Int) (cs : List (Int × Int)) (h0 : -900 ≤ o ∧ o ≤ 900) (hc : ∀ x ∈ cs, -1 < x.1 ∧ x.1 ≤ 105190559 ∧ -900 ≤ x.2 ∧ x.2 ≤ 900) : ∀ y ∈ ivs f o cs, -900 ≤ y.2.2 ∧ y.2.2 ≤ 900 := by
  induction cs generalizing f o with
  | nil => intro y hy; simp [ivs] at hy; subst hy; exact h0
  | cons c r ih =>
    obtain ⟨a, p⟩ := c
    intro y hy
    simp only [ivs] at hy
    rcases List.mem_cons.1 hy with rfl | hy
    · exact h0
    · have := hc (a, p) (by simp)
      exact ih a p ⟨this.2.2.1, this.2.2.2⟩ (fun x hx => hc x (by simp [hx])) y hy

set_option maxRecDepth 100000 in
set_option maxHeartbeats 2000000 in
theorem zInstant_any (z : ZN) (A : Option Addr) (c : Nat) (d m : Int) (w : World) (hz : ZAt w z A) :
    Calls Try.prog 28 #[.agg #[.string z.name, .int .i64 z.off, .slice A z.cs.length c], .int .i64 d, .int .i64 m] w (RetB (.tuple #[.int .i64 (z.instV d m), .int .i64 (z.instE d m)]) w) := by
  have hw1 : Below w.heap.size w (((((w.alloc (.cells #[.string z.name, .int .i64 z.off, .slice A z.cs.length c] 24)).alloc (.cells #[.int .i64 d] 3)).alloc (.cells #[.int .i64 m] 3)).alloc (.cells #[.int .i64 0] 3)).alloc (.cells #[.int .i64 0] 25)) := bal (bal (bal (bal (bal0 _ _) _) _) _) _
  have hz1 := hz.below hw1
  cases ho : z.ok
  · obtain ⟨e1, e2⟩ := ZN.inst_zone ho d m
    rw [e1, e2]
    clear e1 e2
    go_enter Try.func28, Try.ntmps28
    go_wp2_with (first | (go_at_call 31; refine (zcheck_is (ZN.err_of_bad ho) A c _ hz1).mono ?_; rintro e w' ⟨rfl, hb⟩; have hc := bcell hb; have hf := bfrozen hb; have hsz := hb.size; simp at hc hf hsz))
    refine bodyPost_ret (v := .tuple #[.int .i64 0, .int .i64 70]) (by simp [results, Try.f28, go_sem, hc]) rfl ⟨rfl, ?_⟩
    exact ((bnext hw1 hb).setCell (by simp; omega) _).setCell (by simp; omega) _
  · cases hd : dayB d
    · obtain ⟨e1, e2⟩ := ZN.inst_day ho hd m
      rw [e1, e2]
      clear e1 e2
      rcases dayB_no hd with hdd | hdd
      all_goals
        clear hd
        go_enter Try.func28, Try.ntmps28
        go_wp2_with (first | (go_at_call 31; refine (zcheck_is (ZN.err_of_ok ho) A c _ hz1).mono ?_; rintro e w' ⟨rfl, hb⟩; have hc := bcell hb; have hf := bfrozen hb; have hsz := hb.size; simp at hc hf hsz))
        refine bodyPost_ret (v := .tuple #[.int .i64 0, .int .i64 50]) (by simp [results, Try.f28, go_sem, hc]) rfl ⟨rfl, ?_⟩
        exact ((bnext hw1 hb).setCell (by simp; omega) _).setCell (by simp; omega) _
    · cases hm : minB m
      · obtain ⟨e1, e2⟩ := ZN.inst_min ho hd hm
        rw [e1, e2]
        clear e1 e2
        obtain ⟨hd1, hd2⟩ := (dayB_iff d).1 hd
        rcases minB_no hm with hmm | hmm
        all_goals
          clear hm hd
          go_enter Try.func28, Try.ntmps28
          go_wp2_with (first | (go_at_call 31; refine (zcheck_is (ZN.err_of_ok ho) A c _ hz1).mono ?_; rintro e w' ⟨rfl, hb⟩; have hc := bcell hb; have hf := bfrozen hb; have hsz := hb.size; simp at hc hf hsz))
          refine bodyPost_ret (v := .tuple #[.int .i64 0, .int .i64 72]) (by simp [results, Try.f28, go_sem, hc]) rfl ⟨rfl, ?_⟩
          exact ((bnext hw1 hb).setCell (by simp; omega) _).setCell (by simp; omega) _
      · have hN := @ZN.inst_none z ho d m hd hm
        have hS := fun x => @ZN.inst_some z ho d m x hd hm
        have HN := Lib.hid hN
        have HS := Lib.hid hS
        have hle := ZN.len_of_ok ho
        obtain ⟨hd1, hd2⟩ := (dayB_iff d).1 hd
        obtain ⟨hm1, hm2⟩ := (minB_iff m).1 hm
        have hiv := Lib.hid (ivs_off 0 z.off z.cs (ZN.off_of_ok ho) (ZN.cs_of_ok ho))
        clear hN hS hm hd
        have hb1 : decide (d < 0) = false := by simp; omega
        have hb2 : decide (73048 < d) = false := by simp; omega
        have hb3 : decide (m < 0) = false := by simp; omega
        have hb4 : decide (1440 ≤ m) = false := by simp; omega
        refine (callsIn_wide (n := 4)).1 ?_
        refine callsIn_of_wp_marks Try.func28 rfl trivial ?_ rfl
        simp only [Try.ntmps28, List.size_toArray, List.length_cons, List.length_nil, Nat.reduceAdd, Nat.reduceSub, Array.replicate_succ, Array.replicate_zero, List.push_toArray, List.append_toArray, List.nil_append, List.cons_append]
        gi_wp2_with (first | (refine ⟨trivial, ?_⟩; gi_at_call 31; refine (callsIn_wide.2 (zcheck_is (ZN.err_of_ok ho) A c _ hz1)).mono ?_; rintro e w' ⟨rfl, hb⟩; have hc := bcell hb; have hf := bfrozen hb; have hsz := hb.size; simp at hc hf hsz) | (refine ⟨trivial, ?_⟩; gi_at_call 81; refine (intervals_in Fence.wide _ trivial rfl z.name z.off A z.cs.length c _).mono ?_; rintro e w'' ⟨rfl, rfl⟩))
        have hW0 : Below w.heap.size w (w'.alloc (.cells #[.string z.name, .int .i64 z.off, .slice A z.cs.length c] 24)) := bal (bnext hw1 hb) _
        have hz2 := hz.below hW0
        have k1 : (w'.alloc (.cells #[.string z.name, .int .i64 z.off, .slice A z.cs.length c] 24)).cell? ⟨w.heap.size + 1, 0, none⟩ = some (.int .i64 d) := cell_al _ (by omega) ((hc _ _ (by omega)).trans (by simp [go_sem]))
        have k2 : (w'.alloc (.cells #[.string z.name, .int .i64 z.off, .slice A z.cs.length c] 24)).cell? ⟨w.heap.size + 1 + 1, 0, none⟩ = some (.int .i64 m) := cell_al _ (by omega) ((hc _ _ (by omega)).trans (by simp [go_sem]))
        have k3 : (w'.alloc (.cells #[.string z.name, .int .i64 z.off, .slice A z.cs.length c] 24)).cell? ⟨w.heap.size + 1 + 1 + 1, 0, none⟩ = some (.int .i64 0) := cell_al _ (by omega) ((hc _ _ (by omega)).trans (by simp [go_sem]))
        have k4 : (w'.alloc (.cells #[.string z.name, .int .i64 z.off, .slice A z.cs.length c] 24)).frozen? ⟨w.heap.size + 1 + 1 + 1, 0, none⟩ = false := frozen_al _ (by omega) ((hf _ _ (by omega)).trans (by simp [go_sem]))
        have k5 : (w'.alloc (.cells #[.string z.name, .int .i64 z.off, .slice A z.cs.length c] 24)).cell? ⟨w.heap.size + 1 + 1 + 1 + 1, 0, none⟩ = some (.int .i64 0) := cell_al _ (by omega) ((hc _ _ (by omega)).trans (by simp [go_sem]))
        have k6 : (w'.alloc (.cells #[.string z.name, .int .i64 z.off, .slice A z.cs.length c] 24)).frozen? ⟨w.heap.size + 1 + 1 + 1 + 1, 0, none⟩ = false := frozen_al _ (by omega) ((hf _ _ (by omega)).trans (by simp [go_sem]))
        refine wpIn_rangeFunc_ownH (F := Fence.wide) rfl (by omega) (gf := 110) (lb := #[.pointer (some ⟨w'.heap.size, 0, none⟩)]) rfl trivial (enters_of Try.func110 (by kernel_rfl) rfl)
          (intervals1_stops Fence.wide (4 - 1) trivial rfl (by omega) z A c w'.heap.size _ hle (by simp) (by simp) (by simp) hz2) ck_trans ck_putObj (Below.refl _ _) (fun _ => rfl)
          (fun pre W => (NotYetI (1440 * d + m) pre ∧ W.cell? ⟨w.heap.size + 1, 0, none⟩ = some (.int .i64 d) ∧ W.cell? ⟨w.heap.size + 1 + 1, 0, none⟩ = some (.int .i64 m) ∧ W.cell? ⟨w.heap.size + 1 + 1 + 1, 0, none⟩ = some (.int .i64 0) ∧ W.frozen? ⟨w.heap.size + 1 + 1 + 1, 0, none⟩ = false ∧ W.cell? ⟨w.heap.size + 1 + 1 + 1 + 1, 0, none⟩ = some (.int .i64 0) ∧ W.frozen? ⟨w.heap.size + 1 + 1 + 1 + 1, 0, none⟩ = false) ∧ Below w.heap.size w W)
          (fun cd pre W => (cd = .ret ∧ (∃ v, CameI (1440 * d + m) v pre ∧ W.cell? ⟨w.heap.size + 1 + 1 + 1, 0, none⟩ = some (.int .i64 v)) ∧ W.cell? ⟨w.heap.size + 1 + 1 + 1 + 1, 0, none⟩ = some (.int .i64 0)) ∧ Below w.heap.size w W)
          (OwnFrom.and (Own.from (fun s A B row hs hg hr => ⟨hs.1, cell_kept hs.2.1 hg hr, cell_kept hs.2.2.1 hg hr, cell_kept hs.2.2.2.1 hg hr, (frozen_kept hs.2.2.2.1 hg hr).trans hs.2.2.2.2.1, cell_kept hs.2.2.2.2.2.1 hg hr, (frozen_kept hs.2.2.2.2.2.1 hg hr).trans hs.2.2.2.2.2.2⟩) _) (ownFrom_below (Nat.le_refl _) (by simp; omega)))
          (fun cd => OwnFrom.and (Own.from (fun s A B row hs hg hr => ⟨hs.1, (by obtain ⟨v, h1, h4⟩ := hs.2.1; exact ⟨v, h1, cell_kept h4 hg hr⟩), cell_kept hs.2.2 hg hr⟩) _) (ownFrom_below (Nat.le_refl _) (by simp; omega)))
          ⟨⟨(fun y hy => absurd hy (by simp)), k1, k2, k3, k4, k5, k6⟩, hW0⟩
          (fun x a' W => ∃ Bx, w.heap.size + 1 + 1 + 1 + 1 < Bx ∧ W.cell? ⟨Bx, 0, none⟩ = some (.int .i64 x.1) ∧ W.cell? ⟨Bx, 1, none⟩ = some (.int .i64 x.2.1) ∧ a' = Act.mk #[Value.agg #[Value.string z.name, Value.int IntKind.i64 z.off, Value.slice A z.cs.length c],
          Value.int IntKind.i64 d, Value.int IntKind.i64 m, Value.pointer (some { block := w.heap.size, off := 0 }),
          Value.pointer (some { block := w.heap.size + 1, off := 0 }),
          Value.pointer (some { block := w.heap.size + 1 + 1, off := 0 }),
          Value.pointer (some { block := w.heap.size + 1 + 1 + 1, off := 0 }),
          Value.pointer (some { block := w.heap.size + 1 + 1 + 1 + 1, off := 0 }), Value.pointer (some { block := Bx, off := 0 }), .int .i64 x.2.2, undef,
          Value.bool false, Value.agg #[Value.string z.name, Value.int IntKind.i64 z.off, Value.slice A z.cs.length c],
          Value.int IntKind.i64 0, Value.bool false, Value.bool false, Value.int IntKind.i64 d, Value.bool false,
          Value.bool false, Value.int IntKind.i64 d, Value.bool false, Value.bool false, Value.bool false,
          Value.int IntKind.i64 m, Value.bool false, Value.bool false, Value.int IntKind.i64 m, Value.bool false,
          Value.bool false, Value.agg #[Value.string z.name, Value.int IntKind.i64 z.off, Value.slice A z.cs.length c],
          Value.func (Fn.func 110) #[] #[Value.pointer (some { block := w'.heap.size, off := 0 })], .agg #[.int .i64 x.1, .int .i64 x.2.1], .int .i64 x.2.2, undef,
          undef, undef, undef, undef, undef, undef, undef, undef, undef, undef, undef, undef, undef] [])
          (fun x a' => Own.from (fun s A B row hs hg hr => by obtain ⟨Bx, h1, h2, h3, h4⟩ := hs; exact ⟨Bx, h1, cell_kept h2 hg hr, cell_kept h3 hg hr, h4⟩) _) ?assign ?body ?done ?stop
        case assign =>
          rintro l pre ⟨x1, x2, x3⟩ W K ⟨⟨i1, i2, i3, i4, i5, i6, i7⟩, hB⟩ hK
          have hsB := blt i6
          have hK' := Lib.hid hK
          clear hK hc hf k1 k2 k3 k4 k5 k6 hz hz1 hz2 hw1 hW0
          simp only [encI]
          gi_wp2
          exact hK'.out _ _ ((KeepsOthers.alloc _ _).from _) (ck_alloc _ _) ⟨⟨i1, cell_al _ (by omega) i2, cell_al _ (by omega) i3, cell_al _ (by omega) i4, frozen_al _ (by omega) i5, cell_al _ (by omega) i6, frozen_al _ (by omega) i7⟩, bal hB _⟩
            ⟨W.heap.size, by omega, by simp, by simp, rfl⟩
        case body =>
          rintro l pre ⟨x1, x2, x3⟩ a' W hl hr ⟨⟨i1, i2, i3, i4, i5, i6, i7⟩, hB⟩ ⟨Bx, hBx, b1, b2, rfl⟩ hlt
          clear hc hf k1 k2 k3 k4 k5 k6 hz hz1 hz2 hw1 hW0 hr
          by_cases hmx : x1 < wrap64 (1440 * d + m - x3)
          · by_cases htx : wrap64 (1440 * d + m - x3) < x2
            · gi_wp2
              exact ⟨(KeepsOthers.from ((KeepsOthers.setCell _ _ _).trans (KeepsOthers.setCell _ _ _)) _), ⟨rfl, ⟨wrap64 (1440 * d + m - x3), ⟨pre, (x1, x2, x3), rfl, i1, by show _ = max x1 (wrap64 (1440 * d + m - x3)); omega, htx⟩, cell_far (by omega) (cell_set i4)⟩, cell_set (cell_far (by omega) i6)⟩, (hB.setCell (by simp; omega) _).setCell (by simp; omega) _⟩
            · gi_wp2
              exact ⟨(KeepsOthers.refl _).from _, ck_refl _, ⟨notYetI_snoc i1 (by show x2 ≤ max x1 (wrap64 (1440 * d + m - x3)); omega), i2, i3, i4, i5, i6, i7⟩, hB⟩
          · by_cases htx : x1 < x2
            · gi_wp2
              exact ⟨(KeepsOthers.from ((KeepsOthers.setCell _ _ _).trans (KeepsOthers.setCell _ _ _)) _), ⟨rfl, ⟨x1, ⟨pre, (x1, x2, x3), rfl, i1, by show _ = max x1 (wrap64 (1440 * d + m - x3)); omega, htx⟩, cell_far (by omega) (cell_set i4)⟩, cell_set (cell_far (by omega) i6)⟩, (hB.setCell (by simp; omega) _).setCell (by simp; omega) _⟩
            · gi_wp2
              exact ⟨(KeepsOthers.refl _).from _, ck_refl _, ⟨notYetI_snoc i1 (by show x2 ≤ max x1 (wrap64 (1440 * d + m - x3)); omega), i2, i3, i4, i5, i6, i7⟩, hB⟩
        case done =>
          rintro D ys W hD rfl ⟨⟨hn, i2, i3, i4, i5, i6, i7⟩, hB⟩ hDD
          have hw6 : ∀ y ∈ ivs 0 z.off z.cs, y.2.1 ≤ max y.1 (1440 * d + m - y.2.2) := by
            intro y hy
            have h1 := hn y hy
            have h2 := hiv.out y hy
            rwa [show wrap64 (1440 * d + m - y.2.2) = 1440 * d + m - y.2.2 from w64 (by omega) (by omega)] at h1
          obtain ⟨e1, e2⟩ := HN.out (instFrom_none _ _ _ _ hw6)
          have E1 := Lib.hid e1
          have E2 := Lib.hid e2
          clear e1 e2 hn hw6 hc hf k1 k2 k3 k4 k5 k6 hz hz1 hz2 hw1 hW0
          gi_wp2
          have hK' := ((KeepsOthers.setCell W ⟨w.heap.size + 1 + 1 + 1, 0, none⟩ (.int .i64 0)).trans (KeepsOthers.setCell _ ⟨w.heap.size + 1 + 1 + 1 + 1, 0, none⟩ (.int .i64 71))).same D _ hDD rfl
          refine ⟨by simp, .inl ⟨_, _, rfl, run_takeDeferred hK', ?_⟩⟩
          have hc5 := cell_kept (cell_far (v := .int .i64 71) (b := w.heap.size + 1 + 1 + 1 + 1) (o := 0) (by omega) (cell_set (v := .int .i64 0) i4)) (grownBy_putObj' _ D (.deferred none)) (fun r e => by cases e; exact ⟨_, hK', rfl⟩)
          have hc6 := cell_kept (cell_set (v := .int .i64 71) (cell_far (v := .int .i64 0) (b := w.heap.size + 1 + 1 + 1) (o := 0) (by omega) i6)) (grownBy_putObj' _ D (.deferred none)) (fun r e => by cases e; exact ⟨_, hK', rfl⟩)
          have hB2 := (hB.setCell (p := ⟨w.heap.size + 1 + 1 + 1, 0, none⟩) (by simp; omega) (.int .i64 0)).setCell (p := ⟨w.heap.size + 1 + 1 + 1 + 1, 0, none⟩) (by simp; omega) (.int .i64 71)
          refine ⟨.tuple #[.int .i64 0, .int .i64 71], ?_, ret_pair E1.out.symm E2.out.symm, hB2.grown (grownBy_putObj' _ D (.deferred none)) hB2.size (fun k e => by cases e; simp at hD; omega)⟩
          simp [results, Try.f28, go_sem, hc5, hc6]
        case stop =>
          rintro D cd pre W hD hp ⟨⟨rfl, ⟨v, ⟨q, x, rfl, h1, hv, h2⟩, h3⟩, h4⟩, hB⟩ hDD
          have hmem : ∀ y ∈ q ++ [x], y ∈ ivs 0 z.off z.cs := fun y hy => hp.subset hy
          have hwr : ∀ y ∈ q ++ [x], wrap64 (1440 * d + m - y.2.2) = 1440 * d + m - y.2.2 := fun y hy => by
            have h2 := hiv.out y (hmem y hy)
            exact w64 (by omega) (by omega)
          have hq : ∀ y ∈ q, y.2.1 ≤ max y.1 (1440 * d + m - y.2.2) := fun y hy => by
            have h5 := h1 y hy
            rwa [hwr y (List.mem_append.2 (.inl hy))] at h5
          rw [hwr x (by simp)] at hv
          have hov := instFrom_of_ivs _ 0 z.off z.cs q x hp hq (by omega)
          rw [← hv] at hov
          obtain ⟨e1, e2⟩ := HS.out _ hov
          rw [e1, e2]
          clear e1 e2 hov hv hwr hmem hq hp h1 h2 hc hf k1 k2 k3 k4 k5 k6 hz hz1 hz2 hw1 hW0
          gi_wp2
          refine ⟨by simp, .inl ⟨_, _, rfl, run_takeDeferred hDD, ?_⟩⟩
          have hc5 := cell_kept h3 (grownBy_putObj' _ D (.deferred none)) (fun r e => by cases e; exact ⟨_, hDD, rfl⟩)
          have hc6 := cell_kept h4 (grownBy_putObj' _ D (.deferred none)) (fun r e => by cases e; exact ⟨_, hDD, rfl⟩)
          refine ⟨.tuple #[.int .i64 v, .int .i64 0], ?_, rfl, hB.grown (grownBy_putObj' W D (.deferred none)) hB.size (fun k e => by cases e; simp at hD; omega)⟩
          simp [results, Try.f28, go_sem, hc5, hc6]
end Go.Proofs.Ytmjegmlchonlmaa
