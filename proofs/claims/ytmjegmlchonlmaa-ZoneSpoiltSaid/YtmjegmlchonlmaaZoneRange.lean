/-
  The program's OffsetAt and Instant: the loops over the iterator of intervals.
-/
import Derived.Test.YtmjegmlchonlmaaZoneIter
import Derived.Test.YtmjegmlchonlmaaZoneWalkD
import Derived.Test.YtmjegmlchonlmaaBase2
namespace Go.Proofs.Ytmjegmlchonlmaa
open Go.RowKit Go.Shelf
attribute [local go_sem] Oper.semAt_some

/-- No interval that has come reaches beyond t. -/
def NotYet (t : Int) (pre : List (Int × Int × Int)) : Prop := ∀ y ∈ pre, y.2.1 ≤ t
/-- The last interval that has come is the first that reaches beyond t; its offset is v. -/
def Came (t v : Int) (pre : List (Int × Int × Int)) : Prop := ∃ q x, pre = q ++ [x] ∧ (∀ y ∈ q, y.2.1 ≤ t) ∧ t < x.2.1 ∧ v = x.2.2
theorem notYet_snoc {t : Int} {pre : List (Int × Int × Int)} {x : Int × Int × Int} (h : NotYet t pre) (hx : x.2.1 ≤ t) : NotYet t (pre ++ [x]) := by
  intro y hy
  rcases List.mem_append.1 hy with h1 | h1
  · exact h y h1
  · simp at h1; subst h1; exact hx

theorem intervals_in (F : Fence) (n : Nat) (hf : F.fn 81) (hro : F.round = none) (s : ByteArray) (off : Int) (A : Option Addr) (k c : Nat) (w : World) :
    CallsIn F n Try.prog 81 #[.agg #[.string s, .int .i64 off, .slice A k c]] w fun e w' => e = .returned (.func (.func 110) #[] #[.pointer (some ⟨w.heap.size, 0, none⟩)]) ∧ w' = w.alloc (.cells #[.string s, .int .i64 off, .slice A k c] 24) := by
  refine callsIn_of_wp Try.func81 rfl hf ?_ hro
  simp only [Try.ntmps81, List.size_toArray, List.length_cons, List.length_nil, Nat.reduceAdd, Nat.reduceSub, Array.replicate_succ, Array.replicate_zero, List.push_toArray, List.append_toArray, List.nil_append, List.cons_append]
  gi_wp2
  go_ret
  exact ⟨rfl, rfl⟩

set_option maxRecDepth 100000 in
set_option maxHeartbeats 2000000 in
theorem zOffsetAt_any (z : ZN) (A : Option Addr) (c : Nat) (t : Int) (w : World) (hz : ZAt w z A) :
    Calls Try.prog 24 #[.agg #[.string z.name, .int .i64 z.off, .slice A z.cs.length c], .int .i64 t] w (RetB (.tuple #[.int .i64 (z.offsetV t), .int .i64 (z.offsetE t)]) w) := by
  have hw1 : Below w.heap.size w ((((w.alloc (.cells #[.string z.name, .int .i64 z.off, .slice A z.cs.length c] 24)).alloc (.cells #[.int .i64 t] 3)).alloc (.cells #[.int .i64 0] 3)).alloc (.cells #[.int .i64 0] 25)) := bal (bal (bal (bal0 _ _) _) _) _
  have hz1 := hz.below hw1
  cases ho : z.ok
  · obtain ⟨e1, e2⟩ := ZN.offset_bad ho t
    rw [e1, e2]
    clear e1 e2
    go_enter Try.func24, Try.ntmps24
    go_wp2_with (first | (go_at_call 31; refine (zcheck_is (ZN.err_of_bad ho) A c _ hz1).mono ?_; rintro e w' ⟨rfl, hb⟩; have hc := bcell hb; have hf := bfrozen hb; have hsz := hb.size; simp at hc hf hsz))
    refine bodyPost_ret (v := .tuple #[.int .i64 0, .int .i64 70]) (by simp [results, Try.f24, go_sem, hc]) rfl ⟨rfl, ?_⟩
    exact ((bnext hw1 hb).setCell (by simp; omega) _).setCell (by simp; omega) _
  · have hle := ZN.len_of_ok ho
    cases hi : instB t
    · obtain ⟨e1, e2⟩ := ZN.offset_inst ho hi
      rw [e1, e2]
      clear e1 e2
      rcases instB_no hi with hii | hii
      all_goals
        clear hi
        go_enter Try.func24, Try.ntmps24
        go_wp2_with (first | (go_at_call 31; refine (zcheck_is (ZN.err_of_ok ho) A c _ hz1).mono ?_; rintro e w' ⟨rfl, hb⟩; have hc := bcell hb; have hf := bfrozen hb; have hsz := hb.size; simp at hc hf hsz))
        refine bodyPost_ret (v := .tuple #[.int .i64 0, .int .i64 71]) (by simp [results, Try.f24, go_sem, hc]) rfl ⟨rfl, ?_⟩
        exact ((bnext hw1 hb).setCell (by simp; omega) _).setCell (by simp; omega) _
    · obtain ⟨e1, e2⟩ := ZN.offset_good ho hi
      rw [e1, e2]
      clear e1 e2
      obtain ⟨hi1, hi2⟩ := (instB_iff t).1 hi
      clear hi
      have hd1 : decide (t < 0) = false := by simp; omega
      have hd2 : decide (105190559 < t) = false := by simp; omega
      refine (callsIn_wide (n := 4)).1 ?_
      refine callsIn_of_wp_marks Try.func24 rfl trivial ?_ rfl
      simp only [Try.ntmps24, List.size_toArray, List.length_cons, List.length_nil, Nat.reduceAdd, Nat.reduceSub, Array.replicate_succ, Array.replicate_zero, List.push_toArray, List.append_toArray, List.nil_append, List.cons_append]
      gi_wp2_with (first | (refine ⟨trivial, ?_⟩; gi_at_call 31; refine (callsIn_wide.2 (zcheck_is (ZN.err_of_ok ho) A c _ hz1)).mono ?_; rintro e w' ⟨rfl, hb⟩; have hc := bcell hb; have hf := bfrozen hb; have hsz := hb.size; simp at hc hf hsz) | (refine ⟨trivial, ?_⟩; gi_at_call 81; refine (intervals_in Fence.wide _ trivial rfl z.name z.off A z.cs.length c _).mono ?_; rintro e w'' ⟨rfl, rfl⟩))
      have hW0 : Below w.heap.size w (w'.alloc (.cells #[.string z.name, .int .i64 z.off, .slice A z.cs.length c] 24)) := bal (bnext hw1 hb) _
      have hz2 := hz.below hW0
      have k1 : (w'.alloc (.cells #[.string z.name, .int .i64 z.off, .slice A z.cs.length c] 24)).cell? ⟨w.heap.size + 1, 0, none⟩ = some (.int .i64 t) := cell_al _ (by omega) ((hc _ _ (by omega)).trans (by simp [go_sem]))
      have k2 : (w'.alloc (.cells #[.string z.name, .int .i64 z.off, .slice A z.cs.length c] 24)).cell? ⟨w.heap.size + 1 + 1, 0, none⟩ = some (.int .i64 0) := cell_al _ (by omega) ((hc _ _ (by omega)).trans (by simp [go_sem]))
      have k3 : (w'.alloc (.cells #[.string z.name, .int .i64 z.off, .slice A z.cs.length c] 24)).frozen? ⟨w.heap.size + 1 + 1, 0, none⟩ = false := frozen_al _ (by omega) ((hf _ _ (by omega)).trans (by simp [go_sem]))
      have k4 : (w'.alloc (.cells #[.string z.name, .int .i64 z.off, .slice A z.cs.length c] 24)).cell? ⟨w.heap.size + 1 + 1 + 1, 0, none⟩ = some (.int .i64 0) := cell_al _ (by omega) ((hc _ _ (by omega)).trans (by simp [go_sem]))
      have k5 : (w'.alloc (.cells #[.string z.name, .int .i64 z.off, .slice A z.cs.length c] 24)).frozen? ⟨w.heap.size + 1 + 1 + 1, 0, none⟩ = false := frozen_al _ (by omega) ((hf _ _ (by omega)).trans (by simp [go_sem]))
      refine wpIn_rangeFunc_ownH (F := Fence.wide) rfl (by omega) (gf := 110) (lb := #[.pointer (some ⟨w'.heap.size, 0, none⟩)]) rfl trivial (enters_of Try.func110 (by kernel_rfl) rfl)
        (intervals1_stops Fence.wide (4 - 1) trivial rfl (by omega) z A c w'.heap.size _ hle (by simp) (by simp) (by simp) hz2) ck_trans ck_putObj (Below.refl _ _) (fun _ => rfl)
        (fun pre W => (NotYet t pre ∧ W.cell? ⟨w.heap.size + 1, 0, none⟩ = some (.int .i64 t) ∧ W.cell? ⟨w.heap.size + 1 + 1, 0, none⟩ = some (.int .i64 0) ∧ W.frozen? ⟨w.heap.size + 1 + 1, 0, none⟩ = false ∧ W.cell? ⟨w.heap.size + 1 + 1 + 1, 0, none⟩ = some (.int .i64 0) ∧ W.frozen? ⟨w.heap.size + 1 + 1 + 1, 0, none⟩ = false) ∧ Below w.heap.size w W)
        (fun cd pre W => (cd = .ret ∧ (∃ v, Came t v pre ∧ W.cell? ⟨w.heap.size + 1 + 1, 0, none⟩ = some (.int .i64 v)) ∧ W.cell? ⟨w.heap.size + 1 + 1 + 1, 0, none⟩ = some (.int .i64 0)) ∧ Below w.heap.size w W)
        (OwnFrom.and (Own.from (fun s A B row hs hg hr => ⟨hs.1, cell_kept hs.2.1 hg hr, cell_kept hs.2.2.1 hg hr, (frozen_kept hs.2.2.1 hg hr).trans hs.2.2.2.1, cell_kept hs.2.2.2.2.1 hg hr, (frozen_kept hs.2.2.2.2.1 hg hr).trans hs.2.2.2.2.2⟩) _) (ownFrom_below (Nat.le_refl _) (by simp; omega)))
        (fun cd => OwnFrom.and (Own.from (fun s A B row hs hg hr => ⟨hs.1, (by obtain ⟨v, h1, h4⟩ := hs.2.1; exact ⟨v, h1, cell_kept h4 hg hr⟩), cell_kept hs.2.2 hg hr⟩) _) (ownFrom_below (Nat.le_refl _) (by simp; omega)))
        ⟨⟨(fun y hy => absurd hy (by simp)), k1, k2, k3, k4, k5⟩, hW0⟩
        (fun x a' W => ∃ Bx, w.heap.size + 1 + 1 + 1 < Bx ∧ W.cell? ⟨Bx, 0, none⟩ = some (.int .i64 x.1) ∧ W.cell? ⟨Bx, 1, none⟩ = some (.int .i64 x.2.1) ∧ a' = Act.mk #[Value.agg #[Value.string z.name, Value.int IntKind.i64 z.off, Value.slice A z.cs.length c],
          Value.int IntKind.i64 t, Value.pointer (some { block := w.heap.size, off := 0 }),
          Value.pointer (some { block := w.heap.size + 1, off := 0 }),
          Value.pointer (some { block := w.heap.size + 1 + 1, off := 0 }),
          Value.pointer (some { block := w.heap.size + 1 + 1 + 1, off := 0 }), Value.pointer (some { block := Bx, off := 0 }), .int .i64 x.2.2, Value.bool false,
          Value.agg #[Value.string z.name, Value.int IntKind.i64 z.off, Value.slice A z.cs.length c],
          Value.int IntKind.i64 0, Value.bool false, Value.bool false,
          Value.int IntKind.i64 t, Value.bool false, Value.bool false, Value.int IntKind.i64 t,
          Value.bool false, Value.bool false,
          Value.agg #[Value.string z.name, Value.int IntKind.i64 z.off, Value.slice A z.cs.length c],
          Value.func (Fn.func 110) #[] #[Value.pointer (some { block := w'.heap.size, off := 0 })], .agg #[.int .i64 x.1, .int .i64 x.2.1], .int .i64 x.2.2, undef,
          undef, undef, undef, undef] [])
        (fun x a' => Own.from (fun s A B row hs hg hr => by obtain ⟨Bx, h1, h2, h3, h4⟩ := hs; exact ⟨Bx, h1, cell_kept h2 hg hr, cell_kept h3 hg hr, h4⟩) _) ?assign ?body ?done ?stop
      case assign =>
        rintro l pre ⟨x1, x2, x3⟩ W K ⟨⟨i1, i2, i3, i4, i5, i6⟩, hB⟩ hK
        have hsB := blt i5
        have hK' := Lib.hid hK
        clear hK hc hf k1 k2 k3 k4 k5 hz hz1 hz2 hw1 hW0
        simp only [encI]
        gi_wp2
        exact hK'.out _ _ ((KeepsOthers.alloc _ _).from _) (ck_alloc _ _) ⟨⟨i1, cell_al _ (by omega) i2, cell_al _ (by omega) i3, frozen_al _ (by omega) i4, cell_al _ (by omega) i5, frozen_al _ (by omega) i6⟩, bal hB _⟩
          ⟨W.heap.size, by omega, by simp, by simp, rfl⟩
      case body =>
        rintro l pre ⟨x1, x2, x3⟩ a' W hl hr ⟨⟨i1, i2, i3, i4, i5, i6⟩, hB⟩ ⟨Bx, hBx, b1, b2, rfl⟩ hlt
        clear hc hf k1 k2 k3 k4 k5 hz hz1 hz2 hw1 hW0 hr
        gi_wp2
        · have hx : t < x2 := by assumption
          refine ⟨(KeepsOthers.from ((KeepsOthers.setCell _ _ _).trans (KeepsOthers.setCell _ _ _)) _), ⟨rfl, ⟨x3, ⟨pre, (x1, x2, x3), rfl, i1, hx, rfl⟩, ?_⟩, ?_⟩, ?_⟩
          · exact cell_far (by omega) (cell_set i3)
          · exact cell_set (cell_far (by omega) i5)
          · exact (hB.setCell (by simp; omega) _).setCell (by simp; omega) _
        · have hx : x2 ≤ t := by assumption
          exact ⟨(KeepsOthers.refl _).from _, ck_refl _, ⟨notYet_snoc i1 hx, i2, i3, i4, i5, i6⟩, hB⟩
      case done =>
        rintro D ys W hD rfl ⟨⟨hn, _⟩, _⟩ _
        obtain ⟨x, hx, hxe⟩ := last_mem_ivs 0 z.off z.cs
        have := hn x hx
        omega
      case stop =>
        rintro D cd pre W hD hp ⟨⟨rfl, ⟨v, ⟨q, x, rfl, h1, h2, rfl⟩, h3⟩, h4⟩, hB⟩ hDD
        have hov := offAt_of_ivs t 0 z.off z.cs q x hp h1 h2
        rw [hov]
        gi_wp2
        refine ⟨by simp, .inl ⟨_, _, rfl, run_takeDeferred hDD, ?_⟩⟩
        have hc5 := cell_kept h3 (grownBy_putObj' _ D (.deferred none)) (fun r e => by cases e; exact ⟨_, hDD, rfl⟩)
        have hc6 := cell_kept h4 (grownBy_putObj' _ D (.deferred none)) (fun r e => by cases e; exact ⟨_, hDD, rfl⟩)
        refine ⟨.tuple #[.int .i64 x.2.2, .int .i64 0], ?_, rfl, hB.grown (grownBy_putObj' W D (.deferred none)) hB.size (fun k e => by cases e; simp at hD; omega)⟩
        simp [results, Try.f24, go_sem, hc5, hc6]
end Go.Proofs.Ytmjegmlchonlmaa
