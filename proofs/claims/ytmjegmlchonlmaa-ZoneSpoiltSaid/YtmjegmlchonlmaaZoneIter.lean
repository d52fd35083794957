/-
  The program's iterator over the intervals of a zone: its contract, for whatever loop body that keeps the cells that lie.
-/
import Derived.Test.YtmjegmlchonlmaaZoneWalkC
import Derived.RangeFuncNested
import Derived.RangeFuncBound
import Derived.RangeFuncCalls
import Derived.RangeFuncLeaves
import Derived.Shelf.Abstract
import Derived.Shelf.RegionOpen
import Derived.OwnWalkIn
import Derived.TacticsInMore
import Derived.LoopNIn
import Derived.LoopIn
import Derived.Sort.QuietTacIn
namespace Go.Proofs.Ytmjegmlchonlmaa
open Go.RowKit Go.Shelf
attribute [local go_sem] Oper.semAt_some

/-- Whatever cells lay lie as they lay. -/
def CellsKept (W W' : World) : Prop := W.heap.size ≤ W'.heap.size ∧ ∀ (k : Nat) (c : Array Value) (e : TypeId) (f : Nat × Nat), W.heap[k]? = some (Obj.cells c e f) → W'.heap[k]? = some (Obj.cells c e f)
theorem ck_refl (W : World) : CellsKept W W := ⟨Nat.le_refl _, fun _ _ _ _ h => h⟩
theorem ck_trans {A B C : World} (h : CellsKept A B) (k : CellsKept B C) : CellsKept A C := ⟨Nat.le_trans h.1 k.1, fun i c e f hc => k.2 i c e f (h.2 i c e f hc)⟩
theorem ck_alloc (W : World) (o : Obj) : CellsKept W (W.alloc o) := ⟨by simp, fun k c e f h => (Below.heap_alloc W o k (Array.getElem?_eq_some_iff.1 h).1).trans h⟩
theorem ck_drewN (W : World) (n : Nat) : CellsKept W (W.drewN n) := ⟨Nat.le_refl _, fun _ _ _ _ h => h⟩
theorem ck_drew (W : World) : CellsKept W W.drew := ⟨Nat.le_refl _, fun _ _ _ _ h => h⟩
theorem ck_putObj {w : World} (W : World) (l : Nat) (o o' : Obj) (_ : w.heap.size ≤ l) (h : W.heap[l]? = some o) (hc : o.isCells = false) (_ : o.isWalk = false) : CellsKept W (W.putObj l o') := by
  have hl : l < W.heap.size := (Array.getElem?_eq_some_iff.1 h).1
  refine ⟨(grownBy_putObj' W l o').size, fun k c e f hk => ?_⟩
  by_cases hkl : k = l
  · subst hkl
    rw [h] at hk
    cases hk
    cases hc
  · exact ((grownBy_putObj' W l o').block k (Array.getElem?_eq_some_iff.1 hk).1 (fun e => hkl (by cases e; rfl))).trans hk
theorem ck_cell {W W' : World} (h : CellsKept W W') {a : Addr} {v : Value} (hc : W.cell? a = some v) : W'.cell? a = some v := by
  unfold World.cell? at hc ⊢
  cases ho : W.heap[a.block]? with
  | none => rw [ho] at hc; cases hc
  | some o =>
    rw [ho] at hc
    cases o with
    | cells c e f => rw [h.2 _ _ _ _ ho]; exact hc
    | _ => cases hc

def encI (x : Int × Int × Int) : Array Value := #[.agg #[.int .i64 x.1, .int .i64 x.2.1], .int .i64 x.2.2]

theorem ivs_take (f o : Int) (cs : List (Int × Int)) (k : Nat) (hk : k < cs.length) :
    (ivs f o cs).take (k + 1) = (ivs f o cs).take k ++ [((ivHead f o cs k).1, (cs.getD k (0, 0)).1, (ivHead f o cs k).2)] := by
  rw [List.take_add_one, ivs_get f o cs k hk]
  rfl
theorem ivs_take_last (f o : Int) (cs : List (Int × Int)) :
    ivs f o cs = (ivs f o cs).take cs.length ++ [((ivHead f o cs cs.length).1, 105190560, (ivHead f o cs cs.length).2)] := by
  have := List.take_add_one (l := ivs f o cs) (i := cs.length)
  rw [ivs_last f o cs] at this
  rw [List.take_of_length_le (by rw [ivs_length]; omega)] at this
  exact this

set_option maxRecDepth 100000 in
set_option maxHeartbeats 2000000 in
theorem intervals1_stops (F : Fence) (n : Nat) (hf : F.fn 110) (hro : F.round = none) (hn : 1 ≤ n) (z : ZN) (A : Option Addr) (c Bs : Nat) (w : World) (hlen : z.cs.length ≤ 400)
    (hBs : Bs < w.heap.size) (q1 : w.cell? ⟨Bs, 1, none⟩ = some (.int .i64 z.off)) (q2 : w.cell? ⟨Bs, 2, none⟩ = some (.slice A z.cs.length c)) (hz : ZAt w z A) :
    SeqStopsK F n Try.prog 110 #[.pointer (some ⟨Bs, 0, none⟩)] encI CellsKept (fun xs => xs = ivs 0 z.off z.cs) (fun pre => pre <+: ivs 0 z.off z.cs) (z.cs.length + 1) w := by
  intro l J Jx W hW hJ hJx hY h0
  have p1 := (hW.cell (p := ⟨Bs, 1, none⟩) hBs).trans q1
  have p2 := (hW.cell (p := ⟨Bs, 2, none⟩) hBs).trans q2
  have hzW := hz.below hW
  have HY := Lib.hid hY
  clear hY q1 q2 hz
  show CallsIn F n Try.prog 110 #[.func (.yield l) #[] #[], .pointer (some ⟨Bs, 0, none⟩)] W _
  refine callsIn_of_wp Try.func110 rfl hf ?_ hro
  simp only [Try.ntmps110, List.size_toArray, List.length_cons, List.length_nil, Nat.reduceAdd, Nat.reduceSub, Array.replicate_succ, Array.replicate_zero, List.push_toArray, List.append_toArray, List.nil_append, List.cons_append]
  gi_wp2
  refine wpIn_region_quiet_lit hro (by kernel_rfl) (by kernel_rfl) ?_
  repeat (quiet_step_in (fail))
  refine wpQuietIn_nil ?_
  intro _ hw'
  obtain ⟨nq, hw''⟩ := hw'
  subst hw''
  gi_wp2
  have hJd : J [] (W.drewN nq) := hJ [] W (W.drewN nq) none h0 ⟨rfl, rfl, rfl, Nat.le_refl _, fun _ _ _ => rfl⟩ (fun r e => by cases e)
  gi_loopw [3, 4, 12] (fun fv ov iv wr => ∃ k : Nat, k ≤ z.cs.length ∧ iv = .int .i64 k ∧ fv = .int .i64 (ivHead 0 z.off z.cs k).1 ∧ ov = .int .i64 (ivHead 0 z.off z.cs k).2 ∧ J ((ivs 0 z.off z.cs).take k) wr ∧ CellsKept W wr)
    (fun _ _ iv _ => z.cs.length - (intOf iv).toNat)
  case atStart => exact ⟨0, Nat.zero_le _, rfl, rfl, rfl, hJd, ck_drewN W nq⟩
  case round =>
    obtain ⟨k, hk, rfl, rfl, rfl, hJs, hK⟩ := hrel
    by_cases hlt : k < z.cs.length
    · obtain ⟨b, o, x1, x2, rfl, hb, g1, g2, hdr, hgd⟩ := hzW.at_ (Below.refl _ _) k hlt
      have g1' := ck_cell hK g1
      have g2' := ck_cell hK g2
      have hbw : b < wr.heap.size := Nat.lt_of_lt_of_le hb hK.1
      have hnext : ivHead 0 z.off z.cs (k + 1) = (x1, x2) := by simpa [ivHead, List.getD] using hgd
      have htk := ivs_take 0 z.off z.cs k hlt
      rw [hgd] at htk
      have HX := Lib.hid hnext
      have HT := Lib.hid htk
      generalize ivHead 0 z.off z.cs k = fo at *
      obtain ⟨f, of⟩ := fo
      have hJ1 : J ((ivs 0 z.off z.cs).take k) (wr.alloc (.cells #[.int .i64 x1, .int .i64 x2] 43)) := hJ _ _ _ none hJs (World.grownBy_alloc wr _ none) (fun r e => by cases e)
      obtain ⟨fn, tmps, assign, body, hy, hR⟩ := HY.out ((ivs 0 z.off z.cs).take k) (f, x1, of) _ hJ1 (by simp [ivs_length]; omega)
      simp only [encI] at hy
      clear hnext htk hdr hgd g1 g2 hJ1
      gi_wp2
      refine hR.mono ?_
      rintro e W3 (⟨rfl, hJ3, hk3⟩ | ⟨rfl, hJx3⟩)
      · have d1 := ck_cell hk3 (World.cell?_alloc_new wr #[.int .i64 x1, .int .i64 x2] 43 0)
        have d2 := ck_cell hk3 (World.cell?_alloc_new wr #[.int .i64 x1, .int .i64 x2] 43 1)
        have hkw := ck_trans hK (ck_trans (ck_alloc wr _) hk3)
        clear hk3 hR hy g1' g2'
        gi_wp2
        refine wpIn_region_quiet_lit hro (by kernel_rfl) (by kernel_rfl) ?_
        repeat (quiet_step_in (fail))
        refine wpQuietIn_nil ?_
        intro _ hw'
        obtain ⟨nq2, hw''⟩ := hw'
        subst hw''
        gi_wp2
        go_roundw
        case rel => exact ⟨k + 1, by omega, by go_num, by rw [HX.out], by rw [HX.out], hJ _ W3 _ none (by rw [HT.out]; exact hJ3) ⟨rfl, rfl, rfl, Nat.le_refl _, fun _ _ _ => rfl⟩ (fun r e => by cases e), ck_trans hkw (ck_drewN _ _)⟩
        case measure => simp [intOf]; omega
      · gi_wp2
        refine bodyPost_ret (results_none rfl _ _ _) rfl ?_
        exact ⟨⟨_, rfl⟩, .inr ⟨_, by rw [← HT.out]; exact List.take_prefix _ _, hJx3⟩⟩
    · obtain rfl : k = z.cs.length := by omega
      have htk := ivs_take_last 0 z.off z.cs
      have hlen3 := ivs_length 0 z.off z.cs
      have HT := Lib.hid htk
      generalize ivHead 0 z.off z.cs z.cs.length = fo at *
      obtain ⟨f, of⟩ := fo
      obtain ⟨fn, tmps, assign, body, hy, hR⟩ := HY.out ((ivs 0 z.off z.cs).take z.cs.length) (f, 105190560, of) _ hJs (by simp [hlen3])
      simp only [encI] at hy
      clear htk hlen3
      gi_wp2
      refine hR.mono ?_
      rintro e W3 (⟨rfl, hJ3, hk3⟩ | ⟨rfl, hJx3⟩)
      · gi_wp2
        go_end0
        exact ⟨⟨_, rfl⟩, .inl ⟨_, rfl, by rw [HT.out]; exact hJ3⟩⟩
      · gi_wp2
        go_end0
        exact ⟨⟨_, rfl⟩, .inr ⟨_, by rw [← HT.out]; exact List.prefix_refl _, hJx3⟩⟩
end Go.Proofs.Ytmjegmlchonlmaa
