/-
  The program's iterator over the intervals of a zone: its contract, for whatever loop body that keeps the cells that lie.
  The program's OffsetAt and Instant: the loops over the iterator of intervals.
  The program's Local and Instant.
  The sanity check of the zone statements, and ZoneExact: the program's answers are the document's, for whatever zone, instant and local time.
-/
import Derived.Test.YtbfllcfjgpkpaaaGreatZoneWalk
import Derived.RangeFuncNested
import Derived.RangeFuncBound
import Derived.RangeFuncCalls
import Derived.RangeFuncLeaves
import Derived.Shelf.Abstract
import Derived.Shelf.RegionOpen
import Derived.OwnWalkIn
import Derived.TacticsInMore
import Derived.LoopNIn
import Derived.LoopIn
import Derived.Sort.QuietTacIn
import Derived.Test.YtbfllcfjgpkpaaaGreatBase
import Derived.Deep.RegionHeld3
namespace Go.Proofs.YtbfllcfjgpkpaaaGreat
section
open Go.RowKit Go.Shelf
attribute [local go_sem] Oper.semAt_some

/-- Whatever cells lay lie as they lay. -/
def CellsKept (W W' : World) : Prop := W.heap.size ≤ W'.heap.size ∧ ∀ (k : Nat) (c : Array Value) (e : TypeId) (f : Nat × Nat), W.heap[k]? = some (Obj.cells c e f) → W'.heap[k]? = some (Obj.cells c e f)
theorem ck_refl (W : World) : CellsKept W W := ⟨Nat.le_refl _, fun _ _ _ _ h => h⟩
theorem ck_trans {A B C : World} (h : CellsKept A B) (k : CellsKept B C) : CellsKept A C := ⟨Nat.le_trans h.1 k.1, fun i c e f hc => k.2 i c e f (h.2 i c e f hc)⟩
theorem ck_alloc (W : World) (o : Obj) : CellsKept W (W.alloc o) := ⟨by simp, fun k c e f h => (Below.heap_alloc W o k (Array.getElem?_eq_some_iff.1 h).1).trans h⟩
theorem ck_drewN (W : World) (n : Nat) : CellsKept W (W.drewN n) := ⟨Nat.le_refl _, fun _ _ _ _ h => h⟩
theorem ck_drew (W : World) : CellsKept W W.drew := ⟨Nat.le_refl _, fun _ _ _ _ h => h⟩
theorem ck_putObj {w : World} (W : World) (l : Nat) (o o' : Obj) (_ : w.heap.size ≤ l) (h : W.heap[l]? = some o) (hc : o.isCells = false) (_ : o.isWalk = false) : CellsKept W (W.putObj l o') := by
  have hl : l < W.heap.size := (Array.getElem?_eq_some_iff.1 h).1
  refine ⟨(grownBy_putObj' W l o').size, fun k c e f hk => ?_⟩
  by_cases hkl : k = l
  · subst hkl
    rw [h] at hk
    cases hk
    cases hc
  · exact ((grownBy_putObj' W l o').block k (Array.getElem?_eq_some_iff.1 hk).1 (fun e => hkl (by cases e; rfl))).trans hk
theorem ck_cell {W W' : World} (h : CellsKept W W') {a : Addr} {v : Value} (hc : W.cell? a = some v) : W'.cell? a = some v := by
  unfold World.cell? at hc ⊢
  cases ho : W.heap[a.block]? with
  | none => rw [ho] at hc; cases hc
  | some o =>
    rw [ho] at hc
    cases o with
    | cells c e f => rw [h.2 _ _ _ _ ho]; exact hc
    | _ => cases hc

def encI (x : Int × Int × Int) : Array Value := #[.agg #[.int .i64 x.1, .int .i64 x.2.1], .int .i64 x.2.2]

theorem ivs_take (f o : Int) (cs : List (Int × Int)) (k : Nat) (hk : k < cs.length) :
    (ivs f o cs).take (k + 1) = (ivs f o cs).take k ++ [((ivHead f o cs k).1, (cs.getD k (0, 0)).1, (ivHead f o cs k).2)] := by
  rw [List.take_add_one, ivs_get f o cs k hk]
  rfl
theorem ivs_take_last (f o : Int) (cs : List (Int × Int)) :
    ivs f o cs = (ivs f o cs).take cs.length ++ [((ivHead f o cs cs.length).1, 105190560, (ivHead f o cs cs.length).2)] := by
  have := List.take_add_one (l := ivs f o cs) (i := cs.length)
  rw [ivs_last f o cs] at this
  rw [List.take_of_length_le (by rw [ivs_length]; omega)] at this
  exact this

set_option maxRecDepth 100000 in
set_option maxHeartbeats 2000000 in
theorem intervals1_stops (F : Fence) (n : Nat) (hf : F.fn 126) (hro : F.round = none) (hn : 1 ≤ n) (z : ZN) (A : Option Addr) (c Bs : Nat) (w : World) (hlen : z.cs.length ≤ 400)
    (hBs : Bs < w.heap.size) (q1 : w.cell? ⟨Bs, 1, none⟩ = some (.int .i64 z.off)) (q2 : w.cell? ⟨Bs, 2, none⟩ = some (.slice A z.cs.length c)) (hz : ZAt w z A) :
    SeqStopsK F n Tryz.prog 126 #[.pointer (some ⟨Bs, 0, none⟩)] encI CellsKept (fun xs => xs = ivs 0 z.off z.cs) (fun pre => pre <+: ivs 0 z.off z.cs) (z.cs.length + 1) w := by
  intro l J Jx W hW hJ hJx hY h0
  have p1 := (hW.cell (p := ⟨Bs, 1, none⟩) hBs).trans q1
  have p2 := (hW.cell (p := ⟨Bs, 2, none⟩) hBs).trans q2
  have hzW := hz.below hW
  have HY := Lib.hid hY
  clear hY q1 q2 hz
  show CallsIn F n Tryz.prog 126 #[.func (.yield l) #[] #[], .pointer (some ⟨Bs, 0, none⟩)] W _
  refine callsIn_of_wp Tryz.func126 rfl hf ?_ hro
  simp only [Tryz.ntmps126, List.size_toArray, List.length_cons, List.length_nil, Nat.reduceAdd, Nat.reduceSub, Array.replicate_succ, Array.replicate_zero, List.push_toArray, List.append_toArray, List.nil_append, List.cons_append]
  gi_wp2
  refine wpIn_region_quiet_lit hro (by kernel_rfl) (by kernel_rfl) ?_
  repeat (quiet_step_in (fail))
  refine wpQuietIn_nil ?_
  intro _ hw'
  obtain ⟨nq, hw''⟩ := hw'
  subst hw''
  gi_wp2
  have hJd : J [] (W.drewN nq) := hJ [] W (W.drewN nq) none h0 ⟨rfl, rfl, rfl, Nat.le_refl _, fun _ _ _ => rfl⟩ (fun r e => by cases e)
  gi_loopw [3, 4, 12] (fun fv ov iv wr => ∃ k : Nat, k ≤ z.cs.length ∧ iv = .int .i64 k ∧ fv = .int .i64 (ivHead 0 z.off z.cs k).1 ∧ ov = .int .i64 (ivHead 0 z.off z.cs k).2 ∧ J ((ivs 0 z.off z.cs).take k) wr ∧ CellsKept W wr)
    (fun _ _ iv _ => z.cs.length - (intOf iv).toNat)
  case atStart => exact ⟨0, Nat.zero_le _, rfl, rfl, rfl, hJd, ck_drewN W nq⟩
  case round =>
    obtain ⟨k, hk, rfl, rfl, rfl, hJs, hK⟩ := hrel
    by_cases hlt : k < z.cs.length
    · obtain ⟨b, o, x1, x2, rfl, hb, g1, g2, hdr, hgd⟩ := hzW.at_ (Below.refl _ _) k hlt
      have g1' := ck_cell hK g1
      have g2' := ck_cell hK g2
      have hbw : b < wr.heap.size := Nat.lt_of_lt_of_le hb hK.1
      have hnext : ivHead 0 z.off z.cs (k + 1) = (x1, x2) := by simpa [ivHead, List.getD] using hgd
      have htk := ivs_take 0 z.off z.cs k hlt
      rw [hgd] at htk
      have HX := Lib.hid hnext
      have HT := Lib.hid htk
      generalize ivHead 0 z.off z.cs k = fo at *
      obtain ⟨f, of⟩ := fo
      have hJ1 : J ((ivs 0 z.off z.cs).take k) (wr.alloc (.cells #[.int .i64 x1, .int .i64 x2] 69)) := hJ _ _ _ none hJs (World.grownBy_alloc wr _ none) (fun r e => by cases e)
      obtain ⟨fn, tmps, assign, body, hy, hR⟩ := HY.out ((ivs 0 z.off z.cs).take k) (f, x1, of) _ hJ1 (by simp [ivs_length]; omega)
      simp only [encI] at hy
      clear hnext htk hdr hgd g1 g2 hJ1
      gi_wp2
      refine hR.mono ?_
      rintro e W3 (⟨rfl, hJ3, hk3⟩ | ⟨rfl, hJx3⟩)
      · have d1 := ck_cell hk3 (World.cell?_alloc_new wr #[.int .i64 x1, .int .i64 x2] 69 0)
        have d2 := ck_cell hk3 (World.cell?_alloc_new wr #[.int .i64 x1, .int .i64 x2] 69 1)
        have hkw := ck_trans hK (ck_trans (ck_alloc wr _) hk3)
        clear hk3 hR hy g1' g2'
        gi_wp2
        refine wpIn_region_quiet_lit hro (by kernel_rfl) (by kernel_rfl) ?_
        repeat (quiet_step_in (fail))
        refine wpQuietIn_nil ?_
        intro _ hw'
        obtain ⟨nq2, hw''⟩ := hw'
        subst hw''
        gi_wp2
        go_roundw
        case rel => exact ⟨k + 1, by omega, by go_num, by rw [HX.out], by rw [HX.out], hJ _ W3 _ none (by rw [HT.out]; exact hJ3) ⟨rfl, rfl, rfl, Nat.le_refl _, fun _ _ _ => rfl⟩ (fun r e => by cases e), ck_trans hkw (ck_drewN _ _)⟩
        case measure => simp [intOf]; omega
      · gi_wp2
        refine bodyPost_ret (results_none rfl _ _ _) rfl ?_
        exact ⟨⟨_, rfl⟩, .inr ⟨_, by rw [← HT.out]; exact List.take_prefix _ _, hJx3⟩⟩
    · obtain rfl : k = z.cs.length := by omega
      have htk := ivs_take_last 0 z.off z.cs
      have hlen3 := ivs_length 0 z.off z.cs
      have HT := Lib.hid htk
      generalize ivHead 0 z.off z.cs z.cs.length = fo at *
      obtain ⟨f, of⟩ := fo
      obtain ⟨fn, tmps, assign, body, hy, hR⟩ := HY.out ((ivs 0 z.off z.cs).take z.cs.length) (f, 105190560, of) _ hJs (by simp [hlen3])
      simp only [encI] at hy
      clear htk hlen3
      gi_wp2
      refine hR.mono ?_
      rintro e W3 (⟨rfl, hJ3, hk3⟩ | ⟨rfl, hJx3⟩)
      · gi_wp2
        go_end0
        exact ⟨⟨_, rfl⟩, .inl ⟨_, rfl, by rw [HT.out]; exact hJ3⟩⟩
      · gi_wp2
        go_end0
        exact ⟨⟨_, rfl⟩, .inr ⟨_, by rw [← HT.out]; exact List.prefix_refl _, hJx3⟩⟩
end
section
open Go.RowKit Go.Shelf
attribute [local go_sem] Oper.semAt_some

/-- No interval that has come reaches beyond t. -/
def NotYet (t : Int) (pre : List (Int × Int × Int)) : Prop := ∀ y ∈ pre, y.2.1 ≤ t
/-- The last interval that has come is the first that reaches beyond t; its offset is v. -/
def Came (t v : Int) (pre : List (Int × Int × Int)) : Prop := ∃ q x, pre = q ++ [x] ∧ (∀ y ∈ q, y.2.1 ≤ t) ∧ t < x.2.1 ∧ v = x.2.2
theorem notYet_snoc {t : Int} {pre : List (Int × Int × Int)} {x : Int × Int × Int} (h : NotYet t pre) (hx : x.2.1 ≤ t) : NotYet t (pre ++ [x]) := by
  intro y hy
  rcases List.mem_append.1 hy with h1 | h1
  · exact h y h1
  · simp at h1; subst h1; exact hx

theorem intervals_in (F : Fence) (n : Nat) (hf : F.fn 125) (hro : F.round = none) (s : ByteArray) (off : Int) (A : Option Addr) (k c : Nat) (w : World) :
    CallsIn F n Tryz.prog 125 #[.agg #[.string s, .int .i64 off, .slice A k c]] w fun e w' => e = .returned (.func (.func 126) #[] #[.pointer (some ⟨w.heap.size, 0, none⟩)]) ∧ w' = w.alloc (.cells #[.string s, .int .i64 off, .slice A k c] 32) := by
  refine callsIn_of_wp Tryz.func125 rfl hf ?_ hro
  simp only [Tryz.ntmps125, List.size_toArray, List.length_cons, List.length_nil, Nat.reduceAdd, Nat.reduceSub, Array.replicate_succ, Array.replicate_zero, List.push_toArray, List.append_toArray, List.nil_append, List.cons_append]
  gi_wp2
  go_ret
  exact ⟨rfl, rfl⟩

end
section
open Go.RowKit Go.Shelf

attribute [local go_sem] Oper.semAt_some

theorem w64 {n : Int} (h1 : -9223372036854775808 ≤ n) (h2 : n ≤ 9223372036854775807) : wrap64 n = n := by unfold wrap64; omega
/-- No interval that has come holds the first instant. -/
def NotYetI (l : Int) (pre : List (Int × Int × Int)) : Prop := ∀ y ∈ pre, y.2.1 ≤ max y.1 (wrap64 (l - y.2.2))
/-- The last interval that has come is the first that holds the instant v. -/
def CameI (l v : Int) (pre : List (Int × Int × Int)) : Prop := ∃ q x, pre = q ++ [x] ∧ NotYetI l q ∧ v = max x.1 (wrap64 (l - x.2.2)) ∧ v < x.2.1
theorem notYetI_snoc {l : Int} {pre : List (Int × Int × Int)} {x : Int × Int × Int} (h : NotYetI l pre) (hx : x.2.1 ≤ max x.1 (wrap64 (l - x.2.2))) : NotYetI l (pre ++ [x]) := by
  intro y hy
  rcases List.mem_append.1 hy with h1 | h1
  · exact h y h1
  · simp at h1; subst h1; exact hx
theorem ivs_off (f o : Int) (cs : List (Int × Int)) (h0 : -900 ≤ o ∧ o ≤ 900) (hc : ∀ x ∈ cs, -1 < x.1 ∧ x.1 ≤ 105190559 ∧ -900 ≤ x.2 ∧ x.2 ≤ 900) : ∀ y ∈ ivs f o cs, -900 ≤ y.2.2 ∧ y.2.2 ≤ 900 := by
  induction cs generalizing f o with
  | nil => intro y hy; simp [ivs] at hy; subst hy; exact h0
  | cons c r ih =>
    obtain ⟨a, p⟩ := c
    intro y hy
    simp only [ivs] at hy
    rcases List.mem_cons.1 hy with rfl | hy
    · exact h0
    · have := hc (a, p) (by simp)
      exact ih a p ⟨this.2.2.1, this.2.2.2⟩ (fun x hx => hc x (by simp [hx])) y hy

set_option maxRecDepth 100000 in
set_option maxHeartbeats 2000000 in
theorem zInstant_any (z : ZN) (A : Option Addr) (c : Nat) (d m : Int) (w : World) (hz : ZAt w z A) :
    Calls Tryz.prog 117 #[.agg #[.string z.name, .int .i64 z.off, .slice A z.cs.length c], .int .i64 d, .int .i64 m] w (RetB (.tuple #[.int .i64 (z.instV d m), .int .i64 (z.instE d m)]) w) := by
  have hw1 : Below w.heap.size w (((((w.alloc (.cells #[.string z.name, .int .i64 z.off, .slice A z.cs.length c] 32)).alloc (.cells #[.int .i64 d] 3)).alloc (.cells #[.int .i64 m] 3)).alloc (.cells #[.int .i64 0] 3)).alloc (.cells #[.int .i64 0] 39)) := bal (bal (bal (bal (bal0 _ _) _) _) _) _
  have hz1 := hz.below hw1
  cases ho : z.ok
  · obtain ⟨e1, e2⟩ := ZN.inst_zone ho d m
    rw [e1, e2]
    clear e1 e2
    go_enter Tryz.func117, Tryz.ntmps117
    go_wp2_with (first | (go_at_call 42; refine (zcheck_is (ZN.err_of_bad ho) A c _ hz1).mono ?_; rintro e w' ⟨rfl, hb⟩; have hc := bcell hb; have hf := bfrozen hb; have hsz := hb.size; simp at hc hf hsz))
    refine bodyPost_ret (v := .tuple #[.int .i64 0, .int .i64 70]) (by simp [results, Tryz.f117, go_sem, hc]) rfl ⟨rfl, ?_⟩
    exact ((bnext hw1 hb).setCell (by simp; omega) _).setCell (by simp; omega) _
  · cases hd : dayB d
    · obtain ⟨e1, e2⟩ := ZN.inst_day ho hd m
      rw [e1, e2]
      clear e1 e2
      rcases dayB_no hd with hdd | hdd
      all_goals
        clear hd
        go_enter Tryz.func117, Tryz.ntmps117
        go_wp2_with (first | (go_at_call 42; refine (zcheck_is (ZN.err_of_ok ho) A c _ hz1).mono ?_; rintro e w' ⟨rfl, hb⟩; have hc := bcell hb; have hf := bfrozen hb; have hsz := hb.size; simp at hc hf hsz))
        refine bodyPost_ret (v := .tuple #[.int .i64 0, .int .i64 50]) (by simp [results, Tryz.f117, go_sem, hc]) rfl ⟨rfl, ?_⟩
        exact ((bnext hw1 hb).setCell (by simp; omega) _).setCell (by simp; omega) _
    · cases hm : minB m
      · obtain ⟨e1, e2⟩ := ZN.inst_min ho hd hm
        rw [e1, e2]
        clear e1 e2
        obtain ⟨hd1, hd2⟩ := (dayB_iff d).1 hd
        rcases minB_no hm with hmm | hmm
        all_goals
          clear hm hd
          go_enter Tryz.func117, Tryz.ntmps117
          go_wp2_with (first | (go_at_call 42; refine (zcheck_is (ZN.err_of_ok ho) A c _ hz1).mono ?_; rintro e w' ⟨rfl, hb⟩; have hc := bcell hb; have hf := bfrozen hb; have hsz := hb.size; simp at hc hf hsz))
          refine bodyPost_ret (v := .tuple #[.int .i64 0, .int .i64 72]) (by simp [results, Tryz.f117, go_sem, hc]) rfl ⟨rfl, ?_⟩
          exact ((bnext hw1 hb).setCell (by simp; omega) _).setCell (by simp; omega) _
      · have hN := @ZN.inst_none z ho d m hd hm
        have hS := fun x => @ZN.inst_some z ho d m x hd hm
        have HN := Lib.hid hN
        have HS := Lib.hid hS
        have hle := ZN.len_of_ok ho
        obtain ⟨hd1, hd2⟩ := (dayB_iff d).1 hd
        obtain ⟨hm1, hm2⟩ := (minB_iff m).1 hm
        have hiv := Lib.hid (ivs_off 0 z.off z.cs (ZN.off_of_ok ho) (ZN.cs_of_ok ho))
        clear hN hS hm hd
        have hb1 : decide (d < 0) = false := by simp; omega
        have hb2 : decide (73048 < d) = false := by simp; omega
        have hb3 : decide (m < 0) = false := by simp; omega
        have hb4 : decide (1440 ≤ m) = false := by simp; omega
        refine (callsIn_wide (n := 4)).1 ?_
        refine callsIn_of_wp_marks Tryz.func117 rfl trivial ?_ rfl
        simp only [Tryz.ntmps117, List.size_toArray, List.length_cons, List.length_nil, Nat.reduceAdd, Nat.reduceSub, Array.replicate_succ, Array.replicate_zero, List.push_toArray, List.append_toArray, List.nil_append, List.cons_append]
        gi_wp2_with (first | (refine ⟨trivial, ?_⟩; gi_at_call 42; refine (callsIn_wide.2 (zcheck_is (ZN.err_of_ok ho) A c _ hz1)).mono ?_; rintro e w' ⟨rfl, hb⟩; have hc := bcell hb; have hf := bfrozen hb; have hsz := hb.size; simp at hc hf hsz) | (refine ⟨trivial, ?_⟩; gi_at_call 125; refine (intervals_in Fence.wide _ trivial rfl z.name z.off A z.cs.length c _).mono ?_; rintro e w'' ⟨rfl, rfl⟩))
        have hW0 : Below w.heap.size w (w'.alloc (.cells #[.string z.name, .int .i64 z.off, .slice A z.cs.length c] 32)) := bal (bnext hw1 hb) _
        have hz2 := hz.below hW0
        have k1 : (w'.alloc (.cells #[.string z.name, .int .i64 z.off, .slice A z.cs.length c] 32)).cell? ⟨w.heap.size + 1, 0, none⟩ = some (.int .i64 d) := cell_al _ (by omega) ((hc _ _ (by omega)).trans (by simp [go_sem]))
        have k2 : (w'.alloc (.cells #[.string z.name, .int .i64 z.off, .slice A z.cs.length c] 32)).cell? ⟨w.heap.size + 1 + 1, 0, none⟩ = some (.int .i64 m) := cell_al _ (by omega) ((hc _ _ (by omega)).trans (by simp [go_sem]))
        have k3 : (w'.alloc (.cells #[.string z.name, .int .i64 z.off, .slice A z.cs.length c] 32)).cell? ⟨w.heap.size + 1 + 1 + 1, 0, none⟩ = some (.int .i64 0) := cell_al _ (by omega) ((hc _ _ (by omega)).trans (by simp [go_sem]))
        have k4 : (w'.alloc (.cells #[.string z.name, .int .i64 z.off, .slice A z.cs.length c] 32)).frozen? ⟨w.heap.size + 1 + 1 + 1, 0, none⟩ = false := frozen_al _ (by omega) ((hf _ _ (by omega)).trans (by simp [go_sem]))
        have k5 : (w'.alloc (.cells #[.string z.name, .int .i64 z.off, .slice A z.cs.length c] 32)).cell? ⟨w.heap.size + 1 + 1 + 1 + 1, 0, none⟩ = some (.int .i64 0) := cell_al _ (by omega) ((hc _ _ (by omega)).trans (by simp [go_sem]))
        have k6 : (w'.alloc (.cells #[.string z.name, .int .i64 z.off, .slice A z.cs.length c] 32)).frozen? ⟨w.heap.size + 1 + 1 + 1 + 1, 0, none⟩ = false := frozen_al _ (by omega) ((hf _ _ (by omega)).trans (by simp [go_sem]))
        refine wpIn_rangeFunc_ownH (F := Fence.wide) rfl (by omega) (gf := 126) (lb := #[.pointer (some ⟨w'.heap.size, 0, none⟩)]) rfl trivial (enters_of Tryz.func126 (by kernel_rfl) rfl)
          (intervals1_stops Fence.wide (4 - 1) trivial rfl (by omega) z A c w'.heap.size _ hle (by simp) (by simp) (by simp) hz2) ck_trans ck_putObj (Below.refl _ _) (fun _ => rfl)
          (fun pre W => (NotYetI (1440 * d + m) pre ∧ W.cell? ⟨w.heap.size + 1, 0, none⟩ = some (.int .i64 d) ∧ W.cell? ⟨w.heap.size + 1 + 1, 0, none⟩ = some (.int .i64 m) ∧ W.cell? ⟨w.heap.size + 1 + 1 + 1, 0, none⟩ = some (.int .i64 0) ∧ W.frozen? ⟨w.heap.size + 1 + 1 + 1, 0, none⟩ = false ∧ W.cell? ⟨w.heap.size + 1 + 1 + 1 + 1, 0, none⟩ = some (.int .i64 0) ∧ W.frozen? ⟨w.heap.size + 1 + 1 + 1 + 1, 0, none⟩ = false) ∧ Below w.heap.size w W)
          (fun cd pre W => (cd = .ret ∧ (∃ v, CameI (1440 * d + m) v pre ∧ W.cell? ⟨w.heap.size + 1 + 1 + 1, 0, none⟩ = some (.int .i64 v)) ∧ W.cell? ⟨w.heap.size + 1 + 1 + 1 + 1, 0, none⟩ = some (.int .i64 0)) ∧ Below w.heap.size w W)
          (OwnFrom.and (Own.from (fun s A B row hs hg hr => ⟨hs.1, cell_kept hs.2.1 hg hr, cell_kept hs.2.2.1 hg hr, cell_kept hs.2.2.2.1 hg hr, (frozen_kept hs.2.2.2.1 hg hr).trans hs.2.2.2.2.1, cell_kept hs.2.2.2.2.2.1 hg hr, (frozen_kept hs.2.2.2.2.2.1 hg hr).trans hs.2.2.2.2.2.2⟩) _) (ownFrom_below (Nat.le_refl _) (by simp; omega)))
          (fun cd => OwnFrom.and (Own.from (fun s A B row hs hg hr => ⟨hs.1, (by obtain ⟨v, h1, h4⟩ := hs.2.1; exact ⟨v, h1, cell_kept h4 hg hr⟩), cell_kept hs.2.2 hg hr⟩) _) (ownFrom_below (Nat.le_refl _) (by simp; omega)))
          ⟨⟨(fun y hy => absurd hy (by simp)), k1, k2, k3, k4, k5, k6⟩, hW0⟩
          (fun x a' W => ∃ Bx, w.heap.size + 1 + 1 + 1 + 1 < Bx ∧ W.cell? ⟨Bx, 0, none⟩ = some (.int .i64 x.1) ∧ W.cell? ⟨Bx, 1, none⟩ = some (.int .i64 x.2.1) ∧ a' = Act.mk #[Value.agg #[Value.string z.name, Value.int IntKind.i64 z.off, Value.slice A z.cs.length c],
          Value.int IntKind.i64 d, Value.int IntKind.i64 m, Value.pointer (some { block := w.heap.size, off := 0 }),
          Value.pointer (some { block := w.heap.size + 1, off := 0 }),
          Value.pointer (some { block := w.heap.size + 1 + 1, off := 0 }),
          Value.pointer (some { block := w.heap.size + 1 + 1 + 1, off := 0 }),
          Value.pointer (some { block := w.heap.size + 1 + 1 + 1 + 1, off := 0 }), Value.pointer (some { block := Bx, off := 0 }), .int .i64 x.2.2, undef,
          Value.bool false, Value.agg #[Value.string z.name, Value.int IntKind.i64 z.off, Value.slice A z.cs.length c],
          Value.int IntKind.i64 0, Value.bool false, Value.bool false, Value.int IntKind.i64 d, Value.bool false,
          Value.bool false, Value.int IntKind.i64 d, Value.bool false, Value.bool false, Value.bool false,
          Value.int IntKind.i64 m, Value.bool false, Value.bool false, Value.int IntKind.i64 m, Value.bool false,
          Value.bool false, Value.agg #[Value.string z.name, Value.int IntKind.i64 z.off, Value.slice A z.cs.length c],
          Value.func (Fn.func 126) #[] #[Value.pointer (some { block := w'.heap.size, off := 0 })], .agg #[.int .i64 x.1, .int .i64 x.2.1], .int .i64 x.2.2, undef,
          undef, undef, undef, undef, undef, undef, undef, undef, undef, undef, undef, undef, undef] [])
          (fun x a' => Own.from (fun s A B row hs hg hr => by obtain ⟨Bx, h1, h2, h3, h4⟩ := hs; exact ⟨Bx, h1, cell_kept h2 hg hr, cell_kept h3 hg hr, h4⟩) _) ?assign ?body ?done ?stop
        case assign =>
          rintro l pre ⟨x1, x2, x3⟩ W K ⟨⟨i1, i2, i3, i4, i5, i6, i7⟩, hB⟩ hK
          have hsB := blt i6
          have hK' := Lib.hid hK
          clear hK hc hf k1 k2 k3 k4 k5 k6 hz hz1 hz2 hw1 hW0
          simp only [encI]
          gi_wp2
          exact hK'.out _ _ ((KeepsOthers.alloc _ _).from _) (ck_alloc _ _) ⟨⟨i1, cell_al _ (by omega) i2, cell_al _ (by omega) i3, cell_al _ (by omega) i4, frozen_al _ (by omega) i5, cell_al _ (by omega) i6, frozen_al _ (by omega) i7⟩, bal hB _⟩
            ⟨W.heap.size, by omega, by simp, by simp, rfl⟩
        case body =>
          rintro l pre ⟨x1, x2, x3⟩ a' W hl hr ⟨⟨i1, i2, i3, i4, i5, i6, i7⟩, hB⟩ ⟨Bx, hBx, b1, b2, rfl⟩ hlt
          clear hc hf k1 k2 k3 k4 k5 k6 hz hz1 hz2 hw1 hW0 hr
          by_cases hmx : x1 < wrap64 (1440 * d + m - x3)
          · by_cases htx : wrap64 (1440 * d + m - x3) < x2
            · gi_wp2
              exact ⟨(KeepsOthers.from ((KeepsOthers.setCell _ _ _).trans (KeepsOthers.setCell _ _ _)) _), ⟨rfl, ⟨wrap64 (1440 * d + m - x3), ⟨pre, (x1, x2, x3), rfl, i1, by show _ = max x1 (wrap64 (1440 * d + m - x3)); omega, htx⟩, cell_far (by omega) (cell_set i4)⟩, cell_set (cell_far (by omega) i6)⟩, (hB.setCell (by simp; omega) _).setCell (by simp; omega) _⟩
            · gi_wp2
              exact ⟨(KeepsOthers.refl _).from _, ck_refl _, ⟨notYetI_snoc i1 (by show x2 ≤ max x1 (wrap64 (1440 * d + m - x3)); omega), i2, i3, i4, i5, i6, i7⟩, hB⟩
          · by_cases htx : x1 < x2
            · gi_wp2
              exact ⟨(KeepsOthers.from ((KeepsOthers.setCell _ _ _).trans (KeepsOthers.setCell _ _ _)) _), ⟨rfl, ⟨x1, ⟨pre, (x1, x2, x3), rfl, i1, by show _ = max x1 (wrap64 (1440 * d + m - x3)); omega, htx⟩, cell_far (by omega) (cell_set i4)⟩, cell_set (cell_far (by omega) i6)⟩, (hB.setCell (by simp; omega) _).setCell (by simp; omega) _⟩
            · gi_wp2
              exact ⟨(KeepsOthers.refl _).from _, ck_refl _, ⟨notYetI_snoc i1 (by show x2 ≤ max x1 (wrap64 (1440 * d + m - x3)); omega), i2, i3, i4, i5, i6, i7⟩, hB⟩
        case done =>
          rintro D ys W hD rfl ⟨⟨hn, i2, i3, i4, i5, i6, i7⟩, hB⟩ hDD
          have hw6 : ∀ y ∈ ivs 0 z.off z.cs, y.2.1 ≤ max y.1 (1440 * d + m - y.2.2) := by
            intro y hy
            have h1 := hn y hy
            have h2 := hiv.out y hy
            rwa [show wrap64 (1440 * d + m - y.2.2) = 1440 * d + m - y.2.2 from w64 (by omega) (by omega)] at h1
          obtain ⟨e1, e2⟩ := HN.out (instFrom_none _ _ _ _ hw6)
          have E1 := Lib.hid e1
          have E2 := Lib.hid e2
          clear e1 e2 hn hw6 hc hf k1 k2 k3 k4 k5 k6 hz hz1 hz2 hw1 hW0
          gi_wp2
          have hK' := ((KeepsOthers.setCell W ⟨w.heap.size + 1 + 1 + 1, 0, none⟩ (.int .i64 0)).trans (KeepsOthers.setCell _ ⟨w.heap.size + 1 + 1 + 1 + 1, 0, none⟩ (.int .i64 71))).same D _ hDD rfl
          refine ⟨by simp, .inl ⟨_, _, rfl, run_takeDeferred hK', ?_⟩⟩
          have hc5 := cell_kept (cell_far (v := .int .i64 71) (b := w.heap.size + 1 + 1 + 1 + 1) (o := 0) (by omega) (cell_set (v := .int .i64 0) i4)) (grownBy_putObj' _ D (.deferred none)) (fun r e => by cases e; exact ⟨_, hK', rfl⟩)
          have hc6 := cell_kept (cell_set (v := .int .i64 71) (cell_far (v := .int .i64 0) (b := w.heap.size + 1 + 1 + 1) (o := 0) (by omega) i6)) (grownBy_putObj' _ D (.deferred none)) (fun r e => by cases e; exact ⟨_, hK', rfl⟩)
          have hB2 := (hB.setCell (p := ⟨w.heap.size + 1 + 1 + 1, 0, none⟩) (by simp; omega) (.int .i64 0)).setCell (p := ⟨w.heap.size + 1 + 1 + 1 + 1, 0, none⟩) (by simp; omega) (.int .i64 71)
          refine ⟨.tuple #[.int .i64 0, .int .i64 71], ?_, ret_pair E1.out.symm E2.out.symm, hB2.grown (grownBy_putObj' _ D (.deferred none)) hB2.size (fun k e => by cases e; simp at hD; omega)⟩
          simp [results, Tryz.f117, go_sem, hc5, hc6]
        case stop =>
          rintro D cd pre W hD hp ⟨⟨rfl, ⟨v, ⟨q, x, rfl, h1, hv, h2⟩, h3⟩, h4⟩, hB⟩ hDD
          have hmem : ∀ y ∈ q ++ [x], y ∈ ivs 0 z.off z.cs := fun y hy => hp.subset hy
          have hwr : ∀ y ∈ q ++ [x], wrap64 (1440 * d + m - y.2.2) = 1440 * d + m - y.2.2 := fun y hy => by
            have h2 := hiv.out y (hmem y hy)
            exact w64 (by omega) (by omega)
          have hq : ∀ y ∈ q, y.2.1 ≤ max y.1 (1440 * d + m - y.2.2) := fun y hy => by
            have h5 := h1 y hy
            rwa [hwr y (List.mem_append.2 (.inl hy))] at h5
          rw [hwr x (by simp)] at hv
          have hov := instFrom_of_ivs _ 0 z.off z.cs q x hp hq (by omega)
          rw [← hv] at hov
          obtain ⟨e1, e2⟩ := HS.out _ hov
          rw [e1, e2]
          clear e1 e2 hov hv hwr hmem hq hp h1 h2 hc hf k1 k2 k3 k4 k5 k6 hz hz1 hz2 hw1 hW0
          gi_wp2
          refine ⟨by simp, .inl ⟨_, _, rfl, run_takeDeferred hDD, ?_⟩⟩
          have hc5 := cell_kept h3 (grownBy_putObj' _ D (.deferred none)) (fun r e => by cases e; exact ⟨_, hDD, rfl⟩)
          have hc6 := cell_kept h4 (grownBy_putObj' _ D (.deferred none)) (fun r e => by cases e; exact ⟨_, hDD, rfl⟩)
          refine ⟨.tuple #[.int .i64 v, .int .i64 0], ?_, rfl, hB.grown (grownBy_putObj' W D (.deferred none)) hB.size (fun k e => by cases e; simp at hD; omega)⟩
          simp [results, Tryz.f117, go_sem, hc5, hc6]
end
section
open Go.RowKit

def zK : ZN := ⟨⟨#[122]⟩, 0, [(600, 60)]⟩
def z0 : ZN := ⟨⟨#[]⟩, 0, []⟩
theorem zK1 : zK.instV 0 630 = 600 ∧ zK.instE 0 630 = 0 := by decide
theorem zK2 : zK.instV 0 661 = 601 ∧ zK.instE 0 661 = 0 := by decide
theorem zK3 : zK.localD 600 = 0 ∧ zK.localM 600 = 660 ∧ zK.localE 600 = 0 := by decide
theorem z0e : z0.err = 70 := by decide

theorem zinst_is {z : ZN} {d m v e : Int} (h : z.instV d m = v ∧ z.instE d m = e) (A : Option Addr) (c : Nat) (w : World) (hz : ZAt w z A) :
    Calls Tryz.prog 117 #[.agg #[.string z.name, .int .i64 z.off, .slice A z.cs.length c], .int .i64 d, .int .i64 m] w (RetB (.tuple #[.int .i64 v, .int .i64 e]) w) := by
  obtain ⟨rfl, rfl⟩ := h
  exact zInstant_any z A c d m w hz
theorem ZAt.empty (w : World) : ZAt w z0 none := ⟨by decide, by decide, fun k x h => by simp [z0] at h⟩
theorem ZAt.known {w : World} {b : Nat} (h1 : w.cell? ⟨b, 0, none⟩ = some (.int .i64 600)) (h2 : w.cell? ⟨b, 1, none⟩ = some (.int .i64 60)) : ZAt w zK (some ⟨b, 0, none⟩) :=
  ⟨by decide, by decide, fun k x h => by
    cases k with
    | zero => simp [zK] at h; subst h; exact ⟨b, 0, rfl, blt h1, h1, h2⟩
    | succ k => simp [zK] at h⟩

theorem kInst {b : Nat} {w : World} (h1 : w.cell? ⟨b, 0, none⟩ = some (.int .i64 600)) (h2 : w.cell? ⟨b, 1, none⟩ = some (.int .i64 60)) {d m v e : Int} (h : zK.instV d m = v ∧ zK.instE d m = e) :
    Calls Tryz.prog 117 #[.agg #[.string { data := #[122] }, .int .i64 0, .slice (some { block := b, off := 0 }) 1 1], .int .i64 d, .int .i64 m] w (RetB (.tuple #[.int .i64 v, .int .i64 e]) w) :=
  zinst_is h _ 1 w (ZAt.known h1 h2)
theorem kEmpty (w : World) :
    Calls Tryz.prog 42 #[.agg #[.string { data := #[] }, .int .i64 0, .slice none 0 0]] w (RetB (.int .i64 70) w) :=
  zcheck_is z0e none 0 w (ZAt.empty w)

/-- What the sanity check carries from call to call. -/
structure KnownAt (w W : World) : Prop where
  below : Below w.heap.size w W
  lt : w.heap.size + 1 < W.heap.size
  b0 : W.cell? ⟨w.heap.size, 0, none⟩ = some (.int .i64 600)
  b1 : W.cell? ⟨w.heap.size, 1, none⟩ = some (.int .i64 60)
  c0 : W.cell? ⟨w.heap.size + 1, 0, none⟩ = some (.string { data := #[122] })
  c1 : W.cell? ⟨w.heap.size + 1, 1, none⟩ = some (.int .i64 0)
  c2 : W.cell? ⟨w.heap.size + 1, 2, none⟩ = some (.slice (some { block := w.heap.size, off := 0 }) 1 1)
theorem KnownAt.next {w W W' : World} (h : KnownAt w W) (hb : Below W.heap.size W W') : KnownAt w W' := by
  have l := h.lt
  exact ⟨bnext h.below hb, Nat.lt_of_lt_of_le h.lt hb.size, (bcell hb _ _ (by omega)).trans h.b0, (bcell hb _ _ (by omega)).trans h.b1, (bcell hb _ _ (by omega)).trans h.c0, (bcell hb _ _ (by omega)).trans h.c1, (bcell hb _ _ (by omega)).trans h.c2⟩

/-- A zone in a box of its own, carried from call to call. -/
structure ZBox (w W : World) (z : ZN) (A : Option Addr) (c : Nat) : Prop where
  below : Below w.heap.size w W
  lt : w.heap.size < W.heap.size
  at_ : ZAt W z A
  c0 : W.cell? ⟨w.heap.size, 0, none⟩ = some (.string z.name)
  c1 : W.cell? ⟨w.heap.size, 1, none⟩ = some (.int .i64 z.off)
  c2 : W.cell? ⟨w.heap.size, 2, none⟩ = some (.slice A z.cs.length c)
theorem ZBox.next {w W W' : World} {z : ZN} {A : Option Addr} {c : Nat} (h : ZBox w W z A c) (hb : Below W.heap.size W W') : ZBox w W' z A c := by
  have l := h.lt
  exact ⟨bnext h.below hb, Nat.lt_of_lt_of_le h.lt hb.size, h.at_.below hb, (bcell hb _ _ (by omega)).trans h.c0, (bcell hb _ _ (by omega)).trans h.c1, (bcell hb _ _ (by omega)).trans h.c2⟩
theorem ZBox.drew {w W : World} {z : ZN} {A : Option Addr} {c : Nat} (h : ZBox w W z A c) : ZBox w W.drew z A c := h.next ((Below.refl _ _).drew)
theorem ZBox.drewN {w W : World} {z : ZN} {A : Option Addr} {c : Nat} (h : ZBox w W z A c) (n : Nat) : ZBox w (W.drewN n) z A c := h.next (below_drewN (Below.refl _ _) n)

end
end Go.Proofs.YtbfllcfjgpkpaaaGreat
