/-
  The walks of business days: the map of holidays; Business, From, To.
  The walks of business days: To, Step, Of.
  The walks of calendars: a calendar in memory; workdays.Of.
  The walks of calendars: which are valid.
  The walks of calendars: the document's Check.
  The walks of calendars: the document's Open, by a search in the holidays.
  The walks of calendars: the document's Add.
-/
import Derived.Test.YtbfllcfjgpkpaaaGreatPlain
import Derived.Test.YtbfllcfjgpkpaaaGreatRows
import Derived.Test.YtbfllcfjgpkpaaaGreatBase
import Derived.Maps.OwnSet
import Derived.Test.YtbfllcfjgpkpaaaGreatRow
import Derived.Test.YtbfllcfjgpkpaaaGreatZoneWalk
import Derived.IntWalk
import Derived.Test.YtbfllcfjgpkpaaaGreatDateWalk
namespace Go.Proofs.YtbfllcfjgpkpaaaGreat
section
open Go.RowKit
set_option maxHeartbeats 4000000
set_option linter.unusedVariables false

/-- The holidays as a map. -/
def holD (l : List Int) : DataW Unit := l.foldl (fun D h => D.put (.int .i64 h) (.lit (.bool true))) (.map [])
theorem holD_snoc (l : List Int) (x : Int) : holD (l ++ [x]) = (holD l).put (.int .i64 x) (.lit (.bool true)) := by simp [holD]
theorem isMap_foldl : ∀ (l : List Int) (D : DataW Unit), Maps.IsMap D → Maps.IsMap (l.foldl (fun D h => D.put (.int .i64 h) (.lit (.bool true))) D)
  | [], D, h => h
  | x :: l, D, h => isMap_foldl l _ (h.put _ _)
theorem at_foldl (d : Int) : ∀ (l : List Int) (D : DataW Unit), Maps.IsMap D →
    (l.foldl (fun D h => D.put (.int .i64 h) (.lit (.bool true))) D).atKey (.int .i64 d) (.lit (.bool false)) = if d ∈ l then .lit (.bool true) else D.atKey (.int .i64 d) (.lit (.bool false))
  | [], D, h => by simp
  | x :: l, D, h => by
    rw [List.foldl_cons, at_foldl d l _ (h.put _ _)]
    by_cases hx : d = x
    · subst hx
      rw [Maps.atKey_put_same h (show WideAt.IsKeyLit (.int .i64 d) from trivial)]
      simp
    · rw [Maps.atKey_put_other (by intro e; injection e with _ e; exact hx e)]
      by_cases hm : d ∈ l
      · simp [hm]
      · simp [hm, hx]
theorem holD_at (l : List Int) (d : Int) : (holD l).atKey (.int .i64 d) (.lit (.bool false)) = .lit (.bool (decide (d ∈ l))) := by
  unfold holD
  rw [at_foldl d l _ Maps.isMap_empty]
  by_cases h : d ∈ l
  · simp [h]
  · simp [h]
    rfl
theorem lawI : Maps.Keyed Tryz.prog 3 := Maps.int_keyed Tryz.underlying3
theorem zeroB (w : World) : (zeroValue 4).run Tryz.prog w = .ok (.bool false) w := by kernel_rfl
theorem wf64 {x : Int} (h : -1000000000 ≤ x ∧ x ≤ 1000000000) : (Lit.int .i64 x).wf = true := WalkArith.wf_i64 (by omega)

/-- Block b holds the holidays of c, a valid calendar's. -/
structure HolAt (W : World) (c : CN) (b : Nat) : Prop where
  own : W.ownsMap Tryz.prog 3 (plainElem Tryz.prog 4) b c.hs.length (holD c.hs)
  lt : b < W.heap.size
theorem HolAt.keep {W W' : World} {c : CN} {b : Nat} (h : HolAt W c b) (hs : W.heap.size ≤ W'.heap.size) (he : W'.heap[b]? = W.heap[b]?) : HolAt W' c b := by
  obtain ⟨⟨es, clock, hb, r⟩, hlt⟩ := h
  exact ⟨⟨es, clock, he.trans hb, r⟩, Nat.lt_of_lt_of_le hlt hs⟩
theorem HolAt.next {W W' : World} {c : CN} {b : Nat} (h : HolAt W c b) (hb : Below W.heap.size W W') : HolAt W' c b := h.keep hb.size (hb.block b h.lt)
theorem plainElem_bool_inv {H : Type} {P : Program} {e : TypeId} (he : P.underlying e = some .bool) {v : Value} {z : DataW H × List MemPlace} (h : plainElem P e v = some z) : ∃ x, v = .bool x ∧ z.1 = .lit (.bool x) := by
  unfold plainElem at h
  rw [he] at h
  cases v <;> simp at h
  exact ⟨_, rfl, by rw [← h]⟩
theorem lit_bool {x y : Bool} (h : (DataW.lit (.bool x) : DataW Unit) = .lit (.bool y)) : x = y := by injection h with h; injection h
theorem HolAt.look {W : World} {c : CN} {b : Nat} (h : HolAt W c b) {d : Int} (hd : 0 ≤ d ∧ d ≤ 73048) :
    (Instr.lookup 143 (.map (some b)) (.int .i64 d) false).run Tryz.prog W = .ok (.bool (c.hol d)) W := by
  obtain ⟨v, ps, hrun, hv⟩ := h.own.lookup lawI Tryz.underlying143 (zeroB W) (plainElem_bool Tryz.underlying4 false) (Maps.keyOf_int_mk (P := Tryz.prog) Tryz.underlying3 (wf64 (x := d) (by omega)))
  obtain ⟨x, rfl, hx⟩ := plainElem_bool_inv Tryz.underlying4 hv
  have hx : (holD c.hs).atKey (.int .i64 d) (.lit (.bool false)) = .lit (.bool x) := hx
  rw [holD_at] at hx
  have hx2 : decide (d ∈ c.hs) = x := lit_bool hx
  rw [hrun, ← hx2]
  rfl
theorem wk_cell (c : CN) (x : Value) {k : Nat} (h : k < 7) : (#[.bool c.w0, .bool c.w1, .bool c.w2, .bool c.w3, .bool c.w4, .bool c.w5, .bool c.w6, x] : Array Value)[k]? = some (.bool (c.wk k)) := by
  have : k = 0 ∨ k = 1 ∨ k = 2 ∨ k = 3 ∨ k = 4 ∨ k = 5 ∨ k = 6 := by omega
  rcases this with rfl | rfl | rfl | rfl | rfl | rfl | rfl <;> rfl

set_option maxRecDepth 100000 in
theorem biz_any (c : CN) (b : Nat) (d : Int) (w : World) (h : HolAt w c b) :
    Calls Tryz.prog 122 #[.agg #[.bool c.w0, .bool c.w1, .bool c.w2, .bool c.w3, .bool c.w4, .bool c.w5, .bool c.w6, .map (some b)], .int .i64 d] w (RetB (.bool (biz c d)) w) := by
  by_cases h0 : d < 0
  · rw [biz_out (by omega)]
    go_enter Tryz.func122, Tryz.ntmps122
    go_wp2_with fail
    go_ret
    exact ⟨rfl, bal0 _ _⟩
  by_cases h1 : 73048 < d
  · rw [biz_out (by omega)]
    go_enter Tryz.func122, Tryz.ntmps122
    go_wp2_with fail
    go_ret
    exact ⟨rfl, bal0 _ _⟩
  obtain ⟨i0, i1⟩ : 0 ≤ d ∧ d ≤ 73048 := by omega
  have hc : (w.alloc (.cells #[.bool c.w0, .bool c.w1, .bool c.w2, .bool c.w3, .bool c.w4, .bool c.w5, .bool c.w6, .map (some b)] 145)).cell? ⟨w.heap.size, ((d + 5) % 7).toNat, none⟩ = some (.bool (c.off d)) := by
    rw [World.cell?_alloc_new]
    exact wk_cell c (.map (some b)) (k := ((d + 5) % 7).toNat) (by omega)
  have hl := (h.next (bal0 w (.cells #[.bool c.w0, .bool c.w1, .bool c.w2, .bool c.w3, .bool c.w4, .bool c.w5, .bool c.w6, .map (some b)] 145))).look ⟨i0, i1⟩
  have e : biz c d = (!c.off d && !c.hol d) := by
    unfold biz
    rw [decide_eq_true (by exact ⟨i0, i1⟩), Bool.true_and]
  rw [e]
  clear h e
  cases ho : c.off d
  · rw [ho] at hc
    cases hh : c.hol d
    · rw [hh] at hl
      clear ho hh h0 h1
      go_enter Tryz.func122, Tryz.ntmps122
      go_wp2_with fail
      go_ret
      exact ⟨rfl, bal0 _ _⟩
    · rw [hh] at hl
      clear ho hh h0 h1
      go_enter Tryz.func122, Tryz.ntmps122
      go_wp2_with fail
      go_ret
      exact ⟨rfl, bal0 _ _⟩
  · rw [ho] at hc
    clear ho hl h0 h1
    go_enter Tryz.func122, Tryz.ntmps122
    go_wp2_with fail
    go_ret
    exact ⟨rfl, bal0 _ _⟩
theorem biz_is {c : CN} {b : Nat} {d : Int} {v : Bool} (hv : biz c d = v) (w : World) (h : HolAt w c b) :
    Calls Tryz.prog 122 #[.agg #[.bool c.w0, .bool c.w1, .bool c.w2, .bool c.w3, .bool c.w4, .bool c.w5, .bool c.w6, .map (some b)], .int .i64 d] w (RetB (.bool v) w) := by
  subst hv
  exact biz_any c b d w h

theorem ret_ob {o : Option Int} {a : Int} {c : Bool} (h : a = o.getD 0) (hc : c = o.isSome) : Ending.returned (.tuple #[.int .i64 a, .bool c]) = .returned (.tuple #[.int .i64 (o.getD 0), .bool o.isSome]) := by rw [h, hc]
set_option maxRecDepth 100000 in
theorem from_is {c : CN} {b : Nat} {d : Int} {o : Option Int} (ho : fromP (biz c) d = o) (hd : -1000000 ≤ d) (hd2 : d ≤ 1000000) (w : World) (h : HolAt w c b) :
    Calls Tryz.prog 123 #[.agg #[.bool c.w0, .bool c.w1, .bool c.w2, .bool c.w3, .bool c.w4, .bool c.w5, .bool c.w6, .map (some b)], .int .i64 d] w (RetB (.tuple #[.int .i64 (o.getD 0), .bool o.isSome]) w) := by
  have HO := Lib.hid ho
  clear ho
  have h0 := h.next (bal0 w (.cells #[.bool c.w0, .bool c.w1, .bool c.w2, .bool c.w3, .bool c.w4, .bool c.w5, .bool c.w6, .map (some b)] 145))
  go_enter Tryz.func123, Tryz.ntmps123
  go_wp2_with fail
  go_loopw [1] (fun i wr => ∃ e : Int, -1000000 ≤ e ∧ e ≤ 1000000 ∧ i = .int .i64 e ∧ fromP (biz c) e = o ∧ HolAt wr c b ∧ Below w.heap.size w wr ∧ wr.heap[w.heap.size]? = some (.cells #[.bool c.w0, .bool c.w1, .bool c.w2, .bool c.w3, .bool c.w4, .bool c.w5, .bool c.w6, .map (some b)] 145 (0, 0))) (fun i _ => (73049 - intOf i).toNat)
  case atStart => exact ⟨d, hd, hd2, rfl, HO.out, h0, bal0 _ _, heap_alloc_new _ _⟩
  case round =>
    obtain ⟨e, he1, he2, rfl, hf, hh, hbel, hblk⟩ := hrel
    by_cases hlt : e ≤ 73048
    · have q0 : ∀ i, wr.cell? ⟨w.heap.size, i, none⟩ = ([.bool c.w0, .bool c.w1, .bool c.w2, .bool c.w3, .bool c.w4, .bool c.w5, .bool c.w6, .map (some b)] : List Value)[i]? := fun i => by simp [World.cell?, hblk]
      have q00 := (q0 0).trans rfl
      have q01 := (q0 1).trans rfl
      have q02 := (q0 2).trans rfl
      have q03 := (q0 3).trans rfl
      have q04 := (q0 4).trans rfl
      have q05 := (q0 5).trans rfl
      have q06 := (q0 6).trans rfl
      have q07 := (q0 7).trans rfl
      have HB := Lib.hid hblk
      have HF := Lib.hid hf
      clear hblk hf q0 HO
      cases hb : biz c e
      · go_wp2_with fail
        refine (biz_is hb _ hh).mono ?_
        rintro e' w2 ⟨rfl, hb2⟩
        clear q00 q01 q02 q03 q04 q05 q06 q07
        go_wp2_with fail
        go_roundw
        case rel => exact ⟨e + 1, by omega, by omega, rfl, (fromP_no hlt hb).symm.trans HF.out, hh.next hb2, bnext hbel hb2, (hb2.block _ (by have := (Array.getElem?_eq_some_iff.1 HB.out).1; exact this)).trans HB.out⟩
        case measure => simp [intOf]; omega
      · go_wp2_with fail
        refine (biz_is hb _ hh).mono ?_
        rintro e' w2 ⟨rfl, hb2⟩
        clear q00 q01 q02 q03 q04 q05 q06 q07
        have ho : some e = o := (fromP_yes hlt hb).symm.trans HF.out
        subst ho
        go_wp2_with fail
        go_ret2
        exact ⟨rfl, bnext hbel hb2⟩
    · have ho : none = o := (fromP_out (by omega)).symm.trans hf
      subst ho
      clear hf hblk HO
      go_wp2_with fail
      go_ret2
      exact ⟨rfl, hbel⟩
end
section
open Go.RowKit
set_option maxHeartbeats 4000000
set_option linter.unusedVariables false

theorem from_some {c : CN} {b : Nat} {d r : Int} (ho : fromP (biz c) d = some r) (hd : -1000000 ≤ d) (hd2 : d ≤ 1000000) (w : World) (h : HolAt w c b) :
    Calls Tryz.prog 123 #[.agg #[.bool c.w0, .bool c.w1, .bool c.w2, .bool c.w3, .bool c.w4, .bool c.w5, .bool c.w6, .map (some b)], .int .i64 d] w (RetB (.tuple #[.int .i64 r, .bool true]) w) := from_is ho hd hd2 w h
theorem from_none {c : CN} {b : Nat} {d : Int} (ho : fromP (biz c) d = none) (hd : -1000000 ≤ d) (hd2 : d ≤ 1000000) (w : World) (h : HolAt w c b) :
    Calls Tryz.prog 123 #[.agg #[.bool c.w0, .bool c.w1, .bool c.w2, .bool c.w3, .bool c.w4, .bool c.w5, .bool c.w6, .map (some b)], .int .i64 d] w (RetB (.tuple #[.int .i64 0, .bool false]) w) := from_is ho hd hd2 w h
set_option maxRecDepth 100000 in
theorem to_is {c : CN} {b : Nat} {d : Int} {o : Option Int} (ho : toP (biz c) d = o) (hd : -1000000 ≤ d) (hd2 : d ≤ 1000000) (w : World) (h : HolAt w c b) :
    Calls Tryz.prog 124 #[.agg #[.bool c.w0, .bool c.w1, .bool c.w2, .bool c.w3, .bool c.w4, .bool c.w5, .bool c.w6, .map (some b)], .int .i64 d] w (RetB (.tuple #[.int .i64 (o.getD 0), .bool o.isSome]) w) := by
  have HO := Lib.hid ho
  clear ho
  have h0 := h.next (bal0 w (.cells #[.bool c.w0, .bool c.w1, .bool c.w2, .bool c.w3, .bool c.w4, .bool c.w5, .bool c.w6, .map (some b)] 145))
  go_enter Tryz.func124, Tryz.ntmps124
  go_wp2_with fail
  go_loopw [1] (fun i wr => ∃ e : Int, -1000000 ≤ e ∧ e ≤ 1000000 ∧ i = .int .i64 e ∧ toP (biz c) e = o ∧ HolAt wr c b ∧ Below w.heap.size w wr ∧ wr.heap[w.heap.size]? = some (.cells #[.bool c.w0, .bool c.w1, .bool c.w2, .bool c.w3, .bool c.w4, .bool c.w5, .bool c.w6, .map (some b)] 145 (0, 0))) (fun i _ => (intOf i + 1).toNat)
  case atStart => exact ⟨d, hd, hd2, rfl, HO.out, h0, bal0 _ _, heap_alloc_new _ _⟩
  case round =>
    obtain ⟨e, he1, he2, rfl, hf, hh, hbel, hblk⟩ := hrel
    by_cases hlt : 0 ≤ e
    · have q0 : ∀ i, wr.cell? ⟨w.heap.size, i, none⟩ = ([.bool c.w0, .bool c.w1, .bool c.w2, .bool c.w3, .bool c.w4, .bool c.w5, .bool c.w6, .map (some b)] : List Value)[i]? := fun i => by simp [World.cell?, hblk]
      have q00 := (q0 0).trans rfl
      have q01 := (q0 1).trans rfl
      have q02 := (q0 2).trans rfl
      have q03 := (q0 3).trans rfl
      have q04 := (q0 4).trans rfl
      have q05 := (q0 5).trans rfl
      have q06 := (q0 6).trans rfl
      have q07 := (q0 7).trans rfl
      have HB := Lib.hid hblk
      have HF := Lib.hid hf
      clear hblk hf q0 HO
      cases hb : biz c e
      · go_wp2_with fail
        refine (biz_is hb _ hh).mono ?_
        rintro e' w2 ⟨rfl, hb2⟩
        clear q00 q01 q02 q03 q04 q05 q06 q07
        go_wp2_with fail
        go_roundw
        case rel => exact ⟨e - 1, by omega, by omega, rfl, (toP_no hlt hb).symm.trans HF.out, hh.next hb2, bnext hbel hb2, (hb2.block _ (by have := (Array.getElem?_eq_some_iff.1 HB.out).1; exact this)).trans HB.out⟩
        case measure => simp [intOf]; omega
      · go_wp2_with fail
        refine (biz_is hb _ hh).mono ?_
        rintro e' w2 ⟨rfl, hb2⟩
        clear q00 q01 q02 q03 q04 q05 q06 q07
        have ho : some e = o := (toP_yes hlt hb).symm.trans HF.out
        subst ho
        go_wp2_with fail
        go_ret2
        exact ⟨rfl, bnext hbel hb2⟩
    · have ho : none = o := (toP_out (by omega)).symm.trans hf
      subst ho
      clear hf hblk HO
      go_wp2_with fail
      go_ret2
      exact ⟨rfl, hbel⟩
theorem to_some {c : CN} {b : Nat} {d r : Int} (ho : toP (biz c) d = some r) (hd : -1000000 ≤ d) (hd2 : d ≤ 1000000) (w : World) (h : HolAt w c b) :
    Calls Tryz.prog 124 #[.agg #[.bool c.w0, .bool c.w1, .bool c.w2, .bool c.w3, .bool c.w4, .bool c.w5, .bool c.w6, .map (some b)], .int .i64 d] w (RetB (.tuple #[.int .i64 r, .bool true]) w) := to_is ho hd hd2 w h
theorem to_none {c : CN} {b : Nat} {d : Int} (ho : toP (biz c) d = none) (hd : -1000000 ≤ d) (hd2 : d ≤ 1000000) (w : World) (h : HolAt w c b) :
    Calls Tryz.prog 124 #[.agg #[.bool c.w0, .bool c.w1, .bool c.w2, .bool c.w3, .bool c.w4, .bool c.w5, .bool c.w6, .map (some b)], .int .i64 d] w (RetB (.tuple #[.int .i64 0, .bool false]) w) := to_is ho hd hd2 w h

set_option maxRecDepth 100000 in
theorem stepUp_is {c : CN} {b : Nat} {n : Nat} {d : Int} {o : Option Int} (ho : stepUp (biz c) n d = o) (hn : n ≤ 1000) (hd : 0 ≤ d) (hd2 : d ≤ 73048) (w : World) (h : HolAt w c b) :
    Calls Tryz.prog 116 #[.agg #[.bool c.w0, .bool c.w1, .bool c.w2, .bool c.w3, .bool c.w4, .bool c.w5, .bool c.w6, .map (some b)], .int .i64 d, .int .i64 (n : Int)] w (RetB (.tuple #[.int .i64 (o.getD 0), .bool o.isSome]) w) := by
  have HO := Lib.hid ho
  clear ho
  have h0 := h.next (bal0 w (.cells #[.bool c.w0, .bool c.w1, .bool c.w2, .bool c.w3, .bool c.w4, .bool c.w5, .bool c.w6, .map (some b)] 145))
  go_enter Tryz.func116, Tryz.ntmps116
  go_wp2_with fail
  go_loopw [1, 2, 8] (fun dv nv kv wr => HolAt wr c b ∧ Below w.heap.size w wr ∧ wr.heap[w.heap.size]? = some (.cells #[.bool c.w0, .bool c.w1, .bool c.w2, .bool c.w3, .bool c.w4, .bool c.w5, .bool c.w6, .map (some b)] 145 (0, 0)) ∧
    ((∃ (k : Nat) (e : Int), k ≤ n ∧ 0 ≤ e ∧ e ≤ 73048 ∧ nv = .int .i64 (k : Int) ∧ dv = .int .i64 e ∧ kv = .bool true ∧ stepUp (biz c) k e = o) ∨ (∃ k : Nat, k ≤ n ∧ nv = .int .i64 (k : Int) ∧ dv = .int .i64 0 ∧ kv = .bool false ∧ o = none))) (fun _ nv _ _ => (intOf nv).toNat)
  case atStart => exact ⟨h0, bal0 _ _, heap_alloc_new _ _, .inl ⟨n, d, Nat.le_refl _, hd, hd2, rfl, rfl, rfl, HO.out⟩⟩
  case round =>
    obtain ⟨hh, hbel, hblk, ⟨k, e, hk, he1, he2, rfl, rfl, rfl, hf⟩ | ⟨k, hk, rfl, rfl, rfl, ho⟩⟩ := hrel
    · by_cases hlt : 0 < k
      · obtain ⟨k, rfl⟩ : ∃ k', k = k' + 1 := ⟨k - 1, by omega⟩
        have q0 : ∀ i, wr.cell? ⟨w.heap.size, i, none⟩ = ([.bool c.w0, .bool c.w1, .bool c.w2, .bool c.w3, .bool c.w4, .bool c.w5, .bool c.w6, .map (some b)] : List Value)[i]? := fun i => by simp [World.cell?, hblk]
        have q00 := (q0 0).trans rfl
        have q01 := (q0 1).trans rfl
        have q02 := (q0 2).trans rfl
        have q03 := (q0 3).trans rfl
        have q04 := (q0 4).trans rfl
        have q05 := (q0 5).trans rfl
        have q06 := (q0 6).trans rfl
        have q07 := (q0 7).trans rfl
        have HB := Lib.hid hblk
        have hlt2 : (0 : Int) < ((k + 1 : Nat) : Int) := by omega
        clear hblk q0 HO
        cases hq : fromP (biz c) (e + 1) with
        | none =>
          have ho : none = o := by
            rw [← hf]
            unfold stepUp
            rw [hq]
            rfl
          subst ho
          clear hf
          go_wp2_with fail
          refine (from_none hq (by omega) (by omega) _ hh).mono ?_
          rintro e' w2 ⟨rfl, hb2⟩
          clear q00 q01 q02 q03 q04 q05 q06 q07
          go_wp2_with fail
          go_roundw
          case rel => exact ⟨hh.next hb2, bnext hbel hb2, (hb2.block _ (by have := (Array.getElem?_eq_some_iff.1 HB.out).1; exact this)).trans HB.out, .inr ⟨k, by omega, vint (by omega), rfl, rfl, by first | rfl | trivial⟩⟩
          case measure => first | (simp [intOf]; done) | (simp [intOf]; omega)
        | some r =>
          have ho : stepUp (biz c) k r = o := by
            rw [← hf]
            show _ = stepUp (biz c) (k + 1) e
            rw [stepUp, hq]
            rfl
          have hr := fromP_spec hq
          have HO2 := Lib.hid ho
          clear hf ho
          go_wp2_with fail
          refine (from_some hq (by omega) (by omega) _ hh).mono ?_
          rintro e' w2 ⟨rfl, hb2⟩
          clear q00 q01 q02 q03 q04 q05 q06 q07
          go_wp2_with fail
          go_roundw
          case rel => exact ⟨hh.next hb2, bnext hbel hb2, (hb2.block _ (by have := (Array.getElem?_eq_some_iff.1 HB.out).1; exact this)).trans HB.out, .inl ⟨k, r, by omega, by omega, by omega, vint (by omega), rfl, rfl, HO2.out⟩⟩
          case measure => first | (simp [intOf]; done) | (simp [intOf]; omega)
      · obtain rfl : k = 0 := by omega
        have ho : some e = o := hf
        subst ho
        clear hf hblk HO
        go_wp2_with fail
        refine wp_loop_rounds 1 ?_
        rw [rounds_succ]
        go_wp2_with fail
        go_ret2
        exact ⟨rfl, hbel⟩
    · subst ho
      clear hblk HO
      by_cases hlt : 0 < k
      · go_wp2_with fail
        refine wp_loop_rounds 1 ?_
        rw [rounds_succ]
        go_wp2_with fail
        go_ret2
        exact ⟨rfl, hbel⟩
      · obtain rfl : k = 0 := by omega
        go_wp2_with fail
        refine wp_loop_rounds 1 ?_
        rw [rounds_succ]
        go_wp2_with fail
        go_ret2
        exact ⟨rfl, hbel⟩
theorem stepUp_some {c : CN} {b : Nat} {n : Nat} {d r : Int} (ho : stepUp (biz c) n d = some r) (hn : n ≤ 1000) (hd : 0 ≤ d) (hd2 : d ≤ 73048) (w : World) (h : HolAt w c b) :
    Calls Tryz.prog 116 #[.agg #[.bool c.w0, .bool c.w1, .bool c.w2, .bool c.w3, .bool c.w4, .bool c.w5, .bool c.w6, .map (some b)], .int .i64 d, .int .i64 (n : Int)] w (RetB (.tuple #[.int .i64 r, .bool true]) w) := stepUp_is ho hn hd hd2 w h
theorem stepUp_none {c : CN} {b : Nat} {n : Nat} {d : Int} (ho : stepUp (biz c) n d = none) (hn : n ≤ 1000) (hd : 0 ≤ d) (hd2 : d ≤ 73048) (w : World) (h : HolAt w c b) :
    Calls Tryz.prog 116 #[.agg #[.bool c.w0, .bool c.w1, .bool c.w2, .bool c.w3, .bool c.w4, .bool c.w5, .bool c.w6, .map (some b)], .int .i64 d, .int .i64 (n : Int)] w (RetB (.tuple #[.int .i64 0, .bool false]) w) := stepUp_is ho hn hd hd2 w h

set_option maxRecDepth 100000 in
theorem stepDn_is {c : CN} {b : Nat} {n : Nat} {d : Int} {o : Option Int} (ho : stepDn (biz c) n d = o) (hn : n ≤ 1000) (hd : 0 ≤ d) (hd2 : d ≤ 73048) (w : World) (h : HolAt w c b) :
    Calls Tryz.prog 116 #[.agg #[.bool c.w0, .bool c.w1, .bool c.w2, .bool c.w3, .bool c.w4, .bool c.w5, .bool c.w6, .map (some b)], .int .i64 d, .int .i64 (-(n : Int))] w (RetB (.tuple #[.int .i64 (o.getD 0), .bool o.isSome]) w) := by
  have HO := Lib.hid ho
  clear ho
  have h0 := h.next (bal0 w (.cells #[.bool c.w0, .bool c.w1, .bool c.w2, .bool c.w3, .bool c.w4, .bool c.w5, .bool c.w6, .map (some b)] 145))
  go_enter Tryz.func116, Tryz.ntmps116
  go_wp2_with fail
  refine wp_loop_rounds 1 ?_
  rw [rounds_succ]
  go_wp2_with fail
  go_loopw [1, 2, 8] (fun dv nv kv wr => HolAt wr c b ∧ Below w.heap.size w wr ∧ wr.heap[w.heap.size]? = some (.cells #[.bool c.w0, .bool c.w1, .bool c.w2, .bool c.w3, .bool c.w4, .bool c.w5, .bool c.w6, .map (some b)] 145 (0, 0)) ∧
    ((∃ (k : Nat) (e : Int), k ≤ n ∧ 0 ≤ e ∧ e ≤ 73048 ∧ nv = .int .i64 (-(k : Int)) ∧ dv = .int .i64 e ∧ kv = .bool true ∧ stepDn (biz c) k e = o) ∨ (∃ k : Nat, k ≤ n ∧ nv = .int .i64 (-(k : Int)) ∧ dv = .int .i64 0 ∧ kv = .bool false ∧ o = none))) (fun _ nv _ _ => (-(intOf nv)).toNat)
  case atStart => exact ⟨h0, bal0 _ _, heap_alloc_new _ _, .inl ⟨n, d, Nat.le_refl _, hd, hd2, rfl, rfl, rfl, HO.out⟩⟩
  case round =>
    obtain ⟨hh, hbel, hblk, ⟨k, e, hk, he1, he2, rfl, rfl, rfl, hf⟩ | ⟨k, hk, rfl, rfl, rfl, ho⟩⟩ := hrel
    · by_cases hlt : 0 < k
      · obtain ⟨k, rfl⟩ : ∃ k', k = k' + 1 := ⟨k - 1, by omega⟩
        have q0 : ∀ i, wr.cell? ⟨w.heap.size, i, none⟩ = ([.bool c.w0, .bool c.w1, .bool c.w2, .bool c.w3, .bool c.w4, .bool c.w5, .bool c.w6, .map (some b)] : List Value)[i]? := fun i => by simp [World.cell?, hblk]
        have q00 := (q0 0).trans rfl
        have q01 := (q0 1).trans rfl
        have q02 := (q0 2).trans rfl
        have q03 := (q0 3).trans rfl
        have q04 := (q0 4).trans rfl
        have q05 := (q0 5).trans rfl
        have q06 := (q0 6).trans rfl
        have q07 := (q0 7).trans rfl
        have HB := Lib.hid hblk
        have hlt2 : (0 : Int) < ((k + 1 : Nat) : Int) := by omega
        clear hblk q0 HO
        cases hq : toP (biz c) (e - 1) with
        | none =>
          have ho : none = o := by
            rw [← hf]
            unfold stepDn
            rw [hq]
            rfl
          subst ho
          clear hf
          go_wp2_with fail
          refine (to_none hq (by omega) (by omega) _ hh).mono ?_
          rintro e' w2 ⟨rfl, hb2⟩
          clear q00 q01 q02 q03 q04 q05 q06 q07
          go_wp2_with fail
          go_roundw
          case rel => exact ⟨hh.next hb2, bnext hbel hb2, (hb2.block _ (by have := (Array.getElem?_eq_some_iff.1 HB.out).1; exact this)).trans HB.out, .inr ⟨k, by omega, vint (by omega), rfl, rfl, by first | rfl | trivial⟩⟩
          case measure => first | (simp [intOf]; done) | (simp [intOf]; omega)
        | some r =>
          have ho : stepDn (biz c) k r = o := by
            rw [← hf]
            show _ = stepDn (biz c) (k + 1) e
            rw [stepDn, hq]
            rfl
          have hr := toP_spec hq
          have HO2 := Lib.hid ho
          clear hf ho
          go_wp2_with fail
          refine (to_some hq (by omega) (by omega) _ hh).mono ?_
          rintro e' w2 ⟨rfl, hb2⟩
          clear q00 q01 q02 q03 q04 q05 q06 q07
          go_wp2_with fail
          go_roundw
          case rel => exact ⟨hh.next hb2, bnext hbel hb2, (hb2.block _ (by have := (Array.getElem?_eq_some_iff.1 HB.out).1; exact this)).trans HB.out, .inl ⟨k, r, by omega, by omega, by omega, vint (by omega), rfl, rfl, HO2.out⟩⟩
          case measure => first | (simp [intOf]; done) | (simp [intOf]; omega)
      · obtain rfl : k = 0 := by omega
        have ho : some e = o := hf
        subst ho
        clear hf hblk HO
        go_wp2_with fail
        go_ret2
        exact ⟨rfl, hbel⟩
    · subst ho
      clear hblk HO
      by_cases hlt : 0 < k
      · go_wp2_with fail
        go_ret2
        exact ⟨rfl, hbel⟩
      · obtain rfl : k = 0 := by omega
        go_wp2_with fail
        go_ret2
        exact ⟨rfl, hbel⟩
theorem stepDn_some {c : CN} {b : Nat} {n : Nat} {d r : Int} (ho : stepDn (biz c) n d = some r) (hn : n ≤ 1000) (hd : 0 ≤ d) (hd2 : d ≤ 73048) (w : World) (h : HolAt w c b) :
    Calls Tryz.prog 116 #[.agg #[.bool c.w0, .bool c.w1, .bool c.w2, .bool c.w3, .bool c.w4, .bool c.w5, .bool c.w6, .map (some b)], .int .i64 d, .int .i64 (-(n : Int))] w (RetB (.tuple #[.int .i64 r, .bool true]) w) := stepDn_is ho hn hd hd2 w h
theorem stepDn_none {c : CN} {b : Nat} {n : Nat} {d : Int} (ho : stepDn (biz c) n d = none) (hn : n ≤ 1000) (hd : 0 ≤ d) (hd2 : d ≤ 73048) (w : World) (h : HolAt w c b) :
    Calls Tryz.prog 116 #[.agg #[.bool c.w0, .bool c.w1, .bool c.w2, .bool c.w3, .bool c.w4, .bool c.w5, .bool c.w6, .map (some b)], .int .i64 d, .int .i64 (-(n : Int))] w (RetB (.tuple #[.int .i64 0, .bool false]) w) := stepDn_is ho hn hd hd2 w h
end
section
open Go.RowKit
set_option maxHeartbeats 4000000
set_option linter.unusedVariables false
/-- A calendar lies in memory: its holidays behind the address A. -/
structure CAt (W : World) (c : CN) (A : Option Addr) : Prop where
  nm : c.name.size ≤ maxLen
  ints : IntsAt W A c.hs
theorem CAt.below {W W' : World} {c : CN} {A : Option Addr} (h : CAt W c A) (hb : Below W.heap.size W W') : CAt W' c A := ⟨h.nm, h.ints.below hb⟩
/-- The holiday at place k. -/
theorem CAt.hol {W : World} {c : CN} {A : Option Addr} (h : CAt W c A) {k : Nat} (hk : k < c.hs.length) : ∃ bb o, A = some ⟨bb, o, none⟩ ∧ bb < W.heap.size ∧ W.cell? ⟨bb, o + k, none⟩ = some (.int .i64 c.hs[k]) :=
  h.ints.2 k _ (List.getElem?_eq_getElem hk)
def CN.all (c : CN) : Bool := c.w0 && (c.w1 && (c.w2 && (c.w3 && (c.w4 && (c.w5 && c.w6)))))
def CN.ok (c : CN) : Bool := nameB c.name.data.toList && (!c.all && (decide (c.hs.length ≤ 2000) && ascB (-1) c.hs))
theorem CN.ok_len {c : CN} (h : c.ok = true) : c.hs.length ≤ 2000 := by
  unfold CN.ok at h
  simp only [Bool.and_eq_true, decide_eq_true_eq] at h
  exact h.2.2.1
theorem CN.ok_asc {c : CN} (h : c.ok = true) : ascB (-1) c.hs = true := by
  unfold CN.ok at h
  simp only [Bool.and_eq_true, decide_eq_true_eq] at h
  exact h.2.2.2
theorem CN.ok_mem {c : CN} (h : c.ok = true) : ∀ x ∈ c.hs, 0 ≤ x ∧ x ≤ 73048 := fun x hx => (asc_mem _ _ (CN.ok_asc h) x hx).2
theorem run_makeMap_hint (n : Int) (w : World) : (Instr.makeMap 143 (some (.int .i64 n))).run Tryz.prog w = .ok (.map (some w.heap.size)) (w.alloc (.map #[] 0)) := by
  have h : (asInt (.int .i64 n)).run Tryz.prog w = .ok n w := rfl
  simp [Instr.makeMap, run_underlying Tryz.underlying143, h]
theorem heap_alD {w : World} {b : Nat} {r : Option Obj} (o : Obj) (h : b < w.heap.size) (hr : w.heap[b]? = r) : (w.alloc o).heap[b]? = r := by
  rw [← hr]
  show (w.heap.push o)[b]? = _
  rw [Array.getElem?_push, if_neg (by omega)]
theorem heap_newD {w : World} {g : Nat} (o : Obj) (h : g = w.heap.size) : (w.alloc o).heap[g]? = some o := by subst h; exact heap_alloc_new w o
/-- Stores into one block, one after the other. -/
def setL (w : World) (R : Nat) (l : List (Nat × Value)) : World := l.foldl (fun W p => W.setCell ⟨R, p.1, none⟩ p.2) w
theorem setL_far : ∀ (l : List (Nat × Value)) (w : World) (R b : Nat), b ≠ R → (setL w R l).heap[b]? = w.heap[b]?
  | [], _, _, _, _ => rfl
  | p :: l, w, R, b, h => (setL_far l _ R b h).trans (Below.heap_setCell w _ _ b h)
theorem setL_size : ∀ (l : List (Nat × Value)) (w : World) (R : Nat), (setL w R l).heap.size = w.heap.size
  | [], _, _ => rfl
  | p :: l, w, R => (setL_size l _ R).trans (by simp [World.setCell])
theorem setL_at : ∀ (l : List (Nat × Value)) (w : World) (R : Nat) (cs : Array Value) (t : TypeId) (fr : Nat × Nat), w.heap[R]? = some (.cells cs t fr) →
    (setL w R l).heap[R]? = some (.cells (l.foldl (fun a p => a.setIfInBounds p.1 p.2) cs) t fr)
  | [], _, _, _, _, _, h => h
  | p :: l, w, R, cs, t, fr, h => setL_at l _ R _ t fr (Joins.block_setCell h p.2)
theorem setL_below : ∀ (l : List (Nat × Value)) {B : Nat} {a w : World} (R : Nat), Below B a w → B ≤ R → Below B a (setL w R l)
  | [], _, _, _, _, h, _ => h
  | p :: l, _, _, _, R, h, hB => setL_below l R (h.setCell hB _) hB
def OfP (c : CN) (w : World) (e : Ending) (w' : World) : Prop := ∃ b, e = .returned (.agg #[.bool c.w0, .bool c.w1, .bool c.w2, .bool c.w3, .bool c.w4, .bool c.w5, .bool c.w6, .map (some b)]) ∧ HolAt w' c b ∧ Below w.heap.size w w'
/-- What Of has of memory. -/
structure OfS (w W : World) (c : CN) (A : Option Addr) (cp k : Nat) : Prop where
  own : W.ownsMap Tryz.prog 3 (plainElem Tryz.prog 4) (w.heap.size + 2) k (holD (c.hs.take k))
  box : W.heap[w.heap.size]? = some (.cells #[.string c.name, .bool c.w0, .bool c.w1, .bool c.w2, .bool c.w3, .bool c.w4, .bool c.w5, .bool c.w6, .slice A c.hs.length cp] 35 (0, 0))
  res : W.heap[w.heap.size + 1]? = some (.cells #[.bool false, .bool false, .bool false, .bool false, .bool false, .bool false, .bool false, .map none] 145 (0, 0))
  below : Below w.heap.size w W
theorem OfS.grown {w W W' : World} {c : CN} {A : Option Addr} {cp k : Nat} (h : OfS w W c A cp k) {j : Nat} (ho : W'.ownsMap Tryz.prog 3 (plainElem Tryz.prog 4) (w.heap.size + 2) j (holD (c.hs.take j)))
    (hg : W.grownBy W' (some (w.heap.size + 2))) : OfS w W' c A cp j :=
  ⟨ho, (hg.block _ (Array.getElem?_eq_some_iff.1 h.box).1 (by intro e; injection e with e; omega)).trans h.box, (hg.block _ (Array.getElem?_eq_some_iff.1 h.res).1 (by intro e; injection e with e; omega)).trans h.res,
    h.below.grown hg h.below.size (fun j hj => by cases hj; omega)⟩
set_option maxRecDepth 100000 in
theorem of_any (c : CN) (A : Option Addr) (cp : Nat) (w : World) (h : CAt w c A) (hok : c.ok = true) :
    Calls Tryz.prog 121 #[.agg #[.string c.name, .bool c.w0, .bool c.w1, .bool c.w2, .bool c.w3, .bool c.w4, .bool c.w5, .bool c.w6, .slice A c.hs.length cp]] w (OfP c w) := by
  have hlen := CN.ok_len hok
  have HM := Lib.hid (CN.ok_mem hok)
  clear hok
  have hmm := run_makeMap_hint c.hs.length
  go_enter Tryz.func121, Tryz.ntmps121
  go_wp2_with fail
  clear hmm
  go_loopw [13] (fun i wr => ∃ k : Nat, k ≤ c.hs.length ∧ i = .int .i64 k ∧ OfS w wr c A cp k) (fun i _ => c.hs.length - (intOf i).toNat)
  case atStart =>
    refine ⟨0, Nat.zero_le _, rfl, ?_, ?_, ?_, ?_⟩
    · have := World.ownsMap_made (H := Unit) ((w.alloc (.cells #[.string c.name, .bool c.w0, .bool c.w1, .bool c.w2, .bool c.w3, .bool c.w4, .bool c.w5, .bool c.w6, .slice A c.hs.length cp] 35)).alloc (.cells #[.bool false, .bool false, .bool false, .bool false, .bool false, .bool false, .bool false, .map none] 145)) Tryz.prog 3 (plainElem Tryz.prog 4)
      rw [World.size_alloc, World.size_alloc] at this
      exact this
    · exact heap_alD _ (by simp; omega) (heap_alD _ (by simp) (heap_alloc_new w _))
    · exact heap_alD _ (by simp) (heap_newD _ (by simp))
    · exact bal (bal (bal0 _ _) _) _
  case round =>
    obtain ⟨k, hk, rfl, hs⟩ := hrel
    have q0 : ∀ i, wr.cell? ⟨w.heap.size, i, none⟩ = (#[.string c.name, .bool c.w0, .bool c.w1, .bool c.w2, .bool c.w3, .bool c.w4, .bool c.w5, .bool c.w6, .slice A c.hs.length cp] : Array Value)[i]? := fun i => by simp [World.cell?, hs.box]
    by_cases hlt : k < c.hs.length
    · obtain ⟨bb, o, rfl, hbb, hc0⟩ := h.hol hlt
      have hcell := (hs.below.cell (p := ⟨bb, o + k, none⟩) hbb).trans hc0
      have hmem : c.hs[k] ∈ c.hs := List.getElem_mem hlt
      have hx := HM.out _ hmem
      have hT : c.hs.take (k + 1) = c.hs.take k ++ [c.hs[k]] := List.take_succ_eq_append_getElem hlt
      generalize c.hs[k] = x at *
      have HT := Lib.hid hT
      have hkey : keyOf Tryz.prog 3 (.int .i64 x) = some (.int .i64 x) := Maps.keyOf_int_mk Tryz.underlying3 (wf64 (by omega))
      have HS := Lib.hid hs
      have hown := hs.own
      clear hT hmem hc0 hx hs q0
      go_wp2_with (first
        | (at_mapUpdate; refine wpList_mapUpdate_own _ rfl _ _ _ 143 rfl 3 4 lawI Tryz.underlying143 _ (w.heap.size + 2) k _ rfl hown (by unfold maxLen; omega) _ _ _ rfl rfl hkey _ [] (plainElem_bool Tryz.underlying4 true) ?_; intro w1 hown1 hgrow1)
        | fail)
      go_roundw
      case rel => exact ⟨k + 1, by omega, by go_num, HS.out.grown (by rw [HT.out, holD_snoc]; exact hown1) hgrow1⟩
      case measure => first | (simp [intOf]; done) | (simp [intOf]; omega)
    · have e : k = c.hs.length := by omega
      subst e
      have r0 : ∀ i, wr.cell? ⟨w.heap.size + 1, i, none⟩ = (#[.bool false, .bool false, .bool false, .bool false, .bool false, .bool false, .bool false, .map none] : Array Value)[i]? := fun i => by simp [World.cell?, hs.res]
      have rf : ∀ i, wr.frozen? ⟨w.heap.size + 1, i, none⟩ = false := fun i => by simp [World.frozen?, hs.res]
      have q01 := (q0 1).trans rfl
      have q02 := (q0 2).trans rfl
      have q03 := (q0 3).trans rfl
      have q04 := (q0 4).trans rfl
      have q05 := (q0 5).trans rfl
      have q06 := (q0 6).trans rfl
      have q07 := (q0 7).trans rfl
      have r00 := (r0 0).trans rfl
      have r01 := (r0 1).trans rfl
      have r02 := (r0 2).trans rfl
      have r03 := (r0 3).trans rfl
      have r04 := (r0 4).trans rfl
      have r05 := (r0 5).trans rfl
      have r06 := (r0 6).trans rfl
      have r07 := (r0 7).trans rfl
      have HS := Lib.hid hs
      clear hs q0 r0
      go_wp2_with fail
      have e1 := setL_at [(0, .bool c.w0), (1, .bool c.w1), (2, .bool c.w2), (3, .bool c.w3), (4, .bool c.w4), (5, .bool c.w5), (6, .bool c.w6), (7, .map (some (w.heap.size + 1 + 1)))] wr (w.heap.size + 1) _ _ _ HS.out.res
      have e2 : HolAt (setL wr (w.heap.size + 1) [(0, .bool c.w0), (1, .bool c.w1), (2, .bool c.w2), (3, .bool c.w3), (4, .bool c.w4), (5, .bool c.w5), (6, .bool c.w6), (7, .map (some (w.heap.size + 1 + 1)))]) c (w.heap.size + 1 + 1) :=
        (show HolAt wr c (w.heap.size + 1 + 1) from ⟨by have := HS.out.own; rw [List.take_length] at this; exact this, HS.out.own.lt⟩).keep (by rw [setL_size]; exact Nat.le_refl _) (setL_far _ _ _ _ (by omega))
      have e3 := setL_below [(0, .bool c.w0), (1, .bool c.w1), (2, .bool c.w2), (3, .bool c.w3), (4, .bool c.w4), (5, .bool c.w5), (6, .bool c.w6), (7, .map (some (w.heap.size + 1 + 1)))] (w.heap.size + 1) HS.out.below (by omega)
      have z0 : ∀ i, (setL wr (w.heap.size + 1) [(0, .bool c.w0), (1, .bool c.w1), (2, .bool c.w2), (3, .bool c.w3), (4, .bool c.w4), (5, .bool c.w5), (6, .bool c.w6), (7, .map (some (w.heap.size + 1 + 1)))]).cell? ⟨w.heap.size + 1, i, none⟩ = (#[.bool c.w0, .bool c.w1, .bool c.w2, .bool c.w3, .bool c.w4, .bool c.w5, .bool c.w6, .map (some (w.heap.size + 1 + 1))] : Array Value)[i]? := fun i => Joins.cell_of_block e1 i
      refine bodyPost_ret (v := .agg #[.bool c.w0, .bool c.w1, .bool c.w2, .bool c.w3, .bool c.w4, .bool c.w5, .bool c.w6, .map (some (w.heap.size + 1 + 1))]) ?_ rfl ⟨w.heap.size + 1 + 1, rfl, e2, e3⟩
      clear q01 q02 q03 q04 q05 q06 q07 r00 r01 r02 r03 r04 r05 r06 r07 rf
      show (results Tryz.f121 _).run Tryz.prog (setL wr (w.heap.size + 1) [(0, .bool c.w0), (1, .bool c.w1), (2, .bool c.w2), (3, .bool c.w3), (4, .bool c.w4), (5, .bool c.w5), (6, .bool c.w6), (7, .map (some (w.heap.size + 1 + 1)))]) = .ok (.agg #[.bool c.w0, .bool c.w1, .bool c.w2, .bool c.w3, .bool c.w4, .bool c.w5, .bool c.w6, .map (some (w.heap.size + 1 + 1))]) (setL wr (w.heap.size + 1) [(0, .bool c.w0), (1, .bool c.w1), (2, .bool c.w2), (3, .bool c.w3), (4, .bool c.w4), (5, .bool c.w5), (6, .bool c.w6), (7, .map (some (w.heap.size + 1 + 1)))])
      have z1 := (z0 0).trans rfl
      have z2 := (z0 1).trans rfl
      have z3 := (z0 2).trans rfl
      have z4 := (z0 3).trans rfl
      have z5 := (z0 4).trans rfl
      have z6 := (z0 5).trans rfl
      have z7 := (z0 6).trans rfl
      have z8 := (z0 7).trans rfl
      clear z0 e1 e2 e3
      generalize setL wr (w.heap.size + 1) _ = W at *
      simp [results, Tryz.f121, go_sem, z1, z2, z3, z4, z5, z6, z7, z8]
end
section
open Go.RowKit
set_option maxHeartbeats 4000000
set_option linter.unusedVariables false

/-- A calendar in a box of its own: block Z. -/
structure CBx (W : World) (Z : Nat) (c : CN) (A : Option Addr) (cp : Nat) : Prop where
  blk : W.heap[Z]? = some (.cells #[.string c.name, .bool c.w0, .bool c.w1, .bool c.w2, .bool c.w3, .bool c.w4, .bool c.w5, .bool c.w6, .slice A c.hs.length cp] 35 (0, 0))
  at_ : CAt W c A
theorem CBx.lt {W : World} {Z : Nat} {c : CN} {A : Option Addr} {cp : Nat} (h : CBx W Z c A cp) : Z < W.heap.size := (Array.getElem?_eq_some_iff.1 h.blk).1
theorem CBx.next {W W' : World} {Z : Nat} {c : CN} {A : Option Addr} {cp : Nat} (h : CBx W Z c A cp) (hb : Below W.heap.size W W') : CBx W' Z c A cp := ⟨(hb.block _ h.lt).trans h.blk, h.at_.below hb⟩
theorem CBx.drewN {W : World} {Z : Nat} {c : CN} {A : Option Addr} {cp : Nat} (h : CBx W Z c A cp) (n : Nat) : CBx (W.drewN n) Z c A cp := h.next (below_drewN (Below.refl _ _) n)
theorem CBx.new {W : World} {Z : Nat} {c : CN} {A : Option Addr} (cp : Nat) (h : CAt W c A) (hZ : Z = W.heap.size) : CBx (W.alloc (.cells #[.string c.name, .bool c.w0, .bool c.w1, .bool c.w2, .bool c.w3, .bool c.w4, .bool c.w5, .bool c.w6, .slice A c.hs.length cp] 35)) Z c A cp :=
  ⟨heap_newD _ hZ, h.below (bal0 _ _)⟩
theorem CBx.q {W : World} {Z : Nat} {c : CN} {A : Option Addr} {cp : Nat} (h : CBx W Z c A cp) :
    W.cell? ⟨Z, 0, none⟩ = some (.string c.name) ∧ W.cell? ⟨Z, 1, none⟩ = some (.bool c.w0) ∧ W.cell? ⟨Z, 2, none⟩ = some (.bool c.w1) ∧ W.cell? ⟨Z, 3, none⟩ = some (.bool c.w2) ∧ W.cell? ⟨Z, 4, none⟩ = some (.bool c.w3) ∧
    W.cell? ⟨Z, 5, none⟩ = some (.bool c.w4) ∧ W.cell? ⟨Z, 6, none⟩ = some (.bool c.w5) ∧ W.cell? ⟨Z, 7, none⟩ = some (.bool c.w6) ∧ W.cell? ⟨Z, 8, none⟩ = some (.slice A c.hs.length cp) := by
  have q : ∀ i, W.cell? ⟨Z, i, none⟩ = (#[.string c.name, .bool c.w0, .bool c.w1, .bool c.w2, .bool c.w3, .bool c.w4, .bool c.w5, .bool c.w6, .slice A c.hs.length cp] : Array Value)[i]? := fun i => Joins.cell_of_block h.blk i
  exact ⟨q 0, q 1, q 2, q 3, q 4, q 5, q 6, q 7, q 8⟩
theorem CBx.wk {W : World} {Z : Nat} {c : CN} {A : Option Addr} {cp : Nat} (h : CBx W Z c A cp) {k : Nat} (hk : k < 7) : W.cell? ⟨Z, 1 + k, none⟩ = some (.bool (c.wk k)) := by
  have q : ∀ i, W.cell? ⟨Z, i, none⟩ = (#[.string c.name, .bool c.w0, .bool c.w1, .bool c.w2, .bool c.w3, .bool c.w4, .bool c.w5, .bool c.w6, .slice A c.hs.length cp] : Array Value)[i]? := fun i => Joins.cell_of_block h.blk i
  have : k = 0 ∨ k = 1 ∨ k = 2 ∨ k = 3 ∨ k = 4 ∨ k = 5 ∨ k = 6 := by omega
  rcases this with rfl | rfl | rfl | rfl | rfl | rfl | rfl <;> exact (q _).trans rfl

theorem cusable_any (s : ByteArray) (w : World) (hs : s.size ≤ maxLen) : Calls Tryz.prog 69 #[.string s] w (RetB (.bool (nameB s.data.toList)) w) := by
  have hz : ZAt w ⟨s, 0, []⟩ none := ⟨hs, by simp [maxLen], fun k x h => by simp at h⟩
  have hk : ZN.ok ⟨s, 0, []⟩ = nameB s.data.toList := by
    unfold ZN.ok
    simp [offB, chkFrom]
  cases hn : nameB s.data.toList
  · have he : ZN.err ⟨s, 0, []⟩ = 70 := ZN.err_of_bad (hk.trans hn)
    go_enter Tryz.func69, Tryz.ntmps69
    go_wp2_with fail
    refine (zcheck_is he none 0 _ hz).mono ?_
    rintro e w1 ⟨rfl, hb⟩
    go_wp2_with fail
    go_ret
    exact ⟨rfl, hb⟩
  · have he : ZN.err ⟨s, 0, []⟩ = 0 := ZN.err_of_ok (hk.trans hn)
    go_enter Tryz.func69, Tryz.ntmps69
    go_wp2_with fail
    refine (zcheck_is he none 0 _ hz).mono ?_
    rintro e w1 ⟨rfl, hb⟩
    go_wp2_with fail
    go_ret
    exact ⟨rfl, hb⟩
theorem cusable_is {s : ByteArray} {v : Bool} (h : nameB s.data.toList = v) (w : World) (hs : s.size ≤ maxLen) : Calls Tryz.prog 69 #[.string s] w (RetB (.bool v) w) := by
  rw [← h]; exact cusable_any s w hs
theorem cvalid_any (n : Int) (w : World) : Calls Tryz.prog 70 #[.int .i64 n] w (RetW (.bool (dayB n)) w) := by
  unfold dayB
  go_enter Tryz.func70, Tryz.ntmps70
  go_wp2
  all_goals go_ret
  all_goals (refine ⟨ret_bool ?_, rfl⟩; rw [Bool.eq_iff_iff]; simp; try omega)
theorem cvalid_is {n : Int} {b : Bool} (h : dayB n = b) (w : World) : Calls Tryz.prog 70 #[.int .i64 n] w (RetW (.bool b) w) := by rw [← h]; exact cvalid_any n w
theorem we_eq (b0 b1 b2 b3 b4 b5 b6 : Bool) (w : World) :
    (Op.equalIn 10000 33 (.agg #[.bool b0, .bool b1, .bool b2, .bool b3, .bool b4, .bool b5, .bool b6]) (.agg #[.bool true, .bool true, .bool true, .bool true, .bool true, .bool true, .bool true])).run Tryz.prog w =
      .ok (b0 && (b1 && (b2 && (b3 && (b4 && (b5 && b6)))))) w := by
  cases b0
  · as_aux_lemma => kernel_rfl
  cases b1
  · as_aux_lemma => kernel_rfl
  cases b2
  · as_aux_lemma => kernel_rfl
  cases b3
  · as_aux_lemma => kernel_rfl
  cases b4
  · as_aux_lemma => kernel_rfl
  cases b5
  · as_aux_lemma => kernel_rfl
  cases b6
  · as_aux_lemma => kernel_rfl
  · as_aux_lemma => kernel_rfl
theorem we_is {c : CN} {v : Bool} (h : c.all = v) (w : World) :
    (Op.equalIn 10000 33 (.agg #[.bool c.w0, .bool c.w1, .bool c.w2, .bool c.w3, .bool c.w4, .bool c.w5, .bool c.w6]) (.agg #[.bool true, .bool true, .bool true, .bool true, .bool true, .bool true, .bool true])).run Tryz.prog w = .ok v w := by
  rw [← h]
  exact we_eq _ _ _ _ _ _ _ w

def CN.err (c : CN) : Int := if c.ok = true then 0 else 80
theorem CN.err_name {c : CN} (h : nameB c.name.data.toList = false) : c.err = 80 := by simp [CN.err, CN.ok, h]
theorem CN.err_all {c : CN} (h : c.all = true) : c.err = 80 := by simp [CN.err, CN.ok, h]
theorem CN.err_len {c : CN} (h : ¬ c.hs.length ≤ 2000) : c.err = 80 := by simp [CN.err, CN.ok, h]
theorem CN.err_asc {c : CN} (h : ascB (-1) c.hs = false) : c.err = 80 := by simp [CN.err, CN.ok, h]
theorem CN.err_ok {c : CN} (h1 : nameB c.name.data.toList = true) (h2 : c.all = false) (h3 : c.hs.length ≤ 2000) (h4 : ascB (-1) c.hs = true) : c.err = 0 := by simp [CN.err, CN.ok, h1, h2, h3, h4]
theorem CN.err_of_ok {c : CN} (h : c.ok = true) : c.err = 0 := by simp [CN.err, h]
theorem CN.err_of_bad {c : CN} (h : c.ok = false) : c.err = 80 := by simp [CN.err, h]
theorem asc_cons (last h : Int) (t : List Int) : ascB last (h :: t) = (decide (last < h) && (dayB h && ascB h t)) := rfl
theorem ret_e {a b : Int} (h : a = b) : Ending.returned (.int .i64 a) = .returned (.int .i64 b) := by rw [h]

set_option maxRecDepth 100000 in
theorem ccheck_any (c : CN) (A : Option Addr) (cp : Nat) (w : World) (h : CAt w c A) :
    Calls Tryz.prog 43 #[.agg #[.string c.name, .bool c.w0, .bool c.w1, .bool c.w2, .bool c.w3, .bool c.w4, .bool c.w5, .bool c.w6, .slice A c.hs.length cp]] w (RetB (.int .i64 c.err) w) := by
  cases hn : nameB c.name.data.toList
  · have HE := Lib.hid (CN.err_name hn)
    go_enter Tryz.func43, Tryz.ntmps43
    go_wp2_with fail
    refine (cusable_is hn _ h.nm).mono ?_
    rintro e w1 ⟨rfl, hb⟩
    go_wp2_with fail
    go_ret
    exact ⟨ret_e HE.out.symm, bnext (bal0 _ _) hb⟩
  cases ha : c.all
  · by_cases hl : c.hs.length ≤ 2000
    · have hblk0 := CBx.new cp h rfl
      go_enter Tryz.func43, Tryz.ntmps43
      go_wp2_with fail
      refine (cusable_is hn _ h.nm).mono ?_
      rintro e w1 ⟨rfl, hb⟩
      have hbx := hblk0.next hb
      obtain ⟨-, q1, q2, q3, q4, q5, q6, q7, q8⟩ := hbx.q
      have k1 := we_is ha w1
      have HN := Lib.hid hn
      have HA := Lib.hid ha
      have hbel := bnext (bal0 _ _) hb
      clear hblk0 hn ha hb
      go_wp2_with fail
      go_loopw [3, 25] (fun l i wr => ∃ (k : Nat) (last : Int), k ≤ c.hs.length ∧ i = .int .i64 k ∧ l = .int .i64 last ∧ ascB (-1) c.hs = ascB last (c.hs.drop k) ∧ wr = w1) (fun _ i _ => c.hs.length - (intOf i).toNat)
      case atStart => exact ⟨0, -1, Nat.zero_le _, rfl, rfl, by simp, rfl⟩
      case round =>
        obtain ⟨k, last, hk, rfl, rfl, hasc, rfl⟩ := hrel
        by_cases hlt : k < c.hs.length
        · obtain ⟨bb, o, rfl, hbb, hc0⟩ := hbx.at_.hol hlt
          have hd : c.hs.drop k = c.hs[k] :: c.hs.drop (k + 1) := List.drop_eq_getElem_cons hlt
          rw [hd, asc_cons] at hasc
          have hlen : (k : Int) < c.hs.length := by omega
          generalize c.hs[k] = x at *
          clear hd k1 q1 q2 q3 q4 q5 q6 q7
          by_cases hlx : x ≤ last
          · rw [decide_eq_false (by omega), Bool.false_and] at hasc
            have HE := Lib.hid (CN.err_asc hasc)
            clear hasc
            go_wp2_with fail
            go_ret
            exact ⟨ret_e HE.out.symm, hbel⟩
          · have hlx2 : last < x := by omega
            rw [decide_eq_true hlx2, Bool.true_and] at hasc
            cases hv : dayB x
            · rw [hv, Bool.false_and] at hasc
              have HE := Lib.hid (CN.err_asc hasc)
              clear hasc
              go_wp2_with fail
              refine (cvalid_is hv _).mono ?_
              rintro e w2 ⟨rfl, rfl⟩
              go_wp2_with fail
              go_ret
              exact ⟨ret_e HE.out.symm, hbel⟩
            · rw [hv, Bool.true_and] at hasc
              have HC := Lib.hid hasc
              clear hasc
              go_wp2_with fail
              refine (cvalid_is hv _).mono ?_
              rintro e w2 ⟨rfl, rfl⟩
              go_wp2_with fail
              go_roundw
              case rel => exact ⟨k + 1, x, by omega, by go_num, rfl, HC.out, by first | rfl | trivial⟩
              case measure => first | (simp [intOf]; done) | (simp [intOf]; omega)
        · have e : k = c.hs.length := by omega
          subst e
          rw [List.drop_length] at hasc
          have HE := Lib.hid (CN.err_ok HN.out HA.out hl hasc)
          clear hasc
          go_wp2_with fail
          go_ret
          exact ⟨ret_e HE.out.symm, hbel⟩
    · have HE := Lib.hid (CN.err_len hl)
      have hblk0 := CBx.new cp h rfl
      have hl2 : 2000 < c.hs.length := by omega
      clear hl
      go_enter Tryz.func43, Tryz.ntmps43
      go_wp2_with fail
      refine (cusable_is hn _ h.nm).mono ?_
      rintro e w1 ⟨rfl, hb⟩
      have hbx := hblk0.next hb
      obtain ⟨-, q1, q2, q3, q4, q5, q6, q7, q8⟩ := hbx.q
      have k1 := we_is ha w1
      clear hblk0 hn ha
      go_wp2_with fail
      go_ret
      exact ⟨ret_e HE.out.symm, bnext (bal0 _ _) hb⟩
  · have HE := Lib.hid (CN.err_all ha)
    have hblk0 := CBx.new cp h rfl
    go_enter Tryz.func43, Tryz.ntmps43
    go_wp2_with fail
    refine (cusable_is hn _ h.nm).mono ?_
    rintro e w1 ⟨rfl, hb⟩
    have hbx := hblk0.next hb
    obtain ⟨-, q1, q2, q3, q4, q5, q6, q7, q8⟩ := hbx.q
    have k1 := we_is ha w1
    clear hblk0 hn ha
    go_wp2_with fail
    go_ret
    exact ⟨ret_e HE.out.symm, bnext (bal0 _ _) hb⟩
theorem ccheck_is {c : CN} {e : Int} (he : c.err = e) (A : Option Addr) (cp : Nat) (w : World) (h : CAt w c A) :
    Calls Tryz.prog 43 #[.agg #[.string c.name, .bool c.w0, .bool c.w1, .bool c.w2, .bool c.w3, .bool c.w4, .bool c.w5, .bool c.w6, .slice A c.hs.length cp]] w (RetB (.int .i64 e) w) := by rw [← he]; exact ccheck_any c A cp w h
end
section
open Go.RowKit
set_option maxHeartbeats 4000000
set_option linter.unusedVariables false

/-- Is one of the first k weekdays open? -/
def CN.openK (c : CN) : Nat → Bool
  | 0 => false
  | k + 1 => c.openK k || !c.wk k
theorem CN.openK7 (c : CN) : c.openK 7 = !c.all := by
  show ((((((false || !c.w0) || !c.w1) || !c.w2) || !c.w3) || !c.w4) || !c.w5 || !c.w6) = !(c.w0 && (c.w1 && (c.w2 && (c.w3 && (c.w4 && (c.w5 && c.w6))))))
  cases c.w0 <;> cases c.w1 <;> cases c.w2 <;> cases c.w3 <;> cases c.w4 <;> cases c.w5 <;> cases c.w6 <;> rfl
def lastOf (l : List Int) : Nat → Int
  | 0 => -1
  | k + 1 => l.getD k 0

theorem out_t {n : Int} (h : dayB n = false) (w : World) : Calls Tryz.prog 89 #[.int .i64 n] w (RetW (.bool true) w) := out_is h w
theorem out_f {n : Int} (h : dayB n = true) (w : World) : Calls Tryz.prog 89 #[.int .i64 n] w (RetW (.bool false) w) := out_is h w
set_option maxRecDepth 100000 in
theorem rcheck_any (c : CN) (A : Option Addr) (cp : Nat) (w : World) (h : CAt w c A) :
    Calls Tryz.prog 57 #[.agg #[.string c.name, .bool c.w0, .bool c.w1, .bool c.w2, .bool c.w3, .bool c.w4, .bool c.w5, .bool c.w6, .slice A c.hs.length cp]] w (RetB (.int .i64 c.err) w) := by
  cases hn : nameB c.name.data.toList
  · have HE := Lib.hid (CN.err_name hn)
    go_enter Tryz.func57, Tryz.ntmps57
    go_wp2_with fail
    refine (refUsable_any _ _ h.nm).mono ?_
    rw [hn]
    rintro e w1 ⟨rfl, rfl⟩
    go_wp2_with fail
    go_ret
    exact ⟨ret_e HE.out.symm, bal0 _ _⟩
  by_cases hl : c.hs.length ≤ 2000
  · have hbx := CBx.new cp h rfl
    have g0 : decide ((2000 : Int) < (c.hs.length : Int)) = false := by rw [decide_eq_false_iff_not]; omega
    obtain ⟨Z, hZ⟩ : ∃ Z, Z = w.heap.size := ⟨_, rfl⟩
    have HN := Lib.hid hn
    have hbel := bal0 w (.cells #[.string c.name, .bool c.w0, .bool c.w1, .bool c.w2, .bool c.w3, .bool c.w4, .bool c.w5, .bool c.w6, .slice A c.hs.length cp] 35)
    go_enter Tryz.func57, Tryz.ntmps57
    go_wp2_with fail
    refine (refUsable_any _ _ h.nm).mono ?_
    rw [hn]
    rintro e w1 ⟨rfl, rfl⟩
    clear hn
    go_wp2_with fail
    generalize w.alloc (.cells #[.string c.name, .bool c.w0, .bool c.w1, .bool c.w2, .bool c.w3, .bool c.w4, .bool c.w5, .bool c.w6, .slice A c.hs.length cp] 35) = w1 at *
    rw [← hZ] at hbx ⊢
    have HZ := Lib.hid hZ
    clear hZ
    go_loopw [3, 4] (fun ov i wr => ∃ (k : Nat), k ≤ 7 ∧ i = .int .i64 k ∧ ov = .bool (c.openK k) ∧ wr = w1) (fun _ i _ => 7 - (intOf i).toNat)
    case atStart => exact ⟨0, by omega, rfl, rfl, rfl⟩
    case round =>
      obtain ⟨k, hk, rfl, rfl, rfl⟩ := hrel
      by_cases hlt : k < 7
      · have qk := hbx.wk hlt
        have ho : c.openK (k + 1) = (c.openK k || !c.wk k) := rfl
        have hlt2 : (k : Int) < 7 := by omega
        cases hop : c.openK k
        · rw [hop] at ho
          cases hwk : c.wk k
          · rw [hwk] at ho qk
            have HO := Lib.hid ho
            clear ho hop hwk
            go_wp2_with fail
            go_roundw
            case rel => exact ⟨k + 1, by omega, by go_num, by rw [HO.out]; rfl, by first | rfl | trivial⟩
            case measure => first | (simp [intOf]; done) | (simp [intOf]; omega)
          · rw [hwk] at ho qk
            have HO := Lib.hid ho
            clear ho hop hwk
            go_wp2_with fail
            go_roundw
            case rel => exact ⟨k + 1, by omega, by go_num, by rw [HO.out]; rfl, by first | rfl | trivial⟩
            case measure => first | (simp [intOf]; done) | (simp [intOf]; omega)
        · rw [hop] at ho
          have HO := Lib.hid ho
          clear ho hop qk
          go_wp2_with fail
          go_roundw
          case rel => exact ⟨k + 1, by omega, by go_num, by rw [HO.out]; rfl, by first | rfl | trivial⟩
          case measure => first | (simp [intOf]; done) | (simp [intOf]; omega)
      · obtain rfl : k = 7 := by omega
        rw [c.openK7]
        clear hlt hk
        rw [show ((7 : Nat) : Int) = 7 from rfl]
        go_wp2_with fail
        obtain ⟨wo, rfl⟩ : ∃ wo : World, wo = wr := ⟨_, rfl⟩
        go_loopw [5] (fun i wr => ∃ (k : Nat), k ≤ c.hs.length ∧ i = .int .i64 k ∧ ascB (-1) c.hs = ascB (lastOf c.hs k) (c.hs.drop k) ∧ CBx wr Z c A cp ∧ Below w.heap.size w wr) (fun i _ => c.hs.length - (intOf i).toNat)
        case atStart => exact ⟨0, Nat.zero_le _, rfl, rfl, hbx, hbel⟩
        case round =>
          obtain ⟨k, hk, rfl, hasc, hbx2, hbel2⟩ := hrel
          obtain ⟨-, -, -, -, -, -, -, -, q8⟩ := hbx2.q
          have HB2 := Lib.hid hbx2
          clear hbx hbel
          by_cases hlt : k < c.hs.length
          · obtain ⟨bb, o, rfl, hbb, hc0⟩ := hbx2.at_.hol hlt
            have hd : c.hs.drop k = c.hs[k] :: c.hs.drop (k + 1) := List.drop_eq_getElem_cons hlt
            rw [hd, asc_cons] at hasc
            have hlast : lastOf c.hs (k + 1) = c.hs[k] := by simp [lastOf, List.getD, hlt]
            rw [← hlast] at hasc hc0
            have hlen : (k : Int) < c.hs.length := by omega
            generalize hx : lastOf c.hs (k + 1) = x at *
            have HX := Lib.hid hx
            clear hd hlast hx
            cases hv : dayB x
            · rw [hv, Bool.false_and, Bool.and_false] at hasc
              have HE := Lib.hid (CN.err_asc hasc)
              clear hasc
              go_wp2_with fail
              go_quiet ((go_at_call 89; exact quietW (out_t hv _)))
              go_wp2_with fail
              go_ret
              exact ⟨ret_e HE.out.symm, below_drewN hbel2 _⟩
            · rw [hv, Bool.true_and] at hasc
              have hv2 := (dayB_iff x).1 hv
              by_cases hk0 : k = 0
              · have hl0 : lastOf c.hs k = -1 := by subst hk0; rfl
                rw [hl0, decide_eq_true (by omega), Bool.true_and] at hasc
                have HC := Lib.hid hasc
                have g1 : decide (0 < k) = false := by rw [decide_eq_false_iff_not]; omega
                have g2 : decide ((0 : Int) < (k : Int)) = false := by rw [decide_eq_false_iff_not]; omega
                have HK := Lib.hid hk0
                clear hasc hl0 hk0
                go_wp2_with fail
                go_quiet ((go_at_call 89; exact quietW (out_f hv _)))
                go_wp2_with fail
                go_roundw
                case rel => exact ⟨k + 1, by omega, by go_num, HC.out.trans (by rw [HX.out]), HB2.out.drewN _, below_drewN hbel2 _⟩
                case measure => first | (simp [intOf]; done) | (simp [intOf]; omega)
              · obtain ⟨bb', o', hA, -, hc1⟩ := hbx2.at_.hol (show k - 1 < c.hs.length by omega)
                injection hA with hA
                injection hA with h1 h2
                subst h1 h2
                have w1 : IntKind.i64.wrap ((k : Int) - 1) = (k : Int) - 1 := IntWalk.i64_in _ (by omega)
                have w2 : 0 ≤ (k : Int) - 1 := by omega
                have w3 : ((k : Int) - 1).toNat = k - 1 := by omega
                have w4 : (k : Int) - 1 < c.hs.length := by omega
                have hlast : lastOf c.hs k = c.hs[k - 1] := by
                  obtain ⟨j, rfl⟩ : ∃ j, k = j + 1 := ⟨k - 1, by omega⟩
                  simp [lastOf, List.getD, show j < c.hs.length by omega]
                rw [← hlast] at hc1
                have hk1 : (0 : Int) < k := by omega
                have g1 : decide (0 < k) = true := by rw [decide_eq_true_iff]; omega
                have g2 : decide ((0 : Int) < (k : Int)) = true := by rw [decide_eq_true_iff]; omega
                generalize lastOf c.hs k = y at *
                clear hlast hbx2 hk0
                by_cases hxy : x ≤ y
                · rw [decide_eq_false (by omega), Bool.false_and] at hasc
                  have HE := Lib.hid (CN.err_asc hasc)
                  clear hasc
                  go_wp2_with fail
                  go_quiet ((go_at_call 89; exact quietW (out_f hv _)))
                  go_wp2_with fail
                  go_ret
                  exact ⟨ret_e HE.out.symm, below_drewN hbel2 _⟩
                · have hxy2 : y < x := by omega
                  rw [decide_eq_true hxy2, Bool.true_and] at hasc
                  have HC := Lib.hid hasc
                  clear hasc hxy
                  go_wp2_with fail
                  go_quiet ((go_at_call 89; exact quietW (out_f hv _)))
                  go_wp2_with fail
                  go_roundw
                  case rel => exact ⟨k + 1, by omega, by go_num, HC.out.trans (by rw [HX.out]), HB2.out.drewN _, below_drewN hbel2 _⟩
                  case measure => first | (simp [intOf]; done) | (simp [intOf]; omega)
          · have e : k = c.hs.length := by omega
            subst e
            rw [List.drop_length] at hasc
            have HA := Lib.hid hasc
            clear hasc
            cases ha : c.all
            · have HE := Lib.hid (CN.err_ok HN.out ha hl HA.out)
              clear ha
              go_wp2_with fail
              go_ret
              exact ⟨ret_e HE.out.symm, hbel2⟩
            · have HE := Lib.hid (CN.err_all ha)
              clear ha
              go_wp2_with fail
              go_ret
              exact ⟨ret_e HE.out.symm, hbel2⟩
  · have HE := Lib.hid (CN.err_len hl)
    have hl2 : 2000 < c.hs.length := by omega
    clear hl
    go_enter Tryz.func57, Tryz.ntmps57
    go_wp2_with fail
    refine (refUsable_any _ _ h.nm).mono ?_
    rw [hn]
    rintro e w1 ⟨rfl, rfl⟩
    clear hn
    go_wp2_with fail
    go_ret
    exact ⟨ret_e HE.out.symm, bal0 _ _⟩
theorem rcheck_is {c : CN} {e : Int} (he : c.err = e) (A : Option Addr) (cp : Nat) (w : World) (h : CAt w c A) :
    Calls Tryz.prog 57 #[.agg #[.string c.name, .bool c.w0, .bool c.w1, .bool c.w2, .bool c.w3, .bool c.w4, .bool c.w5, .bool c.w6, .slice A c.hs.length cp]] w (RetB (.int .i64 e) w) := by rw [← he]; exact rcheck_any c A cp w h
end
section
open Go.RowKit
set_option maxHeartbeats 4000000
set_option linter.unusedVariables false

/-- Holidays before place k are earlier than d. -/
def LowI (l : List Int) (d : Int) (k : Nat) : Prop := ∀ i x, i < k → l[i]? = some x → x < d
/-- Holidays from place k on are not. -/
def HighI (l : List Int) (d : Int) (k : Nat) : Prop := ∀ i x, k ≤ i → l[i]? = some x → d ≤ x
theorem low_next {l : List Int} {d x : Int} {last : Int} {m : Nat} (ha : ascB last l = true) (hx : l[m]? = some x) (h : x < d) : LowI l d (m + 1) := fun i y hi hy => by
  by_cases e : i = m
  · subst e
    rw [hx] at hy
    injection hy with hy
    omega
  · have := asc_lt l last i m y x ha hy hx (by omega)
    omega
theorem high_next {l : List Int} {d x : Int} {last : Int} {m : Nat} (ha : ascB last l = true) (hx : l[m]? = some x) (h : d ≤ x) : HighI l d m := fun i y hi hy => by
  by_cases e : i = m
  · subst e
    rw [hx] at hy
    injection hy with hy
    omega
  · have := asc_lt l last m i x y ha hx hy (by omega)
    omega
theorem bs_none {c : CN} {d : Int} {k : Nat} (h1 : LowI c.hs d k) (hk : k = c.hs.length) : c.hol d = false := by
  unfold CN.hol
  rw [decide_eq_false_iff_not]
  intro hm
  obtain ⟨i, hi⟩ := List.mem_iff_getElem?.1 hm
  have hlt := (List.getElem?_eq_some_iff.1 hi).1
  have := h1 i d (by omega) hi
  omega
theorem bs_some {c : CN} {d x : Int} {k : Nat} (ha : ascB (-1) c.hs = true) (h1 : LowI c.hs d k) (h2 : HighI c.hs d k) (hx : c.hs[k]? = some x) : c.hol d = decide (x = d) := by
  unfold CN.hol
  rw [Bool.eq_iff_iff, decide_eq_true_iff, decide_eq_true_iff]
  constructor
  · intro hm
    obtain ⟨i, hi⟩ := List.mem_iff_getElem?.1 hm
    rcases Nat.lt_trichotomy i k with hl | hl | hl
    · have := h1 i d hl hi; omega
    · subst hl
      rw [hx] at hi
      injection hi
    · have := asc_lt c.hs (-1) k i x d ha hx hi hl
      have := h2 k x (Nat.le_refl _) hx
      omega
  · intro e
    subst e
    exact List.mem_of_getElem? hx

set_option maxRecDepth 100000 in
theorem open_any (c : CN) (A : Option Addr) (cp : Nat) (d : Int) (w : World) (h : CAt w c A) (hok : c.ok = true) (hd0 : 0 ≤ d) (hd1 : d ≤ 73048) :
    Calls Tryz.prog 58 #[.agg #[.string c.name, .bool c.w0, .bool c.w1, .bool c.w2, .bool c.w3, .bool c.w4, .bool c.w5, .bool c.w6, .slice A c.hs.length cp], .int .i64 d] w (RetB (.bool (biz c d)) w) := by
  have hb0 : biz c d = (!c.off d && !c.hol d) := by
    unfold biz
    rw [decide_eq_true (by exact ⟨hd0, hd1⟩), Bool.true_and]
  have hasc := CN.ok_asc hok
  have hlen := CN.ok_len hok
  have hbx := CBx.new cp h rfl
  have hbel := bal0 w (.cells #[.string c.name, .bool c.w0, .bool c.w1, .bool c.w2, .bool c.w3, .bool c.w4, .bool c.w5, .bool c.w6, .slice A c.hs.length cp] 35)
  have hwk := hbx.wk (k := ((d + 5) % 7).toNat) (by omega)
  have hW : WeekR d ((d + 5) % 7) 0 := .inl ⟨hd0, hd1, rfl, rfl⟩
  cases ho : c.off d
  · rw [ho] at hb0
    have HOff : c.wk ((d + 5) % 7).toNat = false := ho
    rw [HOff] at hwk
    have hb1 : biz c d = !c.hol d := by rw [hb0]; simp
    have HB1 := Lib.hid hb1
    have HA := Lib.hid hasc
    have HW := Lib.hid hW
    clear hb0 ho HOff hb1 hasc hW
    go_enter Tryz.func58, Tryz.ntmps58
    go_wp2_with fail
    refine (rweek_is HW.out _).mono ?_
    rintro e w1 ⟨rfl, rfl⟩
    go_wp2_with fail
    go_quiet (fail)
    go_wp2_with fail
    have hbx1 := hbx.drewN nq
    have hbel1 := below_drewN hbel nq
    clear hbx hbel hwk
    generalize (World.alloc w _).drewN nq = w1 at *
    go_loopw [7, 8] (fun l u wr => ∃ (lo hi : Nat), lo ≤ hi ∧ hi ≤ c.hs.length ∧ l = .int .i64 lo ∧ u = .int .i64 hi ∧ LowI c.hs d lo ∧ HighI c.hs d hi ∧ wr = w1) (fun l u _ => ((intOf u) - (intOf l)).toNat)
    case atStart => exact ⟨0, c.hs.length, Nat.zero_le _, Nat.le_refl _, rfl, rfl, fun i x hi => by omega, fun i x hi hx => by have := (List.getElem?_eq_some_iff.1 hx).1; omega, rfl⟩
    case round =>
      obtain ⟨lo, hi, hlh, hhi, rfl, rfl, hL, hH, rfl⟩ := hrel
      obtain ⟨-, -, -, -, -, -, -, -, q8⟩ := hbx1.q
      by_cases hlt : lo < hi
      · have hm : (lo + hi) / 2 < c.hs.length := by omega
        obtain ⟨bb, o, rfl, hbb, hc0⟩ := hbx1.at_.hol hm
        have hx : c.hs[(lo + hi) / 2]? = some c.hs[(lo + hi) / 2] := List.getElem?_eq_getElem hm
        generalize c.hs[(lo + hi) / 2] = x at *
        have hm2 : (lo + hi) / 2 < hi := by omega
        have hm3 : lo ≤ (lo + hi) / 2 := by omega
        have HX := Lib.hid hx
        have HL := Lib.hid hL
        have HH := Lib.hid hH
        have HB := Lib.hid hbx1
        clear hx hL hH hbx1
        by_cases hxd : x < d
        · go_wp2_with fail
          go_roundw
          case rel => exact ⟨(lo + hi) / 2 + 1, hi, by omega, by omega, vint (by omega), rfl, low_next HA.out HX.out hxd, HH.out, by first | rfl | trivial⟩
          case measure => simp [intOf]; omega
        · go_wp2_with fail
          go_roundw
          case rel => exact ⟨lo, (lo + hi) / 2, by omega, by omega, rfl, vint (by omega), HL.out, high_next HA.out HX.out (by omega), by first | rfl | trivial⟩
          case measure => simp [intOf]; omega
      · have e : hi = lo := by omega
        subst e
        by_cases hl : hi = c.hs.length
        · have hh := bs_none hL hl
          rw [hh] at HB1
          have b1 : ((hi : Int) == (c.hs.length : Int)) = true := by rw [beq_iff_eq]; omega
          clear hh hL hH hl
          go_wp2_with fail
          go_ret
          exact ⟨ret_bool (HB1.out).symm, hbel1⟩
        · have hm : hi < c.hs.length := by omega
          obtain ⟨bb, o, rfl, hbb, hc0⟩ := hbx1.at_.hol hm
          have hx : c.hs[hi]? = some c.hs[hi] := List.getElem?_eq_getElem hm
          have hh := bs_some HA.out hL hH hx
          generalize c.hs[hi] = x at *
          rw [hh] at HB1
          have b1 : ((hi : Int) == (c.hs.length : Int)) = false := by rw [beq_eq_false_iff_ne]; omega
          clear hh hL hH hx hl
          go_wp2_with fail
          go_ret
          refine ⟨ret_bool ?_, hbel1⟩
          rw [HB1.out]
          rfl
  · rw [ho] at hb0
    have HOff : c.wk ((d + 5) % 7).toNat = true := ho
    rw [HOff] at hwk
    have hb1 : biz c d = false := by rw [hb0]; simp
    rw [hb1]
    have HW := Lib.hid hW
    clear hb0 ho HOff hb1 hasc hW hlen
    go_enter Tryz.func58, Tryz.ntmps58
    go_wp2_with fail
    refine (rweek_is HW.out _).mono ?_
    rintro e w1 ⟨rfl, rfl⟩
    go_wp2_with fail
    go_ret
    exact ⟨rfl, hbel⟩
theorem open_is {c : CN} {d : Int} {v : Bool} (hv : biz c d = v) (A : Option Addr) (cp : Nat) (w : World) (h : CAt w c A) (hok : c.ok = true) (hd0 : 0 ≤ d) (hd1 : d ≤ 73048) :
    Calls Tryz.prog 58 #[.agg #[.string c.name, .bool c.w0, .bool c.w1, .bool c.w2, .bool c.w3, .bool c.w4, .bool c.w5, .bool c.w6, .slice A c.hs.length cp], .int .i64 d] w (RetB (.bool v) w) := by rw [← hv]; exact open_any c A cp d w h hok hd0 hd1
set_option maxRecDepth 100000 in
theorem rccheck_any (c : CN) (A : Option Addr) (cp : Nat) (d : Int) (w : World) (h : CAt w c A) :
    Calls Tryz.prog 94 #[.agg #[.string c.name, .bool c.w0, .bool c.w1, .bool c.w2, .bool c.w3, .bool c.w4, .bool c.w5, .bool c.w6, .slice A c.hs.length cp], .int .i64 d] w (RetB (.int .i64 (if c.ok = true then (if dayB d = true then 0 else 50) else 80)) w) := by
  have hbx := CBx.new cp h rfl
  have hbel := bal0 w (.cells #[.string c.name, .bool c.w0, .bool c.w1, .bool c.w2, .bool c.w3, .bool c.w4, .bool c.w5, .bool c.w6, .slice A c.hs.length cp] 35)
  cases hok : c.ok
  · rw [if_neg (by simp)]
    have HE := Lib.hid (CN.err_of_bad hok)
    clear hok
    go_enter Tryz.func94, Tryz.ntmps94
    go_wp2_with fail
    refine (rcheck_is HE.out A cp _ hbx.at_).mono ?_
    rintro e w1 ⟨rfl, hb⟩
    go_wp2_with fail
    go_ret
    exact ⟨rfl, bnext hbel hb⟩
  · rw [if_pos rfl]
    have HE := Lib.hid (CN.err_of_ok hok)
    clear hok
    cases hd : dayB d
    · rw [if_neg (by simp)]
      go_enter Tryz.func94, Tryz.ntmps94
      go_wp2_with fail
      refine (rcheck_is HE.out A cp _ hbx.at_).mono ?_
      rintro e w1 ⟨rfl, hb⟩
      go_wp2_with fail
      refine (out_t hd _).mono ?_
      rintro e w2 ⟨rfl, rfl⟩
      go_wp2_with fail
      go_ret
      exact ⟨rfl, bnext hbel hb⟩
    · rw [if_pos rfl]
      go_enter Tryz.func94, Tryz.ntmps94
      go_wp2_with fail
      refine (rcheck_is HE.out A cp _ hbx.at_).mono ?_
      rintro e w1 ⟨rfl, hb⟩
      go_wp2_with fail
      refine (out_f hd _).mono ?_
      rintro e w2 ⟨rfl, rfl⟩
      go_wp2_with fail
      go_ret
      exact ⟨rfl, bnext hbel hb⟩
theorem rccheck_ok {c : CN} {d : Int} (A : Option Addr) (cp : Nat) (w : World) (h : CAt w c A) (hok : c.ok = true) (hd : dayB d = true) :
    Calls Tryz.prog 94 #[.agg #[.string c.name, .bool c.w0, .bool c.w1, .bool c.w2, .bool c.w3, .bool c.w4, .bool c.w5, .bool c.w6, .slice A c.hs.length cp], .int .i64 d] w (RetB (.int .i64 0) w) := by
  have := rccheck_any c A cp d w h
  rw [if_pos hok, if_pos hd] at this
  exact this
end
section
open Go.RowKit
set_option maxHeartbeats 4000000
set_option linter.unusedVariables false

/-- A found day and no error, or the error that there is none. -/
def AddP (o : Option Int) (w : World) (e : Ending) (w' : World) : Prop := RetB (.tuple #[.int .i64 (o.getD 0), .int .i64 (if o.isSome then 0 else 81)]) w e w'
set_option maxRecDepth 100000 in
theorem radd_dn {c : CN} {d : Int} {n : Nat} {o : Option Int} (ho : stepDn (biz c) n d = o) (A : Option Addr) (cp : Nat) (w : World) (h : CAt w c A) (hok : c.ok = true) (hd : 0 ≤ d) (hd2 : d ≤ 73048) (hn1 : 1 ≤ n) (hn : n ≤ 1000) :
    Calls Tryz.prog 61 #[.agg #[.string c.name, .bool c.w0, .bool c.w1, .bool c.w2, .bool c.w3, .bool c.w4, .bool c.w5, .bool c.w6, .slice A c.hs.length cp], .int .i64 d, .int .i64 (-(n : Int))] w (AddP o w) := by
  have hbx := CBx.new cp h rfl
  have hbel := bal0 w (.cells #[.string c.name, .bool c.w0, .bool c.w1, .bool c.w2, .bool c.w3, .bool c.w4, .bool c.w5, .bool c.w6, .slice A c.hs.length cp] 35)
  have HO := Lib.hid ho
  clear ho
  have g1 : (1 : Int) ≤ n := by omega
  have g2 : decide (-(n : Int) < 0) = true := by rw [decide_eq_true_iff]; omega
  have g3 : decide (0 < n) = true := by rw [decide_eq_true_iff]; omega
  have g4 : decide ((0 : Int) < (n : Int)) = true := by rw [decide_eq_true_iff]; omega
  go_enter Tryz.func61, Tryz.ntmps61
  go_wp2_with fail
  refine (rccheck_ok A cp _ hbx.at_ hok ((dayB_iff d).2 ⟨hd, hd2⟩)).mono ?_
  rintro e w1 ⟨rfl, hb⟩
  have hbx1 := hbx.next hb
  have hbel1 := bnext hbel hb
  clear hbx hbel hb
  go_wp2_with fail
  go_loopw [10, 9] (fun dv kv wr => ∃ (r : Nat) (e : Int), 1 ≤ r ∧ r ≤ n ∧ kv = .int .i64 ((r : Int) - n) ∧ dv = .int .i64 e ∧ -1 ≤ e ∧ e ≤ 73048 ∧ stepDn (biz c) r (e + 1) = o ∧ CBx wr w.heap.size c A cp ∧ Below w.heap.size w wr) (fun dv _ _ => (intOf dv + 1).toNat)
  case atStart => exact ⟨n, d - 1, by omega, by omega, vint (by omega), rfl, by omega, by omega, by rw [show d - 1 + 1 = d by omega]; exact HO.out, hbx1, hbel1⟩
  case round =>
    obtain ⟨r, e, hr1, hr2, rfl, rfl, he1, he2, hf, hbx2, hbel2⟩ := hrel
    clear hbx1 hbel1 HO
    obtain ⟨r, rfl⟩ : ∃ r', r = r' + 1 := ⟨r - 1, by omega⟩
    have hst : stepDn (biz c) (r + 1) (e + 1) = (toP (biz c) e).bind (stepDn (biz c) r) := by
      rw [stepDn, show e + 1 - 1 = e by omega]
    rw [hst] at hf
    clear hst
    by_cases hlt : 0 ≤ e
    · obtain ⟨q0, q1, q2, q3, q4, q5, q6, q7, q8⟩ := hbx2.q
      have HB := Lib.hid hbx2
      have hat := hbx2.at_
      clear hbx2
      cases hb : biz c e
      · have hf2 : stepDn (biz c) (r + 1) (e - 1 + 1) = o := by
          rw [stepDn, show e - 1 + 1 - 1 = e - 1 by omega, ← toP_no (by omega) hb]
          exact hf
        have HF := Lib.hid hf2
        clear hf hf2
        go_wp2_with fail
        refine (open_is hb A cp _ hat hok (by omega) (by omega)).mono ?_
        rintro e' w3 ⟨rfl, hb3⟩
        clear q0 q1 q2 q3 q4 q5 q6 q7 q8
        go_wp2_with fail
        go_roundw
        case rel => exact ⟨r + 1, e - 1, by omega, by omega, rfl, rfl, by omega, by omega, HF.out, HB.out.next hb3, bnext hbel2 hb3⟩
        case measure => simp [intOf]; omega
      · rw [toP_yes (by omega) hb] at hf
        have hf : stepDn (biz c) r e = o := hf
        by_cases hr0 : r = 0
        · subst hr0
          have ho : some e = o := hf
          subst ho
          have k1 : ((((0 + 1 : Nat) : Int) : Int) - n - 1 == -(n : Int)) = true := by rw [beq_iff_eq]; omega
          clear hf
          go_wp2_with fail
          refine (open_is hb A cp _ hat hok (by omega) (by omega)).mono ?_
          rintro e' w3 ⟨rfl, hb3⟩
          clear q0 q1 q2 q3 q4 q5 q6 q7 q8
          go_wp2_with fail
          go_ret2
          exact ⟨rfl, bnext hbel2 hb3⟩
        · have hf2 : stepDn (biz c) r (e - 1 + 1) = o := by rw [show e - 1 + 1 = e by omega]; exact hf
          have HF := Lib.hid hf2
          have k1 : ((((r + 1 : Nat) : Int) : Int) - n - 1 == -(n : Int)) = false := by rw [beq_eq_false_iff_ne]; omega
          clear hf hf2
          go_wp2_with fail
          refine (open_is hb A cp _ hat hok (by omega) (by omega)).mono ?_
          rintro e' w3 ⟨rfl, hb3⟩
          clear q0 q1 q2 q3 q4 q5 q6 q7 q8
          go_wp2_with fail
          go_roundw
          case rel => exact ⟨r, e - 1, by omega, by omega, vint (by omega), rfl, by omega, by omega, HF.out, HB.out.next hb3, bnext hbel2 hb3⟩
          case measure => simp [intOf]; omega
    · rw [toP_out (by omega)] at hf
      have ho : none = o := hf
      subst ho
      clear hf
      go_wp2_with fail
      go_ret2
      exact ⟨rfl, hbel2⟩
set_option maxRecDepth 100000 in
theorem radd_up {c : CN} {d : Int} {n : Nat} {o : Option Int} (ho : stepUp (biz c) n d = o) (A : Option Addr) (cp : Nat) (w : World) (h : CAt w c A) (hok : c.ok = true) (hd : 0 ≤ d) (hd2 : d ≤ 73048) (hn1 : 1 ≤ n) (hn : n ≤ 1000) :
    Calls Tryz.prog 61 #[.agg #[.string c.name, .bool c.w0, .bool c.w1, .bool c.w2, .bool c.w3, .bool c.w4, .bool c.w5, .bool c.w6, .slice A c.hs.length cp], .int .i64 d, .int .i64 (n : Int)] w (AddP o w) := by
  have hbx := CBx.new cp h rfl
  have hbel := bal0 w (.cells #[.string c.name, .bool c.w0, .bool c.w1, .bool c.w2, .bool c.w3, .bool c.w4, .bool c.w5, .bool c.w6, .slice A c.hs.length cp] 35)
  have HO := Lib.hid ho
  clear ho
  have g0 : ((n : Int) == 0) = false := by rw [beq_eq_false_iff_ne]; omega
  have g1 : (1 : Int) ≤ n := by omega
  have g2 : decide ((n : Int) < 0) = false := by rw [decide_eq_false_iff_not]; omega
  go_enter Tryz.func61, Tryz.ntmps61
  go_wp2_with fail
  refine (rccheck_ok A cp _ hbx.at_ hok ((dayB_iff d).2 ⟨hd, hd2⟩)).mono ?_
  rintro e w1 ⟨rfl, hb⟩
  have hbx1 := hbx.next hb
  have hbel1 := bnext hbel hb
  clear hbx hbel hb
  go_wp2_with fail
  go_loopw [11, 9] (fun dv kv wr => ∃ (r : Nat) (e : Int), 1 ≤ r ∧ r ≤ n ∧ kv = .int .i64 ((n : Int) - r) ∧ dv = .int .i64 e ∧ 0 ≤ e ∧ e ≤ 73049 ∧ stepUp (biz c) r (e - 1) = o ∧ CBx wr w.heap.size c A cp ∧ Below w.heap.size w wr) (fun dv _ _ => (73049 - intOf dv).toNat)
  case atStart => exact ⟨n, d + 1, by omega, by omega, vint (by omega), rfl, by omega, by omega, by rw [show d + 1 - 1 = d by omega]; exact HO.out, hbx1, hbel1⟩
  case round =>
    obtain ⟨r, e, hr1, hr2, rfl, rfl, he1, he2, hf, hbx2, hbel2⟩ := hrel
    clear hbx1 hbel1 HO
    obtain ⟨r, rfl⟩ : ∃ r', r = r' + 1 := ⟨r - 1, by omega⟩
    have hst : stepUp (biz c) (r + 1) (e - 1) = (fromP (biz c) e).bind (stepUp (biz c) r) := by
      rw [stepUp, show e - 1 + 1 = e by omega]
    rw [hst] at hf
    clear hst
    by_cases hlt : e ≤ 73048
    · obtain ⟨q0, q1, q2, q3, q4, q5, q6, q7, q8⟩ := hbx2.q
      have HB := Lib.hid hbx2
      have hat := hbx2.at_
      clear hbx2
      cases hb : biz c e
      · have hf2 : stepUp (biz c) (r + 1) (e + 1 - 1) = o := by
          rw [stepUp, show e + 1 - 1 + 1 = e + 1 by omega, ← fromP_no (by omega) hb]
          exact hf
        have HF := Lib.hid hf2
        clear hf hf2
        go_wp2_with fail
        refine (open_is hb A cp _ hat hok (by omega) (by omega)).mono ?_
        rintro e' w3 ⟨rfl, hb3⟩
        clear q0 q1 q2 q3 q4 q5 q6 q7 q8
        go_wp2_with fail
        go_roundw
        case rel => exact ⟨r + 1, e + 1, by omega, by omega, rfl, rfl, by omega, by omega, HF.out, HB.out.next hb3, bnext hbel2 hb3⟩
        case measure => simp [intOf]; omega
      · rw [fromP_yes (by omega) hb] at hf
        have hf : stepUp (biz c) r e = o := hf
        by_cases hr0 : r = 0
        · subst hr0
          have ho : some e = o := hf
          subst ho
          have k1 : ((n : Int) - ((0 + 1 : Nat) : Int) + 1 == (n : Int)) = true := by rw [beq_iff_eq]; omega
          clear hf
          go_wp2_with fail
          refine (open_is hb A cp _ hat hok (by omega) (by omega)).mono ?_
          rintro e' w3 ⟨rfl, hb3⟩
          clear q0 q1 q2 q3 q4 q5 q6 q7 q8
          go_wp2_with fail
          go_ret2
          exact ⟨rfl, bnext hbel2 hb3⟩
        · have hf2 : stepUp (biz c) r (e + 1 - 1) = o := by rw [show e + 1 - 1 = e by omega]; exact hf
          have HF := Lib.hid hf2
          have k1 : ((n : Int) - ((r + 1 : Nat) : Int) + 1 == (n : Int)) = false := by rw [beq_eq_false_iff_ne]; omega
          clear hf hf2
          go_wp2_with fail
          refine (open_is hb A cp _ hat hok (by omega) (by omega)).mono ?_
          rintro e' w3 ⟨rfl, hb3⟩
          clear q0 q1 q2 q3 q4 q5 q6 q7 q8
          go_wp2_with fail
          go_roundw
          case rel => exact ⟨r, e + 1, by omega, by omega, vint (by omega), rfl, by omega, by omega, HF.out, HB.out.next hb3, bnext hbel2 hb3⟩
          case measure => simp [intOf]; omega
    · rw [fromP_out (by omega)] at hf
      have ho : none = o := hf
      subst ho
      clear hf
      go_wp2_with fail
      go_ret2
      exact ⟨rfl, hbel2⟩
set_option maxRecDepth 100000 in
theorem radd_zero {c : CN} {d : Int}  {o : Option Int} (ho : fromP (biz c) d = o) (A : Option Addr) (cp : Nat) (w : World) (h : CAt w c A) (hok : c.ok = true) (hd : 0 ≤ d) (hd2 : d ≤ 73048)  :
    Calls Tryz.prog 61 #[.agg #[.string c.name, .bool c.w0, .bool c.w1, .bool c.w2, .bool c.w3, .bool c.w4, .bool c.w5, .bool c.w6, .slice A c.hs.length cp], .int .i64 d, .int .i64 0] w (AddP o w) := by
  have hbx := CBx.new cp h rfl
  have hbel := bal0 w (.cells #[.string c.name, .bool c.w0, .bool c.w1, .bool c.w2, .bool c.w3, .bool c.w4, .bool c.w5, .bool c.w6, .slice A c.hs.length cp] 35)
  cases hb0 : biz c d
  case true =>
    have he : some d = o := (fromP_yes hd2 hb0).symm.trans ho
    subst he
    clear ho
    go_enter Tryz.func61, Tryz.ntmps61
    go_wp2_with fail
    refine (rccheck_ok A cp _ hbx.at_ hok ((dayB_iff d).2 ⟨hd, hd2⟩)).mono ?_
    rintro e w1 ⟨rfl, hb⟩
    have hbx2 := hbx.next hb
    have hbel2 := bnext hbel hb
    obtain ⟨q0, q1, q2, q3, q4, q5, q6, q7, q8⟩ := hbx2.q
    clear hbx hbel hb
    go_wp2_with fail
    refine (open_is hb0 A cp _ hbx2.at_ hok hd hd2).mono ?_
    rintro e w2 ⟨rfl, hb⟩
    clear q0 q1 q2 q3 q4 q5 q6 q7 q8
    go_wp2_with fail
    go_ret2
    exact ⟨rfl, bnext hbel2 hb⟩
  have HO : Hid (stepUp (biz c) 1 d = o) := Lib.hid (by
    rw [← ho, fromP_no hd2 hb0]
    show (fromP (biz c) (d + 1)).bind (stepUp (biz c) 0) = _
    cases fromP (biz c) (d + 1) <;> rfl)
  clear ho
  go_enter Tryz.func61, Tryz.ntmps61
  go_wp2_with fail
  refine (rccheck_ok A cp _ hbx.at_ hok ((dayB_iff d).2 ⟨hd, hd2⟩)).mono ?_
  rintro e w1 ⟨rfl, hb⟩
  have hbx1 := hbx.next hb
  have hbel1 := bnext hbel hb
  clear hbx hbel hb
  have hbx2 := hbx1
  obtain ⟨q0, q1, q2, q3, q4, q5, q6, q7, q8⟩ := hbx2.q
  go_wp2_with fail
  refine (open_is hb0 A cp _ hbx2.at_ hok hd hd2).mono ?_
  rintro e w2 ⟨rfl, hb⟩
  clear q0 q1 q2 q3 q4 q5 q6 q7 q8
  clear hbx2
  replace hbx1 := hbx1.next hb
  replace hbel1 := bnext hbel1 hb
  clear hb hb0
  go_wp2_with fail
  go_loopw [11, 9] (fun dv kv wr => ∃ (r : Nat) (e : Int), 1 ≤ r ∧ r ≤ 1 ∧ kv = .int .i64 ((1 : Int) - r) ∧ dv = .int .i64 e ∧ 0 ≤ e ∧ e ≤ 73049 ∧ stepUp (biz c) r (e - 1) = o ∧ CBx wr w.heap.size c A cp ∧ Below w.heap.size w wr) (fun dv _ _ => (73049 - intOf dv).toNat)
  case atStart => exact ⟨1, d + 1, by omega, by omega, vint (by omega), rfl, by omega, by omega, by rw [show d + 1 - 1 = d by omega]; exact HO.out, hbx1, hbel1⟩
  case round =>
    obtain ⟨r, e, hr1, hr2, rfl, rfl, he1, he2, hf, hbx2, hbel2⟩ := hrel
    clear hbx1 hbel1 HO
    obtain ⟨r, rfl⟩ : ∃ r', r = r' + 1 := ⟨r - 1, by omega⟩
    have hst : stepUp (biz c) (r + 1) (e - 1) = (fromP (biz c) e).bind (stepUp (biz c) r) := by
      rw [stepUp, show e - 1 + 1 = e by omega]
    rw [hst] at hf
    clear hst
    by_cases hlt : e ≤ 73048
    · obtain ⟨q0, q1, q2, q3, q4, q5, q6, q7, q8⟩ := hbx2.q
      have HB := Lib.hid hbx2
      have hat := hbx2.at_
      clear hbx2
      cases hb : biz c e
      · have hf2 : stepUp (biz c) (r + 1) (e + 1 - 1) = o := by
          rw [stepUp, show e + 1 - 1 + 1 = e + 1 by omega, ← fromP_no (by omega) hb]
          exact hf
        have HF := Lib.hid hf2
        clear hf hf2
        go_wp2_with fail
        refine (open_is hb A cp _ hat hok (by omega) (by omega)).mono ?_
        rintro e' w3 ⟨rfl, hb3⟩
        clear q0 q1 q2 q3 q4 q5 q6 q7 q8
        go_wp2_with fail
        go_roundw
        case rel => exact ⟨r + 1, e + 1, by omega, by omega, rfl, rfl, by omega, by omega, HF.out, HB.out.next hb3, bnext hbel2 hb3⟩
        case measure => simp [intOf]; omega
      · rw [fromP_yes (by omega) hb] at hf
        have hf : stepUp (biz c) r e = o := hf
        by_cases hr0 : r = 0
        · subst hr0
          have ho : some e = o := hf
          subst ho
          have k1 : ((1 : Int) - ((0 + 1 : Nat) : Int) + 1 == 1) = true := by rw [beq_iff_eq]; omega
          clear hf
          go_wp2_with fail
          refine (open_is hb A cp _ hat hok (by omega) (by omega)).mono ?_
          rintro e' w3 ⟨rfl, hb3⟩
          clear q0 q1 q2 q3 q4 q5 q6 q7 q8
          go_wp2_with fail
          go_ret2
          exact ⟨rfl, bnext hbel2 hb3⟩
        · exact absurd hr0 (by omega)
    · rw [fromP_out (by omega)] at hf
      have ho : none = o := hf
      subst ho
      clear hf
      go_wp2_with fail
      go_ret2
      exact ⟨rfl, hbel2⟩
/-- The forms that the callers use. -/
theorem AddP.some {r : Int} {w : World} {e : Ending} {w' : World} (h : AddP (some r) w e w') : RetB (.tuple #[.int .i64 r, .int .i64 0]) w e w' := h
theorem AddP.none {w : World} {e : Ending} {w' : World} (h : AddP none w e w') : RetB (.tuple #[.int .i64 0, .int .i64 81]) w e w' := h
end
end Go.Proofs.YtbfllcfjgpkpaaaGreat
