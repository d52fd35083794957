/-
  The map of intake: what is current of each key.
  The desk of intake in memory; a version that becomes the current one.
-/
import Derived.Test.YtbfllcfjgpkpaaaGreatMarks
import Derived.Test.YtbfllcfjgpkpaaaGreatIntPlain
import Derived.Test.YtbfllcfjgpkpaaaGreatOrdWalk
import Derived.Test.YtbfllcfjgpkpaaaGreatSchedLaws
import Derived.Deep.RegionHeld3
import Derived.Deep.RegionWith
namespace Go.Proofs.YtbfllcfjgpkpaaaGreat
section
open Go.RowKit Go.Maps
set_option linter.unusedVariables false
set_option maxHeartbeats 4000000
def curV (a d : Int) : Value := .agg #[.int .i64 a, .int .i64 d]
def curD (a d : Int) : DataW Unit := .agg [.lit (.int .i64 a), .lit (.int .i64 d)]
/-- How an element reads. -/
def curE : Value → Option (DataW Unit × List MemPlace)
  | .agg cs => match cs.toList with
    | [.int .i64 a, .int .i64 d] => some (curD a d, [])
    | _ => none
  | _ => none
theorem curE_mk (a d : Int) : curE (curV a d) = some (curD a d, []) := rfl
theorem curE_inv {v : Value} {y : DataW Unit × List MemPlace} (h : curE v = some y) : ∃ c : Int × Int, v = curV c.1 c.2 ∧ y = (curD c.1 c.2, []) := by
  unfold curE at h
  split at h
  · rename_i cs
    split at h
    · rename_i a d he
      injection h with h
      refine ⟨(a, d), ?_, h.symm⟩
      show Value.agg cs = .agg #[.int .i64 a, .int .i64 d]
      congr 1
      exact Array.toList_inj.1 he
    · cases h
  · cases h
theorem curD_inj {a d a' d' : Int} (h : curD a d = curD a' d') : a = a' ∧ d = d' := by
  unfold curD at h
  injection h with h
  injection h with h1 h2
  injection h2 with h2 h3
  injection h1 with h1
  injection h1 with _ h1
  injection h2 with h2
  injection h2 with _ h2
  exact ⟨h1, h2⟩
/-- What the map of what is current holds. -/
structure MapN (D : DataW Unit) (f : ByteArray → Option (Nat × Int)) : Prop where
  map : IsMap D
  no : ∀ key, f key = none → has D (.string key.data.toList) = false
  yes : ∀ key a d, f key = some (a, d) → ∀ z, D.atKey (.string key.data.toList) z = curD (a : Int) d
theorem MapN.put {D : DataW Unit} {f g : ByteArray → Option (Nat × Int)} (h : MapN D f) (k0 : ByteArray) (a : Nat) (d : Int) (h1 : g k0 = some (a, d)) (h2 : ∀ key, key ≠ k0 → g key = f key) : MapN (D.put (.string k0.data.toList) (curD (a : Int) d)) g := by
  refine ⟨h.map.put _ _, fun key hk => ?_, fun key b e hk z => ?_⟩
  · by_cases e : key = k0
    · subst e
      rw [h1] at hk
      cases hk
    · rw [has_put_other (fun e2 => e (data_inj (by injection e2)))]
      exact h.no key (by rw [← h2 key e]; exact hk)
  · by_cases e' : key = k0
    · subst e'
      rw [h1] at hk
      injection hk with hk
      injection hk with e1 e2
      subst e1 e2
      exact atKey_put_same h.map (by simp [WideAt.IsKeyLit]) _ _
    · rw [atKey_put_other (fun e2 => e' (data_inj (by injection e2)))]
      exact h.yes key b e (by rw [← h2 key e']; exact hk) z
theorem MapN.del {D : DataW Unit} {f g : ByteArray → Option (Nat × Int)} (h : MapN D f) (k0 : ByteArray) (h1 : g k0 = none) (h2 : ∀ key, key ≠ k0 → g key = f key) : MapN (D.del (.string k0.data.toList)) g := by
  refine ⟨h.map.del _, fun key hk => ?_, fun key b e hk z => ?_⟩
  · by_cases e : key = k0
    · subst e
      exact has_del_same
    · rw [has_del_other (fun e2 => e (data_inj (by injection e2)))]
      exact h.no key (by rw [← h2 key e]; exact hk)
  · by_cases e' : key = k0
    · subst e'
      rw [h1] at hk
      cases hk
    · rw [atKey_del_other (fun e2 => e' (data_inj (by injection e2)))]
      exact h.yes key b e (by rw [← h2 key e']; exact hk) z
theorem MapN.congr {D : DataW Unit} {f g : ByteArray → Option (Nat × Int)} (h : MapN D f) (e : ∀ key, g key = f key) : MapN D g := ⟨h.map, fun key hk => h.no key (by rw [← e]; exact hk), fun key a d hk => h.yes key a d (by rw [← e]; exact hk)⟩
theorem MapN.nil (f : ByteArray → Option (Nat × Int)) (h : ∀ key, f key = none) : MapN (.map []) f := ⟨isMap_empty, fun key _ => rfl, fun key a d hk => by rw [h] at hk; cases hk⟩
theorem zeroCur (w : World) : (zeroValue 81).run Tryz.prog w = .ok (curV 0 0) w := by kernel_rfl
/-- The map in block g of world W holds what is current. -/
def NowAt (W : World) (g n : Nat) (f : ByteArray → Option (Nat × Int)) : Prop := ∃ D, W.ownsMap Tryz.prog 9 curE g n D ∧ MapN D f
section
variable {W : World} {g n : Nat} {f f' : ByteArray → Option (Nat × Int)}
theorem NowAt.none_ (h : NowAt W g n f) {key : ByteArray} (hs : key.size ≤ maxLen) (hf : f key = none) : (Instr.lookup 73 (.map (some g)) (.string key) true).run Tryz.prog W = .ok (.tuple #[.agg #[.int .i64 0, .int .i64 0], .bool false]) W := by
  obtain ⟨D, ho, hM⟩ := h
  obtain ⟨v, ps, hrun, hv⟩ := ho.look_ok lawS Tryz.underlying73 (zeroCur W) (curE_mk 0 0) (WideMaps.keyOf_string_mk Tryz.underlying9 hs)
  obtain ⟨c, rfl, hy⟩ := curE_inv hv
  have hno := hM.no key hf
  have hy1 : D.atKey (.string key.data.toList) (curD 0 0) = curD c.1 c.2 := congrArg Prod.fst hy
  rw [atKey_of_not_has hno] at hy1
  obtain ⟨e1, e2⟩ := curD_inj hy1
  rw [hno] at hrun
  rw [hrun, ← e1, ← e2]
  rfl
theorem NowAt.some_ (h : NowAt W g n f) {key : ByteArray} (hs : key.size ≤ maxLen) {a : Nat} {d : Int} (hf : f key = some (a, d)) : (Instr.lookup 73 (.map (some g)) (.string key) true).run Tryz.prog W = .ok (.tuple #[.agg #[.int .i64 (a : Int), .int .i64 d], .bool true]) W := by
  obtain ⟨D, ho, hM⟩ := h
  obtain ⟨v, ps, hrun, hv⟩ := ho.look_ok lawS Tryz.underlying73 (zeroCur W) (curE_mk 0 0) (WideMaps.keyOf_string_mk Tryz.underlying9 hs)
  obtain ⟨c, rfl, hy⟩ := curE_inv hv
  have hat := hM.yes key a d hf
  rw [hat] at hy
  have hy1 : curD (a : Int) d = curD c.1 c.2 := congrArg Prod.fst hy
  obtain ⟨e1, e2⟩ := curD_inj hy1
  rw [has_true_of_atKey hat] at hrun
  rw [hrun, ← e1, ← e2]
  rfl
theorem NowAt.put_ (h : NowAt W g n f) (hn : n ≤ 100000) {key : ByteArray} (hs : key.size ≤ maxLen) (a : Nat) (d : Int) (h1 : f' key = some (a, d)) (h2 : ∀ k, k ≠ key → f' k = f k) :
    ∃ W', (Instr.mapUpdate 73 (.map (some g)) (.string key) (.agg #[.int .i64 (a : Int), .int .i64 d])).run Tryz.prog W = .ok () W' ∧ NowAt W' g (n + 1) f' ∧ W.grownBy W' (some g) := by
  obtain ⟨D, ho, hM⟩ := h
  obtain ⟨W', hrun, ho', hg⟩ := ho.update lawS Tryz.underlying73 (by unfold maxLen; omega) (WideMaps.keyOf_string_mk Tryz.underlying9 hs) (curE_mk (a : Int) d)
  exact ⟨W', hrun, ⟨_, ho', hM.put key a d h1 h2⟩, hg⟩
theorem NowAt.del_ (h : NowAt W g n f) {key : ByteArray} (hs : key.size ≤ maxLen) (h1 : f' key = none) (h2 : ∀ k, k ≠ key → f' k = f k) (ty : TypeId) :
    ∃ W', (Builtin.delete_ #[73, 9] ty #[.map (some g), .string key]).run Tryz.prog W = .ok (.tuple #[]) W' ∧ NowAt W' g n f' ∧ W.grownBy W' (some g) := by
  obtain ⟨D, ho, hM⟩ := h
  obtain ⟨W', hrun, ho', hg⟩ := ho.drop lawS Tryz.underlying73 (WideMaps.keyOf_string_mk Tryz.underlying9 hs) ty
  exact ⟨W', hrun, ⟨_, ho', hM.del key h1 h2⟩, hg.grown⟩
theorem NowAt.kept {W' : World} {row : Option Nat} (h : NowAt W g n f) (hg : W.grownBy W' row) (hne : some g ≠ row) : NowAt W' g n f := by
  obtain ⟨D, ho, hM⟩ := h
  exact ⟨D, ho.kept hg hne, hM⟩
theorem NowAt.lt (h : NowAt W g n f) : g < W.heap.size := by
  obtain ⟨D, ho, hM⟩ := h
  exact ho.lt
end
end
section
open Go.RowKit Go.Maps
set_option linter.unusedVariables false
set_option maxHeartbeats 4000000
/-- What a desk holds, and what the schedule says of instants and days. -/
structure DPar where
  l : List OR
  A : Option Addr
  cp : Nat
  s : SC
  z : ZN
  zA : Option Addr
  zc : Nat
  c : CN
  cA : Option Addr
  cc : Nat
  fr : Int → Int × Int
  dl : Int → Int × Int
structure DPar.Ok (P : DPar) (w : World) : Prop where
  la : OrAt w P.A P.l
  za : ZAt w P.z P.zA
  ca : CAt w P.c P.cA
  hfr : ∀ t, ForR P.s P.z P.c t (P.fr t).1 (P.fr t).2
  hdl : ∀ d, DlnR P.s P.z P.c d (P.dl d).1 (P.dl d).2
  ln : P.l.length ≤ 4096
def stA (n : Nat) (st : Nat → Int) : Array Value := ((List.range n).map fun j => Value.int .i64 (st j)).toArray
theorem stA_size (n : Nat) (st : Nat → Int) : (stA n st).size = n := by simp [stA]
theorem stA_at {n j : Nat} (st : Nat → Int) (h : j < n) : (stA n st)[j]? = some (.int .i64 (st j)) := by simp [stA, h]
def upS (st : Nat → Int) (i : Nat) (v : Int) : Nat → Int := fun j => if j = i then v else st j
theorem stA_set (n : Nat) (st : Nat → Int) (i : Nat) (v : Int) : (stA n st).setIfInBounds i (.int .i64 v) = stA n (upS st i v) := by
  apply Array.ext
  · simp [stA]
  · intro k h1 h2
    simp only [stA, List.setIfInBounds_toArray, List.getElem_toArray]
    rw [List.getElem_set]
    split
    · rename_i e
      subst e
      simp [upS]
    · rename_i e
      simp [upS]
      intro e2
      exact absurd e2.symm e
def upN (now : ByteArray → Option (Nat × Int)) (key : ByteArray) (v : Option (Nat × Int)) : ByteArray → Option (Nat × Int) := fun k => if k = key then v else now k
/-- The state of a desk in block b, its statuses in block gs, its map in block gm. -/
structure DK (P : DPar) (w W : World) (b gs gm : Nat) (st : Nat → Int) (now : ByteArray → Option (Nat × Int)) (m : Nat) : Prop where
  blk : BlkAt W b #[.slice P.A P.l.length P.cp, .int .i64 P.s.period, .int .i64 P.s.nth, .int .i64 P.s.notice, .int .i64 P.s.settle, .int .i64 P.s.cutoff, .string P.z.name, .int .i64 P.z.off, .slice P.zA P.z.cs.length P.zc, .string P.c.name, .bool P.c.w0, .bool P.c.w1, .bool P.c.w2, .bool P.c.w3, .bool P.c.w4, .bool P.c.w5, .bool P.c.w6, .slice P.cA P.c.hs.length P.cc, .slice (some ⟨gs, 0, none⟩) P.l.length P.l.length, .map (some gm)] 75
  sb : BlkAt W gs (stA P.l.length st) 3
  map : NowAt W gm m now
  below : Below w.heap.size w W
  hb : w.heap.size ≤ b
  hs : w.heap.size ≤ gs
  hm : w.heap.size ≤ gm
  ne1 : b ≠ gs
  ne2 : b ≠ gm
  ne3 : gs ≠ gm
/-- Nothing old has turned but blocks gs and gm. -/
structure Two (gs gm : Nat) (W W' : World) : Prop where
  size : W.heap.size ≤ W'.heap.size
  block : ∀ i, i < W.heap.size → i ≠ gs → i ≠ gm → W'.heap[i]? = W.heap[i]?
section
variable {P : DPar} {w W W' W2 : World} {b gs gm : Nat} {st : Nat → Int} {now : ByteArray → Option (Nat × Int)} {m : Nat}
theorem Two.refl (gs gm : Nat) (W : World) : Two gs gm W W := ⟨Nat.le_refl _, fun _ _ _ _ => rfl⟩
theorem Two.trans (h : Two gs gm W W') (k : Two gs gm W' W2) : Two gs gm W W2 := ⟨Nat.le_trans h.size k.size, fun i hi h1 h2 => (k.block i (Nat.lt_of_lt_of_le hi h.size) h1 h2).trans (h.block i hi h1 h2)⟩
theorem Two.below (h : Below W.heap.size W W') : Two gs gm W W' := ⟨h.size, fun i hi _ _ => h.block i hi⟩
theorem Two.next (h : Two gs gm W W') (k : Below W'.heap.size W' W2) : Two gs gm W W2 := h.trans (Two.below k)
theorem Two.setS (h : Two gs gm W W') (j : Nat) (v : Value) : Two gs gm W (W'.setCell ⟨gs, j, none⟩ v) := ⟨by simpa [World.setCell] using h.size, fun i hi h1 h2 => (Below.heap_setCell _ _ _ _ h1).trans (h.block i hi h1 h2)⟩
theorem Two.mapped (h : Two gs gm W W') (k : W'.grownBy W2 (some gm)) : Two gs gm W W2 := ⟨Nat.le_trans h.size k.size, fun i hi h1 h2 => (k.block i (Nat.lt_of_lt_of_le hi h.size) (fun e => by injection e with e; exact h2 e)).trans (h.block i hi h1 h2)⟩
theorem BlkAt.two {g : Nat} {cs : Array Value} {t : TypeId} (h : BlkAt W g cs t) (k : Two gs gm W W') (h1 : g ≠ gs) (h2 : g ≠ gm) : BlkAt W' g cs t := ⟨(k.block g h.lt h1 h2).trans h.blk⟩
theorem DK.next (h : DK P w W b gs gm st now m) (k : Below W.heap.size W W') : DK P w W' b gs gm st now m :=
  ⟨h.blk.next k, h.sb.next k, h.map.kept (grown_below k none) (by simp), bnext h.below k, h.hb, h.hs, h.hm, h.ne1, h.ne2, h.ne3⟩
/-- A status is set. -/
theorem DK.setS (h : DK P w W b gs gm st now m) (i : Nat) (v : Int) : DK P w (W.setCell ⟨gs, i, none⟩ (.int .i64 v)) b gs gm (upS st i v) now m :=
  ⟨h.blk.cellFar i _ h.ne1, (h.sb.cellSet i _).is (stA_set _ _ _ _), h.map.kept (row := some gs) ⟨rfl, rfl, rfl, by simp [World.setCell], fun k hk hne => Below.heap_setCell _ _ _ _ (fun e => hne (by rw [e]))⟩ (fun e => by injection e with e; exact h.ne3 e.symm), h.below.setCell h.hs _, h.hb, h.hs, h.hm, h.ne1, h.ne2, h.ne3⟩
/-- The map is turned. -/
theorem DK.mapped {now' : ByteArray → Option (Nat × Int)} {m' : Nat} (h : DK P w W b gs gm st now m) (hN : NowAt W' gm m' now') (hg : W.grownBy W' (some gm)) : DK P w W' b gs gm st now' m' :=
  ⟨⟨(hg.block b h.blk.lt (fun e => by injection e with e; exact h.ne2 e)).trans h.blk.blk⟩, ⟨(hg.block gs h.sb.lt (fun e => by injection e with e; exact h.ne3 e)).trans h.sb.blk⟩, hN, h.below.grown hg h.below.size (fun j hj => by cases hj; exact h.hm), h.hb, h.hs, h.hm, h.ne1, h.ne2, h.ne3⟩
theorem DK.q (h : DK P w W b gs gm st now m) : (W.cell? ⟨b, 0, none⟩ = some (.slice P.A P.l.length P.cp) ∧ W.cell? ⟨b, 1, none⟩ = some (.int .i64 P.s.period) ∧ W.cell? ⟨b, 2, none⟩ = some (.int .i64 P.s.nth) ∧ W.cell? ⟨b, 3, none⟩ = some (.int .i64 P.s.notice) ∧ W.cell? ⟨b, 4, none⟩ = some (.int .i64 P.s.settle) ∧ W.cell? ⟨b, 5, none⟩ = some (.int .i64 P.s.cutoff) ∧ W.cell? ⟨b, 6, none⟩ = some (.string P.z.name) ∧ W.cell? ⟨b, 7, none⟩ = some (.int .i64 P.z.off) ∧ W.cell? ⟨b, 8, none⟩ = some (.slice P.zA P.z.cs.length P.zc) ∧ W.cell? ⟨b, 9, none⟩ = some (.string P.c.name) ∧ W.cell? ⟨b, 10, none⟩ = some (.bool P.c.w0) ∧ W.cell? ⟨b, 11, none⟩ = some (.bool P.c.w1) ∧ W.cell? ⟨b, 12, none⟩ = some (.bool P.c.w2) ∧ W.cell? ⟨b, 13, none⟩ = some (.bool P.c.w3) ∧ W.cell? ⟨b, 14, none⟩ = some (.bool P.c.w4) ∧ W.cell? ⟨b, 15, none⟩ = some (.bool P.c.w5) ∧ W.cell? ⟨b, 16, none⟩ = some (.bool P.c.w6) ∧ W.cell? ⟨b, 17, none⟩ = some (.slice P.cA P.c.hs.length P.cc) ∧ W.cell? ⟨b, 18, none⟩ = some (.slice (some ⟨gs, 0, none⟩) P.l.length P.l.length) ∧ W.cell? ⟨b, 19, none⟩ = some (.map (some gm))) :=
  ⟨h.blk.cell rfl, h.blk.cell rfl, h.blk.cell rfl, h.blk.cell rfl, h.blk.cell rfl, h.blk.cell rfl, h.blk.cell rfl, h.blk.cell rfl, h.blk.cell rfl, h.blk.cell rfl, h.blk.cell rfl, h.blk.cell rfl, h.blk.cell rfl, h.blk.cell rfl, h.blk.cell rfl, h.blk.cell rfl, h.blk.cell rfl, h.blk.cell rfl, h.blk.cell rfl, h.blk.cell rfl⟩
end
/-- The instant of a version, in memory. -/
theorem ordQ {P : DPar} {w W : World} {b gs gm : Nat} {st : Nat → Int} {now : ByteArray → Option (Nat × Int)} {m : Nat} (hP : P.Ok w) (h : DK P w W b gs gm st now m) {ob oo i : Nat} (hA : P.A = some ⟨ob, oo, none⟩) {o : OR} (ho : P.l[i]? = some o) : OrQ W ob (oo + i * 11) o := by
  have hl := hP.la.below h.below
  rw [hA] at hl
  exact hl.at ho
theorem ordT {P : DPar} {w W : World} {b gs gm : Nat} {st : Nat → Int} {now : ByteArray → Option (Nat × Int)} {m : Nat} (hP : P.Ok w) (h : DK P w W b gs gm st now m) {ob oo i : Nat} (hA : P.A = some ⟨ob, oo, none⟩) {o : OR} (ho : P.l[i]? = some o) : W.cell? ⟨ob, oo + i * 11 + 8, none⟩ = some (.int .i64 o.t) :=
  (ordQ hP h hA ho).2.2.2.2.2.2.2.2.1
theorem ordK {P : DPar} {w W : World} {b gs gm : Nat} {st : Nat → Int} {now : ByteArray → Option (Nat × Int)} {m : Nat} (hP : P.Ok w) (h : DK P w W b gs gm st now m) {ob oo i : Nat} (hA : P.A = some ⟨ob, oo, none⟩) {o : OR} (ho : P.l[i]? = some o) : W.cell? ⟨ob, oo + i * 11, none⟩ = some (.string o.key) := by
  obtain ⟨h0, -⟩ := ordQ hP h hA ho
  exact h0
/-- What open leaves where the schedule has a day. -/
def OpenY (P : DPar) (w W : World) (b gs gm : Nat) (st : Nat → Int) (now : ByteArray → Option (Nat × Int)) (m i : Nat) (o : OR) (e : Ending) (W' : World) : Prop :=
  e = .returned (.bool true) ∧ DK P w W' b gs gm (upS st i 1) (upN now o.key (some (i, (P.fr o.t).1))) (m + 1) ∧ Two gs gm W W'
/-- .. where it has none. -/
def OpenN (P : DPar) (w W : World) (b gs gm : Nat) (st : Nat → Int) (now : ByteArray → Option (Nat × Int)) (m i : Nat) (e : Ending) (W' : World) : Prop :=
  e = .returned (.bool false) ∧ DK P w W' b gs gm (upS st i 4) now m ∧ Two gs gm W W'
set_option maxRecDepth 100000 in
theorem dopen_no {P : DPar} {w W : World} {b gs gm : Nat} {st : Nat → Int} {now : ByteArray → Option (Nat × Int)} {m : Nat} (hP : P.Ok w) (h : DK P w W b gs gm st now m) {i : Nat} {o : OR} (ho : P.l[i]? = some o) (he : (P.fr o.t).2 ≠ 0) :
    Calls Tryz.prog 74 #[.pointer (some ⟨b, 0, none⟩), .int .i64 i] W (OpenN P w W b gs gm st now m i) := by
  have hil : i < P.l.length := (List.getElem?_eq_some_iff.1 ho).1
  have hln := hP.ln
  obtain ⟨ob, oo, o', hA, ho', -, -, -⟩ := hP.la.get hil
  have HO := Lib.hid ho
  have HF := Lib.hid (hP.hfr o.t)
  obtain ⟨fv, hfv⟩ : ∃ v, (P.fr o.t).1 = v := ⟨_, rfl⟩
  obtain ⟨fe, hfe⟩ : ∃ v, (P.fr o.t).2 = v := ⟨_, rfl⟩
  rw [hfv, hfe] at HF
  have hne : (fe != 0) = true := by rw [bne_iff_ne, ← hfe]; exact he
  have HP := Lib.hid hP
  have HD := Lib.hid (h.next ((Below.refl _ _).drew))
  have HD0 := Lib.hid h
  clear ho ho' he hfv hfe hP h
  go_enter Tryz.func74, Tryz.ntmps74
  go_wp2_with fail
  go_region_held3 (fun W => (W.cell? ⟨b, 0, none⟩ = some (.slice P.A P.l.length P.cp) ∧ W.cell? ⟨b, 1, none⟩ = some (.int .i64 P.s.period) ∧ W.cell? ⟨b, 2, none⟩ = some (.int .i64 P.s.nth) ∧ W.cell? ⟨b, 3, none⟩ = some (.int .i64 P.s.notice) ∧ W.cell? ⟨b, 4, none⟩ = some (.int .i64 P.s.settle) ∧ W.cell? ⟨b, 5, none⟩ = some (.int .i64 P.s.cutoff) ∧ W.cell? ⟨b, 6, none⟩ = some (.string P.z.name) ∧ W.cell? ⟨b, 7, none⟩ = some (.int .i64 P.z.off) ∧ W.cell? ⟨b, 8, none⟩ = some (.slice P.zA P.z.cs.length P.zc) ∧ W.cell? ⟨b, 9, none⟩ = some (.string P.c.name) ∧ W.cell? ⟨b, 10, none⟩ = some (.bool P.c.w0) ∧ W.cell? ⟨b, 11, none⟩ = some (.bool P.c.w1) ∧ W.cell? ⟨b, 12, none⟩ = some (.bool P.c.w2) ∧ W.cell? ⟨b, 13, none⟩ = some (.bool P.c.w3) ∧ W.cell? ⟨b, 14, none⟩ = some (.bool P.c.w4) ∧ W.cell? ⟨b, 15, none⟩ = some (.bool P.c.w5) ∧ W.cell? ⟨b, 16, none⟩ = some (.bool P.c.w6) ∧ W.cell? ⟨b, 17, none⟩ = some (.slice P.cA P.c.hs.length P.cc) ∧ W.cell? ⟨b, 18, none⟩ = some (.slice (some ⟨gs, 0, none⟩) P.l.length P.l.length) ∧ W.cell? ⟨b, 19, none⟩ = some (.map (some gm))) ∧ W.cell? ⟨ob, oo + i * 11 + 8, none⟩ = some (.int .i64 o.t))
    ((first
      | (with_reducible exact ⟨HA.out.q, (ordT HP.out HA.out hA HO.out)⟩)
      | (with_reducible exact ⟨HD.out.q, (ordT HP.out HD.out hA HO.out)⟩)))
    ((go_at_call 101; refine (sForR P.zc P.cc HF.out (HP.out.za.below HD.out.below) (HP.out.ca.below HD.out.below)).mono ?_; rintro e w3 ⟨rfl, hb3⟩; have HA := Lib.hid (HD.out.next hb3)))
  have c18 : w3.cell? ⟨b, 18, none⟩ = some (.slice (some ⟨gs, 0, none⟩) P.l.length P.l.length) := HA.out.blk.cell rfl
  have cst := HA.out.sb.cell (stA_at st hil)
  have fst := HA.out.sb.fz i
  have HR := Lib.hid (HA.out.setS i 4)
  have HT := Lib.hid ((((Two.refl gs gm W).next ((Below.refl _ _).drew)).next hb3).setS i (.int .i64 4))
  clear hb3
  go_wp2_with fail
  go_ret
  exact ⟨rfl, HR.out, HT.out⟩
set_option maxRecDepth 100000 in
theorem dopen_yes {P : DPar} {w W : World} {b gs gm : Nat} {st : Nat → Int} {now : ByteArray → Option (Nat × Int)} {m : Nat} (hP : P.Ok w) (h : DK P w W b gs gm st now m) (hm : m ≤ 100000) {i : Nat} {o : OR} (ho : P.l[i]? = some o) (he : (P.fr o.t).2 = 0) :
    Calls Tryz.prog 74 #[.pointer (some ⟨b, 0, none⟩), .int .i64 i] W (OpenY P w W b gs gm st now m i o) := by
  have hil : i < P.l.length := (List.getElem?_eq_some_iff.1 ho).1
  have hln := hP.ln
  obtain ⟨ob, oo, o', hA, ho', -, -, -⟩ := hP.la.get hil
  have HO := Lib.hid ho
  have HF := Lib.hid (hP.hfr o.t)
  have hks := (hP.la.small o (List.mem_of_getElem? ho)).key
  obtain ⟨fv, hfv⟩ : ∃ v, (P.fr o.t).1 = v := ⟨_, rfl⟩
  rw [hfv, he] at HF
  have HFV := Lib.hid hfv
  have HP := Lib.hid hP
  have HD := Lib.hid (h.next ((Below.refl _ _).drew))
  have HD0 := Lib.hid h
  clear ho ho' he hfv hP h
  go_enter Tryz.func74, Tryz.ntmps74
  go_wp2_with fail
  go_region_held3 (fun W => (W.cell? ⟨b, 0, none⟩ = some (.slice P.A P.l.length P.cp) ∧ W.cell? ⟨b, 1, none⟩ = some (.int .i64 P.s.period) ∧ W.cell? ⟨b, 2, none⟩ = some (.int .i64 P.s.nth) ∧ W.cell? ⟨b, 3, none⟩ = some (.int .i64 P.s.notice) ∧ W.cell? ⟨b, 4, none⟩ = some (.int .i64 P.s.settle) ∧ W.cell? ⟨b, 5, none⟩ = some (.int .i64 P.s.cutoff) ∧ W.cell? ⟨b, 6, none⟩ = some (.string P.z.name) ∧ W.cell? ⟨b, 7, none⟩ = some (.int .i64 P.z.off) ∧ W.cell? ⟨b, 8, none⟩ = some (.slice P.zA P.z.cs.length P.zc) ∧ W.cell? ⟨b, 9, none⟩ = some (.string P.c.name) ∧ W.cell? ⟨b, 10, none⟩ = some (.bool P.c.w0) ∧ W.cell? ⟨b, 11, none⟩ = some (.bool P.c.w1) ∧ W.cell? ⟨b, 12, none⟩ = some (.bool P.c.w2) ∧ W.cell? ⟨b, 13, none⟩ = some (.bool P.c.w3) ∧ W.cell? ⟨b, 14, none⟩ = some (.bool P.c.w4) ∧ W.cell? ⟨b, 15, none⟩ = some (.bool P.c.w5) ∧ W.cell? ⟨b, 16, none⟩ = some (.bool P.c.w6) ∧ W.cell? ⟨b, 17, none⟩ = some (.slice P.cA P.c.hs.length P.cc) ∧ W.cell? ⟨b, 18, none⟩ = some (.slice (some ⟨gs, 0, none⟩) P.l.length P.l.length) ∧ W.cell? ⟨b, 19, none⟩ = some (.map (some gm))) ∧ W.cell? ⟨ob, oo + i * 11 + 8, none⟩ = some (.int .i64 o.t))
    ((first
      | (with_reducible exact ⟨HA.out.q, (ordT HP.out HA.out hA HO.out)⟩)
      | (with_reducible exact ⟨HD.out.q, (ordT HP.out HD.out hA HO.out)⟩)))
    ((go_at_call 101; refine (sForR P.zc P.cc HF.out (HP.out.za.below HD.out.below) (HP.out.ca.below HD.out.below)).mono ?_; rintro e w3 ⟨rfl, hb3⟩; have HA := Lib.hid (HD.out.next hb3)))
  have HT3 := Lib.hid (((Two.refl gs gm W).next ((Below.refl _ _).drew)).next hb3)
  have HE := Lib.hid (HA.out.next ((Below.refl _ _).drew))
  obtain ⟨w4, hrun, hN, hg⟩ := HE.out.map.put_ (f' := upN now o.key (some (i, fv))) hm hks i fv (by simp [upN]) (fun k hk => by simp [upN, hk])
  have HM := Lib.hid (HE.out.mapped hN hg)
  have HT4 := Lib.hid ((HT3.out.next ((Below.refl _ _).drew)).mapped hg)
  have hHeld := trivial
  clear hb3 hN hg HD HT3
  go_wp2_with fail
  go_region_held3 (fun W => (W.cell? ⟨b, 0, none⟩ = some (.slice P.A P.l.length P.cp) ∧ W.cell? ⟨b, 1, none⟩ = some (.int .i64 P.s.period) ∧ W.cell? ⟨b, 2, none⟩ = some (.int .i64 P.s.nth) ∧ W.cell? ⟨b, 3, none⟩ = some (.int .i64 P.s.notice) ∧ W.cell? ⟨b, 4, none⟩ = some (.int .i64 P.s.settle) ∧ W.cell? ⟨b, 5, none⟩ = some (.int .i64 P.s.cutoff) ∧ W.cell? ⟨b, 6, none⟩ = some (.string P.z.name) ∧ W.cell? ⟨b, 7, none⟩ = some (.int .i64 P.z.off) ∧ W.cell? ⟨b, 8, none⟩ = some (.slice P.zA P.z.cs.length P.zc) ∧ W.cell? ⟨b, 9, none⟩ = some (.string P.c.name) ∧ W.cell? ⟨b, 10, none⟩ = some (.bool P.c.w0) ∧ W.cell? ⟨b, 11, none⟩ = some (.bool P.c.w1) ∧ W.cell? ⟨b, 12, none⟩ = some (.bool P.c.w2) ∧ W.cell? ⟨b, 13, none⟩ = some (.bool P.c.w3) ∧ W.cell? ⟨b, 14, none⟩ = some (.bool P.c.w4) ∧ W.cell? ⟨b, 15, none⟩ = some (.bool P.c.w5) ∧ W.cell? ⟨b, 16, none⟩ = some (.bool P.c.w6) ∧ W.cell? ⟨b, 17, none⟩ = some (.slice P.cA P.c.hs.length P.cc) ∧ W.cell? ⟨b, 18, none⟩ = some (.slice (some ⟨gs, 0, none⟩) P.l.length P.l.length) ∧ W.cell? ⟨b, 19, none⟩ = some (.map (some gm))) ∧ W.cell? ⟨ob, oo + i * 11, none⟩ = some (.string o.key))
    ((first
      | (with_reducible exact ⟨HM.out.q, (ordK HP.out HM.out hA HO.out)⟩)
      | (with_reducible exact ⟨HE.out.q, (ordK HP.out HE.out hA HO.out)⟩)))
    (fail)
  have c18 : w4.cell? ⟨b, 18, none⟩ = some (.slice (some ⟨gs, 0, none⟩) P.l.length P.l.length) := HM.out.blk.cell rfl
  have cst := HM.out.sb.cell (stA_at st hil)
  have fst := HM.out.sb.fz i
  have HR := Lib.hid (HM.out.setS i 1)
  have HT := Lib.hid (HT4.out.setS i (.int .i64 1))
  clear hrun
  go_wp2_with fail
  go_ret
  exact ⟨rfl, by rw [HFV.out]; exact HR.out, HT.out⟩
end
end Go.Proofs.YtbfllcfjgpkpaaaGreat
