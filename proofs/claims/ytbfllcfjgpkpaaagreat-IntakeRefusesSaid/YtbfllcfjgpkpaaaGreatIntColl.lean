/-
  How intake orders what it has taken: by the day, then by the time at which it became known.
  What intake has taken, in order.
  What intake collects while it ranges over its map.
  A slice of records that a function has made by appending, sorted by the library: what the sort asks, and what the slice owns behind it. No program in sight.
  What intake has taken, sorted: which orders, in which order.
-/
import Derived.Test.YtbfllcfjgpkpaaaGreatIntPlain
import Derived.Test.YtbfllcfjgpkpaaaGreatShelf
import Derived.Test.YtbfllcfjgpkpaaaGreatShelf2
import Derived.Test.YtbfllcfjgpkpaaaGreatBase
import Derived.Test.YtbfllcfjgpkpaaaGreatMem
import Derived.Deep.RegionHeld3
import Derived.Test.YtbfllcfjgpkpaaaGreatIntRun
import Derived.Test.YtbfllcfjgpkpaaaGreatMarks
import Derived.Sort.OwnSortedInts
import Derived.Shelf.GgSortFunc.InsertionK
namespace Go.Proofs.YtbfllcfjgpkpaaaGreat
section
open Go.RowKit Go.Shelf Go.Lib Go.Sort
set_option linter.unusedVariables false
set_option maxHeartbeats 4000000
def orI (x y : Int) : Int := if x = 0 then y else x
theorem or_two (x y : Int) (g cap : Nat) (w : World) (h0 : w.cell? ⟨g, 0, none⟩ = some (.int .i64 x)) (h1 : w.cell? ⟨g, 1, none⟩ = some (.int .i64 y)) : Calls Tryz.prog 31 #[.slice (some ⟨g, 0, none⟩) 2 cap] w (RetW (.int .i64 (orI x y)) w) := by
  go_enter Tryz.func31, Tryz.ntmps31
  go_wp2_with fail
  go_loop [8] (fun iv => iv = .int .i64 0 ∨ (iv = .int .i64 1 ∧ x = 0) ∨ (iv = .int .i64 2 ∧ x = 0 ∧ y = 0)) (fun iv => 2 - (intOf iv).toNat)
  case atStart => exact .inl rfl
  case round =>
    rcases hrel with rfl | ⟨rfl, rfl⟩ | ⟨rfl, rfl, rfl⟩
    · by_cases hx : x = 0
      · subst hx
        go_wp2_with fail
        go_round
        case rel => exact .inr (.inl ⟨rfl, by trivial⟩)
        case measure => simp [intOf]
      · have g9 := beq_eq_false_iff_ne.2 hx
        have g8 := bne_iff_ne.2 hx
        go_wp2_with fail
        go_ret
        exact ⟨ret_int (by simp [orI, hx]), rfl⟩
    · by_cases hy : y = 0
      · subst hy
        go_wp2_with fail
        go_round
        case rel => exact .inr (.inr ⟨rfl, by first | trivial | exact ⟨trivial, trivial⟩⟩)
        case measure => simp [intOf]
      · have g9 := beq_eq_false_iff_ne.2 hy
        have g8 := bne_iff_ne.2 hy
        go_wp2_with fail
        go_ret
        exact ⟨ret_int (by simp [orI]), rfl⟩
    · go_wp2_with fail
      go_ret
      exact ⟨ret_int (by simp [orI]), rfl⟩
def encT (p : OR × Int) : List Value := [.string p.1.key, .string p.1.nom, .string p.1.hol, .string p.1.fund, .string p.1.cls, .int .i64 p.1.kind, .int .i64 p.1.amt, .int .i64 p.1.units, .int .i64 p.1.t, .int .i64 p.1.known, .bool p.1.void, .int .i64 p.2, .int .i64 p.2]
def cmpT (p q : OR × Int) : Int := orI (Lib.compareInt p.2 q.2) (Lib.compareInt p.1.known q.1.known)
/-- The boxes of two of what is taken, and the two numbers. -/
theorem grow3 (W : World) (a b c : Obj) (n m : Nat) : ∃ q os', ((((W.alloc a).alloc b).drewN n).alloc c).drewN m = grow (W.drewN q) os' := by
  refine ⟨n + m, #[a, b, c], ?_⟩
  simp only [alloc_eq_grow, grow_grow]
  simp [grow, World.drewN, Nat.add_assoc]
abbrev Four (W : World) (G : Nat) (p q : OR × Int) : Prop := W.cell? ⟨G, 11, none⟩ = some (.int .i64 p.2) ∧ W.cell? ⟨G + 1, 11, none⟩ = some (.int .i64 q.2) ∧ W.cell? ⟨G, 9, none⟩ = some (.int .i64 p.1.known) ∧ W.cell? ⟨G + 1, 9, none⟩ = some (.int .i64 q.1.known)
theorem take_cmp (p q : OR × Int) (W : World) : Calls Tryz.prog 30 #[.agg (encT p).toArray, .agg (encT q).toArray] W fun e w' => e = .returned (.int .i64 (cmpT p q)) ∧ ∃ n os', w' = grow (W.drewN n) os' := by
  have h1 := fun w => Tryz.cmp_Compare_int p.2 q.2 w
  have h2 := fun w => Tryz.cmp_Compare_int p.1.known q.1.known w
  have h3 := fun g w => or_two (Lib.compareInt p.2 q.2) (Lib.compareInt p.1.known q.1.known) g 2 w
  show Calls Tryz.prog 30 #[.agg #[.string p.1.key, .string p.1.nom, .string p.1.hol, .string p.1.fund, .string p.1.cls, .int .i64 p.1.kind, .int .i64 p.1.amt, .int .i64 p.1.units, .int .i64 p.1.t, .int .i64 p.1.known, .bool p.1.void, .int .i64 p.2, .int .i64 p.2], .agg #[.string q.1.key, .string q.1.nom, .string q.1.hol, .string q.1.fund, .string q.1.cls, .int .i64 q.1.kind, .int .i64 q.1.amt, .int .i64 q.1.units, .int .i64 q.1.t, .int .i64 q.1.known, .bool q.1.void, .int .i64 q.2, .int .i64 q.2]] W _
  unfold cmpT
  generalize Lib.compareInt p.2 q.2 = c1 at *
  generalize Lib.compareInt p.1.known q.1.known = c2 at *
  go_enter Tryz.func30, Tryz.ntmps30
  go_wp2_with fail
  have HB1 := (BlkAt.new W #[.string p.1.key, .string p.1.nom, .string p.1.hol, .string p.1.fund, .string p.1.cls, .int .i64 p.1.kind, .int .i64 p.1.amt, .int .i64 p.1.units, .int .i64 p.1.t, .int .i64 p.1.known, .bool p.1.void, .int .i64 p.2, .int .i64 p.2] 59).al (.cells #[.string q.1.key, .string q.1.nom, .string q.1.hol, .string q.1.fund, .string q.1.cls, .int .i64 q.1.kind, .int .i64 q.1.amt, .int .i64 q.1.units, .int .i64 q.1.t, .int .i64 q.1.known, .bool q.1.void, .int .i64 q.2, .int .i64 q.2] 59)
  have HB2 : BlkAt ((W.alloc (.cells #[.string p.1.key, .string p.1.nom, .string p.1.hol, .string p.1.fund, .string p.1.cls, .int .i64 p.1.kind, .int .i64 p.1.amt, .int .i64 p.1.units, .int .i64 p.1.t, .int .i64 p.1.known, .bool p.1.void, .int .i64 p.2, .int .i64 p.2] 59)).alloc (.cells #[.string q.1.key, .string q.1.nom, .string q.1.hol, .string q.1.fund, .string q.1.cls, .int .i64 q.1.kind, .int .i64 q.1.amt, .int .i64 q.1.units, .int .i64 q.1.t, .int .i64 q.1.known, .bool q.1.void, .int .i64 q.2, .int .i64 q.2] 59)) (W.heap.size + 1) #[.string q.1.key, .string q.1.nom, .string q.1.hol, .string q.1.fund, .string q.1.cls, .int .i64 q.1.kind, .int .i64 q.1.amt, .int .i64 q.1.units, .int .i64 q.1.t, .int .i64 q.1.known, .bool q.1.void, .int .i64 q.2, .int .i64 q.2] 59 := BlkAt.newAt _ _ _ (by simp)
  have HD := Lib.hid (show Four _ _ p q from ⟨HB1.drew.cell rfl, HB2.drew.cell rfl, HB1.drew.cell rfl, HB2.drew.cell rfl⟩)
  have HY := Lib.hid (fun o => show Four _ _ p q from ⟨(HB1.al o).drew.cell rfl, (HB2.al o).drew.cell rfl, (HB1.al o).drew.cell rfl, (HB2.al o).drew.cell rfl⟩)
  clear HB1 HB2
  have HG := Lib.hid (fun c n m => grow3 W (.cells #[.string p.1.key, .string p.1.nom, .string p.1.hol, .string p.1.fund, .string p.1.cls, .int .i64 p.1.kind, .int .i64 p.1.amt, .int .i64 p.1.units, .int .i64 p.1.t, .int .i64 p.1.known, .bool p.1.void, .int .i64 p.2, .int .i64 p.2] 59) (.cells #[.string q.1.key, .string q.1.nom, .string q.1.hol, .string q.1.fund, .string q.1.cls, .int .i64 q.1.kind, .int .i64 q.1.amt, .int .i64 q.1.units, .int .i64 q.1.t, .int .i64 q.1.known, .bool q.1.void, .int .i64 q.2, .int .i64 q.2] 59) c n m)
  generalize (W.alloc _).alloc _ = W2 at *
  generalize W.heap.size = G at *
  go_region_held3 (fun W => W.cell? ⟨G, 11, none⟩ = some (.int .i64 p.2) ∧ W.cell? ⟨G + 1, 11, none⟩ = some (.int .i64 q.2) ∧ W.cell? ⟨G, 9, none⟩ = some (.int .i64 p.1.known) ∧ W.cell? ⟨G + 1, 9, none⟩ = some (.int .i64 q.1.known))
    ((first
      | (with_reducible exact HD.out)
      | (with_reducible exact HY.out _)))
    (first
    | (go_at_call_of 32 (Value.int .i64 p.2); refine (h1 _).mono ?_; rintro e w' ⟨rfl, rfl⟩)
    | (go_at_call_of 32 (Value.int .i64 p.1.known); refine (h2 _).mono ?_; rintro e w' ⟨rfl, rfl⟩)
    | (go_at_call 31; refine (h3 _ _ ?_ ?_).mono ?_; exact (BlkAt.newAt _ _ _ (by simp)).cell rfl; exact (BlkAt.newAt _ _ _ (by simp)).cell rfl; rintro e w' ⟨rfl, rfl⟩))
  all_goals
    go_wp2_with fail
    go_ret
    exact ⟨rfl, HG.out _ 0 1⟩
instance : Inhabited OR := ⟨⟨⟨#[]⟩, ⟨#[]⟩, ⟨#[]⟩, ⟨#[]⟩, ⟨#[]⟩, 0, 0, 0, 0, 0, false⟩⟩
theorem cmpLays_take (blk off size : Nat) (w : World) : CmpLays Tryz.prog 30 #[] encT 13 cmpT blk off size w := fun _ _ _ _ x y => take_cmp x y _
theorem cmpT_lt (p q : OR × Int) : ltOf cmpT p q = decide (p.2 < q.2 ∨ (p.2 = q.2 ∧ p.1.known < q.1.known)) := by
  unfold ltOf cmpT orI Lib.compareInt
  by_cases h1 : p.2 < q.2
  · simp [h1]
  · by_cases h2 : q.2 < p.2
    · have h3 : ¬ p.2 = q.2 := by omega
      simp [h1, h2, h3]
    · have h3 : p.2 = q.2 := by omega
      by_cases h4 : p.1.known < q.1.known
      · simp [h3, h4]
      · by_cases h5 : q.1.known < p.1.known
        · simp [h3, h4, h5]
        · simp [h3, h4, h5]
theorem cmpT_swo : SWO (ltOf cmpT) where
  irrefl x := by rw [cmpT_lt]; simp
  trans x y z h1 h2 := by rw [cmpT_lt] at *; simp at *; omega
  ntrans x y z h1 h2 := by rw [cmpT_lt] at *; simp at *; omega
end
section
open Go.RowKit Go.Shelf Go.Lib Go.Sort
set_option linter.unusedVariables false
set_option maxHeartbeats 4000000
theorem tk_agg : ∀ w, (isAgg 59).run Tryz.prog w = .ok true w := by
  exact Tryz.isAgg59
theorem tk_size : ∀ w, (Go.sizeOf 59).run Tryz.prog w = .ok 13 w := by
  exact Tryz.sizeOf59
theorem encT_one (x : OR × Int) : ∀ v ∈ encT x, v.oneCell' = true := by
  intro v hv
  simp only [encT, List.mem_cons, List.not_mem_nil, or_false] at hv
  rcases hv with rfl | rfl | rfl | rfl | rfl | rfl | rfl | rfl | rfl | rfl | rfl | rfl | rfl <;> rfl
theorem tk_enters : ∀ args w, (callFunc 30 args).run Tryz.prog w = .ok (.enter 30 args) w := enters_of Tryz.func30 (by kernel_rfl) rfl
theorem sort_taken (blk off cap : Nat) (d : Array (OR × Int)) (w : World) (hH : HoldsK encT 13 w blk off d) (hblk : blk < w.heap.size) (hsz : d.size < 4611686018427387904) :
    Calls Tryz.prog 29 #[.slice (some ⟨blk, off, none⟩) d.size cap, .func (.func 30) #[] #[]] w fun e w' =>
      e = .returned (.tuple #[]) ∧ ∃ d' n os, PermIn 0 d.size d d' ∧ SortedIn (ltOf cmpT) 0 d.size d' ∧ w' = sortWorldK encT 13 w blk off n d' os :=
  AnyQ.slices_SortFunc Tryz.sortTaken 13 tk_agg tk_size encT (fun _ => rfl) encT_one cmpT cmpT_swo 30 #[] blk off cap d w tk_enters (cmpLays_take blk off d.size w) hH hblk hsz
theorem sort_taken_none (p : Option Addr) (cap : Nat) (fv : Value) (w : World) : Calls Tryz.prog 29 #[.slice p 0 cap, fv] w fun e w' => e = .returned (.tuple #[]) ∧ w' = w :=
  AnyF.slices_SortFunc_none Tryz.sortTaken p cap fv w
end
section
open Go.RowKit Go.Maps
set_option linter.unusedVariables false
set_option maxHeartbeats 4000000
/-- What has been collected. -/
structure CollT (l : List OR) (f : ByteArray → Option (Nat × Int)) (left : Lit → Bool) (out : List (OR × Int)) : Prop where
  nodup : out.Nodup
  mem : ∀ p : OR × Int, p ∈ out ↔ ∃ key a, f key = some (a, p.2) ∧ l[a]? = some p.1 ∧ left (.string key.data.toList) = false
section
variable {l : List OR} {D : DataW Unit} {f : ByteArray → Option (Nat × Int)} {left : Lit → Bool} {out : List (OR × Int)}
theorem CollT.start (h : MapN D f) : CollT l f (has D) [] := ⟨List.nodup_nil, fun i => by
  constructor
  · intro hi
    simp at hi
  · rintro ⟨key, a, h1, -, h2⟩
    have h3 := fun z => h.yes key _ _ h1 z
    have := has_true_of_atKey h3
    rw [this] at h2
    cases h2⟩
theorem CollT.step (h : CollT l f left out) (hM : MapN D f) (FK : ∀ key a d, f key = some (a, d) → ∃ o, l[a]? = some o ∧ o.key = key) {x : List UInt8} {c : Int × Int} (hl : left (.string x) = true) (hat : ∀ zd, D.atKey (.string x) zd = curD c.1 c.2) :
    ∃ (a : Nat) (o : OR), c.1 = (a : Int) ∧ l[a]? = some o ∧ CollT l f (fun z => left z && !z.sameKey (.string x)) (out ++ [(o, c.2)]) := by
  obtain ⟨key, rfl⟩ : ∃ key : ByteArray, key.data.toList = x := ⟨⟨x.toArray⟩, by simp⟩
  have hhas := has_true_of_atKey hat
  obtain ⟨p, hp⟩ : ∃ p, f key = some p := by
    cases hf : f key with
    | none =>
      rw [hM.no key hf] at hhas
      cases hhas
    | some p => exact ⟨p, rfl⟩
  obtain ⟨a, d⟩ := p
  obtain ⟨o, ho, hok⟩ := FK key a d hp
  have h1 := hat (.lit (.int .i64 0))
  rw [hM.yes key a d hp] at h1
  obtain ⟨e1, e2⟩ := curD_inj h1
  refine ⟨a, o, e1.symm, ho, ?_⟩
  rw [← e2]
  have hnew : (o, d) ∉ out := fun hx => by
    obtain ⟨k2, a2, g1, g2, g3⟩ := (h.mem _).1 hx
    obtain ⟨o2, g4, g5⟩ := FK k2 a2 _ g1
    rw [g2] at g4
    injection g4 with g4
    subst g4
    have : k2 = key := g5.symm.trans hok
    subst this
    rw [hl] at g3
    cases g3
  refine ⟨List.nodup_append.2 ⟨h.nodup, by simp, fun a ha b hb e => ?_⟩, fun i => ?_⟩
  · simp at hb
    subst hb e
    exact hnew ha
  · rw [List.mem_append]
    constructor
    · rintro (hi | hi)
      · obtain ⟨k2, j2, h1, h2, h3⟩ := (h.mem _).1 hi
        exact ⟨k2, j2, h1, h2, by simp [h3]⟩
      · simp at hi
        subst hi
        exact ⟨key, a, hp, ho, by simp [Lit.sameKey]⟩
    · rintro ⟨k2, j2, h1, h2, h3⟩
      by_cases e : k2 = key
      · subst e
        rw [hp] at h1
        injection h1 with h1
        injection h1 with h1 h4
        subst h1
        rw [ho] at h2
        injection h2 with h2
        refine .inr ?_
        simp [h2, h4]
      · refine .inl ((h.mem _).2 ⟨k2, j2, h1, h2, ?_⟩)
        have hs : (Lit.string k2.data.toList).sameKey (.string key.data.toList) = false := sameKey_ne (fun e2 => e (data_inj (by injection e2)))
        rw [hs] at h3
        simpa using h3
end
end
section
open Go.RowKit Go.Sort
set_option linter.unusedVariables false
theorem flatMap_len {α : Type} {enc : α → List Value} {k : Nat} (hk : ∀ x, (enc x).length = k) (L : List α) : (L.flatMap enc).length = L.length * k := by
  rw [List.flatMap_def, flat_len (n := k) _ (fun x hx => by obtain ⟨y, -, rfl⟩ := List.mem_map.1 hx; exact hk y), List.length_map]
section
variable {α : Type} [Inhabited α] {enc : α → List Value} {k : Nat}
theorem flatK_list (hk : ∀ x, (enc x).length = k) (L : List α) : (flatK enc k L.toArray).toList = L.flatMap enc := by
  apply List.ext_getElem?
  intro t
  by_cases ht : t < L.length * k
  · have h0 : 0 < k := by rcases Nat.eq_zero_or_pos k with h | h; · subst h; simp at ht
                          · exact h
    have hd : t / k < L.length := (Nat.div_lt_iff_lt_mul h0).2 ht
    have hm : t % k < k := Nat.mod_lt _ h0
    have e : t = t / k * k + t % k := by rw [Nat.mul_comm]; exact (Nat.div_add_mod t k).symm
    have hr : (L.map enc)[t / k]? = some (enc L[t / k]) := by rw [List.getElem?_map, List.getElem?_eq_getElem hd]; rfl
    have hv : (enc L[t / k])[t % k]? = some ((enc L[t / k])[t % k]'(by rw [hk]; exact hm)) := List.getElem?_eq_getElem _
    have h2 := flat_get (n := k) (L.map enc) (t / k) _ (fun x hx => by obtain ⟨y, -, rfl⟩ := List.mem_map.1 hx; exact hk y) hr (t % k) _ hv
    rw [← e] at h2
    rw [List.flatMap_def, h2]
    have h3 := get_flatK enc k L.toArray t (by simpa using ht)
    have hs : t < (flatK enc k L.toArray).size := by simpa using ht
    rw [Array.getElem?_toList, Array.getElem?_eq_getElem hs]
    rw [getElem!_pos _ t hs] at h3
    rw [h3]
    have h4 : L.toArray[t / k]! = L[t / k] := by rw [getElem!_pos _ _ (by simpa using hd)]; simp
    rw [h4, getElem!_pos _ _ (by rw [hk]; exact hm)]
  · rw [List.getElem?_eq_none (by simp; omega), List.getElem?_eq_none (by rw [flatMap_len hk]; omega)]
theorem holds_of_blockK (hk : ∀ x, (enc x).length = k) {w : World} {g : Nat} {cur : Array Value} {e : TypeId} {L : List α} (hb : w.heap[g]? = some (.cells cur e (0, 0))) (ht : cur.toList.take (L.length * k) = L.flatMap enc) : HoldsK enc k w g 0 L.toArray := by
  intro j hj
  have hj' : j < L.length * k := by simpa using hj
  refine ⟨?_, by simp [World.frozen?, hb]⟩
  have h1 : (cur.toList.take (L.length * k))[j]? = (flatK enc k L.toArray).toList[j]? := by rw [ht, flatK_list hk]
  rw [List.getElem?_take_of_lt hj', Array.getElem?_toList, Array.getElem?_toList, Array.getElem?_eq_getElem hj] at h1
  simp only [World.cell?, hb, Nat.zero_add]
  simp only [Option.isSome_none, Bool.false_eq_true, if_false]
  rw [h1, getElem!_pos _ j hj]
  rfl
theorem heap_sortedF {w : World} {g n : Nat} {os : Array Obj} {cur : Array Value} {e : TypeId} {fr : Nat × Nat} (F : Array Value) (hb : w.heap[g]? = some (.cells cur e fr)) :
    (grow (putRow id (Sort.ahead w n) g 0 F) os).heap[g]? = some (.cells (putCells id 0 F cur) e fr) := by
  have hg : g < w.heap.size := (Array.getElem?_eq_some_iff.1 hb).1
  rw [heap_grow_old _ _ (by simpa using hg)]
  simp [putRow, mapBlock, Sort.ahead, Array.getElem?_modify, hb, onCells]
theorem grownBy_sortedF {w : World} {g n : Nat} {os : Array Obj} (F : Array Value) : w.grownBy (grow (putRow id (Sort.ahead w n) g 0 F) os) (some g) := by
  refine ⟨rfl, rfl, rfl, by simp, fun k hk hne => ?_⟩
  rw [heap_grow_old _ _ (by simpa using hk)]
  have : g ≠ k := fun e => hne (by rw [e])
  simp [putRow, mapBlock, Sort.ahead, Array.getElem?_modify, this]
theorem take_putCellsF (cur F : Array Value) (h : F.size ≤ cur.size) : (putCells id 0 F cur).toList.take F.size = F.toList := by
  apply List.ext_getElem?
  intro j
  by_cases hj : j < F.size
  · rw [List.getElem?_take_of_lt hj, Array.getElem?_toList]
    simp [putCells, hj, show j < cur.size by omega]
  · rw [List.getElem?_take_eq_none (by omega), List.getElem?_eq_none (by simp; omega)]
/-- BEHIND THE SORT the same slice owns the sorted list. -/
theorem ownsRow_sortedK (hk : ∀ x, (enc x).length = k) {w : World} {base g cap n : Nat} {e : TypeId} {os : Array Obj} {cur : Array Value} {ss ts : List α} (hl : ts.length = ss.length) (hbase : base ≤ g) (hb : w.heap[g]? = some (.cells cur e (0, 0)))
    (h1 : ss.length ≤ cap) (h2 : cap ≤ maxLen) (h3 : cur.size = cap * k) :
    (sortWorldK enc k w g 0 n ts.toArray os).ownsRow base e k (.slice (some ⟨g, 0, none⟩) ss.length cap) ss.length (ts.flatMap enc) := by
  have hle : ss.length * k ≤ cap * k := Nat.mul_le_mul_right k h1
  refine ⟨by rw [flatMap_len hk, hl], .inr ⟨g, cap, _, rfl, hbase, heap_sortedF (flatK enc k ts.toArray) hb, h1, h2, by simp [putCells, h3], ?_⟩⟩
  have h5 := take_putCellsF cur (flatK enc k ts.toArray) (by simp only [size_flatK, List.size_toArray, hl]; omega)
  rw [flatK_list hk, size_flatK, List.size_toArray, hl] at h5
  exact h5
theorem grownBy_sortedK {w : World} {g n : Nat} {os : Array Obj} (d : Array α) : w.grownBy (sortWorldK enc k w g 0 n d os) (some g) := grownBy_sortedF _
/-- What a whole sort gives: the same elements, in order. -/
theorem sorted_list {lt : α → α → Bool} {L : List α} {d' : Array α} (h1 : PermIn 0 L.toArray.size L.toArray d') (h2 : SortedIn lt 0 L.toArray.size d') : ∃ T : List α, d' = T.toArray ∧ T.length = L.length ∧ T.Perm L ∧ T.Pairwise (fun p q => lt q p = false) := by
  obtain ⟨T, rfl⟩ : ∃ T : List α, d' = T.toArray := ⟨d'.toList, by simp⟩
  obtain ⟨a1, a2, a3⟩ := h1
  have hl : T.length = L.length := by simpa using a1
  refine ⟨T, rfl, hl, ?_, ?_⟩
  · have h3 : T.Perm (L.take T.length) := by simpa [← hl] using a3
    rwa [List.take_of_length_le (by omega)] at h3
  · rw [List.pairwise_iff_getElem]
    intro i j hi hj hij
    have := h2 i j (Nat.zero_le _) hij (by simpa using (by omega : j < L.length))
    simpa [hi, hj] using this
end
end
section
open Go.RowKit Go.Maps Go.Sort
set_option linter.unusedVariables false
set_option maxHeartbeats 4000000
/-- What is taken: each once, by the day, then by the time at which it became known. -/
structure TakenL (P : DPar) (k : Int) (fund : ByteArray) (L : List (OR × Int)) : Prop where
  nodup : L.Nodup
  mem : ∀ p : OR × Int, p ∈ L ↔ ∃ key a, nowF P.fr P.dl P.l k fund key P.l.length = some (a, p.2) ∧ P.l[a]? = some p.1
  sorted : L.Pairwise (fun p q => ¬ (q.2 < p.2 ∨ (q.2 = p.2 ∧ q.1.known < p.1.known)))
theorem CollT.all {l : List OR} {f : ByteArray → Option (Nat × Int)} {left : Lit → Bool} {out : List (OR × Int)} (h : CollT l f left out) (hl : ∀ kl, left kl = false) (p : OR × Int) : p ∈ out ↔ ∃ key a, f key = some (a, p.2) ∧ l[a]? = some p.1 := by
  rw [h.mem]
  constructor
  · rintro ⟨key, a, h1, h2, -⟩
    exact ⟨key, a, h1, h2⟩
  · rintro ⟨key, a, h1, h2⟩
    exact ⟨key, a, h1, h2, hl _⟩
theorem TakenL.of_coll {P : DPar} {k : Int} {fund : ByteArray} {left : Lit → Bool} {out : List (OR × Int)} (h : CollT P.l (fun key => nowF P.fr P.dl P.l k fund key P.l.length) left out) (hl : ∀ kl, left kl = false) {d' : Array (OR × Int)}
    (h1 : PermIn 0 out.toArray.size out.toArray d') (h2 : SortedIn (ltOf cmpT) 0 out.toArray.size d') : ∃ T : List (OR × Int), d' = T.toArray ∧ T.length = out.length ∧ TakenL P k fund T := by
  obtain ⟨T, hd, hlen, hp, hs⟩ := sorted_list h1 h2
  refine ⟨T, hd, hlen, hp.nodup_iff.2 h.nodup, fun p => (hp.mem_iff).trans (h.all hl p), hs.imp (fun {p q} hpq => ?_)⟩
  rw [cmpT_lt] at hpq
  simpa using hpq
theorem TakenL.none_ {P : DPar} {k : Int} {fund : ByteArray} {left : Lit → Bool} (h : CollT P.l (fun key => nowF P.fr P.dl P.l k fund key P.l.length) left []) (hl : ∀ kl, left kl = false) : TakenL P k fund [] :=
  ⟨List.nodup_nil, fun p => h.all hl p, List.Pairwise.nil⟩
/-- What is taken is told by what is current. -/
theorem TakenL.toC {P : DPar} {k : Int} {fund : ByteArray} {L : List (OR × Int)} (h : TakenL P k fund L) (hb : bookErr P.l = 0) : TakenC (fun key => curC P.fr P.dl k fund key none P.l) L := by
  have hbf := (bookErr_zero hb).2
  have hrel := fun key => cur_rel (fr := P.fr) (dl := P.dl) (l := P.l) (k := k) (fund := fund) key P.l.length (Nat.le_refl _)
  simp only [List.take_length] at hrel
  have hin : ∀ p ∈ L, ∃ a : Nat, nowF P.fr P.dl P.l k fund p.1.key P.l.length = some (a, p.2) ∧ P.l[a]? = some p.1 := fun p hp => by
    obtain ⟨key, a, h1, h2⟩ := (h.mem p).1 hp
    obtain ⟨-, o, h3, h4, -⟩ := nowF_is h1
    rw [h2] at h3
    injection h3 with h3
    rw [← h3] at h4
    exact ⟨a, by rw [h4]; exact h1, h2⟩
  refine ⟨?_, fun o d => ?_⟩
  · refine (List.Pairwise.and h.sorted h.nodup).imp_of_mem ?_
    rintro p q hp hq ⟨h1, h2⟩
    obtain ⟨a, ha, ha2⟩ := hin p hp
    obtain ⟨c, hc, hc2⟩ := hin q hq
    rcases Nat.lt_trichotomy a c with hac | hac | hac
    · have := book_lt _ _ _ _ _ _ hbf ha2 hc2 hac
      unfold tcLt
      omega
    · subst hac
      rw [ha2] at hc2
      injection hc2 with hc2
      rw [hc2, hc] at ha
      injection ha with ha
      injection ha with _ ha
      exact absurd (Prod.ext hc2 ha.symm) h2
    · have := book_lt _ _ _ _ _ _ hbf hc2 ha2 hac
      unfold tcLt
      omega
  · constructor
    · intro hm
      obtain ⟨a, h1, h2⟩ := hin _ hm
      have h3 := hrel o.key
      rw [h1] at h3
      show curC P.fr P.dl k fund o.key none P.l = some (o, d)
      cases hc : curC P.fr P.dl k fund o.key none P.l with
      | none =>
        rw [hc] at h3
        exact absurd h3 id
      | some x =>
        obtain ⟨w, d'⟩ := x
        rw [hc] at h3
        obtain ⟨h4, h5⟩ := h3
        rw [h2] at h5
        injection h5 with h5
        rw [← h5, ← h4]
    · intro hm
      have hm2 : curC P.fr P.dl k fund o.key none P.l = some (o, d) := hm
      have h3 := hrel o.key
      rw [hm2] at h3
      cases hc : nowF P.fr P.dl P.l k fund o.key P.l.length with
      | none =>
        rw [hc] at h3
        exact absurd h3 id
      | some x =>
        obtain ⟨a, d'⟩ := x
        rw [hc] at h3
        obtain ⟨h4, h5⟩ := h3
        subst h4
        exact (h.mem _).2 ⟨o.key, a, hc, h5⟩
end
end Go.Proofs.YtbfllcfjgpkpaaaGreat
