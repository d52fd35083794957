/-
  The suspensions of a fund that count as known: the document's.
  The suspensions of a fund that count as known: the program's.
-/
import Derived.Test.YtffmmkjoknghoaaGreatMarks3
import Derived.Test.YtffmmkjoknghoaaGreatSusCheck2
import Derived.Test.YtffmmkjoknghoaaGreatNameWalk
import Derived.Laws.MakeOwn
import Derived.Laws.OwnMore
namespace Go.Proofs.YtffmmkjoknghoaaGreat
section
open Go.RowKit
set_option linter.unusedVariables false
set_option maxHeartbeats 4000000
theorem elMark : ElT Tryz.prog 117 119 3 32 := ElT.of (z := .agg #[.string ⟨#[]⟩, .int .i64 0, .bool false]) Tryz.underlying117 (by kernel_rfl) rfl (by decide)
theorem elSus : ElT Tryz.prog 37 77 6 64 := ElT.of (z := .agg #[.string ⟨#[]⟩, .string ⟨#[]⟩, .int .i64 0, .int .i64 0, .int .i64 0, .bool false]) Tryz.underlying37 (by kernel_rfl) rfl (by decide)
/-- A slice of the call's own, beside a list of suspensions. -/
structure MV (w W : World) (E : TypeId) (sz : Nat) (v : Value) (n : Nat) (xs : List Value) (A : Option Addr) (l : List SU) : Prop where
  own : OwnL w W E sz v n xs
  su : SuAt W A l
theorem MV.next {w W W' : World} {E : TypeId} {sz : Nat} {v : Value} {n : Nat} {xs : List Value} {A : Option Addr} {l : List SU} (h : MV w W E sz v n xs A l) (hb : Below W.heap.size W W') : MV w W' E sz v n xs A l := ⟨h.own.next hb, h.su.below hb⟩
theorem SuAt.q3 {W : World} {b o i : Nat} {x : SU} {l : List SU} (h : SuAt W (some ⟨b, o, none⟩) l) (hx : l[i]? = some x) : W.cell? ⟨b, o + i * 6, none⟩ = some (.string x.key) ∧ W.cell? ⟨b, o + i * 6 + 4, none⟩ = some (.int .i64 x.known) ∧ W.cell? ⟨b, o + i * 6 + 5, none⟩ = some (.bool x.void) ∧ SuAt W (some ⟨b, o, none⟩) l := by
  have := h.q hx
  exact ⟨this.1, this.2.2.2.2.1, this.2.2.2.2.2, h⟩
def mkL (l : List SU) : List (List Value) := (l.map SU.mark).map fun x => (mkV x).toList
def suL (l : List SU) : List (List Value) := l.map fun x => (suV x).toList
theorem take_next {α : Type} {l : List α} {i : Nat} {x : α} (h : l[i]? = some x) : l.take (i + 1) = l.take i ++ [x] := by
  obtain ⟨hl, e⟩ := List.getElem?_eq_some_iff.1 h
  rw [List.take_succ_eq_append_getElem hl, e]
theorem mkL_next {l : List SU} {i : Nat} {x : SU} (h : l[i]? = some x) : (mkL (l.take i)).flatten ++ (mkV x.mark).toList = (mkL (l.take (i + 1))).flatten := by
  rw [take_next h]
  simp [mkL]
theorem mkL_len (l : List SU) : ∀ x ∈ mkL l, x.length = 3 := fun x hx => by
  unfold mkL at hx
  simp at hx
  obtain ⟨a, -, rfl⟩ := hx
  rfl
theorem suL_len (l : List SU) : ∀ x ∈ suL l, x.length = 6 := fun x hx => by
  unfold suL at hx
  simp at hx
  obtain ⟨a, -, rfl⟩ := hx
  rfl
theorem suL_next (l : List SU) (x : SU) : (suL l).flatten ++ (suV x).toList = (suL (l ++ [x])).flatten := by simp [suL]
/-- A list of suspensions in a slice of the call's own. -/
def SusP (L : List SU) (w : World) (e : Ending) (w' : World) : Prop :=
  ∃ v, e = .returned v ∧ OwnL w w' 77 6 v L.length (suL L).flatten
theorem pickS_snoc {l : List SU} {fund : ByteArray} {L : List Int} {j ii : Nat} {x : SU} (hj : L[j]? = some (ii : Int)) (hx : l[ii]? = some x) (hf : x.fund = fund) : pickS l fund (L.take (j + 1)) = pickS l fund (L.take j) ++ [x] := by
  rw [take_next hj, pickS_append]
  simp [pickS, hx, hf]
theorem pickS_same {l : List SU} {fund : ByteArray} {L : List Int} {j ii : Nat} {x : SU} (hj : L[j]? = some (ii : Int)) (hx : l[ii]? = some x) (hf : x.fund ≠ fund) : pickS l fund (L.take (j + 1)) = pickS l fund (L.take j) := by
  rw [take_next hj, pickS_append]
  simp [pickS, hx, hf]
theorem vis_at {ms : List MK} {k : Int} {j : Nat} {i : Int} (h : (vis ms k)[j]? = some i) : ∃ ii : Nat, i = ii ∧ ii < ms.length := by
  have := List.mem_of_getElem? h
  unfold vis at this
  obtain ⟨ii, h1, h2, -⟩ := (visF_mem i _).1 this
  exact ⟨ii, h1, h2⟩
theorem susB_len {l : List SU} (h : susB l = true) : l.length ≤ 4096 := by
  unfold susB at h
  simp only [Bool.and_eq_true, decide_eq_true_eq] at h
  exact h.1
/-- The marks that a function has appended, read. -/
theorem MV.marks {w W : World} {v : Value} {n : Nat} {A : Option Addr} {l : List SU} (h : MV w W 119 3 v n (mkL l).flatten A l) (hl : l.length ≤ 4096) : ∃ A' cap, v = .slice A' l.length cap ∧ MkAt W A' (l.map SU.mark) := by
  have hml : (mkL l).length = l.length := by simp [mkL]
  obtain ⟨hn, A', cap, rfl, hr, -⟩ := h.own.recs (mkL_len l) (by decide) (by rw [hml]; omega)
  refine ⟨A', cap, by rw [hn, hml], hr, fun x hx => ?_⟩
  simp at hx
  obtain ⟨y, hy, rfl⟩ := hx
  exact (h.su.small y hy).1
set_option maxRecDepth 100000 in
theorem rVisS_ok (l : List SU) (hv : susB l = true) (k : Int) (fund : ByteArray) (hfu : fund.size ≤ maxLen) (A : Option Addr) (cp : Nat) (w : World) (h : SuAt w A l) : Calls Tryz.prog 41 #[.slice A l.length cp, .int .i64 k, .string fund] w (SusP (visS l k fund) w) := by
  have hl := susB_len hv
  have H := Lib.hid h
  have HV := Lib.hid (mksB_of hv)
  clear hv h
  go_enter Tryz.func41, Tryz.ntmps41
  go_wp2_with fail
  go_loopw [7, 8] (fun mv iv wr => ∃ i : Nat, i ≤ l.length ∧ iv = .int .i64 i ∧ OwnL w wr 119 3 mv i (mkL (l.take i)).flatten) (fun _ iv _ => l.length - (intOf iv).toNat)
  case atStart => exact ⟨0, by omega, rfl, OwnL.start ..⟩
  case round =>
    obtain ⟨i, hi, rfl, hO⟩ := hrel
    by_cases hlt : i < l.length
    · have hS := H.out.below hO.below
      obtain ⟨b, o, x, rfl, hx, hbl, hsm, q0, q1, q2, q3, q4, q5⟩ := hS.get hlt
      have HC := Lib.hid (show MV w wr 119 3 _ i _ (some ⟨b, o, none⟩) l from ⟨hO, hS⟩)
      have HCd := Lib.hid (HC.out.next ((Below.refl _ _).drew))
      have HX := Lib.hid hx
      have z1 : (0 : Int) ≤ (i : Int) := by omega
      have z2 : (i : Int) < (l.length : Int) := by omega
      clear hO hS hx q0 q1 q2 q3 q4 q5
      go_wp2_with fail
      go_region_held3 (fun W => W.cell? ⟨b, o + i * 6, none⟩ = some (.string x.key) ∧ W.cell? ⟨b, o + i * 6 + 4, none⟩ = some (.int .i64 x.known) ∧ W.cell? ⟨b, o + i * 6 + 5, none⟩ = some (.bool x.void) ∧ SuAt W (some ⟨b, o, none⟩) l)
        ((first
          | (with_reducible exact HCd.out.su.q3 HX.out)
          | (with_reducible exact (H.out.below hO'.below).q3 HX.out)
          | (exact (HCd.out.next (bal0 _ _)).su.q3 HX.out)))
        ((refine step_push elMark (by rfl) _ _ (by rfl) HCd.out.own (by rfl) #[.string x.key, .int .i64 x.known, .bool x.void] (by rfl) (by rfl) (by rfl) (by omega) (by decide) ?_; intro v' w' hO' hg))
      go_wp2_with fail
      go_roundw
      case rel => exact ⟨i + 1, by omega, by go_num, by rw [← mkL_next HX.out]; exact hO'⟩
      case measure => simp [intOf]; omega
    · have hie : i = l.length := by omega
      have hM : MV w wr 119 3 u7 i (mkL l).flatten A l := ⟨by rw [hie, List.take_length] at hO; rw [hie]; exact hO, H.out.below hO.below⟩
      obtain ⟨A', cap, hv7, hMk⟩ := hM.marks hl
      subst hv7
      have HMk := Lib.hid hMk
      have HO := Lib.hid hO
      have hc := rVis_ok _ HV.out k A' cap _ HMk.out
      rw [List.length_map] at hc
      clear hO hM hMk hie
      go_wp2_with fail
      refine hc.mono ?_
      rintro e w2 ⟨v2, rfl, hO2⟩
      obtain ⟨A2, cap2, rfl, hc2⟩ := hO2.read
      have HB2 := Lib.hid (bnext HO.out.below hO2.below)
      have HC2 := Lib.hid hc2
      obtain ⟨vs, hvs⟩ : ∃ vs, vis (l.map SU.mark) k = vs := ⟨_, rfl⟩
      rw [hvs] at HC2
      have HVS : Hid (visS l k fund = pickS l fund vs) := Lib.hid (by unfold visS; rw [hvs])
      have HAT : Hid (∀ (j : Nat) (i : Int), vs[j]? = some i → ∃ ii : Nat, i = ii ∧ ii < l.length) := Lib.hid (fun j i h => by
        subst hvs
        obtain ⟨ii, h1, h2⟩ := vis_at h
        exact ⟨ii, h1, by simpa using h2⟩)
      have hlen2 : vs.length ≤ 4096 := by
        subst hvs
        have := visF_len (ms := l.map SU.mark) (k := k) (l.map SU.mark).length
        unfold vis
        simp at this ⊢
        omega
      clear hO2 hc2 HO HMk
      rw [hvs]
      clear hvs
      go_wp2_with fail
      go_loopw [11, 12] (fun ov jv wr => ∃ j : Nat, j ≤ vs.length ∧ jv = .int .i64 j ∧ OwnL w2 wr 77 6 ov (pickS l fund (vs.take j)).length (suL (pickS l fund (vs.take j))).flatten) (fun _ jv _ => vs.length - (intOf jv).toNat)
      case atStart => exact ⟨0, by omega, rfl, OwnL.start ..⟩
      case round =>
        obtain ⟨j, hj, rfl, hO⟩ := hrel
        by_cases hlt2 : j < vs.length
        · have hvj : vs[j]? = some vs[j] := List.getElem?_eq_getElem hlt2
          obtain ⟨ii, hii, hil⟩ := HAT.out j _ hvj
          rw [hii] at hvj
          obtain ⟨g, hA2, hgl, hcell⟩ := HC2.out j (.int .i64 (ii : Int)) (by rw [List.getElem?_map, hvj]; rfl)
          subst hA2
          have c0 := (bcell hO.below g j hgl).trans hcell
          have hS := H.out.below (bnext HB2.out hO.below)
          obtain ⟨b, o, x, rfl, hx, hbl, hsm, q0, q1, q2, q3, q4, q5⟩ := hS.get hil
          have hpl := pickS_len l fund (vs.take j)
          rw [List.length_take] at hpl
          have hpl2 : (pickS l fund (vs.take j)).length ≤ 4096 := by omega
          have HO := Lib.hid hO
          have HX := Lib.hid hx
          have HVJ := Lib.hid hvj
          have z1 : (0 : Int) ≤ (ii : Int) := by omega
          have z2 : (ii : Int) < (l.length : Int) := by omega
          clear hO hx hvj hii hS hcell hpl
          by_cases hf : x.fund = fund
          · have HF := Lib.hid hf
            have t1 := key_t hf
            clear hf
            go_wp2_with (at_builtin; refine wpl_push elSus rfl _ _ rfl HO.out rfl #[.string x.key, .string x.fund, .int .i64 x.frm, .int .i64 x.til, .int .i64 x.known, .bool x.void] rfl rfl rfl (by omega) (by decide) ?_; intro v' w' hO' hg)
            go_roundw
            case rel => exact ⟨j + 1, by omega, by go_num, hO'.eqv (by rw [pickS_snoc HVJ.out HX.out HF.out]; simp) (by rw [pickS_snoc HVJ.out HX.out HF.out, ← suL_next]; rfl)⟩
            case measure => simp [intOf]; omega
          · have HF := Lib.hid hf
            have t1 := key_f hf
            clear hf
            go_wp2_with fail
            go_roundw
            case rel => exact ⟨j + 1, by omega, by go_num, HO.out.eqv (by rw [pickS_same HVJ.out HX.out HF.out]) (by rw [pickS_same HVJ.out HX.out HF.out])⟩
            case measure => simp [intOf]; omega
        · have HO := Lib.hid hO
          clear hO
          go_wp2_with fail
          go_ret
          exact ⟨_, rfl, ⟨bnext HB2.out HO.out.below, by rw [HVS.out]; exact own_low (HO.out.eqv (n' := (pickS l fund vs).length) (xs' := (suL (pickS l fund vs)).flatten) (by rw [List.take_of_length_le (by omega)]) (by rw [List.take_of_length_le (by omega)])).own HB2.out.size⟩⟩
end
section
open Go.RowKit
set_option linter.unusedVariables false
set_option maxHeartbeats 4000000
theorem spl_same : ∀ (l : List Value) (cs : Array Value) (o m : Nat), (m < o ∨ o + l.length ≤ m) → (spl cs o l)[m]? = cs[m]?
  | [], cs, o, m, _ => rfl
  | v :: r, cs, o, m, h => by
    unfold spl
    rw [spl_same r _ (o + 1) m (by simp only [List.length_cons] at h; omega), Array.getElem?_setIfInBounds_ne (by simp only [List.length_cons] at h; omega)]
theorem spl_hit : ∀ (l : List Value) (cs : Array Value) (o j : Nat), j < l.length → o + l.length ≤ cs.size → (spl cs o l)[o + j]? = l[j]?
  | [], cs, o, j, h, _ => by simp at h
  | v :: r, cs, o, j, h, hs => by
    simp only [List.length_cons] at h hs
    unfold spl
    cases j with
    | zero =>
      rw [spl_same r _ (o + 1) (o + 0) (by omega), Nat.add_zero, Array.getElem?_setIfInBounds_self_of_lt (by omega)]
      rfl
    | succ j =>
      have := spl_hit r (cs.setIfInBounds o v) (o + 1) j (by omega) (by simp; omega)
      rw [show o + (j + 1) = o + 1 + j by omega, this]
      rfl
/-- The first i marks have been laid. -/
structure MkC (cs : Array Value) (l : List SU) (i : Nat) : Prop where
  size : cs.size = l.length * 3
  at_ : ∀ j x, j < i → l[j]? = some x → ∀ c v, (mkV x.mark).toList[c]? = some v → cs[j * 3 + c]? = some v
theorem MkC.step {cs : Array Value} {l : List SU} {i : Nat} {x : SU} (h : MkC cs l i) (hx : l[i]? = some x) : MkC (spl cs (i * 3) (mkV x.mark).toList) l (i + 1) := by
  have hi : i < l.length := (List.getElem?_eq_some_iff.1 hx).1
  have h3 : (mkV x.mark).toList.length = 3 := rfl
  refine ⟨by rw [spl_size]; exact h.size, fun j y hj hy c v hc => ?_⟩
  have hc3 : c < 3 := by
    have := (List.getElem?_eq_some_iff.1 hc).1
    exact this
  by_cases e : j = i
  · subst e
    rw [hx] at hy
    injection hy with hy
    subst hy
    rw [spl_hit _ _ _ _ (by rw [h3]; exact hc3) (by rw [h3, h.size]; omega)]
    exact hc
  · rw [spl_same _ _ _ _ (by rw [h3]; omega)]
    exact h.at_ j y (by omega) hy c v hc
theorem MkC.marks {W : World} {g : Nat} {cs : Array Value} {l : List SU} {A : Option Addr} (h : MkC cs l l.length) (hb : BlkAt W g cs 119) (hS : SuAt W A l) : MkAt W (some ⟨g, 0, none⟩) (l.map SU.mark) := by
  refine ⟨⟨by have := hS.ln; simpa using this, fun k r hr => ?_⟩, fun x hx => ?_⟩
  · rw [List.getElem?_map, List.getElem?_map] at hr
    cases hk : l[k]? with
    | none => rw [hk] at hr; cases hr
    | some x =>
      rw [hk] at hr
      simp at hr
      subst hr
      refine ⟨g, 0, rfl, hb.lt, fun j v hj => ?_⟩
      rw [Nat.zero_add]
      exact hb.cell (h.at_ k x (List.getElem?_eq_some_iff.1 hk).1 hk j v hj)
  · simp at hx
    obtain ⟨y, hy, rfl⟩ := hx
    exact (hS.small y hy).1
def zMarks (n : Nat) : Array Value := madeCells (Value.agg #[.string ⟨#[]⟩, .int .i64 0, .bool false]).cells (n * 3)
theorem zMarks_size (n : Nat) : (zMarks n).size = n * 3 := size_madeCells _ _
theorem run_mkMarks (n : Nat) (hn : n ≤ 4096) (w : World) : (Instr.makeSlice 117 (.int .i64 (n : Int)) (.int .i64 (n : Int))).run Tryz.prog w = .ok (.slice (some ⟨w.heap.size, 0, none⟩) n n) (w.alloc (.cells (zMarks n) 119)) := by
  obtain ⟨i, z, hi, hz, hsz, hby, hzs⟩ := elMark.info
  have hz2 : z = .agg #[.string ⟨#[]⟩, .int .i64 0, .bool false] := by
    have h1 : (Tryz.prog.info? 119).map (fun i => i.zero) = some (some (.agg #[.string ⟨#[]⟩, .int .i64 0, .bool false])) := by kernel_rfl
    rw [hi] at h1
    simp [hz] at h1
    exact h1
  subst hz2
  have := run_make (P := Tryz.prog) w 117 119 i _ elMark.sl hi hz .i64 .i64 (n : Int) (n : Int) (by omega) (by omega) (by rw [hby]; omega) (by omega)
  rw [this, hsz]
  rfl
/-- A list of suspensions and no error. -/
def SusP2 (L : List SU) (w : World) (e : Ending) (w' : World) : Prop :=
  ∃ v, e = .returned (.tuple #[v, .int .i64 0]) ∧ OwnL w w' 77 6 v L.length (suL L).flatten
def nilE (er : Int) (w : World) (e : Ending) (w' : World) : Prop := e = .returned (.tuple #[.slice none 0 0, .int .i64 er]) ∧ Below w.heap.size w w'
theorem sVisS_bad1 (l : List SU) (hv : susB l = false) (k : Int) (fund : ByteArray) (A : Option Addr) (cp : Nat) (w : World) (h : SuAt w A l) : Calls Tryz.prog 36 #[.slice A l.length cp, .int .i64 k, .string fund] w (nilE 280 w) := by
  have hc := sChk_any oname_is l A cp w h
  rw [susErr_bad hv] at hc
  clear hv h
  go_enter Tryz.func36, Tryz.ntmps36
  go_wp2_with (go_at_call 17; refine hc.mono ?_; rintro e w1 ⟨rfl, hb⟩)
  go_ret2
  exact ⟨rfl, hb⟩
theorem sVisS_bad2 (l : List SU) (hv : susB l = true) (k : Int) (hk : knB k = false) (fund : ByteArray) (A : Option Addr) (cp : Nat) (w : World) (h : SuAt w A l) : Calls Tryz.prog 36 #[.slice A l.length cp, .int .i64 k, .string fund] w (nilE 240 w) := by
  have hc := sChk_any oname_is l A cp w h
  rw [susErr_ok hv] at hc
  have hk2 := knB_no hk
  clear hv h hk
  rcases hk2 with hk2 | hk2
  all_goals
    go_enter Tryz.func36, Tryz.ntmps36
    go_wp2_with (go_at_call 17; refine hc.mono ?_; rintro e w1 ⟨rfl, hb⟩)
    go_ret2
    exact ⟨rfl, hb⟩
theorem sVisS_bad3 (l : List SU) (hv : susB l = true) (k : Int) (hk : knB k = true) (fund : ByteArray) (hfu : fund.size ≤ maxLen) (hf : nmB fund = false) (A : Option Addr) (cp : Nat) (w : World) (h : SuAt w A l) : Calls Tryz.prog 36 #[.slice A l.length cp, .int .i64 k, .string fund] w (nilE 241 w) := by
  have hc := sChk_any oname_is l A cp w h
  rw [susErr_ok hv] at hc
  have hn := oname_is fund _ hf hfu
  obtain ⟨hk1, hk2⟩ := (knB_iff k).1 hk
  clear hv h hk hf
  go_enter Tryz.func36, Tryz.ntmps36
  go_wp2_with (first | (go_at_call 17; refine hc.mono ?_; rintro e w1 ⟨rfl, hb⟩) | (go_at_call 65; refine (hn _).mono ?_; rintro e w2 ⟨rfl, hb2⟩))
  go_ret2
  exact ⟨rfl, bnext hb hb2⟩
set_option maxRecDepth 100000 in
theorem sVisS_ok (l : List SU) (hv : susB l = true) (k : Int) (hk : knB k = true) (fund : ByteArray) (hfu : fund.size ≤ maxLen) (hf : nmB fund = true) (A : Option Addr) (cp : Nat) (w : World) (h : SuAt w A l) : Calls Tryz.prog 36 #[.slice A l.length cp, .int .i64 k, .string fund] w (SusP2 (visS l k fund) w) := by
  have hl := susB_len hv
  have hc := sChk_any oname_is l A cp w h
  rw [susErr_ok hv] at hc
  have hn := oname_is fund _ hf hfu
  obtain ⟨hk1, hk2⟩ := (knB_iff k).1 hk
  have hms := run_mkMarks l.length hl
  have HV := Lib.hid (mksB_of hv)
  have H := Lib.hid h
  clear hv h hk hf
  go_enter Tryz.func36, Tryz.ntmps36
  go_wp2_with fail
  refine hc.mono ?_
  rintro e w1 ⟨rfl, hb⟩
  go_wp2_with fail
  refine (hn _).mono ?_
  rintro e w2 ⟨rfl, hb2⟩
  have HB2 := Lib.hid (bnext hb hb2)
  have hs2 := HB2.out.size
  have b0 := BlkAt.new w2 (zMarks l.length) 119
  have HB0 := Lib.hid b0
  clear hb hb2 hc hn b0
  go_wp2_with fail
  go_loopw [38] (fun iv wr => ∃ (i : Nat) (cs : Array Value), i ≤ l.length ∧ iv = .int .i64 i ∧ BlkAt wr w2.heap.size cs 119 ∧ MkC cs l i ∧ Below w.heap.size w wr) (fun iv _ => l.length - (intOf iv).toNat)
  case atStart => exact ⟨0, _, by omega, rfl, HB0.out, ⟨zMarks_size _, fun j x h => by omega⟩, bal HB2.out _⟩
  case round =>
    obtain ⟨i, cs, hi, rfl, hblk, hM, hB⟩ := hrel
    have HM := Lib.hid hM
    clear hM hms HB0
    by_cases hlt : i < l.length
    · obtain ⟨b, o, x, rfl, hx, hbl, hsm, q0, q1, q2, q3, q4, q5⟩ := (H.out.below hB).get hlt
      have hb3 := hblk.al (.cells (suV x) 77)
      obtain ⟨p0, p1, p2, p3, p4, p5⟩ := suQ (BlkAt.new wr (suV x) 77)
      have HX := Lib.hid hx
      have hbb := hblk.lt
      have hB3 := bal hB (.cells (suV x) 77)
      have hsz := HM.out.size
      have hs3 : i * 3 + (mkV x.mark).size ≤ cs.size := by
        show i * 3 + 3 ≤ cs.size
        omega
      have HB3 := Lib.hid hb3
      have HBB := Lib.hid hB3
      clear hx hblk hB hb3 hB3 hsz
      go_wp2_with (first
        | ((with_reducible refine wpl_store_new rfl 77 _ _ rfl (suV x) ?_ ?_ (rowSu _) ?_ ?_); exact rfl; exact rfl; exact rfl)
        | ((with_reducible refine wpl_store_mid rfl 119 _ _ rfl _ (i * 3) (mkV x.mark) ?_ ?_ HB3.out (rowMk _) hs3 ?_); exact rfl; exact rfl))
      go_roundw
      case rel => exact ⟨i + 1, _, by omega, by go_num, HB3.out.set _, HM.out.step HX.out, Below.setRow HBB.out hs2 _⟩
      case measure => simp [intOf]; omega
    · have hie : i = l.length := by omega
      have hS := H.out.below hB
      have hMk : MkAt wr (some ⟨w2.heap.size, 0, none⟩) (l.map SU.mark) := MkC.marks (by have := HM.out; rw [hie] at this; exact this) hblk hS
      have hc := sVis_ok _ HV.out k (some ⟨w2.heap.size, 0, none⟩) l.length _ hMk
      rw [List.length_map] at hc
      have HB := Lib.hid hB
      clear hS hMk hblk hB hie
      go_wp2_with fail
      refine hc.mono ?_
      rintro e w3 ⟨v2, rfl, hO2⟩
      obtain ⟨A2, cap2, rfl, hc2⟩ := hO2.read
      have HB3 := Lib.hid (bnext HB.out hO2.below)
      have HC2 := Lib.hid hc2
      obtain ⟨vs, hvs⟩ : ∃ vs, vis (l.map SU.mark) k = vs := ⟨_, rfl⟩
      rw [hvs] at HC2
      have HVS : Hid (visS l k fund = pickS l fund vs) := Lib.hid (by unfold visS; rw [hvs])
      have HAT : Hid (∀ (j : Nat) (i : Int), vs[j]? = some i → ∃ ii : Nat, i = ii ∧ ii < l.length) := Lib.hid (fun j i h => by
        subst hvs
        obtain ⟨ii, h1, h2⟩ := vis_at h
        exact ⟨ii, h1, by simpa using h2⟩)
      have hlen2 : vs.length ≤ 4096 := by
        subst hvs
        have := visF_len (ms := l.map SU.mark) (k := k) (l.map SU.mark).length
        unfold vis
        simp at this ⊢
        omega
      clear hO2 hc2 hc
      rw [hvs]
      clear hvs
      go_wp2_with fail
      go_loopw [14, 65] (fun ov jv wr => ∃ j : Nat, j ≤ vs.length ∧ jv = .int .i64 j ∧ OwnL w3 wr 77 6 ov (pickS l fund (vs.take j)).length (suL (pickS l fund (vs.take j))).flatten) (fun _ jv _ => vs.length - (intOf jv).toNat)
      case atStart => exact ⟨0, by omega, rfl, OwnL.start ..⟩
      case round =>
        obtain ⟨j, hj, rfl, hO⟩ := hrel
        by_cases hlt2 : j < vs.length
        · have hvj : vs[j]? = some vs[j] := List.getElem?_eq_getElem hlt2
          obtain ⟨ii, hii, hil⟩ := HAT.out j _ hvj
          rw [hii] at hvj
          obtain ⟨g, hA2, hgl, hcell⟩ := HC2.out j (.int .i64 (ii : Int)) (by rw [List.getElem?_map, hvj]; rfl)
          subst hA2
          have c0 := (bcell hO.below g j hgl).trans hcell
          have hS := H.out.below (bnext HB3.out hO.below)
          obtain ⟨b, o, x, rfl, hx, hbl, hsm, q0, q1, q2, q3, q4, q5⟩ := hS.get hil
          have hpl := pickS_len l fund (vs.take j)
          rw [List.length_take] at hpl
          have hpl2 : (pickS l fund (vs.take j)).length ≤ 4096 := by omega
          have HO := Lib.hid hO
          have HX := Lib.hid hx
          have HVJ := Lib.hid hvj
          have z1 : (0 : Int) ≤ (ii : Int) := by omega
          have z2 : (ii : Int) < (l.length : Int) := by omega
          clear hO hx hvj hii hS hcell hpl
          by_cases hf : x.fund = fund
          · have HF := Lib.hid hf
            have t1 := key_t hf
            clear hf
            go_wp2_with (at_builtin; refine wpl_push elSus rfl _ _ rfl HO.out rfl #[.string x.key, .string x.fund, .int .i64 x.frm, .int .i64 x.til, .int .i64 x.known, .bool x.void] rfl rfl rfl (by omega) (by decide) ?_; intro v' w' hO' hg)
            go_roundw
            case rel => exact ⟨j + 1, by omega, by go_num, hO'.eqv (by rw [pickS_snoc HVJ.out HX.out HF.out]; simp) (by rw [pickS_snoc HVJ.out HX.out HF.out, ← suL_next]; rfl)⟩
            case measure => simp [intOf]; omega
          · have HF := Lib.hid hf
            have t1 := key_f hf
            clear hf
            go_wp2_with fail
            go_roundw
            case rel => exact ⟨j + 1, by omega, by go_num, HO.out.eqv (by rw [pickS_same HVJ.out HX.out HF.out]) (by rw [pickS_same HVJ.out HX.out HF.out])⟩
            case measure => simp [intOf]; omega
        · have HO := Lib.hid hO
          clear hO
          go_wp2_with fail
          go_ret2
          exact ⟨_, rfl, ⟨bnext HB3.out HO.out.below, by rw [HVS.out]; exact own_low (HO.out.eqv (n' := (pickS l fund vs).length) (xs' := (suL (pickS l fund vs)).flatten) (by rw [List.take_of_length_le (by omega)]) (by rw [List.take_of_length_le (by omega)])).own HB3.out.size⟩⟩
end
end Go.Proofs.YtffmmkjoknghoaaGreat
