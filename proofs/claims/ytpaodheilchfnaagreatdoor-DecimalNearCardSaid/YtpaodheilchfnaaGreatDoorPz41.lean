/- What the laws lean on. -/
import Derived.Test.YtpaodheilchfnaaGreatDoorPz20
import Derived.Test.YtpaodheilchfnaaGreatDoorPz21
import Derived.Test.YtpaodheilchfnaaGreatDoorPz26
import Derived.Test.YtpaodheilchfnaaGreatDoorPz31
namespace Go.Proofs.YtpaodheilchfnaaGreatDoor
set_option linter.unusedVariables false
set_option linter.unusedSimpArgs false
section
section
open Go.RowKit
section
variable {P : Program} {md : Region.Mode} {ops : Array Oper} {Q : Exit → Act → World → Prop}
theorem rg_take (i d : Nat) {oi : Oper} {tmps : List Value} {ds : List Deferred} {v : Value} {fuel : Nat} {listed : Array Bool} {w : World} (hi : ops[i]? = some oi) (hd : oi.dst = some d)
    (hs : Region.noSelect ops = true) (hf : Region.free md ops listed i = true) (hr : (Region.ready md ops listed).contains i = true)
    (hQ : ∀ c a w, Q (.panic c) (a.put oi.dst v) w → Q (.panic c) a w) (hy : Yields P ops oi v ⟨⟨tmps⟩, ds⟩)
    (h : wpAny P md ops Q fuel (listed.setIfInBounds i true) ⟨⟨tmps.set d v⟩, ds⟩ w) : wpAny P md ops Q (fuel + 1) listed ⟨⟨tmps⟩, ds⟩ w := by
  refine wpAny_take hi hs hf hr hQ hy ?_
  rw [hd]
  simpa [Act.put] using h
end
end
end
section
open Go.RowKit
section
variable {P : Program} {md : Region.Mode} {ops : Array Oper} {Q : Exit → Act → World → Prop} {n m m' i fuel : Nat} {o : Oper} {a : Act} {w : World} {rs : List Nat}
theorem dg_take (i d m' : Nat) {oi : Oper} {tmps : List Value} {ds : List Deferred} {v : Value} (hi : ops[i]? = some oi) (hd : oi.dst = some d)
    (hs : Region.noSelect ops = true) (hf : Region.free md ops (bm n m) i = true) (hr : (Region.ready md ops (bm n m)).contains i = true) (hl : (bm n m).setIfInBounds i true = bm n m')
    (hQ : ∀ c a w, Q (.panic c) (a.put oi.dst v) w → Q (.panic c) a w) (hy : Yields P ops oi v ⟨⟨tmps⟩, ds⟩)
    (h : wpAny P md ops Q fuel (bm n m') ⟨⟨tmps.set d v⟩, ds⟩ w) : wpAny P md ops Q (fuel + 1) (bm n m) ⟨⟨tmps⟩, ds⟩ w := by
  refine rg_take i d hi hd hs hf hr hQ hy ?_
  rw [hl]
  exact h
end
end
section
open Go.RowKit
structure ScT (P : Program) (T : TypeId) : Prop where
  sz : (P.info? T).map (·.size) = some 1
  ag : ∃ d, P.underlying T = some d ∧ (match d with | .struct _ | .array _ _ => false | _ => true) = true
section
variable {P : Program} {T : TypeId} {v v0 : Value} {W : World} {p : Addr}
theorem run_store_cell {b k : Nat} (hT : ScT P T) (h1 : v.oneCell' = true) (hc : W.cell? ⟨b, k, none⟩ = some v0) (hf : W.frozen? ⟨b, k, none⟩ = false) : (storeVar T ⟨b, k, none⟩ v).run P W = .ok () (W.setCell ⟨b, k, none⟩ v) := by
  cases hi : P.info? T with
  | none => have := hT.sz; rw [hi] at this; cases this
  | some i =>
    have hs : i.size = 1 := by have := hT.sz; rw [hi] at this; simpa using this
    have hv : v.cells = #[v] := by cases v <;> simp_all [Value.cells, Value.oneCell']
    have hp : (⟨b, k, none⟩ : Addr).add 0 = ⟨b, k, none⟩ := rfl
    simp [storeVar, sizeOf, typeInfo, hi, hs, hv, storeCells, run_store P W _ v _ h1, stored, hp, hc, hf]
end
section
variable {P : Program} {a : Act} {w W : World} {K : Act → World → Prop} {Q : Exit → Act → World → Prop} {F A L : List Ent} {b k : Nat} {cs cs' : Array Value} {t T : TypeId} {x y : Operand} {ops : Array Oper} {rest : List Oper} {dst : Option Tmp} {ty : TypeId} {pos : String} {af : Array Edge} {gd : Option (Nat × Bool)} {v v0 : Value}
theorem gSc (h : Fr w W F) (hx : a.eval x = .pointer (some ⟨b, k, none⟩)) (hy : a.eval y = v) (hl : Lies F A b cs t L) (hT : ScT P T) (h1 : v.oneCell' = true) (hc : cs[k]? = some v0) (he : cs.setIfInBounds k v = cs') (hk : ∀ W', Fr w W' (A ++ (b, cs', t) :: L) → K a W') : OpW P ⟨none, .store T x y, ty, pos, af, gd⟩ a W K Q := by
  have hb := h.get hl
  refine ⟨?_⟩
  unfold Oper.wp execOp
  simp only [hx, hy, Instr.storeAt, Instr.sureAddr, Sem.run_bind, Sem.run_pure, Result.andThen_ok, run_store_cell hT h1 (hb.cell hc) (hb.fz k)]
  have e := hl.eq
  subst e
  subst he
  exact hk _ (h.cellA k v)
theorem fSc (h : Fr w W F) (hw : Region.wanted ⟨none, .store T x y, ty, pos, af, gd⟩ (yielded ops a.tmps) = true) (hx : a.eval x = .pointer (some ⟨b, k, none⟩)) (hy : a.eval y = v) (hl : Lies F A b cs t L) (hT : ScT P T) (h1 : v.oneCell' = true) (hc : cs[k]? = some v0) (he : cs.setIfInBounds k v = cs') (hk : ∀ W', Fr w W' (A ++ (b, cs', t) :: L) → wpList P ops Q rest a W') : wpList P ops Q (⟨none, .store T x y, ty, pos, af, gd⟩ :: rest) a W :=
  wpList_want hw fun K hK => (gSc h hx hy hl hT h1 hc he (fun W' F' => hK _ _ (hk W' F'))).out
end
theorem scBool : ScT Tryz.prog 4 := ⟨by kernel_rfl, _, Tryz.underlying4, rfl⟩
theorem scU32 : ScT Tryz.prog 26 := ⟨by kernel_rfl, _, Tryz.underlying26, rfl⟩
end
section
open Go.RowKit
set_option maxHeartbeats 4000000
theorem mask_u32 {v e : Nat} (hv : v < 4294967296) (he : e < 32) : bits .and .u32 (v : Int) (((2 : Int) ^ e - 1) % 4294967296) = ((v % 2 ^ e : Nat) : Int) := by
  have h := bits_mask .u32 32 (by decide) (fun n h0 h1 => by rw [IntKind.wrap_u32]; omega) e (by omega) (v : Int) (by omega) (by omega)
  have h1 : (2 : Int) ^ e = ((2 ^ e : Nat) : Int) := by push_cast; rfl
  have h2 : 2 ^ e < 2 ^ 32 := Nat.pow_lt_pow_right (by decide) he
  have h3 : 0 < 2 ^ e := Nat.pow_pos (by decide)
  rw [Int.emod_eq_of_lt (by omega) (by omega), h, h1]
  exact (Int.natCast_emod _ _).symm
theorem sZ_abs (x : Bool) (a : Nat) : (sZ x a).natAbs = a := by unfold sZ; split <;> omega
set_option maxRecDepth 100000 in
theorem tint0 {B b N : Nat} {w : World} {bits : Nat} (hb : bits ≤ 1024) (h : TapeAt w B b (N + 67)) : Calls Tryz.prog 86 #[.pointer (some ⟨b, 0, none⟩), .int .i64 bits] w (TapP (fun v => ∃ z : Int, v = .agg (IC z) ∧ z.natAbs < 2 ^ bits) B b N w) := by
  have F := Fr.start w
  have T := Tp.start h
  clear h
  go_enter Tryz.func86, Tryz.ntmps86
  go_wp2_with (first | go_skip | ((with_reducible apply fL F); exact rfl; exact rfl; (exact tL); (exact tR3)) | ((with_reducible apply fLm F); exact rfl; exact rfl; (exact tL); (exact tM3); (exact tR3)) | ((with_reducible apply fSli F slInt); exact rfl; exact rfl; exact rfl; decide; decide; (go_simp; exact rfl); exact rfl) | ((with_reducible apply fA_int F); exact rfl) | ((with_reducible apply fS F); exact rfl; exact rfl; exact rfl; (exact tL); (exact tR3); (exact tS2); clear F; intro W F; simp only [z7, z8] at F) | ((with_reducible apply fSc F); exact rfl; exact rfl; (go_simp; exact rfl); (exact tL); (first | (with_reducible exact scBool) | (with_reducible exact scU32)); exact rfl; (first | (with_reducible exact intC_limb (by assumption)) | (with_reducible exact intC_neg _ _) | exact rfl); (first | (with_reducible exact intC_set0 _ _ _) | (with_reducible exact intC_setL (by assumption)) | ((simp only [z6, z1, z2]); exact rfl) | exact rfl); clear F; intro W F; simp only [z7, z8] at F))
  (clear F; intro b4 W F; try simp only [Act.put, z6, z1, z2])
  go_wp2_with (first | go_skip | ((with_reducible apply fL F); exact rfl; exact rfl; (exact tL); (exact tR3)) | ((with_reducible apply fLm F); exact rfl; exact rfl; (exact tL); (exact tM3); (exact tR3)) | ((with_reducible apply fSli F slInt); exact rfl; exact rfl; exact rfl; decide; decide; (go_simp; exact rfl); exact rfl) | ((with_reducible apply fA_int F); exact rfl) | ((with_reducible apply fS F); exact rfl; exact rfl; exact rfl; (exact tL); (exact tR3); (exact tS2); clear F; intro W F; simp only [z7, z8] at F) | ((with_reducible apply fSc F); exact rfl; exact rfl; (go_simp; exact rfl); (exact tL); (first | (with_reducible exact scBool) | (with_reducible exact scU32)); exact rfl; (first | (with_reducible exact intC_limb (by assumption)) | (with_reducible exact intC_neg _ _) | exact rfl); (first | (with_reducible exact intC_set0 _ _ _) | (with_reducible exact intC_setL (by assumption)) | ((simp only [z6, z1, z2]); exact rfl) | exact rfl); clear F; intro W F; simp only [z7, z8] at F))
  (clear F; intro b5 W F; try simp only [Act.put, z6, z1, z2])
  have m1 : RowKit.wrap64 ((bits : Int) + 1) = (bits : Int) + 1 := by unfold RowKit.wrap64; omega
  go_wp2_with (first | go_skip | ((go_at_call 16); (with_reducible refine fr_tap F T (tnext _ (by omega) (by omega) (T.at F)) ?_); (try clear F T); (rintro _ u W ⟨k, rfl, hk⟩ T F); (try dsimp only)) | ((with_reducible apply fL F); exact rfl; exact rfl; (exact tL); (exact tR3)) | ((with_reducible apply fLm F); exact rfl; exact rfl; (exact tL); (exact tM3); (exact tR3)) | ((with_reducible apply fSli F slInt); exact rfl; exact rfl; exact rfl; decide; decide; (go_simp; exact rfl); exact rfl) | ((with_reducible apply fA_int F); exact rfl) | ((with_reducible apply fS F); exact rfl; exact rfl; exact rfl; (exact tL); (exact tR3); (exact tS2); clear F; intro W F; simp only [z7, z8] at F) | ((with_reducible apply fSc F); exact rfl; exact rfl; (go_simp; exact rfl); (exact tL); (first | (with_reducible exact scBool) | (with_reducible exact scU32)); exact rfl; (first | (with_reducible exact intC_limb (by assumption)) | (with_reducible exact intC_neg _ _) | exact rfl); (first | (with_reducible exact intC_set0 _ _ _) | (with_reducible exact intC_setL (by assumption)) | ((simp only [z6, z1, z2]); exact rfl) | exact rfl); clear F; intro W F; simp only [z7, z8] at F))
  (clear F; intro b17 W F; try simp only [Act.put, z6, z1, z2])
  go_upto_region 3 with (first | go_skip | ((go_at_call 13); (with_reducible refine fr_tap F T (tpickF [0, 1, 5, 20, 31, 32, 33, 64, 65, 100, 200, 400, bits, bits, k] F T tL (by with_unfolding_all rfl) (by with_unfolding_all rfl) (by simp) (by simp)) ?_); (try clear F T); (rintro _ u W ⟨n, rfl, hn⟩ T F); (try dsimp only)) | ((with_reducible apply fL F); exact rfl; exact rfl; (exact tL); (exact tR3)) | ((with_reducible apply fLm F); exact rfl; exact rfl; (exact tL); (exact tM3); (exact tR3)) | ((with_reducible apply fSli F slInt); exact rfl; exact rfl; exact rfl; decide; decide; (go_simp; exact rfl); exact rfl) | ((with_reducible apply fA_int F); exact rfl) | ((with_reducible apply fS F); exact rfl; exact rfl; exact rfl; (exact tL); (exact tR3); (exact tS2); clear F; intro W F; simp only [z7, z8] at F) | ((with_reducible apply fSc F); exact rfl; exact rfl; (go_simp; exact rfl); (exact tL); (first | (with_reducible exact scBool) | (with_reducible exact scU32)); exact rfl; (first | (with_reducible exact intC_limb (by assumption)) | (with_reducible exact intC_neg _ _) | exact rfl); (first | (with_reducible exact intC_set0 _ _ _) | (with_reducible exact intC_setL (by assumption)) | ((simp only [z6, z1, z2]); exact rfl) | exact rfl); clear F; intro W F; simp only [z7, z8] at F))
  obtain ⟨j, rfl⟩ : ∃ j : Nat, n = j := ⟨n.toNat, by simp at hn; omega⟩
  clear hn hk m1
  replace F := F.sub (L' := [(b5, intC false 0, 29), (b4, intC false 0, 29)]) (by repeat (first | exact List.Sublist.slnil | apply List.Sublist.cons_cons | apply List.Sublist.cons))
  go_cut [6] from 19 to 21 (fun v wr => (∃ q : Nat, v = .int .i64 q ∧ q ≤ bits) ∧ Fr u wr [(b5, intC false 0, 29), (b4, intC false 0, 29)])
  case first =>
    go_wp2_with (first | go_skip | ((with_reducible apply fL F); exact rfl; exact rfl; (exact tL); (exact tR3)) | ((with_reducible apply fLm F); exact rfl; exact rfl; (exact tL); (exact tM3); (exact tR3)) | ((with_reducible apply fSli F slInt); exact rfl; exact rfl; exact rfl; decide; decide; (go_simp; exact rfl); exact rfl) | ((with_reducible apply fA_int F); exact rfl) | ((with_reducible apply fS F); exact rfl; exact rfl; exact rfl; (exact tL); (exact tR3); (exact tS2); clear F; intro W F; simp only [z7, z8] at F) | ((with_reducible apply fSc F); exact rfl; exact rfl; (go_simp; exact rfl); (exact tL); (first | (with_reducible exact scBool) | (with_reducible exact scU32)); exact rfl; (first | (with_reducible exact intC_limb (by assumption)) | (with_reducible exact intC_neg _ _) | exact rfl); (first | (with_reducible exact intC_set0 _ _ _) | (with_reducible exact intC_setL (by assumption)) | ((simp only [z6, z1, z2]); exact rfl) | exact rfl); clear F; intro W F; simp only [z7, z8] at F))
    all_goals
      go_meet
      first
      | exact ⟨⟨j, rfl, by omega⟩, F⟩
      | exact ⟨⟨bits, rfl, by omega⟩, F⟩
      | exact ⟨⟨1024, rfl, by omega⟩, F⟩
  case rest =>
  clear F
  obtain ⟨⟨q, rfl, hq⟩, F⟩ := hcut
  go_wp2_with (first | go_skip | ((with_reducible apply fL F); exact rfl; exact rfl; (exact tL); (exact tR3)) | ((with_reducible apply fLm F); exact rfl; exact rfl; (exact tL); (exact tM3); (exact tR3)) | ((with_reducible apply fSli F slInt); exact rfl; exact rfl; exact rfl; decide; decide; (go_simp; exact rfl); exact rfl) | ((with_reducible apply fA_int F); exact rfl) | ((with_reducible apply fS F); exact rfl; exact rfl; exact rfl; (exact tL); (exact tR3); (exact tS2); clear F; intro W F; simp only [z7, z8] at F) | ((with_reducible apply fSc F); exact rfl; exact rfl; (go_simp; exact rfl); (exact tL); (first | (with_reducible exact scBool) | (with_reducible exact scU32)); exact rfl; (first | (with_reducible exact intC_limb (by assumption)) | (with_reducible exact intC_neg _ _) | exact rfl); (first | (with_reducible exact intC_set0 _ _ _) | (with_reducible exact intC_setL (by assumption)) | ((simp only [z6, z1, z2]); exact rfl) | exact rfl); clear F; intro W F; simp only [z7, z8] at F))
  have HQ := Lib.hid (And.intro hb hq)
  have hq2 : q ≤ 1024 := by omega
  clear hb hq
  go_loopw [7, 8, 9] (fun iv v8 v9 wr => ∃ (i m : Nat) (u : World), iv = .int .i64 i ∧ i ≤ 32 ∧ m < bp i ∧ m < 2 ^ q ∧ Tp w u B b (N + 1 + 2 * (32 - i)) ∧ Fr u wr [(b5, intC false m, 29), (b4, intC false 0, 29)]) (fun iv v8 v9 _ => 33 - (intOf iv).toNat)
  case atStart => exact ⟨0, 0, u, rfl, by omega, bp_pos 0, Nat.pow_pos (by decide), T.less (by omega), F⟩
  case round =>
    clear F T
    obtain ⟨i, m, u, rfl, hi, hm, hm2, T, F⟩ := hrel
    have HM := Lib.hid (And.intro hm hm2)
    clear hm hm2
    by_cases hlt : 32 * i < q
    · have hi2 : i < 32 := by omega
      have e1 : N + 1 + 2 * (32 - i) = (N + 1 + 2 * (32 - (i + 1))) + 2 := by omega
      rw [e1] at T
      obtain ⟨M, hM⟩ : ∃ M, N + 1 + 2 * (32 - (i + 1)) = M := ⟨_, rfl⟩
      rw [hM] at T
      have HMM := Lib.hid hM
      clear e1 hM
      have w1 : RowKit.wrap64 (32 * (i : Int)) = 32 * (i : Int) := by unfold RowKit.wrap64; omega
      have t1 : decide (32 * (i : Int) < (q : Int)) = true := decide_eq_true (by omega)
      go_upto_block 2 with (first | go_skip | ((go_at_call 16); (with_reducible refine fr_tap F T (tnext _ (by decide) (by decide) (T.at F)) ?_); (try clear F T); (rintro _ u W ⟨k, rfl, hk⟩ T F); (try dsimp only)) | ((with_reducible apply fL F); exact rfl; exact rfl; (exact tL); (exact tR3)) | ((with_reducible apply fLm F); exact rfl; exact rfl; (exact tL); (exact tM3); (exact tR3)) | ((with_reducible apply fSli F slInt); exact rfl; exact rfl; exact rfl; decide; decide; (go_simp; exact rfl); exact rfl) | ((with_reducible apply fA_int F); exact rfl) | ((with_reducible apply fS F); exact rfl; exact rfl; exact rfl; (exact tL); (exact tR3); (exact tS2); clear F; intro W F; simp only [z7, z8] at F) | ((with_reducible apply fSc F); exact rfl; exact rfl; (go_simp; exact rfl); (exact tL); (first | (with_reducible exact scBool) | (with_reducible exact scU32)); exact rfl; (first | (with_reducible exact intC_limb (by assumption)) | (with_reducible exact intC_neg _ _) | exact rfl); (first | (with_reducible exact intC_set0 _ _ _) | (with_reducible exact intC_setL (by assumption)) | ((simp only [z6, z1, z2]); exact rfl) | exact rfl); clear F; intro W F; simp only [z7, z8] at F))
      rename_i k1 hk1 _ _
      clear w1 t1
      go_cut [8] from 33 to 36 (fun v8 wr => (∃ v : Nat, v8 = .int .u32 v ∧ v < 4294967296) ∧ Fr u wr [(b5, intC false m, 29), (b4, intC false 0, 29)])
      case first =>
        by_cases k0 : k = 0
        · subst k0
          go_wp2_with (first | go_skip | ((with_reducible apply fL F); exact rfl; exact rfl; (exact tL); (exact tR3)) | ((with_reducible apply fLm F); exact rfl; exact rfl; (exact tL); (exact tM3); (exact tR3)) | ((with_reducible apply fSli F slInt); exact rfl; exact rfl; exact rfl; decide; decide; (go_simp; exact rfl); exact rfl) | ((with_reducible apply fA_int F); exact rfl) | ((with_reducible apply fS F); exact rfl; exact rfl; exact rfl; (exact tL); (exact tR3); (exact tS2); clear F; intro W F; simp only [z7, z8] at F) | ((with_reducible apply fSc F); exact rfl; exact rfl; (go_simp; exact rfl); (exact tL); (first | (with_reducible exact scBool) | (with_reducible exact scU32)); exact rfl; (first | (with_reducible exact intC_limb (by assumption)) | (with_reducible exact intC_neg _ _) | exact rfl); (first | (with_reducible exact intC_set0 _ _ _) | (with_reducible exact intC_setL (by assumption)) | ((simp only [z6, z1, z2]); exact rfl) | exact rfl); clear F; intro W F; simp only [z7, z8] at F))
          go_meet
          exact ⟨⟨0, rfl, by decide⟩, F⟩
        have c0 : ((k : Int) == 0) = false := beq_eq_false_iff_ne.2 (by omega)
        by_cases k9 : k = 1
        · subst k9
          go_wp2_with (first | go_skip | ((with_reducible apply fL F); exact rfl; exact rfl; (exact tL); (exact tR3)) | ((with_reducible apply fLm F); exact rfl; exact rfl; (exact tL); (exact tM3); (exact tR3)) | ((with_reducible apply fSli F slInt); exact rfl; exact rfl; exact rfl; decide; decide; (go_simp; exact rfl); exact rfl) | ((with_reducible apply fA_int F); exact rfl) | ((with_reducible apply fS F); exact rfl; exact rfl; exact rfl; (exact tL); (exact tR3); (exact tS2); clear F; intro W F; simp only [z7, z8] at F) | ((with_reducible apply fSc F); exact rfl; exact rfl; (go_simp; exact rfl); (exact tL); (first | (with_reducible exact scBool) | (with_reducible exact scU32)); exact rfl; (first | (with_reducible exact intC_limb (by assumption)) | (with_reducible exact intC_neg _ _) | exact rfl); (first | (with_reducible exact intC_set0 _ _ _) | (with_reducible exact intC_setL (by assumption)) | ((simp only [z6, z1, z2]); exact rfl) | exact rfl); clear F; intro W F; simp only [z7, z8] at F))
          go_meet
          exact ⟨⟨4294967295, rfl, by decide⟩, F⟩
        have c1 : ((k : Int) == 1) = false := beq_eq_false_iff_ne.2 (by omega)
        go_wp2_with (first | go_skip | ((with_reducible apply fL F); exact rfl; exact rfl; (exact tL); (exact tR3)) | ((with_reducible apply fLm F); exact rfl; exact rfl; (exact tL); (exact tM3); (exact tR3)) | ((with_reducible apply fSli F slInt); exact rfl; exact rfl; exact rfl; decide; decide; (go_simp; exact rfl); exact rfl) | ((with_reducible apply fA_int F); exact rfl) | ((with_reducible apply fS F); exact rfl; exact rfl; exact rfl; (exact tL); (exact tR3); (exact tS2); clear F; intro W F; simp only [z7, z8] at F) | ((with_reducible apply fSc F); exact rfl; exact rfl; (go_simp; exact rfl); (exact tL); (first | (with_reducible exact scBool) | (with_reducible exact scU32)); exact rfl; (first | (with_reducible exact intC_limb (by assumption)) | (with_reducible exact intC_neg _ _) | exact rfl); (first | (with_reducible exact intC_set0 _ _ _) | (with_reducible exact intC_setL (by assumption)) | ((simp only [z6, z1, z2]); exact rfl) | exact rfl); clear F; intro W F; simp only [z7, z8] at F))
        go_meet
        exact ⟨⟨k1, rfl, by omega⟩, F⟩
      case rest =>
      clear F
      obtain ⟨⟨v, rfl, hv⟩, F⟩ := hcut
      obtain ⟨e, he⟩ : ∃ e, q - 32 * i = e := ⟨_, rfl⟩
      have HE := Lib.hid he
      have he2 : e ≤ 1024 := by omega
      have w1 : RowKit.wrap64 (32 * (i : Int)) = 32 * (i : Int) := by unfold RowKit.wrap64; omega
      go_upto_if 42 with (first | go_skip | ((with_reducible apply fL F); exact rfl; exact rfl; (exact tL); (exact tR3)) | ((with_reducible apply fLm F); exact rfl; exact rfl; (exact tL); (exact tM3); (exact tR3)) | ((with_reducible apply fSli F slInt); exact rfl; exact rfl; exact rfl; decide; decide; (go_simp; exact rfl); exact rfl) | ((with_reducible apply fA_int F); exact rfl) | ((with_reducible apply fS F); exact rfl; exact rfl; exact rfl; (exact tL); (exact tR3); (exact tS2); clear F; intro W F; simp only [z7, z8] at F) | ((with_reducible apply fSc F); exact rfl; exact rfl; (go_simp; exact rfl); (exact tL); (first | (with_reducible exact scBool) | (with_reducible exact scU32)); exact rfl; (first | (with_reducible exact intC_limb (by assumption)) | (with_reducible exact intC_neg _ _) | exact rfl); (first | (with_reducible exact intC_set0 _ _ _) | (with_reducible exact intC_setL (by assumption)) | ((simp only [z6, z1, z2]); exact rfl) | exact rfl); clear F; intro W F; simp only [z7, z8] at F))
      have m2 : (q : Int) - 32 * (i : Int) = (e : Int) := by omega
      simp only [m2]
      clear w1 he m2
      go_cut [8] from 42 to 48 (fun v8 wr => (∃ v : Nat, v8 = .int .u32 v ∧ v < 4294967296 ∧ (e < 32 → v < 2 ^ e)) ∧ Fr u wr [(b5, intC false m, 29), (b4, intC false 0, 29)])
      case first =>
        by_cases h32 : e < 32
        · have t1 : decide ((e : Int) < 32) = true := decide_eq_true (by omega)
          simp only [t1]
          clear t1
          obtain ⟨we1, we2, we3⟩ := wraps (show e ≤ 100000 by omega)
          have hmin2 : min e 32 = e := Nat.min_eq_left (by omega)
          go_wp2_with (first | go_skip | ((with_reducible apply fL F); exact rfl; exact rfl; (exact tL); (exact tR3)) | ((with_reducible apply fLm F); exact rfl; exact rfl; (exact tL); (exact tM3); (exact tR3)) | ((with_reducible apply fSli F slInt); exact rfl; exact rfl; exact rfl; decide; decide; (go_simp; exact rfl); exact rfl) | ((with_reducible apply fA_int F); exact rfl) | ((with_reducible apply fS F); exact rfl; exact rfl; exact rfl; (exact tL); (exact tR3); (exact tS2); clear F; intro W F; simp only [z7, z8] at F) | ((with_reducible apply fSc F); exact rfl; exact rfl; (go_simp; exact rfl); (exact tL); (first | (with_reducible exact scBool) | (with_reducible exact scU32)); exact rfl; (first | (with_reducible exact intC_limb (by assumption)) | (with_reducible exact intC_neg _ _) | exact rfl); (first | (with_reducible exact intC_set0 _ _ _) | (with_reducible exact intC_setL (by assumption)) | ((simp only [z6, z1, z2]); exact rfl) | exact rfl); clear F; intro W F; simp only [z7, z8] at F))
          go_meet
          exact ⟨⟨v % 2 ^ e, by rw [mask_u32 hv h32], Nat.lt_of_le_of_lt (Nat.mod_le _ _) hv, fun _ => Nat.mod_lt _ (Nat.pow_pos (by decide))⟩, F⟩
        · have t1 : decide ((e : Int) < 32) = false := decide_eq_false (by omega)
          simp only [t1]
          clear t1
          go_wp2_with (first | go_skip | ((with_reducible apply fL F); exact rfl; exact rfl; (exact tL); (exact tR3)) | ((with_reducible apply fLm F); exact rfl; exact rfl; (exact tL); (exact tM3); (exact tR3)) | ((with_reducible apply fSli F slInt); exact rfl; exact rfl; exact rfl; decide; decide; (go_simp; exact rfl); exact rfl) | ((with_reducible apply fA_int F); exact rfl) | ((with_reducible apply fS F); exact rfl; exact rfl; exact rfl; (exact tL); (exact tR3); (exact tS2); clear F; intro W F; simp only [z7, z8] at F) | ((with_reducible apply fSc F); exact rfl; exact rfl; (go_simp; exact rfl); (exact tL); (first | (with_reducible exact scBool) | (with_reducible exact scU32)); exact rfl; (first | (with_reducible exact intC_limb (by assumption)) | (with_reducible exact intC_neg _ _) | exact rfl); (first | (with_reducible exact intC_set0 _ _ _) | (with_reducible exact intC_setL (by assumption)) | ((simp only [z6, z1, z2]); exact rfl) | exact rfl); clear F; intro W F; simp only [z7, z8] at F))
          go_meet
          exact ⟨⟨v, rfl, hv, fun h => absurd h h32⟩, F⟩
      case rest =>
      clear F
      obtain ⟨⟨y, rfl, hy, hy2⟩, F⟩ := hcut
      have hi1 : (i : Int) < 32 := by omega
      have hi0 : (0 : Int) ≤ (i : Int) := by omega
      have hstep : setM m i y < bp (i + 1) ∧ setM m i y < 2 ^ q := by
        refine ⟨setM_new_lt HM.out.1 hy, ?_⟩
        have h1 := setM_new_lt HM.out.1 hy
        have he := HE.out
        by_cases h32 : e < 32
        · have h3 := hy2 h32
          rw [setM_new HM.out.1]
          have h4 : m + y * bp i < (y + 1) * bp i := by rw [Nat.add_mul, Nat.one_mul]; have := HM.out.1; omega
          have h5 : (y + 1) * bp i ≤ 2 ^ e * bp i := Nat.mul_le_mul_right _ h3
          have h6 : 2 ^ e * bp i = 2 ^ q := by rw [bp_two, ← Nat.pow_add, show e + 32 * i = q by omega]
          omega
        · refine Nat.lt_of_lt_of_le h1 ?_
          rw [bp_two]
          exact Nat.pow_le_pow_right (by decide) (by omega)
      have HST := Lib.hid hstep
      clear hstep hy2
      go_wp2_with (first | go_skip | ((with_reducible apply fL F); exact rfl; exact rfl; (exact tL); (exact tR3)) | ((with_reducible apply fLm F); exact rfl; exact rfl; (exact tL); (exact tM3); (exact tR3)) | ((with_reducible apply fSli F slInt); exact rfl; exact rfl; exact rfl; decide; decide; (go_simp; exact rfl); exact rfl) | ((with_reducible apply fA_int F); exact rfl) | ((with_reducible apply fS F); exact rfl; exact rfl; exact rfl; (exact tL); (exact tR3); (exact tS2); clear F; intro W F; simp only [z7, z8] at F) | ((with_reducible apply fSc F); exact rfl; exact rfl; (go_simp; exact rfl); (exact tL); (first | (with_reducible exact scBool) | (with_reducible exact scU32)); exact rfl; (first | (with_reducible exact intC_limb (by assumption)) | (with_reducible exact intC_neg _ _) | exact rfl); (first | (with_reducible exact intC_set0 _ _ _) | (with_reducible exact intC_setL (by assumption)) | ((simp only [z6, z1, z2]); exact rfl) | exact rfl); clear F; intro W F; simp only [z7, z8] at F))
      go_roundw
      case rel => exact ⟨i + 1, setM m i y, u, rfl, by omega, HST.out.1, HST.out.2, by rw [HMM.out]; exact T, F⟩
      case measure => simp [intOf]; omega
    · have w1 : RowKit.wrap64 (32 * (i : Int)) = 32 * (i : Int) := by unfold RowKit.wrap64; omega
      have t1 : decide (32 * (i : Int) < (q : Int)) = false := decide_eq_false (by omega)
      replace T := T.less (M := N + 1) (by omega)
      obtain ⟨z, hz⟩ : ∃ z, sgN false m = z := ⟨_, rfl⟩
      have lm : m < bp 32 := Nat.lt_of_lt_of_le HM.out.1 (bp_le hi)
      have g1 := fun w => rsign_any (neg := false) lm hz w
      have HLT := Lib.hid (show m < 2 ^ bits from Nat.lt_of_lt_of_le HM.out.2 (Nat.pow_le_pow_right (by decide) HQ.out.2))
      clear lm
      go_wp2_with (first | go_skip | ((go_at_call 33); (with_reducible refine fr_tap F T (tchance _ _ (by decide) (by decide) (T.at F)) ?_); (try clear F T); (rintro _ u W ⟨(_ | _), rfl⟩ T F); (try dsimp only)) | ((go_at_call 77); (with_reducible refine fr_call F (g1 _) ?_); (clear F; intro W F); (try dsimp only)) | ((with_reducible apply fL F); exact rfl; exact rfl; (exact tL); (exact tR3)) | ((with_reducible apply fLm F); exact rfl; exact rfl; (exact tL); (exact tM3); (exact tR3)) | ((with_reducible apply fSli F slInt); exact rfl; exact rfl; exact rfl; decide; decide; (go_simp; exact rfl); exact rfl) | ((with_reducible apply fA_int F); exact rfl) | ((with_reducible apply fS F); exact rfl; exact rfl; exact rfl; (exact tL); (exact tR3); (exact tS2); clear F; intro W F; simp only [z7, z8] at F) | ((with_reducible apply fSc F); exact rfl; exact rfl; (go_simp; exact rfl); (exact tL); (first | (with_reducible exact scBool) | (with_reducible exact scU32)); exact rfl; (first | (with_reducible exact intC_limb (by assumption)) | (with_reducible exact intC_neg _ _) | exact rfl); (first | (with_reducible exact intC_set0 _ _ _) | (with_reducible exact intC_setL (by assumption)) | ((simp only [z6, z1, z2]); exact rfl) | exact rfl); clear F; intro W F; simp only [z7, z8] at F))
      · exact bodyPost_ret (res_c rfl rfl (Fr.get F tL) (rowInt _ _)) rfl (tap_end T F ⟨_, congrArg Value.agg (intC_sZ (x := false) (a := m) (fun h => absurd h (by decide))), by rw [sZ_abs]; exact HLT.out⟩)
      · refine bodyPost_ret (res_c rfl rfl (Fr.get F tL) (rowInt _ _)) rfl (tap_end T F ⟨_, congrArg Value.agg (intC_sZ (x := z != 0) (a := m) (fun h e => ?_)), by rw [sZ_abs]; exact HLT.out⟩)
        subst e
        rw [← hz] at h
        exact absurd h (by decide)
theorem tint {B b N : Nat} {w : World} (bits : Nat) {z : Int} (hz : z = (bits : Int)) (hb : bits ≤ 1024) (h : TapeAt w B b (N + 67)) : Calls Tryz.prog 86 #[.pointer (some ⟨b, 0, none⟩), .int .i64 z] w (TapP (fun v => ∃ z : Int, v = .agg (IC z) ∧ z.natAbs < 2 ^ bits) B b N w) := by
  subst hz
  exact tint0 hb h
end
section
open Go.RowKit
section
variable {P : Program} {md : Region.Mode} {ops : Array Oper} {Q : Exit → Act → World → Prop} {n m fuel : Nat} {a : Act} {w : World} {ds : List Deferred}
theorem dg_m5 {α0 α1 α2 α3 α4 : Type} (f' m' : Nat) {ts1 : α0 → α1 → α2 → α3 → α4 → List Value} (H : α0 → α1 → α2 → α3 → α4 → World → Prop) (h : (∀ (x0 : α0) (x1 : α1) (x2 : α2) (x3 : α3) (x4 : α4) (W : World), H x0 x1 x2 x3 x4 W → wpAny P md ops Q f' (bm n m') ⟨⟨ts1 x0 x1 x2 x3 x4⟩, ds⟩ W) → wpAny P md ops Q fuel (bm n m) a w) (hr : (∀ (x0 : α0) (x1 : α1) (x2 : α2) (x3 : α3) (x4 : α4) (W : World), H x0 x1 x2 x3 x4 W → wpAny P md ops Q f' (bm n m') ⟨⟨ts1 x0 x1 x2 x3 x4⟩, ds⟩ W)) : wpAny P md ops Q fuel (bm n m) a w := h hr
end
end
section
open Go.RowKit
set_option maxHeartbeats 4000000
def b200 : Nat := 2 ^ 200
theorem b200_32 {z : Int} (h : z.natAbs < 2 ^ 200) : z.natAbs < bp 32 := Nat.lt_trans h (by unfold bp; decide)
theorem b200_15 : b200 < bp 15 := by unfold bp b200; decide
theorem b200_le {x : Nat} (h : x ≤ 10 ^ 15) : x ≤ b200 := Nat.le_trans h (by unfold b200; decide)
def RatV (B : Nat) (v : Value) : Prop := ∃ n d : Int, v = .agg (RC n d) ∧ okZ n d ∧ n.natAbs ≤ B ∧ d.natAbs ≤ B
theorem ratio_mul {k c : Int} (hk : -200 ≤ k ∧ k ≤ 400) (hc : c ∈ [1, 1, 1, 1000, 1000003]) : -1000000000 ≤ k * c ∧ k * c ≤ 1000000000 := by
  simp only [List.mem_cons, List.not_mem_nil, or_false] at hc
  rcases hc with rfl | rfl | rfl | rfl | rfl <;> omega
theorem ratio_den {e : Int} (he : e ∈ [1, 1, 2, 3, 4, 7, 10, 12, 100, 365, 366, 1000, 1000000]) : 1 ≤ e ∧ e ≤ 1000000 := by
  simp only [List.mem_cons, List.not_mem_nil, or_false] at he
  omega
theorem rmake_ok {n d : Int} (hn : n.natAbs < 2 ^ 200) (hd : 0 < d) (hd2 : d.natAbs < 2 ^ 200) (w : World) : Calls Tryz.prog 83 #[.agg (IC n), .agg (IC d)] w (RetP (fun v => ∃ a b : Int, v = .tuple #[.agg (RC a b), .int .i64 0] ∧ RatV b200 (.agg (RC a b))) w) := by
  have h15 := b200_15
  unfold b200 at h15
  obtain ⟨h1, h2⟩ := mkR_ok (n := n) hd (by omega) (by omega)
  have e1 := lowN_abs n d
  have e2 := lowD_abs n d
  exact Calls.retP (rmakeZ (b200_32 hn) (b200_32 hd2) h1 w) ⟨lowN n d, lowD n d, rfl, lowN n d, lowD n d, rfl, h2, by unfold b200; omega, by unfold b200; omega⟩
set_option maxRecDepth 100000 in
theorem tratio {B b N : Nat} {w : World} (h : TapeAt w B b (N + 135)) : Calls Tryz.prog 32 #[.pointer (some ⟨b, 0, none⟩)] w (TapP (RatV b200) B b N w) := by
  have F := Fr.start w
  have T := Tp.start h
  clear h
  go_enter Tryz.func32, Tryz.ntmps32
  go_wp2_with (first | go_skip | ((with_reducible apply fL F); exact rfl; exact rfl; (exact tL); (exact tR3)) | ((with_reducible apply fSli F slInt); exact rfl; exact rfl; exact rfl; decide; decide; (go_simp; exact rfl); exact rfl) | ((with_reducible apply fA_int F); exact rfl) | ((with_reducible apply fA_rat F); exact rfl) | ((with_reducible apply fS F); exact rfl; exact rfl; exact rfl; (exact tL); (exact tR3); (exact tS2); clear F; intro W F; simp only [z7, z8] at F))
  (clear F; intro b2 W F; try simp only [Act.put, z6, z1, z2])
  go_wp2_with (first | go_skip | ((go_at_call 33); (with_reducible refine fr_tap F T (tchance _ _ (by decide) (by decide) (T.at F)) ?_); (try clear F T); (rintro _ u W ⟨(_ | _), rfl⟩ T F); (try dsimp only)) | ((with_reducible apply fL F); exact rfl; exact rfl; (exact tL); (exact tR3)) | ((with_reducible apply fSli F slInt); exact rfl; exact rfl; exact rfl; decide; decide; (go_simp; exact rfl); exact rfl) | ((with_reducible apply fA_int F); exact rfl) | ((with_reducible apply fA_rat F); exact rfl) | ((with_reducible apply fS F); exact rfl; exact rfl; exact rfl; (exact tL); (exact tR3); (exact tS2); clear F; intro W F; simp only [z7, z8] at F))
  · go_wp2_with (first | go_skip | ((go_at_call 12); (with_reducible refine fr_tap F T (trange _ _ (by decide) (by decide) (by decide) (T.at F)) ?_); (try clear F T); (rintro _ u W ⟨k, rfl, hk⟩ T F); (try dsimp only)) | ((with_reducible apply fL F); exact rfl; exact rfl; (exact tL); (exact tR3)) | ((with_reducible apply fSli F slInt); exact rfl; exact rfl; exact rfl; decide; decide; (go_simp; exact rfl); exact rfl) | ((with_reducible apply fA_int F); exact rfl) | ((with_reducible apply fA_rat F); exact rfl) | ((with_reducible apply fS F); exact rfl; exact rfl; exact rfl; (exact tL); (exact tR3); (exact tS2); clear F; intro W F; simp only [z7, z8] at F))
    (clear F; intro b26 W F; try simp only [Act.put, z6, z1, z2])
    go_wp2_with (first | go_skip | ((go_at_call 13); (with_reducible refine fr_tap F T (tpickF [1, 1, 1, 1000, 1000003] F T tL (by with_unfolding_all rfl) (by with_unfolding_all rfl) (by simp) (by simp)) ?_); (try clear F T); (rintro _ u W ⟨c, rfl, hc⟩ T F); (have hkc := ratio_mul hk hc); (clear hc hk); (try dsimp only)) | ((with_reducible apply fL F); exact rfl; exact rfl; (exact tL); (exact tR3)) | ((with_reducible apply fSli F slInt); exact rfl; exact rfl; exact rfl; decide; decide; (go_simp; exact rfl); exact rfl) | ((with_reducible apply fA_int F); exact rfl) | ((with_reducible apply fA_rat F); exact rfl) | ((with_reducible apply fS F); exact rfl; exact rfl; exact rfl; (exact tL); (exact tR3); (exact tS2); clear F; intro W F; simp only [z7, z8] at F))
    (clear F; intro b30 W F; try simp only [Act.put, z6, z1, z2])
    go_wp2_with (first | go_skip | ((go_at_call 13); (with_reducible refine fr_tap F T (tpickF [1, 1, 2, 3, 4, 7, 10, 12, 100, 365, 366, 1000, 1000000] F T tL (by with_unfolding_all rfl) (by with_unfolding_all rfl) (by simp) (by simp)) ?_); (try clear F T); (rintro _ u W ⟨e, rfl, he⟩ T F); (have he2 := ratio_den he); (clear he); (try dsimp only)) | ((go_at_call 11); (with_reducible refine fr_callP F (makeOf_ok (by omega) (by omega) (by omega) _) ?_); (try clear F); (rintro _ W ⟨n, d, rfl, ho⟩ F); (try dsimp only)) | ((with_reducible apply fL F); exact rfl; exact rfl; (exact tL); (exact tR3)) | ((with_reducible apply fSli F slInt); exact rfl; exact rfl; exact rfl; decide; decide; (go_simp; exact rfl); exact rfl) | ((with_reducible apply fA_int F); exact rfl) | ((with_reducible apply fA_rat F); exact rfl) | ((with_reducible apply fS F); exact rfl; exact rfl; exact rfl; (exact tL); (exact tR3); (exact tS2); clear F; intro W F; simp only [z7, z8] at F))
    exact bodyPost_ret (res_c rfl rfl (Fr.get F tL) (rowRC _ _)) rfl (tap_end (T.less (by omega)) F ⟨n, d, rfl, ho.1, b200_le (by have := ho.2.2.1; omega), b200_le (by have := ho.2.2.2.1; omega)⟩)
  · go_wp2_with (first | go_skip | ((go_at_call 86); (with_reducible refine fr_tap F T (tint 200 rfl (by decide) (T.at F)) ?_); (try clear F T); (rintro _ u W ⟨z, rfl, hz⟩ T F); (try dsimp only)) | ((go_at_call 85); (with_reducible refine fr_call F (rabs_any (b200_32 hz) _) ?_); (clear F; intro W F); (try dsimp only)) | ((with_reducible apply fL F); exact rfl; exact rfl; (exact tL); (exact tR3)) | ((with_reducible apply fSli F slInt); exact rfl; exact rfl; exact rfl; decide; decide; (go_simp; exact rfl); exact rfl) | ((with_reducible apply fA_int F); exact rfl) | ((with_reducible apply fA_rat F); exact rfl) | ((with_reducible apply fS F); exact rfl; exact rfl; exact rfl; (exact tL); (exact tR3); (exact tS2); clear F; intro W F; simp only [z7, z8] at F))
    (clear F; intro b3 W F; try simp only [Act.put, z6, z1, z2])
    obtain ⟨sg, hsg⟩ : ∃ s : Int, Int.sign ((z.natAbs : Nat) : Int) = s := ⟨_, rfl⟩
    have g1 : ∀ w, Calls Tryz.prog 77 #[.agg (IC ((z.natAbs : Nat) : Int))] w (RetB (.int .i64 sg) w) := fun w => by rw [← hsg]; exact rsignZ (by simpa using b200_32 hz) w
    go_upto_if 13 with (first | go_skip | ((go_at_call 77); (with_reducible refine fr_call F (g1 _) ?_); (clear F; intro W F); (try dsimp only)) | ((with_reducible apply fL F); exact rfl; exact rfl; (exact tL); (exact tR3)) | ((with_reducible apply fSli F slInt); exact rfl; exact rfl; exact rfl; decide; decide; (go_simp; exact rfl); exact rfl) | ((with_reducible apply fA_int F); exact rfl) | ((with_reducible apply fA_rat F); exact rfl) | ((with_reducible apply fS F); exact rfl; exact rfl; exact rfl; (exact tL); (exact tR3); (exact tS2); clear F; intro W F; simp only [z7, z8] at F))
    go_cut [] from 13 to 14 (fun wr => ∃ x : Int, (0 < x ∧ x.natAbs < 2 ^ 200) ∧ Fr u wr [(b3, IC x, 29), (b2, RC 0 0, 31)])
    case first =>
      have g2 := fun w => rfromZ (n := 1) (by decide) (by decide) w
      by_cases h0 : z = 0
      · subst h0
        obtain rfl : 0 = sg := hsg
        go_wp2_with (first | go_skip | ((go_at_call 80); (with_reducible refine fr_call F (g2 _) ?_); (clear F; intro W F); (try dsimp only)) | ((with_reducible apply fL F); exact rfl; exact rfl; (exact tL); (exact tR3)) | ((with_reducible apply fSli F slInt); exact rfl; exact rfl; exact rfl; decide; decide; (go_simp; exact rfl); exact rfl) | ((with_reducible apply fA_int F); exact rfl) | ((with_reducible apply fA_rat F); exact rfl) | ((with_reducible apply fS F); exact rfl; exact rfl; exact rfl; (exact tL); (exact tR3); (exact tS2); clear F; intro W F; simp only [z7, z8] at F))
        go_meet
        exact ⟨1, by decide, F⟩
      · have h1 : sg = 1 := by rw [← hsg]; exact Int.sign_eq_one_of_pos (by omega)
        subst h1
        go_wp2_with (first | go_skip | ((with_reducible apply fL F); exact rfl; exact rfl; (exact tL); (exact tR3)) | ((with_reducible apply fSli F slInt); exact rfl; exact rfl; exact rfl; decide; decide; (go_simp; exact rfl); exact rfl) | ((with_reducible apply fA_int F); exact rfl) | ((with_reducible apply fA_rat F); exact rfl) | ((with_reducible apply fS F); exact rfl; exact rfl; exact rfl; (exact tL); (exact tR3); (exact tS2); clear F; intro W F; simp only [z7, z8] at F))
        go_meet
        exact ⟨_, ⟨by omega, by omega⟩, F⟩
    case rest =>
    clear F
    obtain ⟨x, hx, F⟩ := hcut
    clear g1 hsg hz
    go_upto_region 5 with (first | go_skip | ((with_reducible apply fL F); exact rfl; exact rfl; (exact tL); (exact tR3)) | ((with_reducible apply fSli F slInt); exact rfl; exact rfl; exact rfl; decide; decide; (go_simp; exact rfl); exact rfl) | ((with_reducible apply fA_int F); exact rfl) | ((with_reducible apply fA_rat F); exact rfl) | ((with_reducible apply fS F); exact rfl; exact rfl; exact rfl; (exact tL); (exact tR3); (exact tS2); clear F; intro W F; simp only [z7, z8] at F))
    try simp only [Act.put, z6, z1, z2]
    refine wp_region_bm 10 (by kernel_rfl) rfl ?_
    replace F := F.drew
    revert F
    generalize World.drew _ = W
    intro F
    (refine dg_take 0 16 1 (v := ?_) rfl (by kernel_rfl) (by kernel_rfl) (by kernel_rfl) (by kernel_rfl) (by kernel_rfl) (fun _ _ _ h => h) (Or.inl ⟨by kernel_rfl, ?_⟩) ?_; rotate_left; (focus (intro w; go_simp; try (with_reducible rfl))); (simp only [z1, z2]))
    apply dg_m5 (f' := 1) (m' := 511) (H := fun (y : Int) (n : Int) (d : Int) (b4 : Nat) (u : World) (W : World) => RatV b200 (.agg (RC n d)) ∧ Tp w u B b N ∧ Fr u W [(b4, RC n d, 31), (b3, IC x, 29), (b2, RC 0 0, 31)])
    · intro M
      refine dg_ready [1, 2, 7] (by kernel_rfl) rfl ?_
      refine dg_want 1 3 rfl (by kernel_rfl) rfl (fun K hK => ?_) ?_
      · skip
        (simp only [z3, z4, z5])
        ((refine ⟨?_⟩); go_simp; (first | ((with_reducible refine fr_tap F T (tint 200 rfl (by decide) (T.at F)) ?_); (try clear F T); (rintro _ u W ⟨y, rfl, hy⟩ T F); (try dsimp only)) | ((with_reducible refine fr_callP F (rmake_ok hy hx.1 hx.2 _) ?_); (try clear F); (rintro _ W ⟨n, d, rfl, ho⟩ F); (try dsimp only)) | skip))
        (refine hK _ _ ?_; clear hK K)
        refine dg_ready [2, 7] (by kernel_rfl) rfl ?_
        refine dg_want 2 7 rfl (by kernel_rfl) rfl (fun K hK => ?_) ?_
        · skip
          (simp only [z3, z4, z5])
          (first | ((with_reducible apply gL F); exact rfl; (exact tL); (exact tR3); go_simp) | ((with_reducible apply gLm F); exact rfl; (exact tL); (exact tM3); (exact tR3); go_simp) | ((refine ⟨?_⟩); go_simp))
          (refine hK _ _ ?_; clear hK K)
          refine dg_ready [3, 7] (by kernel_rfl) rfl ?_
          refine dg_want 3 15 rfl (by kernel_rfl) rfl (fun K hK => ?_) ?_
          · skip
            (simp only [z3, z4, z5])
            ((refine ⟨?_⟩); go_simp; (first | ((with_reducible refine fr_tap F T (tint 200 rfl (by decide) (T.at F)) ?_); (try clear F T); (rintro _ u W ⟨y, rfl, hy⟩ T F); (try dsimp only)) | ((with_reducible refine fr_callP F (rmake_ok hy hx.1 hx.2 _) ?_); (try clear F); (rintro _ W ⟨n, d, rfl, ho⟩ F); (try dsimp only)) | skip))
            (refine hK _ _ ?_; clear hK K)
            (refine dg_take 4 15 31 (v := ?_) rfl (by kernel_rfl) (by kernel_rfl) (by kernel_rfl) (by kernel_rfl) (by kernel_rfl) (fun _ _ _ h => h) (Or.inl ⟨by kernel_rfl, ?_⟩) ?_; rotate_left; (focus (intro w; go_simp; try (with_reducible rfl))); (simp only [z1, z2]))
            (refine dg_take 5 20 63 (v := ?_) rfl (by kernel_rfl) (by kernel_rfl) (by kernel_rfl) (by kernel_rfl) (by kernel_rfl) (fun _ _ _ h => h) (Or.inl ⟨by kernel_rfl, ?_⟩) ?_; rotate_left; (focus (intro w; go_simp; try (with_reducible rfl))); (simp only [z1, z2]))
            (refine dg_take 6 21 127 (v := ?_) rfl (by kernel_rfl) (by kernel_rfl) (by kernel_rfl) (by kernel_rfl) (by kernel_rfl) (fun _ _ _ h => h) (Or.inl ⟨by kernel_rfl, ?_⟩) ?_; rotate_left; (focus (intro w; go_simp; try (with_reducible rfl))); (simp only [z1, z2]))
            refine dg_one 7 255 (by kernel_rfl) rfl (by kernel_rfl) rfl (fun K hK => ?_)
            (simp only [z3, z4, z5])
            (first | ((with_reducible apply gA_rat F)) | ((refine ⟨?_⟩); go_simp))
            ((try clear F); intro b4 W F; (try go_simp))
            (refine hK _ _ ?_; clear hK K)
            refine dg_one 8 511 (by kernel_rfl) rfl (by kernel_rfl) rfl (fun K hK => ?_)
            (simp only [z3, z4, z5])
            (first | ((with_reducible apply gS F); exact rfl; exact rfl; (exact tL); (exact tR3); (exact tS2); (try clear F); intro W F; simp only [z7, z8] at F; go_simp) | ((refine ⟨?_⟩); go_simp))
            (refine hK _ _ ?_; clear hK K)
            exact M y n d b4 u W ⟨ho, T, F⟩
          refine dg_want 7 135 rfl (by kernel_rfl) rfl (fun K hK => ?_) ?_
          · skip
            (simp only [z3, z4, z5])
            (first | ((with_reducible apply gA_rat F)) | ((refine ⟨?_⟩); go_simp))
            ((try clear F); intro b4 W F; (try go_simp))
            (refine hK _ _ ?_; clear hK K)
            refine dg_one 3 143 (by kernel_rfl) rfl (by kernel_rfl) rfl (fun K hK => ?_)
            (simp only [z3, z4, z5])
            ((refine ⟨?_⟩); go_simp; (first | ((with_reducible refine fr_tap F T (tint 200 rfl (by decide) (T.at F)) ?_); (try clear F T); (rintro _ u W ⟨y, rfl, hy⟩ T F); (try dsimp only)) | ((with_reducible refine fr_callP F (rmake_ok hy hx.1 hx.2 _) ?_); (try clear F); (rintro _ W ⟨n, d, rfl, ho⟩ F); (try dsimp only)) | skip))
            (refine hK _ _ ?_; clear hK K)
            refine dg_one 4 159 (by kernel_rfl) rfl (by kernel_rfl) rfl (fun K hK => ?_)
            (simp only [z3, z4, z5])
            ((refine ⟨?_⟩); go_simp)
            (refine hK _ _ ?_; clear hK K)
            (refine dg_take 5 20 191 (v := ?_) rfl (by kernel_rfl) (by kernel_rfl) (by kernel_rfl) (by kernel_rfl) (by kernel_rfl) (fun _ _ _ h => h) (Or.inl ⟨by kernel_rfl, ?_⟩) ?_; rotate_left; (focus (intro w; go_simp; try (with_reducible rfl))); (simp only [z1, z2]))
            (refine dg_take 6 21 255 (v := ?_) rfl (by kernel_rfl) (by kernel_rfl) (by kernel_rfl) (by kernel_rfl) (by kernel_rfl) (fun _ _ _ h => h) (Or.inl ⟨by kernel_rfl, ?_⟩) ?_; rotate_left; (focus (intro w; go_simp; try (with_reducible rfl))); (simp only [z1, z2]))
            refine dg_one 8 511 (by kernel_rfl) rfl (by kernel_rfl) rfl (fun K hK => ?_)
            (simp only [z3, z4, z5])
            (first | ((with_reducible apply gS F); exact rfl; exact rfl; (exact tL); (exact tR3); (exact tS2); (try clear F); intro W F; simp only [z7, z8] at F; go_simp) | ((refine ⟨?_⟩); go_simp))
            (refine hK _ _ ?_; clear hK K)
            exact M y n d b4 u W ⟨ho, T, F⟩
          exact dg_nil
        refine dg_want 7 131 rfl (by kernel_rfl) rfl (fun K hK => ?_) ?_
        · skip
          (simp only [z3, z4, z5])
          (first | ((with_reducible apply gA_rat F)) | ((refine ⟨?_⟩); go_simp))
          ((try clear F); intro b4 W F; (try go_simp))
          (refine hK _ _ ?_; clear hK K)
          refine dg_one 2 135 (by kernel_rfl) rfl (by kernel_rfl) rfl (fun K hK => ?_)
          (simp only [z3, z4, z5])
          (first | ((with_reducible apply gL F); exact rfl; (exact tL); (exact tR3); go_simp) | ((with_reducible apply gLm F); exact rfl; (exact tL); (exact tM3); (exact tR3); go_simp) | ((refine ⟨?_⟩); go_simp))
          (refine hK _ _ ?_; clear hK K)
          refine dg_one 3 143 (by kernel_rfl) rfl (by kernel_rfl) rfl (fun K hK => ?_)
          (simp only [z3, z4, z5])
          ((refine ⟨?_⟩); go_simp; (first | ((with_reducible refine fr_tap F T (tint 200 rfl (by decide) (T.at F)) ?_); (try clear F T); (rintro _ u W ⟨y, rfl, hy⟩ T F); (try dsimp only)) | ((with_reducible refine fr_callP F (rmake_ok hy hx.1 hx.2 _) ?_); (try clear F); (rintro _ W ⟨n, d, rfl, ho⟩ F); (try dsimp only)) | skip))
          (refine hK _ _ ?_; clear hK K)
          refine dg_one 4 159 (by kernel_rfl) rfl (by kernel_rfl) rfl (fun K hK => ?_)
          (simp only [z3, z4, z5])
          ((refine ⟨?_⟩); go_simp)
          (refine hK _ _ ?_; clear hK K)
          (refine dg_take 5 20 191 (v := ?_) rfl (by kernel_rfl) (by kernel_rfl) (by kernel_rfl) (by kernel_rfl) (by kernel_rfl) (fun _ _ _ h => h) (Or.inl ⟨by kernel_rfl, ?_⟩) ?_; rotate_left; (focus (intro w; go_simp; try (with_reducible rfl))); (simp only [z1, z2]))
          (refine dg_take 6 21 255 (v := ?_) rfl (by kernel_rfl) (by kernel_rfl) (by kernel_rfl) (by kernel_rfl) (by kernel_rfl) (fun _ _ _ h => h) (Or.inl ⟨by kernel_rfl, ?_⟩) ?_; rotate_left; (focus (intro w; go_simp; try (with_reducible rfl))); (simp only [z1, z2]))
          refine dg_one 8 511 (by kernel_rfl) rfl (by kernel_rfl) rfl (fun K hK => ?_)
          (simp only [z3, z4, z5])
          (first | ((with_reducible apply gS F); exact rfl; exact rfl; (exact tL); (exact tR3); (exact tS2); (try clear F); intro W F; simp only [z7, z8] at F; go_simp) | ((refine ⟨?_⟩); go_simp))
          (refine hK _ _ ?_; clear hK K)
          exact M y n d b4 u W ⟨ho, T, F⟩
        exact dg_nil
      refine dg_want 2 5 rfl (by kernel_rfl) rfl (fun K hK => ?_) ?_
      · skip
        (simp only [z3, z4, z5])
        (first | ((with_reducible apply gL F); exact rfl; (exact tL); (exact tR3); go_simp) | ((with_reducible apply gLm F); exact rfl; (exact tL); (exact tM3); (exact tR3); go_simp) | ((refine ⟨?_⟩); go_simp))
        (refine hK _ _ ?_; clear hK K)
        refine dg_ready [1, 7] (by kernel_rfl) rfl ?_
        refine dg_want 1 7 rfl (by kernel_rfl) rfl (fun K hK => ?_) ?_
        · skip
          (simp only [z3, z4, z5])
          ((refine ⟨?_⟩); go_simp; (first | ((with_reducible refine fr_tap F T (tint 200 rfl (by decide) (T.at F)) ?_); (try clear F T); (rintro _ u W ⟨y, rfl, hy⟩ T F); (try dsimp only)) | ((with_reducible refine fr_callP F (rmake_ok hy hx.1 hx.2 _) ?_); (try clear F); (rintro _ W ⟨n, d, rfl, ho⟩ F); (try dsimp only)) | skip))
          (refine hK _ _ ?_; clear hK K)
          refine dg_ready [3, 7] (by kernel_rfl) rfl ?_
          refine dg_want 3 15 rfl (by kernel_rfl) rfl (fun K hK => ?_) ?_
          · skip
            (simp only [z3, z4, z5])
            ((refine ⟨?_⟩); go_simp; (first | ((with_reducible refine fr_tap F T (tint 200 rfl (by decide) (T.at F)) ?_); (try clear F T); (rintro _ u W ⟨y, rfl, hy⟩ T F); (try dsimp only)) | ((with_reducible refine fr_callP F (rmake_ok hy hx.1 hx.2 _) ?_); (try clear F); (rintro _ W ⟨n, d, rfl, ho⟩ F); (try dsimp only)) | skip))
            (refine hK _ _ ?_; clear hK K)
            (refine dg_take 4 15 31 (v := ?_) rfl (by kernel_rfl) (by kernel_rfl) (by kernel_rfl) (by kernel_rfl) (by kernel_rfl) (fun _ _ _ h => h) (Or.inl ⟨by kernel_rfl, ?_⟩) ?_; rotate_left; (focus (intro w; go_simp; try (with_reducible rfl))); (simp only [z1, z2]))
            (refine dg_take 5 20 63 (v := ?_) rfl (by kernel_rfl) (by kernel_rfl) (by kernel_rfl) (by kernel_rfl) (by kernel_rfl) (fun _ _ _ h => h) (Or.inl ⟨by kernel_rfl, ?_⟩) ?_; rotate_left; (focus (intro w; go_simp; try (with_reducible rfl))); (simp only [z1, z2]))
            (refine dg_take 6 21 127 (v := ?_) rfl (by kernel_rfl) (by kernel_rfl) (by kernel_rfl) (by kernel_rfl) (by kernel_rfl) (fun _ _ _ h => h) (Or.inl ⟨by kernel_rfl, ?_⟩) ?_; rotate_left; (focus (intro w; go_simp; try (with_reducible rfl))); (simp only [z1, z2]))
            refine dg_one 7 255 (by kernel_rfl) rfl (by kernel_rfl) rfl (fun K hK => ?_)
            (simp only [z3, z4, z5])
            (first | ((with_reducible apply gA_rat F)) | ((refine ⟨?_⟩); go_simp))
            ((try clear F); intro b4 W F; (try go_simp))
            (refine hK _ _ ?_; clear hK K)
            refine dg_one 8 511 (by kernel_rfl) rfl (by kernel_rfl) rfl (fun K hK => ?_)
            (simp only [z3, z4, z5])
            (first | ((with_reducible apply gS F); exact rfl; exact rfl; (exact tL); (exact tR3); (exact tS2); (try clear F); intro W F; simp only [z7, z8] at F; go_simp) | ((refine ⟨?_⟩); go_simp))
            (refine hK _ _ ?_; clear hK K)
            exact M y n d b4 u W ⟨ho, T, F⟩
          refine dg_want 7 135 rfl (by kernel_rfl) rfl (fun K hK => ?_) ?_
          · skip
            (simp only [z3, z4, z5])
            (first | ((with_reducible apply gA_rat F)) | ((refine ⟨?_⟩); go_simp))
            ((try clear F); intro b4 W F; (try go_simp))
            (refine hK _ _ ?_; clear hK K)
            refine dg_one 3 143 (by kernel_rfl) rfl (by kernel_rfl) rfl (fun K hK => ?_)
            (simp only [z3, z4, z5])
            ((refine ⟨?_⟩); go_simp; (first | ((with_reducible refine fr_tap F T (tint 200 rfl (by decide) (T.at F)) ?_); (try clear F T); (rintro _ u W ⟨y, rfl, hy⟩ T F); (try dsimp only)) | ((with_reducible refine fr_callP F (rmake_ok hy hx.1 hx.2 _) ?_); (try clear F); (rintro _ W ⟨n, d, rfl, ho⟩ F); (try dsimp only)) | skip))
            (refine hK _ _ ?_; clear hK K)
            refine dg_one 4 159 (by kernel_rfl) rfl (by kernel_rfl) rfl (fun K hK => ?_)
            (simp only [z3, z4, z5])
            ((refine ⟨?_⟩); go_simp)
            (refine hK _ _ ?_; clear hK K)
            (refine dg_take 5 20 191 (v := ?_) rfl (by kernel_rfl) (by kernel_rfl) (by kernel_rfl) (by kernel_rfl) (by kernel_rfl) (fun _ _ _ h => h) (Or.inl ⟨by kernel_rfl, ?_⟩) ?_; rotate_left; (focus (intro w; go_simp; try (with_reducible rfl))); (simp only [z1, z2]))
            (refine dg_take 6 21 255 (v := ?_) rfl (by kernel_rfl) (by kernel_rfl) (by kernel_rfl) (by kernel_rfl) (by kernel_rfl) (fun _ _ _ h => h) (Or.inl ⟨by kernel_rfl, ?_⟩) ?_; rotate_left; (focus (intro w; go_simp; try (with_reducible rfl))); (simp only [z1, z2]))
            refine dg_one 8 511 (by kernel_rfl) rfl (by kernel_rfl) rfl (fun K hK => ?_)
            (simp only [z3, z4, z5])
            (first | ((with_reducible apply gS F); exact rfl; exact rfl; (exact tL); (exact tR3); (exact tS2); (try clear F); intro W F; simp only [z7, z8] at F; go_simp) | ((refine ⟨?_⟩); go_simp))
            (refine hK _ _ ?_; clear hK K)
            exact M y n d b4 u W ⟨ho, T, F⟩
          exact dg_nil
        refine dg_want 7 133 rfl (by kernel_rfl) rfl (fun K hK => ?_) ?_
        · skip
          (simp only [z3, z4, z5])
          (first | ((with_reducible apply gA_rat F)) | ((refine ⟨?_⟩); go_simp))
          ((try clear F); intro b4 W F; (try go_simp))
          (refine hK _ _ ?_; clear hK K)
          refine dg_one 1 135 (by kernel_rfl) rfl (by kernel_rfl) rfl (fun K hK => ?_)
          (simp only [z3, z4, z5])
          ((refine ⟨?_⟩); go_simp; (first | ((with_reducible refine fr_tap F T (tint 200 rfl (by decide) (T.at F)) ?_); (try clear F T); (rintro _ u W ⟨y, rfl, hy⟩ T F); (try dsimp only)) | ((with_reducible refine fr_callP F (rmake_ok hy hx.1 hx.2 _) ?_); (try clear F); (rintro _ W ⟨n, d, rfl, ho⟩ F); (try dsimp only)) | skip))
          (refine hK _ _ ?_; clear hK K)
          refine dg_one 3 143 (by kernel_rfl) rfl (by kernel_rfl) rfl (fun K hK => ?_)
          (simp only [z3, z4, z5])
          ((refine ⟨?_⟩); go_simp; (first | ((with_reducible refine fr_tap F T (tint 200 rfl (by decide) (T.at F)) ?_); (try clear F T); (rintro _ u W ⟨y, rfl, hy⟩ T F); (try dsimp only)) | ((with_reducible refine fr_callP F (rmake_ok hy hx.1 hx.2 _) ?_); (try clear F); (rintro _ W ⟨n, d, rfl, ho⟩ F); (try dsimp only)) | skip))
          (refine hK _ _ ?_; clear hK K)
          refine dg_one 4 159 (by kernel_rfl) rfl (by kernel_rfl) rfl (fun K hK => ?_)
          (simp only [z3, z4, z5])
          ((refine ⟨?_⟩); go_simp)
          (refine hK _ _ ?_; clear hK K)
          (refine dg_take 5 20 191 (v := ?_) rfl (by kernel_rfl) (by kernel_rfl) (by kernel_rfl) (by kernel_rfl) (by kernel_rfl) (fun _ _ _ h => h) (Or.inl ⟨by kernel_rfl, ?_⟩) ?_; rotate_left; (focus (intro w; go_simp; try (with_reducible rfl))); (simp only [z1, z2]))
          (refine dg_take 6 21 255 (v := ?_) rfl (by kernel_rfl) (by kernel_rfl) (by kernel_rfl) (by kernel_rfl) (by kernel_rfl) (fun _ _ _ h => h) (Or.inl ⟨by kernel_rfl, ?_⟩) ?_; rotate_left; (focus (intro w; go_simp; try (with_reducible rfl))); (simp only [z1, z2]))
          refine dg_one 8 511 (by kernel_rfl) rfl (by kernel_rfl) rfl (fun K hK => ?_)
          (simp only [z3, z4, z5])
          (first | ((with_reducible apply gS F); exact rfl; exact rfl; (exact tL); (exact tR3); (exact tS2); (try clear F); intro W F; simp only [z7, z8] at F; go_simp) | ((refine ⟨?_⟩); go_simp))
          (refine hK _ _ ?_; clear hK K)
          exact M y n d b4 u W ⟨ho, T, F⟩
        exact dg_nil
      refine dg_want 7 129 rfl (by kernel_rfl) rfl (fun K hK => ?_) ?_
      · skip
        (simp only [z3, z4, z5])
        (first | ((with_reducible apply gA_rat F)) | ((refine ⟨?_⟩); go_simp))
        ((try clear F); intro b4 W F; (try go_simp))
        (refine hK _ _ ?_; clear hK K)
        refine dg_ready [1, 2] (by kernel_rfl) rfl ?_
        refine dg_want 1 131 rfl (by kernel_rfl) rfl (fun K hK => ?_) ?_
        · skip
          (simp only [z3, z4, z5])
          ((refine ⟨?_⟩); go_simp; (first | ((with_reducible refine fr_tap F T (tint 200 rfl (by decide) (T.at F)) ?_); (try clear F T); (rintro _ u W ⟨y, rfl, hy⟩ T F); (try dsimp only)) | ((with_reducible refine fr_callP F (rmake_ok hy hx.1 hx.2 _) ?_); (try clear F); (rintro _ W ⟨n, d, rfl, ho⟩ F); (try dsimp only)) | skip))
          (refine hK _ _ ?_; clear hK K)
          refine dg_one 2 135 (by kernel_rfl) rfl (by kernel_rfl) rfl (fun K hK => ?_)
          (simp only [z3, z4, z5])
          (first | ((with_reducible apply gL F); exact rfl; (exact tL); (exact tR3); go_simp) | ((with_reducible apply gLm F); exact rfl; (exact tL); (exact tM3); (exact tR3); go_simp) | ((refine ⟨?_⟩); go_simp))
          (refine hK _ _ ?_; clear hK K)
          refine dg_one 3 143 (by kernel_rfl) rfl (by kernel_rfl) rfl (fun K hK => ?_)
          (simp only [z3, z4, z5])
          ((refine ⟨?_⟩); go_simp; (first | ((with_reducible refine fr_tap F T (tint 200 rfl (by decide) (T.at F)) ?_); (try clear F T); (rintro _ u W ⟨y, rfl, hy⟩ T F); (try dsimp only)) | ((with_reducible refine fr_callP F (rmake_ok hy hx.1 hx.2 _) ?_); (try clear F); (rintro _ W ⟨n, d, rfl, ho⟩ F); (try dsimp only)) | skip))
          (refine hK _ _ ?_; clear hK K)
          refine dg_one 4 159 (by kernel_rfl) rfl (by kernel_rfl) rfl (fun K hK => ?_)
          (simp only [z3, z4, z5])
          ((refine ⟨?_⟩); go_simp)
          (refine hK _ _ ?_; clear hK K)
          (refine dg_take 5 20 191 (v := ?_) rfl (by kernel_rfl) (by kernel_rfl) (by kernel_rfl) (by kernel_rfl) (by kernel_rfl) (fun _ _ _ h => h) (Or.inl ⟨by kernel_rfl, ?_⟩) ?_; rotate_left; (focus (intro w; go_simp; try (with_reducible rfl))); (simp only [z1, z2]))
          (refine dg_take 6 21 255 (v := ?_) rfl (by kernel_rfl) (by kernel_rfl) (by kernel_rfl) (by kernel_rfl) (by kernel_rfl) (fun _ _ _ h => h) (Or.inl ⟨by kernel_rfl, ?_⟩) ?_; rotate_left; (focus (intro w; go_simp; try (with_reducible rfl))); (simp only [z1, z2]))
          refine dg_one 8 511 (by kernel_rfl) rfl (by kernel_rfl) rfl (fun K hK => ?_)
          (simp only [z3, z4, z5])
          (first | ((with_reducible apply gS F); exact rfl; exact rfl; (exact tL); (exact tR3); (exact tS2); (try clear F); intro W F; simp only [z7, z8] at F; go_simp) | ((refine ⟨?_⟩); go_simp))
          (refine hK _ _ ?_; clear hK K)
          exact M y n d b4 u W ⟨ho, T, F⟩
        refine dg_want 2 133 rfl (by kernel_rfl) rfl (fun K hK => ?_) ?_
        · skip
          (simp only [z3, z4, z5])
          (first | ((with_reducible apply gL F); exact rfl; (exact tL); (exact tR3); go_simp) | ((with_reducible apply gLm F); exact rfl; (exact tL); (exact tM3); (exact tR3); go_simp) | ((refine ⟨?_⟩); go_simp))
          (refine hK _ _ ?_; clear hK K)
          refine dg_one 1 135 (by kernel_rfl) rfl (by kernel_rfl) rfl (fun K hK => ?_)
          (simp only [z3, z4, z5])
          ((refine ⟨?_⟩); go_simp; (first | ((with_reducible refine fr_tap F T (tint 200 rfl (by decide) (T.at F)) ?_); (try clear F T); (rintro _ u W ⟨y, rfl, hy⟩ T F); (try dsimp only)) | ((with_reducible refine fr_callP F (rmake_ok hy hx.1 hx.2 _) ?_); (try clear F); (rintro _ W ⟨n, d, rfl, ho⟩ F); (try dsimp only)) | skip))
          (refine hK _ _ ?_; clear hK K)
          refine dg_one 3 143 (by kernel_rfl) rfl (by kernel_rfl) rfl (fun K hK => ?_)
          (simp only [z3, z4, z5])
          ((refine ⟨?_⟩); go_simp; (first | ((with_reducible refine fr_tap F T (tint 200 rfl (by decide) (T.at F)) ?_); (try clear F T); (rintro _ u W ⟨y, rfl, hy⟩ T F); (try dsimp only)) | ((with_reducible refine fr_callP F (rmake_ok hy hx.1 hx.2 _) ?_); (try clear F); (rintro _ W ⟨n, d, rfl, ho⟩ F); (try dsimp only)) | skip))
          (refine hK _ _ ?_; clear hK K)
          refine dg_one 4 159 (by kernel_rfl) rfl (by kernel_rfl) rfl (fun K hK => ?_)
          (simp only [z3, z4, z5])
          ((refine ⟨?_⟩); go_simp)
          (refine hK _ _ ?_; clear hK K)
          (refine dg_take 5 20 191 (v := ?_) rfl (by kernel_rfl) (by kernel_rfl) (by kernel_rfl) (by kernel_rfl) (by kernel_rfl) (fun _ _ _ h => h) (Or.inl ⟨by kernel_rfl, ?_⟩) ?_; rotate_left; (focus (intro w; go_simp; try (with_reducible rfl))); (simp only [z1, z2]))
          (refine dg_take 6 21 255 (v := ?_) rfl (by kernel_rfl) (by kernel_rfl) (by kernel_rfl) (by kernel_rfl) (by kernel_rfl) (fun _ _ _ h => h) (Or.inl ⟨by kernel_rfl, ?_⟩) ?_; rotate_left; (focus (intro w; go_simp; try (with_reducible rfl))); (simp only [z1, z2]))
          refine dg_one 8 511 (by kernel_rfl) rfl (by kernel_rfl) rfl (fun K hK => ?_)
          (simp only [z3, z4, z5])
          (first | ((with_reducible apply gS F); exact rfl; exact rfl; (exact tL); (exact tR3); (exact tS2); (try clear F); intro W F; simp only [z7, z8] at F; go_simp) | ((refine ⟨?_⟩); go_simp))
          (refine hK _ _ ?_; clear hK K)
          exact M y n d b4 u W ⟨ho, T, F⟩
        exact dg_nil
      exact dg_nil
    clear F T
    intro y n d b4 u W hM
    obtain ⟨ho, T, F⟩ := hM
    refine dg_one 9 1023 (by kernel_rfl) rfl (by kernel_rfl) rfl (fun K hK => ?_)
    (simp only [z3, z4, z5])
    ((refine ⟨?_⟩); go_simp)
    (refine hK _ _ ?_; clear hK K)
    refine dg_end (by kernel_rfl) ?_ _
    go_wp2_with (first | go_skip | ((with_reducible apply fL F); exact rfl; exact rfl; (exact tL); (exact tR3)) | ((with_reducible apply fSli F slInt); exact rfl; exact rfl; exact rfl; decide; decide; (go_simp; exact rfl); exact rfl) | ((with_reducible apply fA_int F); exact rfl) | ((with_reducible apply fA_rat F); exact rfl) | ((with_reducible apply fS F); exact rfl; exact rfl; exact rfl; (exact tL); (exact tR3); (exact tS2); clear F; intro W F; simp only [z7, z8] at F))
    exact bodyPost_ret (res_c rfl rfl (Fr.get F tL) (rowRC _ _)) rfl (tap_end T F ho)
end
end Go.Proofs.YtpaodheilchfnaaGreatDoor
