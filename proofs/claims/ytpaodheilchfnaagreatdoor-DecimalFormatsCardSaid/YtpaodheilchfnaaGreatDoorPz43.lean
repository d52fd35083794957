/- What the laws lean on. -/
import Derived.Test.YtpaodheilchfnaaGreatDoorPz27
import Derived.Test.YtpaodheilchfnaaGreatDoorPz31
import Derived.Test.YtpaodheilchfnaaGreatDoorPz32
import Derived.Test.YtpaodheilchfnaaGreatDoorPz37
import Derived.Test.YtpaodheilchfnaaGreatDoorPz38
namespace Go.Proofs.YtpaodheilchfnaaGreatDoor
set_option linter.unusedVariables false
set_option linter.unusedSimpArgs false
section
open Go.RowKit
set_option maxHeartbeats 4000000
def strOf : Value → ByteArray
  | .string s => s
  | _ => ⟨#[]⟩
theorem digit_cut : ∀ d : Fin 10, (⟨#[48, 49, 50, 51, 52, 53, 54, 55, 56, 57]⟩ : ByteArray).extract d.val (d.val + 1) = bs [UInt8.ofNat (48 + d.val)] := by decide +kernel
theorem digit_cut' {d : Nat} (h : d < 10) : (⟨#[48, 49, 50, 51, 52, 53, 54, 55, 56, 57]⟩ : ByteArray).extract d (d + 1) = bs [UInt8.ofNat (48 + d)] := digit_cut ⟨d, h⟩
theorem op_slice {P : Program} {a : Act} {W : World} {K : Act → World → Prop} {Q : Exit → Act → World → Prop} {o : Oper} {T : TypeId} {x y z : Operand} {s r : ByteArray} {k k' : IntKind} {i j : Nat} (hu : P.underlying T = some .string) (ho : o.op = .slice T x (some y) (some z) none) (hx : a.eval x = .string s) (hy : a.eval y = .int k i) (hz : a.eval z = .int k' j) (h1 : i ≤ j) (h2 : j ≤ s.size) (hr : s.extract i j = r) (hk : K (a.put o.dst (.string r)) W) : OpW P o a W K Q := by
  have h := run_slice_string (P := P) (w := W) T s k k' (i : Int) (j : Int) hu (by omega) (by omega) (by omega)
  rw [Int.toNat_natCast, Int.toNat_natCast, hr] at h
  have hrun : (execOp a.eval o).run P W = .ok (.value (.string r)) W := by
    unfold execOp
    simp only [ho, hx, hy, hz, Option.map_some, Option.map_none, Sem.run_bind, run_sliceAt_string W T _ _ _ _ hu, h, Result.andThen_ok]
    rfl
  refine ⟨?_⟩
  unfold Oper.wp
  rw [hrun]
  exact hk
set_option maxRecDepth 100000 in
theorem fSl {a : Act} {W : World} {Q : Exit → Act → World → Prop} {x y z : Operand} {ops : Array Oper} {rest : List Oper} {dst : Option Tmp} {ty : TypeId} {pos : String} {af : Array Edge} {gd : Option (Nat × Bool)} {s r : ByteArray} {k k' : IntKind} {i j : Nat} (hw : Region.wanted ⟨dst, .slice 9 x (some y) (some z) none, ty, pos, af, gd⟩ (yielded ops a.tmps) = true) (hx : a.eval x = .string s) (hy : a.eval y = .int k i) (hz : a.eval z = .int k' j) (h1 : i ≤ j) (h2 : j ≤ s.size) (hr : s.extract i j = r) (hk : wpList Tryz.prog ops Q rest (a.put dst (.string r)) W) : wpList Tryz.prog ops Q (⟨dst, .slice 9 x (some y) (some z) none, ty, pos, af, gd⟩ :: rest) a W :=
  wpList_want hw fun K hK => (op_slice Tryz.underlying9 rfl hx hy hz h1 h2 hr (hK _ _ hk)).out
theorem itoa_leD {z : Int} (h0 : z ≠ 0) : Lib.itoa z = if z < 0 then 45 :: (leD z.natAbs).reverse else (leD z.natAbs).reverse := by
  unfold Lib.itoa
  by_cases h : z < 0
  · rw [if_pos h, if_pos h, dec_leD _ (by omega)]
  · rw [if_neg h, if_neg h, show z.toNat = z.natAbs by omega, dec_leD _ (by omega)]
set_option maxRecDepth 100000 in
theorem rformat_any {z : Int} (hz : z.natAbs < bp 32) (w : World) : Calls Tryz.prog 136 #[.agg (IC z)] w (RetB (.string (bs (Lib.itoa z))) w) := by
  have F := Fr.start w
  obtain ⟨r, hr⟩ : ∃ r, Lib.itoa z = r := ⟨_, rfl⟩
  rw [hr]
  by_cases h0 : z = 0
  · subst h0
    have hr2 : bs [48] = bs r := by rw [← hr]; decide +kernel
    have e0 : bs [48] = ⟨#[48]⟩ := rfl
    rw [e0] at hr2
    have gz := fun w => rzero_any (m := 0) (z := true) (by decide) rfl w
    clear hr
    go_enter Tryz.func136, Tryz.ntmps136
    go_wp2_with (first | go_skip | ((with_reducible apply fL F); exact rfl; exact rfl; (exact tL); (exact tR3)) | ((with_reducible apply fLm F); exact rfl; exact rfl; (exact tL); (exact tM3); (exact tR3)) | ((with_reducible apply fA_int F); exact rfl) | ((with_reducible apply fX_int F); exact rfl; exact rfl) | ((with_reducible apply fS F); exact rfl; exact rfl; exact rfl; (exact tL); (exact tR3); (exact tS2); clear F; intro W F; simp only [z7, z8] at F))
    (clear F; intro b1 W F; try simp only [Act.put, z6, z1, z2])
    go_wp2_with (first | go_skip | ((go_at_call 125); (with_reducible refine fr_call F (gz _) ?_); (clear F; intro W F); (try dsimp only)) | ((with_reducible apply fL F); exact rfl; exact rfl; (exact tL); (exact tR3)) | ((with_reducible apply fLm F); exact rfl; exact rfl; (exact tL); (exact tM3); (exact tR3)) | ((with_reducible apply fA_int F); exact rfl) | ((with_reducible apply fX_int F); exact rfl; exact rfl) | ((with_reducible apply fS F); exact rfl; exact rfl; exact rfl; (exact tL); (exact tR3); (exact tS2); clear F; intro W F; simp only [z7, z8] at F))
    go_ret
    exact ⟨by rw [← hr2]; rfl, F.below⟩
  have hA := leD_len 32 z.natAbs hz
  have hr2 := itoa_leD h0
  rw [hr] at hr2
  have gz := fun w => rzero_any (z := false) hz (decide_eq_false (by omega)) w
  have ga := fun w => rabs_any hz w
  have gf := fun w => rfromZ (n := 10) (by decide) (by decide) w
  obtain ⟨E, hE⟩ : ∃ E, (leD z.natAbs).reverse = E := ⟨_, rfl⟩
  obtain ⟨A, hAA⟩ : ∃ A, z.natAbs = A := ⟨_, rfl⟩
  rw [hE] at hr2
  have hEL : E.length ≤ 320 := by rw [← hE, List.length_reverse]; exact hA
  rw [hAA] at hz ga hE
  have HS := Lib.hid (And.intro hz (And.intro hE (And.intro hr2 hEL)))
  have cx := IC_ng z
  clear hA hr hE hr2 hz hAA h0 hEL
  go_enter Tryz.func136, Tryz.ntmps136
  go_wp2_with (first | go_skip | ((with_reducible apply fL F); exact rfl; exact rfl; (exact tL); (exact tR3)) | ((with_reducible apply fLm F); exact rfl; exact rfl; (exact tL); (exact tM3); (exact tR3)) | ((with_reducible apply fA_int F); exact rfl) | ((with_reducible apply fX_int F); exact rfl; exact rfl) | ((with_reducible apply fS F); exact rfl; exact rfl; exact rfl; (exact tL); (exact tR3); (exact tS2); clear F; intro W F; simp only [z7, z8] at F))
  (clear F; intro b1 W F; try simp only [Act.put, z6, z1, z2])
  go_wp2_with (first | go_skip | ((go_at_call 125); (with_reducible refine fr_call F (gz _) ?_); (clear F; intro W F); (try dsimp only)) | ((go_at_call 85); (with_reducible refine fr_call F (ga _) ?_); (clear F; intro W F); (try dsimp only)) | ((with_reducible apply fL F); exact rfl; exact rfl; (exact tL); (exact tR3)) | ((with_reducible apply fLm F); exact rfl; exact rfl; (exact tL); (exact tM3); (exact tR3)) | ((with_reducible apply fA_int F); exact rfl) | ((with_reducible apply fX_int F); exact rfl; exact rfl) | ((with_reducible apply fS F); exact rfl; exact rfl; exact rfl; (exact tL); (exact tR3); (exact tS2); clear F; intro W F; simp only [z7, z8] at F))
  (clear F; intro b4 W F; try simp only [Act.put, z6, z1, z2])
  go_wp2_with (first | go_skip | ((with_reducible apply fL F); exact rfl; exact rfl; (exact tL); (exact tR3)) | ((with_reducible apply fLm F); exact rfl; exact rfl; (exact tL); (exact tM3); (exact tR3)) | ((with_reducible apply fA_int F); exact rfl) | ((with_reducible apply fX_int F); exact rfl; exact rfl) | ((with_reducible apply fS F); exact rfl; exact rfl; exact rfl; (exact tL); (exact tR3); (exact tS2); clear F; intro W F; simp only [z7, z8] at F))
  clear gz ga
  go_loopw [3, 4] (fun sv pv wr => ∃ (b m : Nat) (L : List UInt8), m < bp 32 ∧ sv = .string (bs L) ∧ pv = .pointer (some ⟨b, 0, none⟩) ∧ (leD m).reverse ++ L = E ∧ Fr w wr [(b, IC (m : Nat), 29), (b1, IC z, 29)]) (fun sv _ _ => E.length - (strOf sv).size)
  case atStart => exact ⟨b4, A, [], HS.out.1, rfl, rfl, by rw [List.append_nil]; exact HS.out.2.1, F⟩
  case round =>
    clear F
    obtain ⟨b, m, L, hm, rfl, rfl, hL, F⟩ := hrel
    by_cases h0 : m = 0
    · subst h0
      have hr := HS.out.2.2.1
      rw [leD_zero, List.reverse_nil, List.nil_append] at hL
      subst hL
      have gz := fun w => rzero_any (m := 0) (z := true) (by decide) rfl w
      have hLL := HS.out.2.2.2
      have e3 : bs [45] ++ bs L = bs (45 :: L) := bs_append [45] L
      have e5 : bs [45] = ⟨#[45]⟩ := rfl
      rw [e5] at e3
      have sL := bs_size L
      obtain ⟨k, hk⟩ : ∃ k, L.length = k := ⟨_, rfl⟩
      rw [hk] at sL hLL
      have k1 : (9223372036854775807 < 1 + k) = False := by rw [eq_iff_iff, iff_false]; omega
      have c1 : ∀ W LL, Fr w W ((b, IC ((0 : Nat) : Int), 29) :: (b1, IC z, 29) :: LL) → W.cell? ⟨b1, 0, none⟩ = some (.bool (decide (z < 0))) := fun W LL h => (h.get (b := b1) tL).cell cx
      clear HS hk hLL
      go_upto_region 11 with (first | go_skip | ((go_at_call 125); (with_reducible refine fr_call F (gz _) ?_); (clear F; intro W F); (try dsimp only)) | ((with_reducible apply fL F); exact rfl; exact rfl; (exact tL); (exact tR3)) | ((with_reducible apply fLm F); exact rfl; exact rfl; (exact tL); (exact tM3); (exact tR3)) | ((with_reducible apply fA_int F); exact rfl) | ((with_reducible apply fX_int F); exact rfl; exact rfl) | ((with_reducible apply fS F); exact rfl; exact rfl; exact rfl; (exact tL); (exact tR3); (exact tS2); clear F; intro W F; simp only [z7, z8] at F))
      have c2 := c1 _ _ F
      clear c1
      by_cases hn : z < 0
      · rw [if_pos hn] at hr
        subst hr
        rw [decide_eq_true hn] at c2
        clear hn cx
        go_wp2_with fail
        go_ret
        exact ⟨rfl, F.below⟩
      · rw [if_neg hn] at hr
        subst hr
        rw [decide_eq_false hn] at c2
        clear hn cx
        go_wp2_with fail
        go_ret
        exact ⟨rfl, F.below⟩
    · have gz := fun w => rzero_any (m := m) (z := false) hm (decide_eq_false h0) w
      obtain ⟨c, hc⟩ : ∃ c, m / 10 = c := ⟨_, rfl⟩
      obtain ⟨d, hd⟩ : ∃ d, m % 10 = d := ⟨_, rfl⟩
      have hd10 : d < 10 := by omega
      have gd : ∀ w, Calls Tryz.prog 76 #[.agg (IC (m : Int)), .agg (IC 10)] w (RetB (.tuple #[.agg (IC (c : Int)), .agg (IC (d : Int)), .int .i64 0]) w) := fun w => by
        have h := rdivmodZ (x := (m : Int)) (y := 10) hm (by decide) (by decide) w
        rwa [show (m : Int) / 10 = (c : Int) by omega, show (m : Int) % 10 = (d : Int) by omega] at h
      have hc32 : c < bp 32 := by omega
      have hL2 : (leD c).reverse ++ (UInt8.ofNat (48 + d) :: L) = E := by
        rw [← hL, leD_pos h0, hc, hd, List.reverse_cons, List.append_assoc, List.singleton_append]
      have hlen : L.length < E.length := by rw [← hL2, List.length_append, List.length_cons]; omega
      have hEL := HS.out.2.2.2
      have cd : (IC (d : Int))[1]? = some (.int .u32 d) := by
        have h := intC_limb (n := decide ((d : Int) < 0)) (m := d) (i := 0) (by decide)
        rwa [show lim d 0 = d by unfold lim; rw [bp_zero, Nat.div_one]; exact Nat.mod_eq_of_lt (by omega)] at h
      have ex := digit_cut' hd10
      have e1 : bs [UInt8.ofNat (48 + d)] ++ bs L = bs (UInt8.ofNat (48 + d) :: L) := bs_append _ _
      have sL := bs_size L
      have s1 : (bs [UInt8.ofNat (48 + d)]).size = 1 := bs_size _
      obtain ⟨ch, hch⟩ : ∃ ch, UInt8.ofNat (48 + d) = ch := ⟨_, rfl⟩
      rw [hch] at hL2 ex e1 s1
      obtain ⟨S1, hS1⟩ : ∃ S1, bs [ch] = S1 := ⟨_, rfl⟩
      obtain ⟨S2, hS2⟩ : ∃ S2, bs L = S2 := ⟨_, rfl⟩
      rw [hS1] at ex e1 s1
      rw [hS2] at e1 sL
      obtain ⟨S3, hS3⟩ : ∃ S3, bs (ch :: L) = S3 := ⟨_, rfl⟩
      rw [hS3] at e1
      obtain ⟨l, hl⟩ : ∃ l, L.length = l := ⟨_, rfl⟩
      obtain ⟨N, hN⟩ : ∃ N, E.length = N := ⟨_, rfl⟩
      rw [hl] at sL hlen
      rw [hN] at hlen hEL
      have k1 : (9223372036854775807 < 1 + l) = False := by rw [eq_iff_iff, iff_false]; omega
      have hs3 : S3.size = l + 1 := by rw [← hS3, bs_size, List.length_cons, hl]
      have HN := Lib.hid (And.intro hc32 (And.intro hL2 (And.intro hS3 (show E.length - S3.size < E.length - S2.size by rw [hN, hs3, sL]; omega))))
      have HD := Lib.hid (And.intro ex (And.intro e1 (And.intro sL (And.intro s1 k1))))
      clear hc hd hc32 hL2 hlen hL hEL hl hN ex e1 sL s1 k1 h0 hm hch hS1 hS3 hs3
      rw [hS2]
      clear hS2
      go_wp2_with (first | go_skip | ((go_at_call 125); (with_reducible refine fr_call F (gz _) ?_); (clear F; intro W F); (try dsimp only)) | ((with_reducible apply fL F); exact rfl; exact rfl; (exact tL); (exact tR3)) | ((with_reducible apply fLm F); exact rfl; exact rfl; (exact tL); (exact tM3); (exact tR3)) | ((with_reducible apply fA_int F); exact rfl) | ((with_reducible apply fX_int F); exact rfl; exact rfl) | ((with_reducible apply fS F); exact rfl; exact rfl; exact rfl; (exact tL); (exact tR3); (exact tS2); clear F; intro W F; simp only [z7, z8] at F))
      try simp only [Act.put, z6, z1, z2]
      refine wp_region_slots mixP [5, 6, 7, 17, 18, 19, 20, 21, 22, 23] (fun l mm W => ∃ (s5 s6 s7 s17 s18 s19 s20 s21 s22 s23 : Value) (c_b5 c_b6 : Array Value) (b5 b6 : Nat), mm = [s5, s6, s7, s17, s18, s19, s20, s21, s22, s23] ∧ (l.getD 0 false = true → s18 = .agg (IC (m : Int))) ∧ (l.getD 1 false = true → s19 = .agg (IC 10)) ∧ (l.getD 2 false = true → s20 = .tuple #[.agg (IC (c : Int)), .agg (IC (d : Int)), .int .i64 0]) ∧ (l.getD 3 false = true → s17 = .tuple #[.agg (IC (c : Int)), .agg (IC (d : Int)), .int .i64 0]) ∧ (l.getD 4 false = true → s21 = .agg (IC (c : Int))) ∧ (l.getD 5 false = true → s22 = .agg (IC (d : Int))) ∧ (l.getD 6 false = true → s23 = .int .i64 0) ∧ (l.getD 7 false = true → s5 = .pointer (some ⟨b5, 0, none⟩)) ∧ (l.getD 8 false = true → s6 = .pointer (some ⟨b6, 0, none⟩)) ∧ (l.getD 9 false = true → c_b5 = IC (c : Int)) ∧ (l.getD 10 false = true → c_b6 = IC (d : Int)) ∧ (l.getD 11 false = true → s7 = .int .i64 0) ∧ (l.getD 9 false = true → l.getD 7 false = true) ∧ (l.getD 10 false = true → l.getD 8 false = true) ∧ c_b5.size = (IC (c : Int)).size ∧ c_b6.size = (IC (d : Int)).size ∧ Fr w W ((b, IC (m : Int), 29) :: (b1, IC z, 29) :: (onl (l.getD 7 false) (b5, c_b5, 29) ++ onl (l.getD 8 false) (b6, c_b6, 29)))) (by kernel_rfl) (putAll_self _ _) ?_ ?_ ?_
      · exact ⟨_, _, _, _, _, _, _, _, _, _, (intC false 0), (intC false 0), 0, 0, rfl, nf, nf, nf, nf, nf, nf, nf, nf, nf, nf, nf, nf, nf, nf, by exact tS2, by exact tS2, F.drew⟩
      · rintro listed mm W ii hi hsz hoff ⟨s5, s6, s7, s17, s18, s19, s20, s21, s22, s23, c_b5, c_b6, b5, b6, rfl, h0, h1, h2, h3, h4, h5, h6, h7, h8, h9, h10, h11, hN_b5, hN_b6, hz0, hz1, HF⟩ hd
        have hc := dr_c12 hi
        have hsz2 : listed.size = 12 := hsz
        clear hi hsz
        rcases hc with rfl | rfl | rfl | rfl | rfl | rfl | rfl | rfl | rfl | rfl | rfl | rfl
        · refine wpOp_want rfl rfl (fun K hK => ?_)
          simp only [putAll, z1, z2, z3, z4, z5]
          with_reducible apply gL HF
          · exact rfl
          · (exact tL)
          · (first | (exact tR3))
          go_simp
          exact hK _ _ ⟨[s5, s6, s7, s17, (.agg (IC (m : Int))), s19, s20, s21, s22, s23], by simp only [putAll, z1, z2], s5, s6, s7, s17, (.agg (IC (m : Int))), s19, s20, s21, s22, s23, c_b5, c_b6, b5, b6, rfl, fun _ => rfl, lk h1, lk h2, lk h3, lk h4, lk h5, lk h6, lk h7, lk h8, lk h9, lk h10, lk h11, fun h => by rw [getD_keep (show 0 ≠ 9 by decide)] at h; rw [getD_keep (show 0 ≠ 7 by decide)]; exact hN_b5 h, fun h => by rw [getD_keep (show 0 ≠ 10 by decide)] at h; rw [getD_keep (show 0 ≠ 8 by decide)]; exact hN_b6 h, hz0, hz1, by rw [getD_keep (show 0 ≠ 7 by decide), getD_keep (show 0 ≠ 8 by decide)]; exact HF⟩
        · refine wpOp_want rfl rfl (fun K hK => ?_)
          simp only [putAll, z1, z2, z3, z4, z5]
          refine ⟨?_⟩
          go_simp
          with_reducible refine fr_call HF (gf _) ?_
          clear HF
          intro W HF
          (try dsimp only)
          exact hK _ _ ⟨[s5, s6, s7, s17, s18, (.agg (IC 10)), s20, s21, s22, s23], by simp only [putAll, z1, z2], s5, s6, s7, s17, s18, (.agg (IC 10)), s20, s21, s22, s23, c_b5, c_b6, b5, b6, rfl, lk h0, fun _ => rfl, lk h2, lk h3, lk h4, lk h5, lk h6, lk h7, lk h8, lk h9, lk h10, lk h11, fun h => by rw [getD_keep (show 1 ≠ 9 by decide)] at h; rw [getD_keep (show 1 ≠ 7 by decide)]; exact hN_b5 h, fun h => by rw [getD_keep (show 1 ≠ 10 by decide)] at h; rw [getD_keep (show 1 ≠ 8 by decide)]; exact hN_b6 h, hz0, hz1, by rw [getD_keep (show 1 ≠ 7 by decide), getD_keep (show 1 ≠ 8 by decide)]; exact HF⟩
        · have d0 := h0 (hd 0 (by kernel_rfl))
          have d1 := h1 (hd 1 (by kernel_rfl))
          obtain rfl := d0
          obtain rfl := d1
          refine wpOp_want rfl rfl (fun K hK => ?_)
          simp only [putAll, z1, z2, z3, z4, z5]
          refine ⟨?_⟩
          go_simp
          with_reducible refine fr_call HF (gd _) ?_
          clear HF
          intro W HF
          (try dsimp only)
          exact hK _ _ ⟨[s5, s6, s7, s17, (.agg (IC (m : Int))), (.agg (IC 10)), (.tuple #[.agg (IC (c : Int)), .agg (IC (d : Int)), .int .i64 0]), s21, s22, s23], by simp only [putAll, z1, z2], s5, s6, s7, s17, (.agg (IC (m : Int))), (.agg (IC 10)), (.tuple #[.agg (IC (c : Int)), .agg (IC (d : Int)), .int .i64 0]), s21, s22, s23, c_b5, c_b6, b5, b6, rfl, lk h0, lk h1, fun _ => rfl, lk h3, lk h4, lk h5, lk h6, lk h7, lk h8, lk h9, lk h10, lk h11, fun h => by rw [getD_keep (show 2 ≠ 9 by decide)] at h; rw [getD_keep (show 2 ≠ 7 by decide)]; exact hN_b5 h, fun h => by rw [getD_keep (show 2 ≠ 10 by decide)] at h; rw [getD_keep (show 2 ≠ 8 by decide)]; exact hN_b6 h, hz0, hz1, by rw [getD_keep (show 2 ≠ 7 by decide), getD_keep (show 2 ≠ 8 by decide)]; exact HF⟩
        · have d2 := h2 (hd 2 (by kernel_rfl))
          obtain rfl := d2
          refine wpOp_want rfl rfl (fun K hK => ?_)
          simp only [putAll, z1, z2, z3, z4, z5]
          refine ⟨?_⟩
          go_simp
          exact hK _ _ ⟨[s5, s6, s7, (.tuple #[.agg (IC (c : Int)), .agg (IC (d : Int)), .int .i64 0]), s18, s19, (.tuple #[.agg (IC (c : Int)), .agg (IC (d : Int)), .int .i64 0]), s21, s22, s23], by simp only [putAll, z1, z2], s5, s6, s7, (.tuple #[.agg (IC (c : Int)), .agg (IC (d : Int)), .int .i64 0]), s18, s19, (.tuple #[.agg (IC (c : Int)), .agg (IC (d : Int)), .int .i64 0]), s21, s22, s23, c_b5, c_b6, b5, b6, rfl, lk h0, lk h1, lk h2, fun _ => rfl, lk h4, lk h5, lk h6, lk h7, lk h8, lk h9, lk h10, lk h11, fun h => by rw [getD_keep (show 3 ≠ 9 by decide)] at h; rw [getD_keep (show 3 ≠ 7 by decide)]; exact hN_b5 h, fun h => by rw [getD_keep (show 3 ≠ 10 by decide)] at h; rw [getD_keep (show 3 ≠ 8 by decide)]; exact hN_b6 h, hz0, hz1, by rw [getD_keep (show 3 ≠ 7 by decide), getD_keep (show 3 ≠ 8 by decide)]; exact HF⟩
        · have d3 := h3 (hd 3 (by kernel_rfl))
          obtain rfl := d3
          refine wpOp_want rfl rfl (fun K hK => ?_)
          simp only [putAll, z1, z2, z3, z4, z5]
          refine ⟨?_⟩
          go_simp
          exact hK _ _ ⟨[s5, s6, s7, (.tuple #[.agg (IC (c : Int)), .agg (IC (d : Int)), .int .i64 0]), s18, s19, s20, (.agg (IC (c : Int))), s22, s23], by simp only [putAll, z1, z2], s5, s6, s7, (.tuple #[.agg (IC (c : Int)), .agg (IC (d : Int)), .int .i64 0]), s18, s19, s20, (.agg (IC (c : Int))), s22, s23, c_b5, c_b6, b5, b6, rfl, lk h0, lk h1, lk h2, lk h3, fun _ => rfl, lk h5, lk h6, lk h7, lk h8, lk h9, lk h10, lk h11, fun h => by rw [getD_keep (show 4 ≠ 9 by decide)] at h; rw [getD_keep (show 4 ≠ 7 by decide)]; exact hN_b5 h, fun h => by rw [getD_keep (show 4 ≠ 10 by decide)] at h; rw [getD_keep (show 4 ≠ 8 by decide)]; exact hN_b6 h, hz0, hz1, by rw [getD_keep (show 4 ≠ 7 by decide), getD_keep (show 4 ≠ 8 by decide)]; exact HF⟩
        · have d3 := h3 (hd 3 (by kernel_rfl))
          obtain rfl := d3
          refine wpOp_want rfl rfl (fun K hK => ?_)
          simp only [putAll, z1, z2, z3, z4, z5]
          refine ⟨?_⟩
          go_simp
          exact hK _ _ ⟨[s5, s6, s7, (.tuple #[.agg (IC (c : Int)), .agg (IC (d : Int)), .int .i64 0]), s18, s19, s20, s21, (.agg (IC (d : Int))), s23], by simp only [putAll, z1, z2], s5, s6, s7, (.tuple #[.agg (IC (c : Int)), .agg (IC (d : Int)), .int .i64 0]), s18, s19, s20, s21, (.agg (IC (d : Int))), s23, c_b5, c_b6, b5, b6, rfl, lk h0, lk h1, lk h2, lk h3, lk h4, fun _ => rfl, lk h6, lk h7, lk h8, lk h9, lk h10, lk h11, fun h => by rw [getD_keep (show 5 ≠ 9 by decide)] at h; rw [getD_keep (show 5 ≠ 7 by decide)]; exact hN_b5 h, fun h => by rw [getD_keep (show 5 ≠ 10 by decide)] at h; rw [getD_keep (show 5 ≠ 8 by decide)]; exact hN_b6 h, hz0, hz1, by rw [getD_keep (show 5 ≠ 7 by decide), getD_keep (show 5 ≠ 8 by decide)]; exact HF⟩
        · have d3 := h3 (hd 3 (by kernel_rfl))
          obtain rfl := d3
          refine wpOp_want rfl rfl (fun K hK => ?_)
          simp only [putAll, z1, z2, z3, z4, z5]
          refine ⟨?_⟩
          go_simp
          exact hK _ _ ⟨[s5, s6, s7, (.tuple #[.agg (IC (c : Int)), .agg (IC (d : Int)), .int .i64 0]), s18, s19, s20, s21, s22, (.int .i64 0)], by simp only [putAll, z1, z2], s5, s6, s7, (.tuple #[.agg (IC (c : Int)), .agg (IC (d : Int)), .int .i64 0]), s18, s19, s20, s21, s22, (.int .i64 0), c_b5, c_b6, b5, b6, rfl, lk h0, lk h1, lk h2, lk h3, lk h4, lk h5, fun _ => rfl, lk h7, lk h8, lk h9, lk h10, lk h11, fun h => by rw [getD_keep (show 6 ≠ 9 by decide)] at h; rw [getD_keep (show 6 ≠ 7 by decide)]; exact hN_b5 h, fun h => by rw [getD_keep (show 6 ≠ 10 by decide)] at h; rw [getD_keep (show 6 ≠ 8 by decide)]; exact hN_b6 h, hz0, hz1, by rw [getD_keep (show 6 ≠ 7 by decide), getD_keep (show 6 ≠ 8 by decide)]; exact HF⟩
        · refine wpOp_want rfl rfl (fun K hK => ?_)
          simp only [putAll, z1, z2, z3, z4, z5]
          rw [show listed.getD 7 false = false from hoff] at HF
          skip
          with_reducible apply gA_int HF
          intro bN W HF
          go_simp
          exact hK _ _ ⟨[(.pointer (some ⟨bN, 0, none⟩)), s6, s7, s17, s18, s19, s20, s21, s22, s23], by simp only [putAll, z1, z2], (.pointer (some ⟨bN, 0, none⟩)), s6, s7, s17, s18, s19, s20, s21, s22, s23, (intC false 0), c_b6, bN, b6, rfl, lk h0, lk h1, lk h2, lk h3, lk h4, lk h5, lk h6, fun _ => rfl, lk h8, fun h => absurd (hN_b5 (by rw [getD_keep (show 7 ≠ 9 by decide)] at h; exact h)) (by rw [hoff]; decide), lk h10, lk h11, fun _ => getD_on (by rw [hsz2]; decide), fun h => by rw [getD_keep (show 7 ≠ 10 by decide)] at h; rw [getD_keep (show 7 ≠ 8 by decide)]; exact hN_b6 h, by exact tS2, hz1, by rw [getD_on (show 7 < listed.size by rw [hsz2]; decide), getD_keep (show 7 ≠ 8 by decide)]; exact Fr.mid (A := [(b, IC (m : Int), 29), (b1, IC z, 29)]) HF⟩
        · refine wpOp_want rfl rfl (fun K hK => ?_)
          simp only [putAll, z1, z2, z3, z4, z5]
          rw [show listed.getD 8 false = false from hoff] at HF
          skip
          with_reducible apply gA_int HF
          intro bN W HF
          go_simp
          exact hK _ _ ⟨[s5, (.pointer (some ⟨bN, 0, none⟩)), s7, s17, s18, s19, s20, s21, s22, s23], by simp only [putAll, z1, z2], s5, (.pointer (some ⟨bN, 0, none⟩)), s7, s17, s18, s19, s20, s21, s22, s23, c_b5, (intC false 0), b5, bN, rfl, lk h0, lk h1, lk h2, lk h3, lk h4, lk h5, lk h6, lk h7, fun _ => rfl, lk h9, fun h => absurd (hN_b6 (by rw [getD_keep (show 8 ≠ 10 by decide)] at h; exact h)) (by rw [hoff]; decide), lk h11, fun h => by rw [getD_keep (show 8 ≠ 9 by decide)] at h; rw [getD_keep (show 8 ≠ 7 by decide)]; exact hN_b5 h, fun _ => getD_on (by rw [hsz2]; decide), hz0, by exact tS2, by rw [getD_on (show 8 < listed.size by rw [hsz2]; decide), getD_keep (show 8 ≠ 7 by decide)]; exact Fr.mid (A := ((b, IC (m : Int), 29) :: (b1, IC z, 29) :: (onl (listed.getD 7 false) (b5, c_b5, 29)))) HF⟩
        · have d4 := h4 (hd 4 (by kernel_rfl))
          have d7 := h7 (hd 7 (by kernel_rfl))
          obtain rfl := d4
          obtain rfl := d7
          refine wpOp_want rfl rfl (fun K hK => ?_)
          simp only [putAll, z1, z2, z3, z4, z5]
          rw [hd 7 (by kernel_rfl)] at HF
          simp only [onl, if_true, z7, z8] at HF
          with_reducible apply gS HF
          · exact rfl
          · exact rfl
          · (exact tL)
          · (first | (exact tR3))
          · first | exact hz0 | exact tS2
          clear HF
          intro W HF
          simp only [z7, z8, List.append_assoc, List.append_nil] at HF
          go_simp
          exact hK _ _ ⟨[(.pointer (some ⟨b5, 0, none⟩)), s6, s7, s17, s18, s19, s20, (.agg (IC (c : Int))), s22, s23], by simp only [putAll, z1, z2], (.pointer (some ⟨b5, 0, none⟩)), s6, s7, s17, s18, s19, s20, (.agg (IC (c : Int))), s22, s23, (IC (c : Int)), c_b6, b5, b6, rfl, lk h0, lk h1, lk h2, lk h3, lk h4, lk h5, lk h6, lk h7, lk h8, fun _ => rfl, lk h10, lk h11, fun _ => by rw [getD_keep (show 9 ≠ 7 by decide)]; exact hd 7 (by kernel_rfl), fun h => by rw [getD_keep (show 9 ≠ 10 by decide)] at h; rw [getD_keep (show 9 ≠ 8 by decide)]; exact hN_b6 h, rfl, hz1, by rw [getD_keep (show 9 ≠ 7 by decide), getD_keep (show 9 ≠ 8 by decide), hd 7 (by kernel_rfl)]; exact HF⟩
        · have d5 := h5 (hd 5 (by kernel_rfl))
          have d8 := h8 (hd 8 (by kernel_rfl))
          obtain rfl := d5
          obtain rfl := d8
          refine wpOp_want rfl rfl (fun K hK => ?_)
          simp only [putAll, z1, z2, z3, z4, z5]
          rw [hd 8 (by kernel_rfl)] at HF
          simp only [onl, if_true, z7, z8] at HF
          with_reducible apply gS HF
          · exact rfl
          · exact rfl
          · (exact tL)
          · (first | (exact tR3))
          · first | exact hz1 | exact tS2
          clear HF
          intro W HF
          simp only [z7, z8, List.append_assoc, List.append_nil] at HF
          go_simp
          exact hK _ _ ⟨[s5, (.pointer (some ⟨b6, 0, none⟩)), s7, s17, s18, s19, s20, s21, (.agg (IC (d : Int))), s23], by simp only [putAll, z1, z2], s5, (.pointer (some ⟨b6, 0, none⟩)), s7, s17, s18, s19, s20, s21, (.agg (IC (d : Int))), s23, c_b5, (IC (d : Int)), b5, b6, rfl, lk h0, lk h1, lk h2, lk h3, lk h4, lk h5, lk h6, lk h7, lk h8, lk h9, fun _ => rfl, lk h11, fun h => by rw [getD_keep (show 10 ≠ 9 by decide)] at h; rw [getD_keep (show 10 ≠ 7 by decide)]; exact hN_b5 h, fun _ => by rw [getD_keep (show 10 ≠ 8 by decide)]; exact hd 8 (by kernel_rfl), hz0, rfl, by rw [getD_keep (show 10 ≠ 7 by decide), getD_keep (show 10 ≠ 8 by decide), hd 8 (by kernel_rfl)]; exact HF⟩
        · have d6 := h6 (hd 6 (by kernel_rfl))
          obtain rfl := d6
          refine wpOp_want rfl rfl (fun K hK => ?_)
          simp only [putAll, z1, z2, z3, z4, z5]
          refine ⟨?_⟩
          go_simp
          exact hK _ _ ⟨[s5, s6, (.int .i64 0), s17, s18, s19, s20, s21, s22, (.int .i64 0)], by simp only [putAll, z1, z2], s5, s6, (.int .i64 0), s17, s18, s19, s20, s21, s22, (.int .i64 0), c_b5, c_b6, b5, b6, rfl, lk h0, lk h1, lk h2, lk h3, lk h4, lk h5, lk h6, lk h7, lk h8, lk h9, lk h10, fun _ => rfl, fun h => by rw [getD_keep (show 11 ≠ 9 by decide)] at h; rw [getD_keep (show 11 ≠ 7 by decide)]; exact hN_b5 h, fun h => by rw [getD_keep (show 11 ≠ 10 by decide)] at h; rw [getD_keep (show 11 ≠ 8 by decide)]; exact hN_b6 h, hz0, hz1, by rw [getD_keep (show 11 ≠ 7 by decide), getD_keep (show 11 ≠ 8 by decide)]; exact HF⟩
      rintro listed mm W ⟨s5, s6, s7, s17, s18, s19, s20, s21, s22, s23, c_b5, c_b6, b5, b6, rfl, h0, h1, h2, h3, h4, h5, h6, h7, h8, h9, h10, h11, hN_b5, hN_b6, hz0, hz1, HF⟩ hall
      rw [hall 7 (by decide)] at HF
      rw [hall 8 (by decide)] at HF
      simp only [onl, if_true, z7, z8] at HF
      obtain rfl := h0 (hall 0 (by decide))
      obtain rfl := h1 (hall 1 (by decide))
      obtain rfl := h2 (hall 2 (by decide))
      obtain rfl := h3 (hall 3 (by decide))
      obtain rfl := h4 (hall 4 (by decide))
      obtain rfl := h5 (hall 5 (by decide))
      obtain rfl := h6 (hall 6 (by decide))
      obtain rfl := h7 (hall 7 (by decide))
      obtain rfl := h8 (hall 8 (by decide))
      rw [h9 (hall 9 (by decide))] at HF
      rw [h10 (hall 10 (by decide))] at HF
      obtain rfl := h11 (hall 11 (by decide))
      clear hall h0 h1 h2 h3 h4 h5 h6 h7 h8 h9 h10 h11 hN_b5 hN_b6 hz0 hz1 F
      have F := HF
      clear HF
      simp only [putAll, z1, z2]
      clear gz gd
      have c6 := (F.get (b := b6) tL).cell cd
      obtain ⟨ex, e1, sL, s1, k1⟩ := HD.out
      have d1 : (0 : Int) ≤ (d : Int) := by omega
      have d2 : (d : Int) ≤ 9 := by omega
      have m1 : IntKind.u32.wrap ((d : Int) + 1) = ((d + 1 : Nat) : Int) := by rw [IntKind.wrap_u32]; omega
      have m2 : ((d : Int) + 1) % 4294967296 = ((d + 1 : Nat) : Int) := by omega
      have d3 : (d : Int) ≤ ((d + 1 : Nat) : Int) := by omega
      have d4 : ((d + 1 : Nat) : Int) ≤ 10 := by omega
      have d5 : d ≤ 9 := by omega
      have s10 : (⟨#[48, 49, 50, 51, 52, 53, 54, 55, 56, 57]⟩ : ByteArray).size = 10 := rfl
      obtain ⟨D1, hD1⟩ : ∃ D1, d + 1 = D1 := ⟨_, rfl⟩
      rw [hD1] at m1 m2 d3 d4 ex
      have d6 : d ≤ D1 := by omega
      have d7 : D1 ≤ 10 := by omega
      clear hD1
      go_upto_region 8 with (first | ((with_reducible apply fSl); exact rfl; exact rfl; exact rfl; exact rfl; exact d6; exact d7; exact ex))
      clear c6 ex e1 sL s1 k1 HD d1 d2 d3 d4 d5 d6 d7 m1 m2 s10 cd hd10
      go_wp2_with (first | go_skip | ((with_reducible apply fL F); exact rfl; exact rfl; (exact tL); (exact tR3)) | ((with_reducible apply fLm F); exact rfl; exact rfl; (exact tL); (exact tM3); (exact tR3)) | ((with_reducible apply fA_int F); exact rfl) | ((with_reducible apply fX_int F); exact rfl; exact rfl) | ((with_reducible apply fS F); exact rfl; exact rfl; exact rfl; (exact tL); (exact tR3); (exact tS2); clear F; intro W F; simp only [z7, z8] at F))
      (clear F; intro b7 W F; try simp only [Act.put, z6, z1, z2])
      go_wp2_with (first | go_skip | ((with_reducible apply fL F); exact rfl; exact rfl; (exact tL); (exact tR3)) | ((with_reducible apply fLm F); exact rfl; exact rfl; (exact tL); (exact tM3); (exact tR3)) | ((with_reducible apply fA_int F); exact rfl) | ((with_reducible apply fX_int F); exact rfl; exact rfl) | ((with_reducible apply fS F); exact rfl; exact rfl; exact rfl; (exact tL); (exact tR3); (exact tS2); clear F; intro W F; simp only [z7, z8] at F))
      replace F := F.sub (L' := [(b7, IC (c : Int), 29), (b1, IC z, 29)]) (by repeat (first | exact List.Sublist.slnil | apply List.Sublist.cons_cons | apply List.Sublist.cons))
      go_roundw
      case rel => exact ⟨b7, c, ch :: L, HN.out.1, congrArg Value.string HN.out.2.2.1.symm, rfl, HN.out.2.1, F⟩
      case measure => exact HN.out.2.2.2
end
section
open Go.RowKit
set_option maxHeartbeats 4000000
theorem pad_t {D : List UInt8} {p j : Nat} (h1 : p < j + D.length) (h2 : j = 0 ∨ j + D.length ≤ p + 1) : List.replicate j 48 ++ D = (if D.length ≤ p then List.replicate (p + 1 - D.length) 48 ++ D else D) := by
  by_cases h : D.length ≤ p
  · rw [if_pos h]
    have : j = p + 1 - D.length := by rcases h2 with h2 | h2 <;> omega
    rw [this]
  · rw [if_neg h]
    have : j = 0 := by rcases h2 with h2 | h2 <;> omega
    rw [this]
    rfl
set_option maxRecDepth 100000 in
theorem rwritten_any {z : Int} {p : Nat} (hz : z.natAbs < bp 32) (hp : p ≤ 9) {r : List UInt8} (hr : fmtL z.natAbs (decide (z < 0)) p = r) (w : World) : Calls Tryz.prog 90 #[.agg (IC z), .int .i64 p] w (RetB (.string (bs r)) w) := by
  have F := Fr.start w
  have ga := fun w => rabs_any hz w
  have gf := fun w => rformat_any (z := ((z.natAbs : Nat) : Int)) (by rw [Int.natAbs_natCast]; exact hz) w
  rw [show Lib.itoa ((z.natAbs : Nat) : Int) = Lib.decDigits z.natAbs from by unfold Lib.itoa; rw [if_neg (by omega), Int.toNat_natCast]] at gf
  have gs := fun w => rsignZ hz w
  have hDl := dec_len_bp hz
  unfold fmtL pointL at hr
  obtain ⟨D, hD⟩ : ∃ D, Lib.decDigits z.natAbs = D := ⟨_, rfl⟩
  rw [hD] at gf hDl hr
  obtain ⟨A, hA⟩ : ∃ A : Int, ((z.natAbs : Nat) : Int) = A := ⟨_, rfl⟩
  rw [hA] at ga gf
  have hsg : decide (z < 0) = decide (z.sign < 0) := by rw [decide_eq_decide]; exact Int.sign_neg_iff.symm
  rw [hsg] at hr
  obtain ⟨s, hs⟩ : ∃ s, z.sign = s := ⟨_, rfl⟩
  rw [hs] at gs hr
  have HR := Lib.hid hr
  clear hr hs hsg hD hA hz
  go_enter Tryz.func90, Tryz.ntmps90
  go_wp2_with (first | go_skip | ((with_reducible apply fL F); exact rfl; exact rfl; (exact tL); (exact tR3)) | ((with_reducible apply fX_int F); exact rfl; exact rfl))
  (clear F; intro b2 W F; try simp only [Act.put, z6, z1, z2])
  go_wp2_with (first | go_skip | ((go_at_call 85); (with_reducible refine fr_call F (ga _) ?_); (clear F; intro W F); (try dsimp only)) | ((go_at_call 136); (with_reducible refine fr_call F (gf _) ?_); (clear F; intro W F); (try dsimp only)) | ((with_reducible apply fL F); exact rfl; exact rfl; (exact tL); (exact tR3)) | ((with_reducible apply fX_int F); exact rfl; exact rfl))
  clear ga gf
  go_loopw [5] (fun sv wr => ∃ j : Nat, sv = .string (bs (List.replicate j 48 ++ D)) ∧ (j = 0 ∨ j + D.length ≤ p + 1) ∧ Fr w wr [(b2, IC z, 29)]) (fun sv _ => p + 1 - (strOf sv).size)
  case atStart => exact ⟨0, rfl, .inl rfl, F⟩
  case round =>
    clear F
    obtain ⟨j, rfl, hj, F⟩ := hrel
    have hz := bs_size (List.replicate j 48 ++ D)
    rw [List.length_append, List.length_replicate] at hz
    obtain ⟨l, hl⟩ : ∃ l, j + D.length = l := ⟨_, rfl⟩
    rw [hl] at hz hj
    by_cases hlt : l ≤ p
    · have t1 : decide ((l : Int) ≤ (p : Int)) = true := decide_eq_true (by omega)
      have t2 : decide (l ≤ p) = true := decide_eq_true hlt
      have e1 : bs [48] ++ bs (List.replicate j 48 ++ D) = bs (List.replicate (j + 1) 48 ++ D) := by
        rw [bs_append]
        rfl
      have e0 : bs [48] = ⟨#[48]⟩ := rfl
      rw [e0] at e1
      have k1 : (9223372036854775807 < 1 + l) = False := by rw [eq_iff_iff, iff_false]; omega
      obtain ⟨S1, hS1⟩ : ∃ S, bs (List.replicate j 48 ++ D) = S := ⟨_, rfl⟩
      obtain ⟨S2, hS2⟩ : ∃ S, bs (List.replicate (j + 1) 48 ++ D) = S := ⟨_, rfl⟩
      have hz2 : S2.size = l + 1 := by rw [← hS2, bs_size, List.length_append, List.length_replicate, ← hl]; omega
      rw [hS1] at hz e1 ⊢
      rw [hS2] at e1
      have HN := Lib.hid (And.intro hS2 (And.intro (show j + 1 = 0 ∨ j + 1 + D.length ≤ p + 1 by omega) (show p + 1 - S2.size < p + 1 - S1.size by omega)))
      clear hS1 hS2 hz2 hj hl hlt HR hDl
      go_wp2_with fail
      go_roundw
      case rel => exact ⟨j + 1, congrArg Value.string HN.out.1.symm, HN.out.2.1, F⟩
      case measure => exact HN.out.2.2
    · have hr := HR.out
      rw [← pad_t (j := j) (by omega) (by rcases hj with h | h; exact .inl h; exact .inr (by omega))] at hr
      try dsimp only at hr
      rw [List.length_append, List.length_replicate, hl] at hr
      have hlb : l ≤ 400 := by
        rcases hj with h | h
        · subst h; omega
        · omega
      have t1 : decide ((l : Int) ≤ (p : Int)) = false := decide_eq_false (by omega)
      have t2 : decide (l ≤ p) = false := decide_eq_false hlt
      obtain ⟨T, hT⟩ : ∃ T, List.replicate j 48 ++ D = T := ⟨_, rfl⟩
      have hTl : T.length = l := by rw [← hT, List.length_append, List.length_replicate, hl]
      rw [hT] at hz hr ⊢
      clear hT hl hj HR hDl
      by_cases hp0 : p = 0
      · have t4 : decide (0 < (p : Int)) = false := decide_eq_false (by omega)
        have t5 : decide (0 < p) = false := decide_eq_false (by omega)
        rw [hp0, Nat.sub_zero, ← hTl, List.drop_length, List.take_length, if_pos rfl] at hr
        clear hlt hTl hp0 hp
        have k1 : (9223372036854775807 < 1 + l) = False := by rw [eq_iff_iff, iff_false]; omega
        have e1 : bs [45] ++ bs T = bs (45 :: T) := bs_append [45] T
        rw [show bs [45] = ⟨#[45]⟩ from rfl] at e1
        by_cases hs : s < 0
        · have t3 : decide (s < 0) = true := decide_eq_true hs
          rw [decide_eq_true hs, if_pos rfl] at hr
          subst hr
          clear hs
          go_wp2_with (first | go_skip | ((go_at_call 77); (with_reducible refine fr_call F (gs _) ?_); (clear F; intro W F); (try dsimp only)) | ((with_reducible apply fL F); exact rfl; exact rfl; (exact tL); (exact tR3)) | ((with_reducible apply fX_int F); exact rfl; exact rfl))
          go_ret
          exact ⟨rfl, F.below⟩
        · have t3 : decide (s < 0) = false := decide_eq_false hs
          rw [decide_eq_false hs, if_neg (by decide), List.nil_append] at hr
          subst hr
          clear hs
          go_wp2_with (first | go_skip | ((go_at_call 77); (with_reducible refine fr_call F (gs _) ?_); (clear F; intro W F); (try dsimp only)) | ((with_reducible apply fL F); exact rfl; exact rfl; (exact tL); (exact tR3)) | ((with_reducible apply fX_int F); exact rfl; exact rfl))
          go_ret
          exact ⟨rfl, F.below⟩
      · obtain ⟨m, hm⟩ : ∃ m, l - p = m := ⟨_, rfl⟩
        obtain ⟨a, ha⟩ : ∃ a, T.take m = a := ⟨_, rfl⟩
        obtain ⟨b, hb⟩ : ∃ b, T.drop m = b := ⟨_, rfl⟩
        have hal : a.length = m := by rw [← ha, List.length_take]; omega
        have hbl : b.length = p := by rw [← hb, List.length_drop]; omega
        have hbn : b ≠ [] := by rintro rfl; rw [List.length_nil] at hbl; omega
        rw [hm, ha, hb, if_neg hbn] at hr
        have e1 : (bs T).extract 0 m = bs a := by rw [bs_extract, List.drop_zero, Nat.sub_zero, ha]
        have e2 : (bs T).extract m l = bs b := by rw [bs_extract, ← hTl, ← List.length_drop, List.take_length, hb]
        have e3 : bs a ++ bs [46] = bs (a ++ [46]) := bs_append _ _
        have e4 : bs (a ++ [46]) ++ bs b = bs (a ++ 46 :: b) := by rw [bs_append, List.append_assoc]; rfl
        have e5 : bs [45] ++ bs (a ++ 46 :: b) = bs (45 :: (a ++ 46 :: b)) := bs_append _ _
        rw [show bs [46] = ⟨#[46]⟩ from rfl] at e3
        rw [show bs [45] = ⟨#[45]⟩ from rfl] at e5
        have z1 := bs_size a
        have z2 := bs_size b
        have z3 := bs_size (a ++ [46])
        have z4 := bs_size (a ++ 46 :: b)
        rw [hal] at z1
        rw [hbl] at z2
        rw [List.length_append, hal, List.length_singleton] at z3
        rw [List.length_append, List.length_cons, hal, hbl] at z4
        have m1 : (l : Int) - (p : Int) = (m : Int) := by omega
        have hm5 : m ≤ 100000 := by omega
        have t4 : decide (0 < (p : Int)) = true := decide_eq_true (by omega)
        have t5 : decide (0 < p) = true := decide_eq_true (by omega)
        have l0 : (0 : Int) ≤ (m : Int) := by omega
        have l1 : (m : Int) ≤ (l : Int) := by omega
        have l2 : m ≤ l := by omega
        have k1 : (9223372036854775807 < m + 1) = False := by rw [eq_iff_iff, iff_false]; omega
        have k2 : (9223372036854775807 < m + 1 + p) = False := by rw [eq_iff_iff, iff_false]; omega
        have k3 : (9223372036854775807 < 1 + (m + (p + 1))) = False := by rw [eq_iff_iff, iff_false]; omega
        have HSG := Lib.hid (And.intro e5 (And.intro z4 k3))
        obtain ⟨m2, m3, -⟩ := wraps hm5
        clear hm ha hb hal hbl hbn hTl hlt hp0 hp e5 z4 k3 hm5 hlb
        go_wp2_with fail
        go_quiet (fail)
        replace F := F.drewN nq
        generalize wr.drewN nq = wq at *
        clear m1 m2 m3 t4 t5 l0 l1 l2 k1 k2 e1 e2 e3 e4 z1 z2 z3 t1 t2
        obtain ⟨e5, z4, k3⟩ := HSG.out
        by_cases hs : s < 0
        · have t3 : decide (s < 0) = true := decide_eq_true hs
          rw [decide_eq_true hs, if_pos rfl] at hr
          subst hr
          clear hs
          go_wp2_with (first | go_skip | ((go_at_call 77); (with_reducible refine fr_call F (gs _) ?_); (clear F; intro W F); (try dsimp only)) | ((with_reducible apply fL F); exact rfl; exact rfl; (exact tL); (exact tR3)) | ((with_reducible apply fX_int F); exact rfl; exact rfl))
          go_ret
          exact ⟨rfl, F.below⟩
        · have t3 : decide (s < 0) = false := decide_eq_false hs
          rw [decide_eq_false hs, if_neg (by decide), List.nil_append] at hr
          subst hr
          clear hs
          go_wp2_with (first | go_skip | ((go_at_call 77); (with_reducible refine fr_call F (gs _) ?_); (clear F; intro W F); (try dsimp only)) | ((with_reducible apply fL F); exact rfl; exact rfl; (exact tL); (exact tR3)) | ((with_reducible apply fX_int F); exact rfl; exact rfl))
          go_ret
          exact ⟨rfl, F.below⟩
end
section
open Go.RowKit
set_option maxHeartbeats 4000000
theorem rformatD_any (n p : Int) {r : List UInt8 × Int} (hr : fmtR n p = r) (w : World) : Calls Tryz.prog 42 #[.int .i64 n, .int .i64 p] w (RetB (.tuple #[.string (bs r.1), .int .i64 r.2]) w) := by
  have F := Fr.start w
  obtain ⟨f, hf⟩ : ∃ f, decide (0 ≤ p ∧ p ≤ 9) = f := ⟨_, rfl⟩
  have gp := fun w => rplaces_any hf w
  unfold fmtR at hr
  by_cases hp : p < 0 ∨ 9 < p
  · rw [if_pos hp] at hr
    subst hr
    obtain rfl : false = f := by rw [← hf]; exact (decide_eq_false (by omega)).symm
    clear hf hp
    go_enter Tryz.func42, Tryz.ntmps42
    go_wp2_with (first | go_skip | ((go_at_call 64); (with_reducible refine fr_call F (gp _) ?_); (clear F; intro W F); (try dsimp only)))
    go_ret2
    exact ⟨rfl, F.below⟩
  rw [if_neg hp] at hr
  obtain rfl : true = f := by rw [← hf]; exact (decide_eq_true (by omega)).symm
  by_cases hn : n < -1000000000000000 ∨ 1000000000000000 < n
  · rw [if_pos hn] at hr
    subst hr
    by_cases hn1 : 1000000000000000 < n
    · have t3 : decide (1000000000000000 < n) = true := decide_eq_true hn1
      clear hn hn1 hp hf
      go_enter Tryz.func42, Tryz.ntmps42
      go_wp2_with (first | go_skip | ((go_at_call 64); (with_reducible refine fr_call F (gp _) ?_); (clear F; intro W F); (try dsimp only)))
      go_ret2
      exact ⟨rfl, F.below⟩
    · have t3 : decide (1000000000000000 < n) = false := decide_eq_false hn1
      have t4 : decide (n < -1000000000000000) = true := decide_eq_true (by omega)
      clear hn hn1 hp hf
      go_enter Tryz.func42, Tryz.ntmps42
      go_wp2_with (first | go_skip | ((go_at_call 64); (with_reducible refine fr_call F (gp _) ?_); (clear F; intro W F); (try dsimp only)))
      go_ret2
      exact ⟨rfl, F.below⟩
  rw [if_neg hn] at hr
  have t3 : decide (1000000000000000 < n) = false := decide_eq_false (by omega)
  have t4 : decide (n < -1000000000000000) = false := decide_eq_false (by omega)
  obtain ⟨q, rfl⟩ : ∃ q : Nat, p = (q : Int) := ⟨p.toNat, by omega⟩
  rw [Int.toNat_natCast] at hr
  have hb : n.natAbs < bp 32 := by
    have : (1000000000000001 : Nat) < bp 32 := by unfold bp; decide
    omega
  have g1 := fun w => rfromZ (n := n) (by omega) (by omega) w
  have g2 := fun w => rwritten_any (z := n) (p := q) hb (by omega) rfl w
  subst hr
  clear hn hp hf hb
  go_enter Tryz.func42, Tryz.ntmps42
  go_wp2_with (first | go_skip | ((go_at_call 64); (with_reducible refine fr_call F (gp _) ?_); (clear F; intro W F); (try dsimp only)) | ((go_at_call 80); (with_reducible refine fr_call F (g1 _) ?_); (clear F; intro W F); (try dsimp only)) | ((go_at_call 90); (with_reducible refine fr_call F (g2 _) ?_); (clear F; intro W F); (try dsimp only)))
  go_ret2
  exact ⟨rfl, F.below⟩
end
section
open Go.RowKit
theorem trim_nil : Lib.trimRightB [] 48 = [] := rfl
theorem trim_snoc (c : List UInt8) (x : UInt8) : Lib.trimRightB (c ++ [x]) 48 = if x = 48 then Lib.trimRightB c 48 else c ++ [x] := by
  unfold Lib.trimRightB
  rw [List.reverse_append, List.reverse_singleton, List.singleton_append, List.dropWhile_cons]
  by_cases h : x = 48
  · rw [if_pos (by simpa using h), if_pos h]
  · rw [if_neg (by simpa using h), if_neg h, List.reverse_cons, List.reverse_reverse]
theorem last_at {Y : List UInt8} {x : UInt8} {L : Nat} (hL : Y.length = L) (h : L < (bs (Y ++ [x])).size) : (bs (Y ++ [x]))[L] = x :=
  (bs_at (l := Y ++ [x]) (i := L) h (by rw [List.length_append, hL, List.length_singleton]; omega)).trans (by subst hL; simp)
theorem last_cut {Y : List UInt8} {x : UInt8} {L : Nat} (hL : Y.length = L) : (bs (Y ++ [x])).extract 0 L = bs Y := by
  rw [bs_extract, List.drop_zero, Nat.sub_zero, ← hL, List.take_left' rfl]
theorem txt_rd {z : Int} {p : Nat} {a b t : List UInt8} (h : pointL (Lib.decDigits z.natAbs) p = (a, b)) (ht : Lib.trimRightB b 48 = t) :
    rdR (txtS (decide (z < 0)) a t) p true = (if 15 < a.length then (0, 0, false) else rdF (a ++ t) t.length (decide (z < 0))) ∧ (rdF (a ++ t) t.length (decide (z < 0))).2.2 = true ∧ numL (a ++ t) * 10 ^ (p - t.length) = z.natAbs ∧ t.length ≤ p := by
  obtain ⟨h1, h2, h3, h4, h5, h6⟩ := point_facts _ h
  obtain ⟨k, hk⟩ := trim_zeros b
  rw [ht] at hk
  have htl : t.length + k = p := by rw [← h5, hk, List.length_append, List.length_replicate]
  have htd : t.all isD = true := by
    rw [hk, List.all_append, Bool.and_eq_true] at h2
    exact h2.1
  have hnum : numL (a ++ t) * 10 ^ k = z.natAbs := by rw [← h6, hk, ← List.append_assoc, numL_tail]
  have hG := fun neg : Bool => rdG_ok (a := a) (b := t) (p := p) (neg := neg) h1 htd h3 h4 (by omega)
  refine ⟨?_, ?_, by rw [show p - t.length = k by omega]; exact hnum, by omega⟩
  · unfold rdR txtS
    by_cases hz : z < 0
    · rw [decide_eq_true hz, if_pos rfl, List.singleton_append, List.head?_cons, List.tail_cons, if_pos ⟨rfl, rfl⟩]
      exact hG true
    · rw [decide_eq_false hz, show (if false = true then [45] else ([] : List UInt8)) = [] from rfl, List.nil_append, if_neg]
      · exact hG false
      · rintro ⟨-, hh⟩
        have e : (if t = [] then a else a ++ 46 :: t).head? = a.head? := by
          split
          · rfl
          · cases a with
            | nil => exact absurd rfl h3
            | cons c l => rfl
        rw [e] at hh
        cases a with
        | nil => exact absurd rfl h3
        | cons c l =>
          rw [List.head?_cons, Option.some.injEq] at hh
          subst hh
          rw [List.all_cons] at h1
          exact absurd h1 (by simp [isD])
  · rw [rdF_ok]
    by_cases hz : z < 0
    · rw [decide_eq_false (p := numL (a ++ t) = 0)]
      · simp
      · intro h0
        rw [h0, Nat.zero_mul] at hnum
        omega
    · rw [decide_eq_false hz]
      rfl
end
section
open Go.RowKit
set_option maxHeartbeats 4000000
theorem rnd_down {v : Prop} [Decidable v] {n d p : Int} (h : exR v n d p = ((exR v n d p).1, 0)) : ∃ z, rndR v n d p 1 = (z, 0) ∧ ((exR v n d p).1 = true → z = n * ((10 ^ p.toNat : Nat) : Int) / d) := by
  unfold exR at h ⊢
  by_cases he : chkE v p = 0
  · obtain ⟨hv, h0, h9⟩ := chkE_ok he
    rw [if_neg (by rw [Classical.not_not]; exact he)]
    unfold rndR
    rw [if_neg (by rw [Classical.not_not]; exact hv), if_neg (by omega), if_neg (by decide)]
    dsimp only
    split
    · exact ⟨_, rfl, fun _ => rfl⟩
    · rename_i hne
      split
      · exact ⟨_, rfl, fun h => absurd (by simpa using h) hne⟩
      · exact ⟨_, rfl, fun h => absurd (by simpa using h) hne⟩
  · rw [if_pos he] at h
    exact absurd (congrArg Prod.snd h) he
theorem pre_if (u a b : List UInt8) : u ++ (if b = [] then a else a ++ 46 :: b) = if b = [] then u ++ a else (u ++ a) ++ 46 :: b := by
  split
  · rfl
  · rw [List.append_assoc]
theorem txtR_ex {v : Prop} [Decidable v] {n d p : Int} : txtR v n d p = if (exR v n d p).2 ≠ 0 then ([], (exR v n d p).2) else if (exR v n d p).1 = true then txtZ (n * ((10 ^ p.toNat : Nat) : Int) / d) p.toNat else ([], 32) := by
  unfold txtR exR
  by_cases he : chkE v p = 0
  · by_cases hm : n * ((10 ^ p.toNat : Nat) : Int) % d = 0
    · simp [he, hm]
    · simp [he, hm]
  · simp [he]
set_option maxRecDepth 100000 in
theorem rtext_any {x : Bool} {a : Nat} {y : Bool} {b : Nat} (ha : a < bp 32) (hb : b < bp 32) {p : Int} {r : List UInt8 × Int} (hr : txtR (okR x a y b) (sZ x a) (sZ y b) p = r) (w : World) : Calls Tryz.prog 44 #[.agg (ratC x a y b), .int .i64 p] w (RetB (.tuple #[.string (bs r.1), .int .i64 r.2]) w) := by
  have F := Fr.start w
  rw [txtR_ex] at hr
  have hdn := rnd_down (v := okR x a y b) (n := sZ x a) (d := sZ y b) (p := p)
  have hp := chkE_ok (v := okR x a y b) (p := p)
  have hec : (exR (okR x a y b) (sZ x a) (sZ y b) p).2 = chkE (okR x a y b) p := by
    unfold exR
    split
    · rfl
    · rename_i h
      rw [Classical.not_not] at h
      exact h.symm
  have hl := rnd_lt (x := x) (a := a) (y := y) (b := b) (p := p) (m := 1)
  obtain ⟨q, hq⟩ : ∃ q, exR (okR x a y b) (sZ x a) (sZ y b) p = q := ⟨_, rfl⟩
  have g1 := fun w => rexact_any ha hb hq w
  rw [hq] at hr hdn hec
  obtain ⟨f, e⟩ := q
  dsimp only at hr hdn hec g1
  by_cases he : e ≠ 0
  · rw [if_pos he] at hr
    subst hr
    have t0 : (e == 0) = false := by rw [beq_eq_false_iff_ne]; exact he
    clear hdn hp hec hl hq ha hb
    go_enter Tryz.func44, Tryz.ntmps44
    go_wp2_with (first | go_skip | ((with_reducible apply fL F); exact rfl; exact rfl; (exact tL); (exact tR3)) | ((with_reducible apply fA_int F); exact rfl) | ((with_reducible apply fA_rat F); exact rfl) | ((with_reducible apply fX_rat F); exact rfl; exact rfl) | ((with_reducible apply fS F); exact rfl; exact rfl; exact rfl; (exact tL); (exact tR3); (exact tS2); clear F; intro W F; simp only [z7, z8] at F))
    (clear F; intro b2 W F; try simp only [Act.put, z6, z1, z2])
    go_wp2_with (first | go_skip | ((go_at_call 31); (with_reducible refine fr_call F (g1 _) ?_); (clear F; intro W F); (try dsimp only)) | ((with_reducible apply fL F); exact rfl; exact rfl; (exact tL); (exact tR3)) | ((with_reducible apply fA_int F); exact rfl) | ((with_reducible apply fA_rat F); exact rfl) | ((with_reducible apply fX_rat F); exact rfl; exact rfl) | ((with_reducible apply fS F); exact rfl; exact rfl; exact rfl; (exact tL); (exact tR3); (exact tS2); clear F; intro W F; simp only [z7, z8] at F))
    go_ret2
    exact ⟨rfl, F.below⟩
  rw [Classical.not_not] at he
  subst he
  rw [if_neg (by decide)] at hr
  obtain ⟨hv, hp0, hp9⟩ := hp hec.symm
  obtain ⟨z, hz, hzq⟩ := hdn rfl
  have g2 := fun w => rround_any ha hb hz w
  rw [hz] at hl
  dsimp only at hl g2
  obtain ⟨n, rfl⟩ : ∃ n : Nat, p = (n : Int) := ⟨p.toNat, by omega⟩
  have hn9 : n ≤ 9 := by omega
  rw [Int.toNat_natCast] at hr hzq
  have hz32 : z.natAbs < bp 32 := Nat.lt_of_lt_of_le hl (bp_le (by decide))
  have g3 := fun w => rwritten_any hz32 hn9 rfl w
  obtain ⟨A, hA⟩ : ∃ A, pointL (Lib.decDigits z.natAbs) n = A := ⟨_, rfl⟩
  obtain ⟨a1, b1⟩ := A
  obtain ⟨t, ht⟩ : ∃ t, Lib.trimRightB b1 48 = t := ⟨_, rfl⟩
  obtain ⟨hrd, hrf, -, htl⟩ := txt_rd hA ht
  obtain ⟨ha1, hb1, han, -, hbl, -⟩ := point_facts _ hA
  have hal : a1.length ≤ 400 := by
    have h1 := point_len (s := Lib.decDigits z.natAbs) (p := n)
    have h2 := dec_len_bp hl
    have h3 : a1.length + b1.length ≤ 400 := by
      have h4 := hA
      unfold pointL at h4
      dsimp only at h4
      rw [Prod.mk.injEq] at h4
      rw [← h4.1, ← h4.2, List.length_take, List.length_drop]
      split
      · rw [List.length_append, List.length_replicate]
        omega
      · omega
    omega
  obtain ⟨neg, hneg⟩ : ∃ g, decide (z < 0) = g := ⟨_, rfl⟩
  unfold fmtL at g3
  rw [hA, hneg] at g3
  dsimp only at g3
  rw [hneg] at hrd hrf
  obtain ⟨X, hX⟩ : ∃ X, (if neg = true then [45] else []) ++ a1 = X := ⟨_, rfl⟩
  have hXl : X.length ≤ 401 := by
    rw [← hX, List.length_append]
    cases neg
    · simp; omega
    · simp; omega
  have hw : (if neg = true then [45] else []) ++ (if b1 = [] then a1 else a1 ++ 46 :: b1) = if b1 = [] then X else X ++ 46 :: b1 := by
    rw [← hX]
    exact pre_if _ _ _
  have hS : txtS neg a1 t = if t = [] then X else X ++ 46 :: t := by
    unfold txtS
    rw [← hX]
    exact pre_if _ _ _
  rw [hw] at g3
  obtain ⟨W0, hW0⟩ : ∃ W0, (if b1 = [] then X else X ++ 46 :: b1) = W0 := ⟨_, rfl⟩
  rw [hW0] at g3
  have HW := Lib.hid hW0
  clear hW0
  have hXlast : ∃ Y c, X = Y ++ [c] ∧ isD c = true := by
    rcases List.eq_nil_or_concat a1 with rfl | ⟨Y, c, rfl⟩
    · exact absurd rfl han
    · refine ⟨(if neg = true then [45] else []) ++ Y, c, by rw [← hX, List.concat_eq_append, List.append_assoc], ?_⟩
      rw [List.concat_eq_append, List.all_append, Bool.and_eq_true] at ha1
      simpa using ha1.2
  obtain ⟨Sx, hSx⟩ : ∃ s, txtS neg a1 t = s := ⟨_, rfl⟩
  rw [hSx] at hrd hS
  have hSl : Sx.length ≤ 9223372036854775807 := by
    rw [hS]
    split
    · omega
    · rw [List.length_append, List.length_cons]
      omega
  have g5 := fun w => rread_any Sx (n : Int) true (by omega) hSl hrd w
  obtain ⟨ok, hok⟩ : ∃ ok, decide (¬ 15 < a1.length) = ok := ⟨_, rfl⟩
  have hrr : r = if (f && ok) = true then (Sx, 0) else ([], 32) := by
    rw [← hr, ← hok]
    cases f
    · rw [if_neg (by decide), Bool.false_and, if_neg (by decide)]
    · rw [if_pos rfl, ← hzq rfl, Bool.true_and]
      unfold txtZ
      rw [hA]
      dsimp only
      rw [ht]
      by_cases h15 : 15 < a1.length
      · rw [if_pos h15, if_neg (by rw [decide_eq_false (by omega)]; decide)]
      · rw [if_neg h15, if_pos (decide_eq_true h15), ← hSx]
        unfold txtS
        rw [← hneg]
        by_cases hz0 : z < 0
        · simp only [hz0, decide_true, if_true]
        · simp only [hz0, decide_false, if_false, Bool.false_eq_true]
  obtain ⟨R1, hR1⟩ : ∃ R1 : Int × Int × Bool, (if 15 < a1.length then (0, 0, false) else rdF (a1 ++ t) t.length neg) = R1 := ⟨_, rfl⟩
  rw [hR1] at g5
  have hR2 : R1.2.2 = ok := by
    rw [← hR1, ← hok]
    by_cases h15 : 15 < a1.length
    · rw [if_pos h15, decide_eq_false (by omega)]
    · rw [if_neg h15, hrf, decide_eq_true h15]
  rw [hR2] at g5
  obtain ⟨r1, hr1⟩ : ∃ q, R1.1 = q := ⟨_, rfl⟩
  obtain ⟨r2, hr2⟩ : ∃ q, R1.2.1 = q := ⟨_, rfl⟩
  rw [hr1, hr2] at g5
  have HR := Lib.hid hrr.symm
  have HBD := Lib.hid hb1
  have HX := Lib.hid (And.intro hXl (And.intro hXlast (And.intro hS (And.intro hbl (And.intro ht htl)))))
  clear hr hdn hec hl hq ha hb hp hv hzq hz hz32 hA ht hrd hrf htl ha1 hb1 han hbl hal hneg hX hXl hw hS hXlast hSx hSl hok hrr hR1 hp0 hp9 hR2 hr1 hr2
  go_enter Tryz.func44, Tryz.ntmps44
  go_wp2_with (first | go_skip | ((with_reducible apply fL F); exact rfl; exact rfl; (exact tL); (exact tR3)) | ((with_reducible apply fA_int F); exact rfl) | ((with_reducible apply fA_rat F); exact rfl) | ((with_reducible apply fX_rat F); exact rfl; exact rfl) | ((with_reducible apply fS F); exact rfl; exact rfl; exact rfl; (exact tL); (exact tR3); (exact tS2); clear F; intro W F; simp only [z7, z8] at F))
  (clear F; intro b2 W F; try simp only [Act.put, z6, z1, z2])
  go_wp2_with (first | go_skip | ((go_at_call 31); (with_reducible refine fr_call F (g1 _) ?_); (clear F; intro W F); (try dsimp only)) | ((go_at_call 26); (with_reducible refine fr_call F (g2 _) ?_); (clear F; intro W F); (try dsimp only)) | ((with_reducible apply fL F); exact rfl; exact rfl; (exact tL); (exact tR3)) | ((with_reducible apply fA_int F); exact rfl) | ((with_reducible apply fA_rat F); exact rfl) | ((with_reducible apply fX_rat F); exact rfl; exact rfl) | ((with_reducible apply fS F); exact rfl; exact rfl; exact rfl; (exact tL); (exact tR3); (exact tS2); clear F; intro W F; simp only [z7, z8] at F))
  (clear F; intro b8 W F; try simp only [Act.put, z6, z1, z2])
  go_wp2_with (first | go_skip | ((go_at_call 90); (with_reducible refine fr_call F (g3 _) ?_); (clear F; intro W F); (try dsimp only)) | ((with_reducible apply fL F); exact rfl; exact rfl; (exact tL); (exact tR3)) | ((with_reducible apply fA_int F); exact rfl) | ((with_reducible apply fA_rat F); exact rfl) | ((with_reducible apply fX_rat F); exact rfl; exact rfl) | ((with_reducible apply fS F); exact rfl; exact rfl; exact rfl; (exact tL); (exact tR3); (exact tS2); clear F; intro W F; simp only [z7, z8] at F))
  clear g1 g2 g3
  by_cases hn0 : n = 0
  · have hb0 : b1 = [] := List.eq_nil_of_length_eq_zero (by rw [HX.out.2.2.2.1]; exact hn0)
    have hW := HW.out
    rw [if_pos hb0] at hW
    subst hW
    have t1 : decide (0 < (n : Int)) = false := decide_eq_false (by omega)
    have t2 : decide (0 < n) = false := decide_eq_false (by omega)
    obtain ⟨hXl, ⟨Y, c, hY, hc⟩, hS, hbl, ht, htl⟩ := HX.out
    have hSX : Sx = X := by
      rw [hS, ← ht, hb0, if_pos trim_nil]
    subst hSX
    subst hY
    go_loopw [10] (fun sv wr => sv = .string (bs (Y ++ [c])) ∧ Fr w wr [(b8, IC z, 29), (b2, ratC x a y b, 31)]) (fun _ _ => 0)
    case atStart => exact ⟨rfl, F⟩
    case round =>
      clear F
      obtain ⟨rfl, F⟩ := hrel
      obtain ⟨L, hL⟩ : ∃ L, Y.length = L := ⟨_, rfl⟩
      have hz := bs_size (Y ++ [c])
      rw [List.length_append, hL, List.length_singleton] at hz hXl
      obtain ⟨M, hM⟩ : ∃ M, L + 1 = M := ⟨_, rfl⟩
      rw [hM] at hz hXl
      have hlt : L < (bs (Y ++ [c])).size := by rw [hz]; omega
      have e1 := last_at hL hlt
      have t3 : ((c.toNat : Int) == 46) = false := by
        rw [beq_eq_false_iff_ne]
        intro h
        have := (isD_iff.1 hc).1
        omega
      have m2 : (M : Int) - 1 = (L : Int) := by omega
      have l0 : (0 : Int) ≤ (L : Int) := by omega
      have l1 : (L : Int) < (M : Int) := by omega
      have hL5 : L ≤ 100000 := by omega
      obtain ⟨w1, w2, -⟩ := wraps hL5
      clear hXl hL hM hc hS hbl ht htl HX hn0 hb0 hL5 hn9
      cases f
      · have hr := HR.out
        rw [Bool.false_and, if_neg (by decide)] at hr
        subst hr
        go_wp2_with (first | go_skip | ((go_at_call 65); (with_reducible refine fr_call F (g5 _) ?_); (clear F; intro W F); (try dsimp only)) | ((with_reducible apply fL F); exact rfl; exact rfl; (exact tL); (exact tR3)) | ((with_reducible apply fA_int F); exact rfl) | ((with_reducible apply fA_rat F); exact rfl) | ((with_reducible apply fX_rat F); exact rfl; exact rfl) | ((with_reducible apply fS F); exact rfl; exact rfl; exact rfl; (exact tL); (exact tR3); (exact tS2); clear F; intro W F; simp only [z7, z8] at F))
        (clear F; intro b11 W F; try simp only [Act.put, z6, z1, z2])
        go_wp2_with (first | go_skip | ((with_reducible apply fL F); exact rfl; exact rfl; (exact tL); (exact tR3)) | ((with_reducible apply fA_int F); exact rfl) | ((with_reducible apply fA_rat F); exact rfl) | ((with_reducible apply fX_rat F); exact rfl; exact rfl) | ((with_reducible apply fS F); exact rfl; exact rfl; exact rfl; (exact tL); (exact tR3); (exact tS2); clear F; intro W F; simp only [z7, z8] at F))
        go_ret2
        exact ⟨rfl, F.below⟩
      · cases ok
        · have hr := HR.out
          rw [Bool.and_false, if_neg (by decide)] at hr
          subst hr
          go_wp2_with (first | go_skip | ((go_at_call 65); (with_reducible refine fr_call F (g5 _) ?_); (clear F; intro W F); (try dsimp only)) | ((with_reducible apply fL F); exact rfl; exact rfl; (exact tL); (exact tR3)) | ((with_reducible apply fA_int F); exact rfl) | ((with_reducible apply fA_rat F); exact rfl) | ((with_reducible apply fX_rat F); exact rfl; exact rfl) | ((with_reducible apply fS F); exact rfl; exact rfl; exact rfl; (exact tL); (exact tR3); (exact tS2); clear F; intro W F; simp only [z7, z8] at F))
          (clear F; intro b11 W F; try simp only [Act.put, z6, z1, z2])
          go_wp2_with (first | go_skip | ((with_reducible apply fL F); exact rfl; exact rfl; (exact tL); (exact tR3)) | ((with_reducible apply fA_int F); exact rfl) | ((with_reducible apply fA_rat F); exact rfl) | ((with_reducible apply fX_rat F); exact rfl; exact rfl) | ((with_reducible apply fS F); exact rfl; exact rfl; exact rfl; (exact tL); (exact tR3); (exact tS2); clear F; intro W F; simp only [z7, z8] at F))
          go_ret2
          exact ⟨rfl, F.below⟩
        · have hr := HR.out
          rw [Bool.and_self, if_pos rfl] at hr
          subst hr
          go_wp2_with (first | go_skip | ((go_at_call 65); (with_reducible refine fr_call F (g5 _) ?_); (clear F; intro W F); (try dsimp only)) | ((with_reducible apply fL F); exact rfl; exact rfl; (exact tL); (exact tR3)) | ((with_reducible apply fA_int F); exact rfl) | ((with_reducible apply fA_rat F); exact rfl) | ((with_reducible apply fX_rat F); exact rfl; exact rfl) | ((with_reducible apply fS F); exact rfl; exact rfl; exact rfl; (exact tL); (exact tR3); (exact tS2); clear F; intro W F; simp only [z7, z8] at F))
          (clear F; intro b11 W F; try simp only [Act.put, z6, z1, z2])
          go_wp2_with (first | go_skip | ((with_reducible apply fL F); exact rfl; exact rfl; (exact tL); (exact tR3)) | ((with_reducible apply fA_int F); exact rfl) | ((with_reducible apply fA_rat F); exact rfl) | ((with_reducible apply fX_rat F); exact rfl; exact rfl) | ((with_reducible apply fS F); exact rfl; exact rfl; exact rfl; (exact tL); (exact tR3); (exact tS2); clear F; intro W F; simp only [z7, z8] at F))
          go_ret2
          exact ⟨rfl, F.below⟩
  · have t1 : decide (0 < (n : Int)) = true := decide_eq_true (by omega)
    have t2 : decide (0 < n) = true := decide_eq_true (by omega)
    have hb0 : b1 ≠ [] := by
      intro h
      have := HX.out.2.2.2.1
      rw [h, List.length_nil] at this
      omega
    have hW := HW.out
    rw [if_neg hb0] at hW
    subst hW
    go_loopw [10] (fun sv wr => ∃ b' : List UInt8, sv = .string (bs (X ++ 46 :: b')) ∧ (b'.length ≤ 9 ∧ b'.all isD = true) ∧ Lib.trimRightB b' 48 = t ∧ Fr w wr [(b8, IC z, 29), (b2, ratC x a y b, 31)]) (fun sv _ => (strOf sv).size)
    case atStart => exact ⟨b1, rfl, ⟨by rw [HX.out.2.2.2.1]; exact hn9, HBD.out⟩, HX.out.2.2.2.2.1, F⟩
    case round =>
      clear F
      obtain ⟨b', rfl, ⟨hb9, hbd⟩, hbt, F⟩ := hrel
      obtain ⟨hXl, -, hS, -, -, -⟩ := HX.out
      have hYc : ∃ Y c, X ++ 46 :: b' = Y ++ [c] ∧ ((c = 46 ∧ t = [] ∧ Y = X) ∨ (c ≠ 46 ∧ c ≠ 48 ∧ t = b' ∧ t ≠ []) ∨ (c = 48 ∧ ∃ b2, Y = X ++ 46 :: b2 ∧ (b2.length ≤ 9 ∧ b2.all isD = true) ∧ Lib.trimRightB b2 48 = t)) := by
        rcases List.eq_nil_or_concat b' with rfl | ⟨b2, x, rfl⟩
        · exact ⟨X, 46, rfl, .inl ⟨rfl, by rw [← hbt]; rfl, rfl⟩⟩
        · rw [List.concat_eq_append] at hb9 hbd hbt ⊢
          rw [List.length_append, List.length_singleton] at hb9
          rw [List.all_append, Bool.and_eq_true] at hbd
          refine ⟨X ++ 46 :: b2, x, by rw [List.append_assoc]; rfl, ?_⟩
          rw [trim_snoc] at hbt
          by_cases hx : x = 48
          · rw [if_pos hx] at hbt
            exact .inr (.inr ⟨hx, b2, rfl, ⟨by omega, hbd.1⟩, hbt⟩)
          · rw [if_neg hx] at hbt
            refine .inr (.inl ⟨?_, hx, hbt.symm, by rw [← hbt]; simp⟩)
            rintro rfl
            exact absurd hbd.2 (by decide)
      obtain ⟨Y, c, hYY, hways⟩ := hYc
      have hYl : (Y ++ [c]).length ≤ 411 := by
        rw [← hYY, List.length_append, List.length_cons]
        omega
      rw [hYY]
      obtain ⟨L, hL⟩ : ∃ L, Y.length = L := ⟨_, rfl⟩
      have hz := bs_size (Y ++ [c])
      rw [List.length_append, hL, List.length_singleton] at hz hYl
      obtain ⟨M, hM⟩ : ∃ M, L + 1 = M := ⟨_, rfl⟩
      rw [hM] at hz hYl
      have hlt : L < (bs (Y ++ [c])).size := by rw [hz]; omega
      have e1 := last_at hL hlt
      have e2 := last_cut (x := c) hL
      have m2 : (M : Int) - 1 = (L : Int) := by omega
      have l0 : (0 : Int) ≤ (L : Int) := by omega
      have l1 : (L : Int) < (M : Int) := by omega
      have l2 : (L : Int) ≤ (M : Int) := by omega
      have hL5 : L ≤ 100000 := by omega
      rcases hways with ⟨hc, ht0, hYX⟩ | ⟨hc, hc2, htb, htn⟩ | ⟨hc, b2, hYX, hb2, hbt2⟩
      · have t3 : ((c.toNat : Int) == 46) = true := by rw [hc]; rfl
        have t4 : ((c.toNat : Int) == 48) = false := by rw [hc]; rfl
        rw [if_pos ht0, ← hYX] at hS
        subst hS
        obtain ⟨w1, w2, -⟩ := wraps hL5
        clear hXl hL hM hc HX hb0 hL5 hn9 hYX ht0 hYl hb9 hbd hbt hYY hn0 HBD HW
        cases f
        · have hr := HR.out
          rw [Bool.false_and, if_neg (by decide)] at hr
          subst hr
          go_wp2_with (first | go_skip | ((go_at_call 65); (with_reducible refine fr_call F (g5 _) ?_); (clear F; intro W F); (try dsimp only)) | ((with_reducible apply fL F); exact rfl; exact rfl; (exact tL); (exact tR3)) | ((with_reducible apply fA_int F); exact rfl) | ((with_reducible apply fA_rat F); exact rfl) | ((with_reducible apply fX_rat F); exact rfl; exact rfl) | ((with_reducible apply fS F); exact rfl; exact rfl; exact rfl; (exact tL); (exact tR3); (exact tS2); clear F; intro W F; simp only [z7, z8] at F))
          (clear F; intro b11 W F; try simp only [Act.put, z6, z1, z2])
          go_wp2_with (first | go_skip | ((with_reducible apply fL F); exact rfl; exact rfl; (exact tL); (exact tR3)) | ((with_reducible apply fA_int F); exact rfl) | ((with_reducible apply fA_rat F); exact rfl) | ((with_reducible apply fX_rat F); exact rfl; exact rfl) | ((with_reducible apply fS F); exact rfl; exact rfl; exact rfl; (exact tL); (exact tR3); (exact tS2); clear F; intro W F; simp only [z7, z8] at F))
          go_ret2
          exact ⟨rfl, F.below⟩
        · cases ok
          · have hr := HR.out
            rw [Bool.and_false, if_neg (by decide)] at hr
            subst hr
            go_wp2_with (first | go_skip | ((go_at_call 65); (with_reducible refine fr_call F (g5 _) ?_); (clear F; intro W F); (try dsimp only)) | ((with_reducible apply fL F); exact rfl; exact rfl; (exact tL); (exact tR3)) | ((with_reducible apply fA_int F); exact rfl) | ((with_reducible apply fA_rat F); exact rfl) | ((with_reducible apply fX_rat F); exact rfl; exact rfl) | ((with_reducible apply fS F); exact rfl; exact rfl; exact rfl; (exact tL); (exact tR3); (exact tS2); clear F; intro W F; simp only [z7, z8] at F))
            (clear F; intro b11 W F; try simp only [Act.put, z6, z1, z2])
            go_wp2_with (first | go_skip | ((with_reducible apply fL F); exact rfl; exact rfl; (exact tL); (exact tR3)) | ((with_reducible apply fA_int F); exact rfl) | ((with_reducible apply fA_rat F); exact rfl) | ((with_reducible apply fX_rat F); exact rfl; exact rfl) | ((with_reducible apply fS F); exact rfl; exact rfl; exact rfl; (exact tL); (exact tR3); (exact tS2); clear F; intro W F; simp only [z7, z8] at F))
            go_ret2
            exact ⟨rfl, F.below⟩
          · have hr := HR.out
            rw [Bool.and_self, if_pos rfl] at hr
            subst hr
            go_wp2_with (first | go_skip | ((go_at_call 65); (with_reducible refine fr_call F (g5 _) ?_); (clear F; intro W F); (try dsimp only)) | ((with_reducible apply fL F); exact rfl; exact rfl; (exact tL); (exact tR3)) | ((with_reducible apply fA_int F); exact rfl) | ((with_reducible apply fA_rat F); exact rfl) | ((with_reducible apply fX_rat F); exact rfl; exact rfl) | ((with_reducible apply fS F); exact rfl; exact rfl; exact rfl; (exact tL); (exact tR3); (exact tS2); clear F; intro W F; simp only [z7, z8] at F))
            (clear F; intro b11 W F; try simp only [Act.put, z6, z1, z2])
            go_wp2_with (first | go_skip | ((with_reducible apply fL F); exact rfl; exact rfl; (exact tL); (exact tR3)) | ((with_reducible apply fA_int F); exact rfl) | ((with_reducible apply fA_rat F); exact rfl) | ((with_reducible apply fX_rat F); exact rfl; exact rfl) | ((with_reducible apply fS F); exact rfl; exact rfl; exact rfl; (exact tL); (exact tR3); (exact tS2); clear F; intro W F; simp only [z7, z8] at F))
            go_ret2
            exact ⟨rfl, F.below⟩
      · have t3 : ((c.toNat : Int) == 46) = false := by
          rw [beq_eq_false_iff_ne]
          intro h
          exact hc (UInt8.toNat_inj.1 (show c.toNat = (46 : UInt8).toNat by rw [show UInt8.toNat 46 = 46 from rfl]; omega))
        have t4 : ((c.toNat : Int) == 48) = false := by
          rw [beq_eq_false_iff_ne]
          intro h
          exact hc2 (UInt8.toNat_inj.1 (show c.toNat = (48 : UInt8).toNat by rw [show UInt8.toNat 48 = 48 from rfl]; omega))
        rw [if_neg htn, htb, hYY] at hS
        subst hS
        obtain ⟨w1, w2, -⟩ := wraps hL5
        clear hXl hL hM hc hc2 HX hb0 hL5 hn9 htb htn hYl hb9 hbd hbt hYY hn0 HBD HW
        cases f
        · have hr := HR.out
          rw [Bool.false_and, if_neg (by decide)] at hr
          subst hr
          go_wp2_with (first | go_skip | ((go_at_call 65); (with_reducible refine fr_call F (g5 _) ?_); (clear F; intro W F); (try dsimp only)) | ((with_reducible apply fL F); exact rfl; exact rfl; (exact tL); (exact tR3)) | ((with_reducible apply fA_int F); exact rfl) | ((with_reducible apply fA_rat F); exact rfl) | ((with_reducible apply fX_rat F); exact rfl; exact rfl) | ((with_reducible apply fS F); exact rfl; exact rfl; exact rfl; (exact tL); (exact tR3); (exact tS2); clear F; intro W F; simp only [z7, z8] at F))
          (clear F; intro b11 W F; try simp only [Act.put, z6, z1, z2])
          go_wp2_with (first | go_skip | ((with_reducible apply fL F); exact rfl; exact rfl; (exact tL); (exact tR3)) | ((with_reducible apply fA_int F); exact rfl) | ((with_reducible apply fA_rat F); exact rfl) | ((with_reducible apply fX_rat F); exact rfl; exact rfl) | ((with_reducible apply fS F); exact rfl; exact rfl; exact rfl; (exact tL); (exact tR3); (exact tS2); clear F; intro W F; simp only [z7, z8] at F))
          go_ret2
          exact ⟨rfl, F.below⟩
        · cases ok
          · have hr := HR.out
            rw [Bool.and_false, if_neg (by decide)] at hr
            subst hr
            go_wp2_with (first | go_skip | ((go_at_call 65); (with_reducible refine fr_call F (g5 _) ?_); (clear F; intro W F); (try dsimp only)) | ((with_reducible apply fL F); exact rfl; exact rfl; (exact tL); (exact tR3)) | ((with_reducible apply fA_int F); exact rfl) | ((with_reducible apply fA_rat F); exact rfl) | ((with_reducible apply fX_rat F); exact rfl; exact rfl) | ((with_reducible apply fS F); exact rfl; exact rfl; exact rfl; (exact tL); (exact tR3); (exact tS2); clear F; intro W F; simp only [z7, z8] at F))
            (clear F; intro b11 W F; try simp only [Act.put, z6, z1, z2])
            go_wp2_with (first | go_skip | ((with_reducible apply fL F); exact rfl; exact rfl; (exact tL); (exact tR3)) | ((with_reducible apply fA_int F); exact rfl) | ((with_reducible apply fA_rat F); exact rfl) | ((with_reducible apply fX_rat F); exact rfl; exact rfl) | ((with_reducible apply fS F); exact rfl; exact rfl; exact rfl; (exact tL); (exact tR3); (exact tS2); clear F; intro W F; simp only [z7, z8] at F))
            go_ret2
            exact ⟨rfl, F.below⟩
          · have hr := HR.out
            rw [Bool.and_self, if_pos rfl] at hr
            subst hr
            go_wp2_with (first | go_skip | ((go_at_call 65); (with_reducible refine fr_call F (g5 _) ?_); (clear F; intro W F); (try dsimp only)) | ((with_reducible apply fL F); exact rfl; exact rfl; (exact tL); (exact tR3)) | ((with_reducible apply fA_int F); exact rfl) | ((with_reducible apply fA_rat F); exact rfl) | ((with_reducible apply fX_rat F); exact rfl; exact rfl) | ((with_reducible apply fS F); exact rfl; exact rfl; exact rfl; (exact tL); (exact tR3); (exact tS2); clear F; intro W F; simp only [z7, z8] at F))
            (clear F; intro b11 W F; try simp only [Act.put, z6, z1, z2])
            go_wp2_with (first | go_skip | ((with_reducible apply fL F); exact rfl; exact rfl; (exact tL); (exact tR3)) | ((with_reducible apply fA_int F); exact rfl) | ((with_reducible apply fA_rat F); exact rfl) | ((with_reducible apply fX_rat F); exact rfl; exact rfl) | ((with_reducible apply fS F); exact rfl; exact rfl; exact rfl; (exact tL); (exact tR3); (exact tS2); clear F; intro W F; simp only [z7, z8] at F))
            go_ret2
            exact ⟨rfl, F.below⟩
      · have t4 : ((c.toNat : Int) == 48) = true := by rw [hc]; rfl
        have HN := Lib.hid (And.intro hYX (And.intro hb2 (And.intro hbt2 (show (bs Y).size < (bs (Y ++ [c])).size by rw [hz, bs_size, hL]; omega))))
        obtain ⟨w1, w2, -⟩ := wraps hL5
        clear hXl hL hM hc HX hb0 hL5 hn9 hYX hYl hb9 hbd hbt hYY hn0 HBD HW hS hb2 hbt2
        go_wp2_with fail
        go_roundw
        case rel => exact ⟨b2, by first | rw [HN.out.1] | rw [← HN.out.1], HN.out.2.1, HN.out.2.2.1, F⟩
        case measure => exact HN.out.2.2.2
end
section
open Go.RowKit
set_option maxHeartbeats 4000000
theorem rtextZ {n d : Int} (h : okZ n d) {p : Int} {r : List UInt8 × Int} (hr : txtR (okZ n d) n d p = r) (w : World) : Calls Tryz.prog 44 #[.agg (RC n d), .int .i64 p] w (RetB (.tuple #[.string (bs r.1), .int .i64 r.2]) w) :=
  rtext_any (okZ_b h).1 (okZ_b h).2 (by rw [sZ_z, sZ_z]; exact hr) w
theorem mkR_sign {n d : Int} (hd : 0 < d) : (mkR (n * 100) d).2.2 = 0 → ((mkR (n * 100) d).1.sign < 0 ↔ n < 0) := by
  intro h
  rw [mkR_low hd] at h ⊢
  split at h
  · rename_i hf
    rw [if_pos hf]
    dsimp only
    rw [Int.sign_neg_iff]
    have h1 := (low_mul (n := n * 100) hd).1
    have h2 := gcd_pos (n := n * 100) hd
    have h3 : lowN (n * 100) d < 0 ↔ lowN (n * 100) d * (Int.gcd (n * 100) d : Int) < 0 := by
      have h4 := sign_mul_pos (n := lowN (n * 100) d) (t := (Int.gcd (n * 100) d : Int)) (by omega)
      rw [Int.sign_neg_iff] at h4
      exact h4.symm
    rw [h3, h1]
    omega
  · exact absurd h (by decide)
theorem txtR_32 {v : Prop} [Decidable v] {n d : Int} (h : v) : (txtR v n d 6).2 = 0 ∨ (txtR v n d 6).2 = 32 := by
  have he : chkE v 6 = 0 := by
    unfold chkE
    rw [if_neg (by rw [Classical.not_not]; exact h), if_neg (by decide)]
  unfold txtR
  rw [if_neg (by rw [Classical.not_not]; exact he)]
  dsimp only
  split
  · exact .inr rfl
  · unfold txtZ
    dsimp only
    split
    · exact .inr rfl
    · exact .inl rfl
set_option maxRecDepth 100000 in
theorem rpercentText_any {x : Bool} {a : Nat} {y : Bool} {b : Nat} (ha : a < bp 32) (hb : b < bp 32) {r : List UInt8 × Int} (hr : pctT (okR x a y b) (sZ x a) (sZ y b) = r) (w : World) : Calls Tryz.prog 46 #[.agg (ratC x a y b)] w (RetB (.tuple #[.string (bs r.1), .int .i64 r.2]) w) := by
  have F := Fr.start w
  obtain ⟨f, hf⟩ : ∃ f, decide (okR x a y b) = f := ⟨_, rfl⟩
  have g1 := fun w => rvalid_any ha hb hf w
  unfold pctT at hr
  have HR := Lib.hid hr
  clear hr ha hb
  go_enter Tryz.func46, Tryz.ntmps46
  go_wp2_with (first | go_skip | ((with_reducible apply fL F); exact rfl; exact rfl; (exact tL); (exact tR3)) | ((with_reducible apply fLm F); exact rfl; exact rfl; (exact tL); (exact tM3); (exact tR3)) | ((with_reducible apply fA_rat F); exact rfl) | ((with_reducible apply fX_rat F); exact rfl; exact rfl) | ((with_reducible apply fS F); exact rfl; exact rfl; exact rfl; (exact tL); (exact tR3); (exact tS2); clear F; intro W F; simp only [z7, z8] at F))
  (clear F; intro b1 W F; try simp only [Act.put, z6, z1, z2])
  cases f
  · have hr := HR.out
    rw [if_pos (of_decide_eq_false hf)] at hr
    subst hr
    clear HR hf
    go_wp2_with (first | go_skip | ((go_at_call 51); (with_reducible refine fr_call F (g1 _) ?_); (clear F; intro W F); (try dsimp only)) | ((with_reducible apply fL F); exact rfl; exact rfl; (exact tL); (exact tR3)) | ((with_reducible apply fLm F); exact rfl; exact rfl; (exact tL); (exact tM3); (exact tR3)) | ((with_reducible apply fA_rat F); exact rfl) | ((with_reducible apply fX_rat F); exact rfl; exact rfl) | ((with_reducible apply fS F); exact rfl; exact rfl; exact rfl; (exact tL); (exact tR3); (exact tS2); clear F; intro W F; simp only [z7, z8] at F))
    go_ret2
    exact ⟨rfl, F.below⟩
  have hv := of_decide_eq_true hf
  have hr := HR.out
  rw [if_neg (by rw [Classical.not_not]; exact hv)] at hr
  clear HR hf
  obtain ⟨n, d, ⟨h1, h2, h3⟩, hn, hd, hd0⟩ := okR_ints hv
  have hz := okR_okZ hv
  rw [h2, h3] at hr hz
  rw [h1] at g1 F
  have g2 := fun w => rwholeR (n := 100) (by decide) (by decide) w
  have g3 := fun w => rmulR hz (okZ_one (n := 100) (by unfold bp; decide)) (show mkR (n * 100) (d * 1) = mkR (n * 100) d by rw [Int.mul_one]) w
  have hmv := mkR_valid (n := n * 100) (d := d)
  have hsg := mkR_sign (n := n) hd0
  obtain ⟨m, hm⟩ : ∃ m, mkR (n * 100) d = m := ⟨_, rfl⟩
  rw [hm] at g3 hr hmv hsg
  obtain ⟨mn, md, me⟩ := m
  dsimp only at g3 hr hmv hsg
  have cn : ∀ W, Fr w W [(b1, RC n d, 31)] → True := fun _ _ => trivial
  have HR := Lib.hid hr
  have HM := Lib.hid hmv
  have HG := Lib.hid hsg
  clear hr hmv hsg hm hz h1 h2 h3 hn hd hd0 hv cn
  go_wp2_with (first | go_skip | ((go_at_call 51); (with_reducible refine fr_call F (g1 _) ?_); (clear F; intro W F); (try dsimp only)) | ((with_reducible apply fL F); exact rfl; exact rfl; (exact tL); (exact tR3)) | ((with_reducible apply fLm F); exact rfl; exact rfl; (exact tL); (exact tM3); (exact tR3)) | ((with_reducible apply fA_rat F); exact rfl) | ((with_reducible apply fX_rat F); exact rfl; exact rfl) | ((with_reducible apply fS F); exact rfl; exact rfl; exact rfl; (exact tL); (exact tR3); (exact tS2); clear F; intro W F; simp only [z7, z8] at F))
  try simp only [Act.put, z6, z1, z2]
  refine wp_region_slots mixP [4, 5, 11, 12, 13, 14, 15, 16] (fun l mm W => ∃ (s4 s5 s11 s12 s13 s14 s15 s16 : Value) (c_b4 : Array Value) (b4 : Nat), mm = [s4, s5, s11, s12, s13, s14, s15, s16] ∧ (l.getD 0 false = true → s12 = .agg (RC n d)) ∧ (l.getD 1 false = true → s13 = .agg (RC 100 1)) ∧ (l.getD 2 false = true → s14 = .tuple #[.agg (RC mn md), .int .i64 me]) ∧ (l.getD 3 false = true → s11 = .tuple #[.agg (RC mn md), .int .i64 me]) ∧ (l.getD 4 false = true → s15 = .agg (RC mn md)) ∧ (l.getD 5 false = true → s16 = .int .i64 me) ∧ (l.getD 6 false = true → s4 = .pointer (some ⟨b4, 0, none⟩)) ∧ (l.getD 7 false = true → c_b4 = RC mn md) ∧ (l.getD 8 false = true → s5 = .int .i64 me) ∧ (l.getD 7 false = true → l.getD 6 false = true) ∧ c_b4.size = (RC mn md).size ∧ Fr w W ((b1, RC n d, 31) :: (onl (l.getD 6 false) (b4, c_b4, 31)))) (by kernel_rfl) (putAll_self _ _) ?_ ?_ ?_
  · exact ⟨_, _, _, _, _, _, _, _, (RC 0 0), 0, rfl, nf, nf, nf, nf, nf, nf, nf, nf, nf, nf, by exact tS2, F.drew⟩
  · rintro listed mm W ii hi hsz hoff ⟨s4, s5, s11, s12, s13, s14, s15, s16, c_b4, b4, rfl, h0, h1, h2, h3, h4, h5, h6, h7, h8, hN_b4, hz0, HF⟩ hd
    have hc := dr_c9 hi
    have hsz2 : listed.size = 9 := hsz
    clear hi hsz
    rcases hc with rfl | rfl | rfl | rfl | rfl | rfl | rfl | rfl | rfl
    · refine wpOp_want rfl rfl (fun K hK => ?_)
      simp only [putAll, z1, z2, z3, z4, z5]
      with_reducible apply gL HF
      · exact rfl
      · (exact tL)
      · (first | (exact tR3))
      go_simp
      exact hK _ _ ⟨[s4, s5, s11, (.agg (RC n d)), s13, s14, s15, s16], by simp only [putAll, z1, z2], s4, s5, s11, (.agg (RC n d)), s13, s14, s15, s16, c_b4, b4, rfl, fun _ => rfl, lk h1, lk h2, lk h3, lk h4, lk h5, lk h6, lk h7, lk h8, fun h => by rw [getD_keep (show 0 ≠ 7 by decide)] at h; rw [getD_keep (show 0 ≠ 6 by decide)]; exact hN_b4 h, hz0, by rw [getD_keep (show 0 ≠ 6 by decide)]; exact HF⟩
    · refine wpOp_want rfl rfl (fun K hK => ?_)
      simp only [putAll, z1, z2, z3, z4, z5]
      refine ⟨?_⟩
      go_simp
      with_reducible refine fr_call HF (g2 _) ?_
      clear HF
      intro W HF
      (try dsimp only)
      exact hK _ _ ⟨[s4, s5, s11, s12, (.agg (RC 100 1)), s14, s15, s16], by simp only [putAll, z1, z2], s4, s5, s11, s12, (.agg (RC 100 1)), s14, s15, s16, c_b4, b4, rfl, lk h0, fun _ => rfl, lk h2, lk h3, lk h4, lk h5, lk h6, lk h7, lk h8, fun h => by rw [getD_keep (show 1 ≠ 7 by decide)] at h; rw [getD_keep (show 1 ≠ 6 by decide)]; exact hN_b4 h, hz0, by rw [getD_keep (show 1 ≠ 6 by decide)]; exact HF⟩
    · have d0 := h0 (hd 0 (by kernel_rfl))
      have d1 := h1 (hd 1 (by kernel_rfl))
      obtain rfl := d0
      obtain rfl := d1
      refine wpOp_want rfl rfl (fun K hK => ?_)
      simp only [putAll, z1, z2, z3, z4, z5]
      refine ⟨?_⟩
      go_simp
      with_reducible refine fr_call HF (g3 _) ?_
      clear HF
      intro W HF
      (try dsimp only)
      exact hK _ _ ⟨[s4, s5, s11, (.agg (RC n d)), (.agg (RC 100 1)), (.tuple #[.agg (RC mn md), .int .i64 me]), s15, s16], by simp only [putAll, z1, z2], s4, s5, s11, (.agg (RC n d)), (.agg (RC 100 1)), (.tuple #[.agg (RC mn md), .int .i64 me]), s15, s16, c_b4, b4, rfl, lk h0, lk h1, fun _ => rfl, lk h3, lk h4, lk h5, lk h6, lk h7, lk h8, fun h => by rw [getD_keep (show 2 ≠ 7 by decide)] at h; rw [getD_keep (show 2 ≠ 6 by decide)]; exact hN_b4 h, hz0, by rw [getD_keep (show 2 ≠ 6 by decide)]; exact HF⟩
    · have d2 := h2 (hd 2 (by kernel_rfl))
      obtain rfl := d2
      refine wpOp_want rfl rfl (fun K hK => ?_)
      simp only [putAll, z1, z2, z3, z4, z5]
      refine ⟨?_⟩
      go_simp
      exact hK _ _ ⟨[s4, s5, (.tuple #[.agg (RC mn md), .int .i64 me]), s12, s13, (.tuple #[.agg (RC mn md), .int .i64 me]), s15, s16], by simp only [putAll, z1, z2], s4, s5, (.tuple #[.agg (RC mn md), .int .i64 me]), s12, s13, (.tuple #[.agg (RC mn md), .int .i64 me]), s15, s16, c_b4, b4, rfl, lk h0, lk h1, lk h2, fun _ => rfl, lk h4, lk h5, lk h6, lk h7, lk h8, fun h => by rw [getD_keep (show 3 ≠ 7 by decide)] at h; rw [getD_keep (show 3 ≠ 6 by decide)]; exact hN_b4 h, hz0, by rw [getD_keep (show 3 ≠ 6 by decide)]; exact HF⟩
    · have d3 := h3 (hd 3 (by kernel_rfl))
      obtain rfl := d3
      refine wpOp_want rfl rfl (fun K hK => ?_)
      simp only [putAll, z1, z2, z3, z4, z5]
      refine ⟨?_⟩
      go_simp
      exact hK _ _ ⟨[s4, s5, (.tuple #[.agg (RC mn md), .int .i64 me]), s12, s13, s14, (.agg (RC mn md)), s16], by simp only [putAll, z1, z2], s4, s5, (.tuple #[.agg (RC mn md), .int .i64 me]), s12, s13, s14, (.agg (RC mn md)), s16, c_b4, b4, rfl, lk h0, lk h1, lk h2, lk h3, fun _ => rfl, lk h5, lk h6, lk h7, lk h8, fun h => by rw [getD_keep (show 4 ≠ 7 by decide)] at h; rw [getD_keep (show 4 ≠ 6 by decide)]; exact hN_b4 h, hz0, by rw [getD_keep (show 4 ≠ 6 by decide)]; exact HF⟩
    · have d3 := h3 (hd 3 (by kernel_rfl))
      obtain rfl := d3
      refine wpOp_want rfl rfl (fun K hK => ?_)
      simp only [putAll, z1, z2, z3, z4, z5]
      refine ⟨?_⟩
      go_simp
      exact hK _ _ ⟨[s4, s5, (.tuple #[.agg (RC mn md), .int .i64 me]), s12, s13, s14, s15, (.int .i64 me)], by simp only [putAll, z1, z2], s4, s5, (.tuple #[.agg (RC mn md), .int .i64 me]), s12, s13, s14, s15, (.int .i64 me), c_b4, b4, rfl, lk h0, lk h1, lk h2, lk h3, lk h4, fun _ => rfl, lk h6, lk h7, lk h8, fun h => by rw [getD_keep (show 5 ≠ 7 by decide)] at h; rw [getD_keep (show 5 ≠ 6 by decide)]; exact hN_b4 h, hz0, by rw [getD_keep (show 5 ≠ 6 by decide)]; exact HF⟩
    · refine wpOp_want rfl rfl (fun K hK => ?_)
      simp only [putAll, z1, z2, z3, z4, z5]
      rw [show listed.getD 6 false = false from hoff] at HF
      skip
      with_reducible apply gA_rat HF
      intro bN W HF
      go_simp
      exact hK _ _ ⟨[(.pointer (some ⟨bN, 0, none⟩)), s5, s11, s12, s13, s14, s15, s16], by simp only [putAll, z1, z2], (.pointer (some ⟨bN, 0, none⟩)), s5, s11, s12, s13, s14, s15, s16, (RC 0 0), bN, rfl, lk h0, lk h1, lk h2, lk h3, lk h4, lk h5, fun _ => rfl, fun h => absurd (hN_b4 (by rw [getD_keep (show 6 ≠ 7 by decide)] at h; exact h)) (by rw [hoff]; decide), lk h8, fun _ => getD_on (by rw [hsz2]; decide), by exact tS2, by rw [getD_on (show 6 < listed.size by rw [hsz2]; decide)]; exact Fr.mid (A := [(b1, RC n d, 31)]) HF⟩
    · have d4 := h4 (hd 4 (by kernel_rfl))
      have d6 := h6 (hd 6 (by kernel_rfl))
      obtain rfl := d4
      obtain rfl := d6
      refine wpOp_want rfl rfl (fun K hK => ?_)
      simp only [putAll, z1, z2, z3, z4, z5]
      rw [hd 6 (by kernel_rfl)] at HF
      simp only [onl, if_true, z7, z8] at HF
      with_reducible apply gS HF
      · exact rfl
      · exact rfl
      · (exact tL)
      · (first | (exact tR3))
      · first | exact hz0 | exact tS2
      clear HF
      intro W HF
      simp only [z7, z8, List.append_assoc, List.append_nil] at HF
      go_simp
      exact hK _ _ ⟨[(.pointer (some ⟨b4, 0, none⟩)), s5, s11, s12, s13, s14, (.agg (RC mn md)), s16], by simp only [putAll, z1, z2], (.pointer (some ⟨b4, 0, none⟩)), s5, s11, s12, s13, s14, (.agg (RC mn md)), s16, (RC mn md), b4, rfl, lk h0, lk h1, lk h2, lk h3, lk h4, lk h5, lk h6, fun _ => rfl, lk h8, fun _ => by rw [getD_keep (show 7 ≠ 6 by decide)]; exact hd 6 (by kernel_rfl), rfl, by rw [getD_keep (show 7 ≠ 6 by decide), hd 6 (by kernel_rfl)]; exact HF⟩
    · have d5 := h5 (hd 5 (by kernel_rfl))
      obtain rfl := d5
      refine wpOp_want rfl rfl (fun K hK => ?_)
      simp only [putAll, z1, z2, z3, z4, z5]
      refine ⟨?_⟩
      go_simp
      exact hK _ _ ⟨[s4, (.int .i64 me), s11, s12, s13, s14, s15, (.int .i64 me)], by simp only [putAll, z1, z2], s4, (.int .i64 me), s11, s12, s13, s14, s15, (.int .i64 me), c_b4, b4, rfl, lk h0, lk h1, lk h2, lk h3, lk h4, lk h5, lk h6, lk h7, fun _ => rfl, fun h => by rw [getD_keep (show 8 ≠ 7 by decide)] at h; rw [getD_keep (show 8 ≠ 6 by decide)]; exact hN_b4 h, hz0, by rw [getD_keep (show 8 ≠ 6 by decide)]; exact HF⟩
  rintro listed mm W ⟨s4, s5, s11, s12, s13, s14, s15, s16, c_b4, b4, rfl, h0, h1, h2, h3, h4, h5, h6, h7, h8, hN_b4, hz0, HF⟩ hall
  rw [hall 6 (by decide)] at HF
  simp only [onl, if_true, z7, z8] at HF
  obtain rfl := h0 (hall 0 (by decide))
  obtain rfl := h1 (hall 1 (by decide))
  obtain rfl := h2 (hall 2 (by decide))
  obtain rfl := h3 (hall 3 (by decide))
  obtain rfl := h4 (hall 4 (by decide))
  obtain rfl := h5 (hall 5 (by decide))
  obtain rfl := h6 (hall 6 (by decide))
  rw [h7 (hall 7 (by decide))] at HF
  obtain rfl := h8 (hall 8 (by decide))
  clear hall h0 h1 h2 h3 h4 h5 h6 h7 h8 hN_b4 hz0 F
  have F := HF
  clear HF
  simp only [putAll, z1, z2]
  by_cases he : ¬ me = 0
  · have hr := HR.out
    rw [if_pos (.inl he)] at hr
    subst hr
    clear HR HM
    go_wp2_with (first | go_skip | ((with_reducible apply fL F); exact rfl; exact rfl; (exact tL); (exact tR3)) | ((with_reducible apply fLm F); exact rfl; exact rfl; (exact tL); (exact tM3); (exact tR3)) | ((with_reducible apply fA_rat F); exact rfl) | ((with_reducible apply fX_rat F); exact rfl; exact rfl) | ((with_reducible apply fS F); exact rfl; exact rfl; exact rfl; (exact tL); (exact tR3); (exact tS2); clear F; intro W F; simp only [z7, z8] at F))
    go_ret2
    exact ⟨rfl, F.below⟩
  rw [Classical.not_not] at he
  have hmv := HM.out he
  have hsg := HG.out he
  subst he
  have gs := fun w => rsignZ (okZ_b hmv).1 w
  have hss : decide (mn.sign < 0) = decide (n < 0) := by rw [decide_eq_decide]; exact hsg
  obtain ⟨s, hs⟩ : ∃ s, mn.sign = s := ⟨_, rfl⟩
  rw [hs] at gs hss
  by_cases hneg : n < 0
  · have hr := HR.out
    rw [if_pos (.inr hneg)] at hr
    subst hr
    rw [decide_eq_true hneg] at hss
    clear HR HM HG hneg hs hsg
    go_wp2_with (first | go_skip | ((go_at_call 77); (with_reducible refine fr_call F (gs _) ?_); (clear F; intro W F); (try dsimp only)) | ((with_reducible apply fL F); exact rfl; exact rfl; (exact tL); (exact tR3)) | ((with_reducible apply fLm F); exact rfl; exact rfl; (exact tL); (exact tM3); (exact tR3)) | ((with_reducible apply fA_rat F); exact rfl) | ((with_reducible apply fX_rat F); exact rfl; exact rfl) | ((with_reducible apply fS F); exact rfl; exact rfl; exact rfl; (exact tL); (exact tR3); (exact tS2); clear F; intro W F; simp only [z7, z8] at F))
    go_ret2
    exact ⟨rfl, F.below⟩
  have hr := HR.out
  rw [if_neg (by
    rintro (h | h)
    · exact h rfl
    · exact hneg h)] at hr
  rw [decide_eq_false hneg] at hss
  have h32 := txtR_32 (v := okZ mn md) (n := mn) (d := md) hmv
  have g4 := fun w => rtextZ hmv (p := 6) rfl w
  have htl := txtR_len (v := okZ mn md) (n := mn) (d := md) (p := 6) (by
    have h1 := (okZ_iff.1 hmv).1.1
    exact Nat.lt_of_le_of_lt (div_le_abs _ _) (b_ten h1 (by decide))) (by decide)
  obtain ⟨t, ht⟩ : ∃ t, txtR (okZ mn md) mn md 6 = t := ⟨_, rfl⟩
  rw [ht] at g4 hr htl h32
  obtain ⟨tx, te⟩ := t
  dsimp only at g4 hr htl h32
  have e1 := bs_append tx [37]
  have e2 : bs [37] = ⟨#[37]⟩ := rfl
  rw [e2] at e1
  have st := bs_size tx
  obtain ⟨lt, hlt⟩ : ∃ k, tx.length = k := ⟨_, rfl⟩
  rw [hlt] at st htl
  have k1 : (9223372036854775807 < lt + 1) = False := by rw [eq_iff_iff, iff_false]; omega
  clear HR HM hneg hmv ht hlt e2 htl
  by_cases hte : ¬ te = 0
  · rw [if_pos hte] at hr
    obtain rfl : te = 32 := by
      rcases h32 with h | h
      · exact absurd h hte
      · exact h
    subst hr
    clear hte h32
    go_wp2_with (first | go_skip | ((go_at_call 77); (with_reducible refine fr_call F (gs _) ?_); (clear F; intro W F); (try dsimp only)) | ((go_at_call 44); (with_reducible refine fr_call F (g4 _) ?_); (clear F; intro W F); (try dsimp only)) | ((with_reducible apply fL F); exact rfl; exact rfl; (exact tL); (exact tR3)) | ((with_reducible apply fLm F); exact rfl; exact rfl; (exact tL); (exact tM3); (exact tR3)) | ((with_reducible apply fA_rat F); exact rfl) | ((with_reducible apply fX_rat F); exact rfl; exact rfl) | ((with_reducible apply fS F); exact rfl; exact rfl; exact rfl; (exact tL); (exact tR3); (exact tS2); clear F; intro W F; simp only [z7, z8] at F))
    go_ret2
    exact ⟨rfl, F.below⟩
  rw [if_neg hte] at hr
  rw [Classical.not_not] at hte
  subst hte
  subst hr
  go_wp2_with (first | go_skip | ((go_at_call 77); (with_reducible refine fr_call F (gs _) ?_); (clear F; intro W F); (try dsimp only)) | ((go_at_call 44); (with_reducible refine fr_call F (g4 _) ?_); (clear F; intro W F); (try dsimp only)) | ((with_reducible apply fL F); exact rfl; exact rfl; (exact tL); (exact tR3)) | ((with_reducible apply fLm F); exact rfl; exact rfl; (exact tL); (exact tM3); (exact tR3)) | ((with_reducible apply fA_rat F); exact rfl) | ((with_reducible apply fX_rat F); exact rfl; exact rfl) | ((with_reducible apply fS F); exact rfl; exact rfl; exact rfl; (exact tL); (exact tR3); (exact tS2); clear F; intro W F; simp only [z7, z8] at F))
  go_ret2
  exact ⟨rfl, F.below⟩
end
section
open Go.RowKit
set_option maxHeartbeats 4000000
set_option maxRecDepth 100000 in
theorem decimalFormats_any (n p : Int) {x : Bool} {a : Nat} {y : Bool} {b : Nat} (ha : a < bp 32) (hb : b < bp 32) {w : World} (ht : Tab w) : Calls Tryz.prog 9 #[.int .i64 n, .int .i64 p, .agg (ratC x a y b)] w (RetB (.bool true) w) := by
  have F := Fr.start w
  have HT := Lib.hid ht
  clear ht
  obtain ⟨s, e, g1, g2⟩ : ∃ (s : ByteArray) (e : Int), (∀ W L, Fr w W L → Calls Tryz.prog 41 #[.int .i64 n, .int .i64 p] W (RetB (.tuple #[.string s, .int .i64 e]) W)) ∧ (∀ w, Calls Tryz.prog 42 #[.int .i64 n, .int .i64 p] w (RetB (.tuple #[.string s, .int .i64 e]) w)) :=
    ⟨_, _, fun W L F => format_any n p rfl (HT.out.next F.below), fun w => rformatD_any n p rfl w⟩
  obtain ⟨s2, e2, g3, g4⟩ : ∃ (s : ByteArray) (e : Int), (∀ w, Calls Tryz.prog 43 #[.agg (ratC x a y b), .int .i64 p] w (RetB (.tuple #[.string s, .int .i64 e]) w)) ∧ (∀ w, Calls Tryz.prog 44 #[.agg (ratC x a y b), .int .i64 p] w (RetB (.tuple #[.string s, .int .i64 e]) w)) :=
    ⟨_, _, fun w => text_any ha hb rfl w, fun w => rtext_any ha hb rfl w⟩
  obtain ⟨s3, e3, g5, g6⟩ : ∃ (s : ByteArray) (e : Int), (∀ w, Calls Tryz.prog 45 #[.agg (ratC x a y b)] w (RetB (.tuple #[.string s, .int .i64 e]) w)) ∧ (∀ w, Calls Tryz.prog 46 #[.agg (ratC x a y b)] w (RetB (.tuple #[.string s, .int .i64 e]) w)) :=
    ⟨_, _, fun w => percentText_any ha hb rfl w, fun w => rpercentText_any ha hb rfl w⟩
  clear ha hb
  have gk := fun W L (F : Fr w W L) => known_any (HT.out.next F.below)
  go_enter Tryz.func9, Tryz.ntmps9
  go_wp2_with (first | go_skip | ((with_reducible apply fL F); exact rfl; exact rfl; (exact tL); (exact tR3)) | ((with_reducible apply fX_rat F); exact rfl; exact rfl))
  (clear F; intro b5 W F; try simp only [Act.put, z6, z1, z2])
  go_wp2_with (first | go_skip | ((go_at_call 41); (with_reducible refine fr_call F (g1 _ _ F) ?_); (clear F; intro W F); (try dsimp only)) | ((go_at_call 42); (with_reducible refine fr_call F (g2 _) ?_); (clear F; intro W F); (try dsimp only)) | ((go_at_call 43); (with_reducible refine fr_call F (g3 _) ?_); (clear F; intro W F); (try dsimp only)) | ((go_at_call 44); (with_reducible refine fr_call F (g4 _) ?_); (clear F; intro W F); (try dsimp only)) | ((go_at_call 45); (with_reducible refine fr_call F (g5 _) ?_); (clear F; intro W F); (try dsimp only)) | ((go_at_call 46); (with_reducible refine fr_call F (g6 _) ?_); (clear F; intro W F); (try dsimp only)) | ((go_at_call 18); (with_reducible refine fr_call F (gk _ _ F) ?_); (clear F; intro W F); (try dsimp only)) | ((with_reducible apply fL F); exact rfl; exact rfl; (exact tL); (exact tR3)) | ((with_reducible apply fX_rat F); exact rfl; exact rfl))
  go_ret
  exact ⟨rfl, F.below⟩
end
end Go.Proofs.YtpaodheilchfnaaGreatDoor
