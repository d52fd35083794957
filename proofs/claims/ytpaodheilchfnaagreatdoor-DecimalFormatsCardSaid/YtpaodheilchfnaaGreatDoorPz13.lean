/- What the laws lean on. -/
import Derived.Test.YtpaodheilchfnaaGreatDoorPz7
import Derived.Lib.SmallJoins
import Derived.Lib.SlBytesRow
namespace Go.Proofs.YtpaodheilchfnaaGreatDoor
set_option linter.unusedVariables false
set_option linter.unusedSimpArgs false
section
open Go.RowKit
set_option maxHeartbeats 4000000
section
variable {a : Act} {w W : World} {Q : Exit → Act → World → Prop} {F : List Ent} {ops : Array Oper} {rest : List Oper} {dst : Option Tmp} {ty : TypeId} {pos : String} {af : Array Edge} {gd : Option (Nat × Bool)}
theorem alloc_dbl {o : Oper} (ho : o.op = .alloc 144) : (execOp a.eval o).run Tryz.prog W = .ok (.value (.pointer (some ⟨W.heap.size, 0, none⟩))) (W.alloc (.cells (limA 64 0) 144)) := by
  obtain ⟨dst, op, pos, af, g, x⟩ := o
  subst ho
  rw [big64Z]
  go_simp
theorem fA_dbl (h : Fr w W F) (hw : Region.wanted ⟨dst, .alloc 144, ty, pos, af, gd⟩ (yielded ops a.tmps) = true) (hk : Hold (∀ b W', Fr w W' ((b, limA 64 0, 144) :: F) → wpList Tryz.prog ops Q rest (a.put dst (.pointer (some ⟨b, 0, none⟩))) W')) : wpList Tryz.prog ops Q (⟨dst, .alloc 144, ty, pos, af, gd⟩ :: rest) a W := wplF_alloc h hw (alloc_dbl rfl) hk
end
set_option maxRecDepth 100000 in
theorem rmul_any {p q : Bool} {a b : Nat} (la : a < bp 32) (lb : b < bp 32) (hm : a * b < bp 32) {s : Bool} {t : Nat} (hc : ∀ w, Calls Tryz.prog 129 #[.bool (p != q), .agg (limA 32 (a * b))] w (RetB (.agg (intC s t)) w)) (w : World) : Calls Tryz.prog 96 #[.agg (intC p a), .agg (intC q b)] w (RetB (.tuple #[.agg (intC s t), .int .i64 0]) w) := by
  have F := Fr.start w
  obtain ⟨n, hn, hun⟩ := used_ex a la
  obtain ⟨m, hm32, hum⟩ := used_ex b lb
  have g1 := fun w => rlimbs_any la hun w
  have g2 := fun w => rlimbs_any lb hum w
  have HL := Lib.hid (And.intro hun.1 hum.1)
  have HM := Lib.hid hm
  rw [show (p != q) = (!(p == q)) from rfl] at hc
  clear la lb hun hum hm
  go_enter Tryz.func96, Tryz.ntmps96
  go_wp2_with (first | go_skip | ((with_reducible apply fL F); exact rfl; exact rfl; (exact tL); (exact tR3)) | ((with_reducible apply fLm F); exact rfl; exact rfl; (exact tL); (exact tM3); (exact tR3)) | ((with_reducible apply fA_int F); exact rfl) | ((with_reducible apply fX_int F); exact rfl; exact rfl) | ((with_reducible apply fA_arr F); exact rfl) | ((with_reducible apply fS F); exact rfl; exact rfl; exact rfl; (exact tL); (exact tR3); (exact tS2); clear F; intro W F; simp only [z7, z8] at F) | ((with_reducible apply fB_int0); exact rfl))
  (clear F; intro b2 W F; try simp only [Act.put, z6, z1, z2])
  go_wp2_with (first | go_skip | ((with_reducible apply fL F); exact rfl; exact rfl; (exact tL); (exact tR3)) | ((with_reducible apply fLm F); exact rfl; exact rfl; (exact tL); (exact tM3); (exact tR3)) | ((with_reducible apply fA_int F); exact rfl) | ((with_reducible apply fX_int F); exact rfl; exact rfl) | ((with_reducible apply fA_arr F); exact rfl) | ((with_reducible apply fS F); exact rfl; exact rfl; exact rfl; (exact tL); (exact tR3); (exact tS2); clear F; intro W F; simp only [z7, z8] at F) | ((with_reducible apply fB_int0); exact rfl))
  (clear F; intro b3 W F; try simp only [Act.put, z6, z1, z2])
  go_wp2_with (first | go_skip | ((with_reducible apply fL F); exact rfl; exact rfl; (exact tL); (exact tR3)) | ((with_reducible apply fLm F); exact rfl; exact rfl; (exact tL); (exact tM3); (exact tR3)) | ((with_reducible apply fA_int F); exact rfl) | ((with_reducible apply fX_int F); exact rfl; exact rfl) | ((with_reducible apply fA_arr F); exact rfl) | ((with_reducible apply fS F); exact rfl; exact rfl; exact rfl; (exact tL); (exact tR3); (exact tS2); clear F; intro W F; simp only [z7, z8] at F) | ((with_reducible apply fB_int0); exact rfl))
  (clear F; intro b4 W F; try simp only [Act.put, z6, z1, z2])
  go_wp2_with (first | go_skip | ((with_reducible apply fA_dbl F); exact rfl) | ((with_reducible apply fL F); exact rfl; exact rfl; (exact tL); (exact tR3)) | ((with_reducible apply fLm F); exact rfl; exact rfl; (exact tL); (exact tM3); (exact tR3)) | ((with_reducible apply fA_int F); exact rfl) | ((with_reducible apply fX_int F); exact rfl; exact rfl) | ((with_reducible apply fA_arr F); exact rfl) | ((with_reducible apply fS F); exact rfl; exact rfl; exact rfl; (exact tL); (exact tR3); (exact tS2); clear F; intro W F; simp only [z7, z8] at F) | ((with_reducible apply fB_int0); exact rfl))
  (clear F; intro b6 W F; try simp only [Act.put, z6, z1, z2])
  go_wp2_with (first | go_skip | ((with_reducible apply fL F); exact rfl; exact rfl; (exact tL); (exact tR3)) | ((with_reducible apply fLm F); exact rfl; exact rfl; (exact tL); (exact tM3); (exact tR3)) | ((with_reducible apply fA_int F); exact rfl) | ((with_reducible apply fX_int F); exact rfl; exact rfl) | ((with_reducible apply fA_arr F); exact rfl) | ((with_reducible apply fS F); exact rfl; exact rfl; exact rfl; (exact tL); (exact tR3); (exact tS2); clear F; intro W F; simp only [z7, z8] at F) | ((with_reducible apply fB_int0); exact rfl))
  try simp only [Act.put, z6, z1, z2]
  refine wp_region_slots mixP [7, 8, 15, 16, 17, 18, 19, 20] (fun l mm W => ∃ (s7 s8 s15 s16 s17 s18 s19 s20 : Value), mm = [s7, s8, s15, s16, s17, s18, s19, s20] ∧ (l.getD 0 false = true → s15 = .pointer (some ⟨b2, 1, none⟩)) ∧ (l.getD 1 false = true → s16 = .agg (limA 32 a)) ∧ (l.getD 2 false = true → s17 = .int .i64 n) ∧ (l.getD 3 false = true → s18 = .pointer (some ⟨b3, 1, none⟩)) ∧ (l.getD 4 false = true → s19 = .agg (limA 32 b)) ∧ (l.getD 5 false = true → s20 = .int .i64 m) ∧ (l.getD 6 false = true → s7 = .int .i64 n) ∧ (l.getD 7 false = true → s8 = .int .i64 m) ∧ Fr w W [(b6, limA 64 0, 144), (b4, intC false 0, 29), (b3, intC q b, 29), (b2, intC p a, 29)]) (by kernel_rfl) rfl ?_ ?_ ?_
  · exact ⟨_, _, _, _, _, _, _, _, rfl, nf, nf, nf, nf, nf, nf, nf, nf, F.drew⟩
  · rintro listed mm W ii hi hsz hoff ⟨s7, s8, s15, s16, s17, s18, s19, s20, rfl, h0, h1, h2, h3, h4, h5, h6, h7, HF⟩ hd
    have hc : ii = 0 ∨ ii = 1 ∨ ii = 2 ∨ ii = 3 ∨ ii = 4 ∨ ii = 5 ∨ ii = 6 ∨ ii = 7 := by
      have hi2 : ii < 8 := hi
      omega
    have hsz2 : listed.size = 8 := hsz
    clear hi hsz
    rcases hc with rfl | rfl | rfl | rfl | rfl | rfl | rfl | rfl
    · refine wpOp_want rfl rfl (fun K hK => ?_)
      simp only [putAll, z1, z2, z3, z4, z5]
      refine ⟨?_⟩
      go_simp
      exact hK _ _ ⟨[s7, s8, (.pointer (some ⟨b2, 1, none⟩)), s16, s17, s18, s19, s20], by simp only [putAll, z1, z2], s7, s8, (.pointer (some ⟨b2, 1, none⟩)), s16, s17, s18, s19, s20, rfl, fun _ => rfl, lk h1, lk h2, lk h3, lk h4, lk h5, lk h6, lk h7, HF⟩
    · have d0 := h0 (hd 0 (by kernel_rfl))
      obtain rfl := d0
      refine wpOp_want rfl rfl (fun K hK => ?_)
      simp only [putAll, z1, z2, z3, z4, z5]
      with_reducible apply gLm HF
      · exact rfl
      · (exact tL)
      · exact intC_tail _ _
      · (first | (exact tR3))
      go_simp
      exact hK _ _ ⟨[s7, s8, (.pointer (some ⟨b2, 1, none⟩)), (.agg (limA 32 a)), s17, s18, s19, s20], by simp only [putAll, z1, z2], s7, s8, (.pointer (some ⟨b2, 1, none⟩)), (.agg (limA 32 a)), s17, s18, s19, s20, rfl, lk h0, fun _ => rfl, lk h2, lk h3, lk h4, lk h5, lk h6, lk h7, HF⟩
    · have d1 := h1 (hd 1 (by kernel_rfl))
      obtain rfl := d1
      refine wpOp_want rfl rfl (fun K hK => ?_)
      simp only [putAll, z1, z2, z3, z4, z5]
      refine ⟨?_⟩
      go_simp
      with_reducible refine fr_call HF (g1 _) ?_
      clear HF
      intro W HF
      (try dsimp only)
      exact hK _ _ ⟨[s7, s8, s15, (.agg (limA 32 a)), (.int .i64 n), s18, s19, s20], by simp only [putAll, z1, z2], s7, s8, s15, (.agg (limA 32 a)), (.int .i64 n), s18, s19, s20, rfl, lk h0, lk h1, fun _ => rfl, lk h3, lk h4, lk h5, lk h6, lk h7, HF⟩
    · refine wpOp_want rfl rfl (fun K hK => ?_)
      simp only [putAll, z1, z2, z3, z4, z5]
      refine ⟨?_⟩
      go_simp
      exact hK _ _ ⟨[s7, s8, s15, s16, s17, (.pointer (some ⟨b3, 1, none⟩)), s19, s20], by simp only [putAll, z1, z2], s7, s8, s15, s16, s17, (.pointer (some ⟨b3, 1, none⟩)), s19, s20, rfl, lk h0, lk h1, lk h2, fun _ => rfl, lk h4, lk h5, lk h6, lk h7, HF⟩
    · have d3 := h3 (hd 3 (by kernel_rfl))
      obtain rfl := d3
      refine wpOp_want rfl rfl (fun K hK => ?_)
      simp only [putAll, z1, z2, z3, z4, z5]
      with_reducible apply gLm HF
      · exact rfl
      · (exact tL)
      · exact intC_tail _ _
      · (first | (exact tR3))
      go_simp
      exact hK _ _ ⟨[s7, s8, s15, s16, s17, (.pointer (some ⟨b3, 1, none⟩)), (.agg (limA 32 b)), s20], by simp only [putAll, z1, z2], s7, s8, s15, s16, s17, (.pointer (some ⟨b3, 1, none⟩)), (.agg (limA 32 b)), s20, rfl, lk h0, lk h1, lk h2, lk h3, fun _ => rfl, lk h5, lk h6, lk h7, HF⟩
    · have d4 := h4 (hd 4 (by kernel_rfl))
      obtain rfl := d4
      refine wpOp_want rfl rfl (fun K hK => ?_)
      simp only [putAll, z1, z2, z3, z4, z5]
      refine ⟨?_⟩
      go_simp
      with_reducible refine fr_call HF (g2 _) ?_
      clear HF
      intro W HF
      (try dsimp only)
      exact hK _ _ ⟨[s7, s8, s15, s16, s17, s18, (.agg (limA 32 b)), (.int .i64 m)], by simp only [putAll, z1, z2], s7, s8, s15, s16, s17, s18, (.agg (limA 32 b)), (.int .i64 m), rfl, lk h0, lk h1, lk h2, lk h3, lk h4, fun _ => rfl, lk h6, lk h7, HF⟩
    · have d2 := h2 (hd 2 (by kernel_rfl))
      obtain rfl := d2
      refine wpOp_want rfl rfl (fun K hK => ?_)
      simp only [putAll, z1, z2, z3, z4, z5]
      refine ⟨?_⟩
      go_simp
      exact hK _ _ ⟨[(.int .i64 n), s8, s15, s16, (.int .i64 n), s18, s19, s20], by simp only [putAll, z1, z2], (.int .i64 n), s8, s15, s16, (.int .i64 n), s18, s19, s20, rfl, lk h0, lk h1, lk h2, lk h3, lk h4, lk h5, fun _ => rfl, lk h7, HF⟩
    · have d5 := h5 (hd 5 (by kernel_rfl))
      obtain rfl := d5
      refine wpOp_want rfl rfl (fun K hK => ?_)
      simp only [putAll, z1, z2, z3, z4, z5]
      refine ⟨?_⟩
      go_simp
      exact hK _ _ ⟨[s7, (.int .i64 m), s15, s16, s17, s18, s19, (.int .i64 m)], by simp only [putAll, z1, z2], s7, (.int .i64 m), s15, s16, s17, s18, s19, (.int .i64 m), rfl, lk h0, lk h1, lk h2, lk h3, lk h4, lk h5, lk h6, fun _ => rfl, HF⟩
  rintro listed mm W ⟨s7, s8, s15, s16, s17, s18, s19, s20, rfl, h0, h1, h2, h3, h4, h5, h6, h7, HF⟩ hall
  obtain rfl := h0 (hall 0 (by decide))
  obtain rfl := h1 (hall 1 (by decide))
  obtain rfl := h2 (hall 2 (by decide))
  obtain rfl := h3 (hall 3 (by decide))
  obtain rfl := h4 (hall 4 (by decide))
  obtain rfl := h5 (hall 5 (by decide))
  obtain rfl := h6 (hall 6 (by decide))
  obtain rfl := h7 (hall 7 (by decide))
  clear hall h0 h1 h2 h3 h4 h5 h6 h7 F
  have F := HF
  clear HF
  simp only [putAll, z1, z2]
  clear g1 g2
  go_wp2_with fail
  go_loopw [9] (fun iv wr => ∃ i : Nat, i ≤ n ∧ iv = .int .i64 i ∧ Fr w wr [(b6, limA 64 ((a % bp i) * b), 144), (b4, intC false 0, 29), (b3, intC q b, 29), (b2, intC p a, 29)]) (fun iv _ => n - (intOf iv).toNat)
  case atStart => exact ⟨0, by omega, rfl, by rw [bp_zero, Nat.mod_one, Nat.zero_mul]; exact F⟩
  case round =>
    clear F
    obtain ⟨i, hi, rfl, F⟩ := hrel
    by_cases hin : i < n
    · have hc0 : (a % bp i) * b < bp (i + m) := by
        rw [bp_add]
        exact Nat.lt_of_le_of_lt (Nat.mul_le_mul_right b (Nat.le_of_lt (Nat.mod_lt a (bp_pos i)))) (Nat.mul_lt_mul_of_pos_left HL.out.2 (bp_pos i))
      have HC0 := Lib.hid hc0
      clear hc0
      go_wp2_with fail
      go_loopw [10, 11] (fun qv jv wr => ∃ j k c : Nat, j ≤ m ∧ k < 4294967296 ∧ qv = .int .u64 k ∧ jv = .int .i64 j ∧ c < bp (i + m) ∧ c + k * bp (i + j) = (a % bp i) * b + lim a i * (b % bp j) * bp i ∧ Fr w wr [(b6, limA 64 c, 144), (b4, intC false 0, 29), (b3, intC q b, 29), (b2, intC p a, 29)]) (fun _ jv _ => m - (intOf jv).toNat)
      case atStart => exact ⟨0, 0, (a % bp i) * b, by omega, by omega, rfl, rfl, HC0.out, by rw [bp_zero, Nat.mod_one]; omega, F⟩
      case round =>
        clear F HC0
        obtain ⟨j, k, c, hj, hk, rfl, rfl, hcl, hrl, F⟩ := hrel
        have HC := Lib.hid (And.intro hcl hrl)
        clear hcl hrl
        by_cases hjm : j < m
        · obtain ⟨x, hx⟩ : ∃ x, lim a i = x := ⟨_, rfl⟩
          obtain ⟨y, hy⟩ : ∃ y, lim b j = y := ⟨_, rfl⟩
          obtain ⟨z, hz⟩ : ∃ z, lim c (i + j) = z := ⟨_, rfl⟩
          obtain ⟨ij, hij⟩ : ∃ ij, i + j = ij := ⟨_, rfl⟩
          have hx1 := lim_lt a i
          have hy1 := lim_lt b j
          have hz1 := lim_lt c (i + j)
          have hst := times_step HC.out.2
          have hlt := times_lt hx1 hy1 hz1 hk
          rw [hx, hy, hz] at hst hlt
          rw [hx] at hx1
          rw [hy] at hy1
          rw [hz] at hz1
          obtain ⟨p1, hp1⟩ : ∃ p, x * y = p := ⟨_, rfl⟩
          obtain ⟨p2, hp2⟩ : ∃ p, p1 + z = p := ⟨_, rfl⟩
          obtain ⟨t, ht⟩ : ∃ t, p2 + k = t := ⟨_, rfl⟩
          rw [hp1, hp2, ht] at hst hlt
          obtain ⟨d, hd⟩ : ∃ d, t % 4294967296 = d := ⟨_, rfl⟩
          obtain ⟨q', hq'⟩ : ∃ q', t / 4294967296 = q' := ⟨_, rfl⟩
          rw [hd, hq', hij] at hst
          have hd1 : d < 4294967296 := by omega
          have hq1 : q' < 4294967296 := by omega
          have c1 := (F.get (b := b2) tL).cell (intC_limb (n := p) (m := a) (show i < 32 by omega))
          have c2 := (F.get (b := b3) tL).cell (intC_limb (n := q) (m := b) (show j < 32 by omega))
          have c3 := (F.get (b := b6) tL).cell (limA_at (n := 64) (m := c) (show ij < 64 by omega))
          rw [hx] at c1
          rw [hy] at c2
          rw [← hij, hz, hij] at c3
          have m0 : IntKind.i64.wrap ((i : Int) + (j : Int)) = (ij : Int) := by rw [show (i : Int) + (j : Int) = (ij : Int) by omega]; exact IntWalk.i64_in _ (by omega)
          have m00 : (i : Int) + (j : Int) = (ij : Int) := by omega
          have e1 : IntKind.u64.wrap (x : Int) = (x : Int) := wrap64 (by omega)
          have e2 : IntKind.u64.wrap (y : Int) = (y : Int) := wrap64 (by omega)
          have e3 : IntKind.u64.wrap (z : Int) = (z : Int) := wrap64 (by omega)
          have m1 : IntKind.u64.wrap ((x : Int) * (y : Int)) = (p1 : Int) := by
            rw [show (x : Int) * (y : Int) = ((p1 : Nat) : Int) by rw [← hp1]; push_cast; rfl]
            exact wrap64 (by omega)
          have m2 : IntKind.u64.wrap ((p1 : Int) + (z : Int)) = (p2 : Int) := by
            rw [show (p1 : Int) + (z : Int) = ((p2 : Nat) : Int) by omega]
            exact wrap64 (by omega)
          have m3 : IntKind.u64.wrap ((p2 : Int) + (k : Int)) = (t : Int) := by
            rw [show (p2 : Int) + (k : Int) = ((t : Nat) : Int) by omega]
            exact wrap64 (by omega)
          have m4 : (t : Int) % 4294967296 = (d : Int) := by omega
          have m5 : (t : Int) / 4294967296 = (q' : Int) := by omega
          have i0 : (0 : Int) ≤ (i : Int) := by omega
          have i1 : (i : Int) < 32 := by omega
          have j0 : (0 : Int) ≤ (j : Int) := by omega
          have j1 : (j : Int) < 32 := by omega
          have ij0 : (0 : Int) ≤ (ij : Int) := by omega
          have ij1 : (ij : Int) < 64 := by omega
          have ij64 : ij < 64 := by omega
          have HN := Lib.hid (show setM c ij d < bp (i + m) ∧ setM c ij d + q' * bp (i + (j + 1)) = (a % bp i) * b + lim a i * (b % bp (j + 1)) * bp i from ⟨setM_lt HC.out.1 (by omega) hd1, by rw [hx]; exact hst⟩)
          clear hx hy hz hij hst hlt hp1 hp2 ht hd hq' hx1 hy1 hz1
          go_wp2_with fail
          go_quiet (fail)
          replace F := F.drewN nq
          generalize wr.drewN nq = wq at *
          have cst := (F.get (b := b6) tL).cell (limA_at (n := 64) (m := c) ij64)
          have fst := BlkAt.fz (F.get (b := b6) tL) ij
          have HWS := Lib.hid ((F.cellA (A := []) ij (.int .u32 d)).is (limA_set hd1))
          clear F c1 c2 c3
          go_wp2_with fail
          go_roundw
          case rel => exact ⟨j + 1, q', setM c ij d, by omega, hq1, rfl, by go_num, HN.out.1, HN.out.2, HWS.out⟩
          case measure => simp [intOf]; omega
        · obtain rfl : j = m := by omega
          obtain ⟨ij, hij⟩ : ∃ ij, i + j = ij := ⟨_, rfl⟩
          obtain ⟨hr1, hr2⟩ := times_row HL.out.2 HC.out.1 hk HC.out.2
          rw [hij] at hr1 hr2
          have m0 : IntKind.i64.wrap ((i : Int) + (j : Int)) = (ij : Int) := by rw [show (i : Int) + (j : Int) = (ij : Int) by omega]; exact IntWalk.i64_in _ (by omega)
          have m00 : (i : Int) + (j : Int) = (ij : Int) := by omega
          have m4 : (k : Int) % 4294967296 = (k : Int) := by omega
          have ij0 : (0 : Int) ≤ (ij : Int) := by omega
          have ij1 : (ij : Int) < 64 := by omega
          have cst := (F.get (b := b6) tL).cell (limA_at (n := 64) (m := c) (show ij < 64 by omega))
          have fst := BlkAt.fz (F.get (b := b6) tL) ij
          have HWS := Lib.hid ((F.cellA (A := []) ij (.int .u32 k)).is (limA_set hk))
          have HRS := Lib.hid hr1
          clear hr1 hr2 hij HC F
          go_wp2_with fail
          go_roundw
          case rel => exact ⟨i + 1, by omega, by go_num, by rw [← HRS.out]; exact HWS.out⟩
          case measure => simp [intOf]; omega
    · obtain rfl : i = n := by omega
      rw [Nat.mod_eq_of_lt HL.out.1] at F
      obtain ⟨c, hcc⟩ : ∃ c, a * b = c := ⟨_, rfl⟩
      rw [hcc] at F HM hc
      clear hcc HL hi hin
      go_wp2_with (first | go_skip | ((with_reducible apply fL F); exact rfl; exact rfl; (exact tL); (exact tR3)) | ((with_reducible apply fLm F); exact rfl; exact rfl; (exact tL); (exact tM3); (exact tR3)) | ((with_reducible apply fA_int F); exact rfl) | ((with_reducible apply fX_int F); exact rfl; exact rfl) | ((with_reducible apply fA_arr F); exact rfl) | ((with_reducible apply fS F); exact rfl; exact rfl; exact rfl; (exact tL); (exact tR3); (exact tS2); clear F; intro W F; simp only [z7, z8] at F) | ((with_reducible apply fB_int0); exact rfl))
      (clear F; intro b13 W F; try simp only [Act.put, z6, z1, z2])
      go_wp2_with fail
      go_loopw [14] (fun iv wr => ∃ i : Nat, i ≤ 32 ∧ iv = .int .i64 i ∧ Fr w wr [(b13, limA 32 (c % bp i), 27), (b6, limA 64 c, 144), (b4, intC false 0, 29), (b3, intC q b, 29), (b2, intC p a, 29)]) (fun iv _ => 32 - (intOf iv).toNat)
      case atStart => exact ⟨0, by omega, rfl, by rw [bp_zero, Nat.mod_one]; exact F⟩
      case round =>
        clear F
        obtain ⟨e, he, rfl, F⟩ := hrel
        by_cases hlt : e < 32
        · obtain ⟨h, hh⟩ : ∃ h, 32 + e = h := ⟨_, rfl⟩
          have c1 := (F.get (b := b6) tL).cell (limA_at (n := 64) (m := c) (show h < 64 by omega))
          rw [lim_ge HM.out (show 32 ≤ h by omega)] at c1
          have c2 := (F.get (b := b6) tL).cell (limA_at (n := 64) (m := c) (show e < 64 by omega))
          have c3 := (F.get (b := b13) tL).cell (limA_at (n := 32) (m := c % bp e) hlt)
          have f3 := BlkAt.fz (F.get (b := b13) tL) e
          have hz1 := lim_lt c e
          obtain ⟨z, hz⟩ : ∃ z, lim c e = z := ⟨_, rfl⟩
          rw [hz] at c2 hz1
          have hstep : setM (c % bp e) e z = c % bp (e + 1) := by
            rw [setM_new (Nat.mod_lt _ (bp_pos e)), mod_succ, hz]
          have HN := (F.cellA (A := []) e (.int .u32 z)).is (limA_set hz1)
          rw [hstep] at HN
          have HN := Lib.hid HN
          have m0 : IntKind.i64.wrap (32 + (e : Int)) = (h : Int) := by rw [show 32 + (e : Int) = (h : Int) by omega]; exact IntWalk.i64_in _ (by omega)
          have m00 : 32 + (e : Int) = (h : Int) := by omega
          obtain ⟨we1, we2, we3⟩ : RowKit.wrap64 (h : Int) = (h : Int) ∧ True ∧ True := ⟨by rw [RowKit.wrap64]; omega, trivial, trivial⟩
          have i0 : (0 : Int) ≤ (e : Int) := by omega
          have i1 : (e : Int) < 32 := by omega
          have i64 : (e : Int) < 64 := by omega
          have h0 : (0 : Int) ≤ (h : Int) := by omega
          have h1 : (h : Int) < 64 := by omega
          clear hh hz hstep F
          go_wp2_with fail
          go_roundw
          case rel => exact ⟨e + 1, by omega, by go_num, HN.out⟩
          case measure => simp [intOf]; omega
        · obtain rfl : e = 32 := by omega
          rw [Nat.mod_eq_of_lt HM.out] at F
          have c1 := (F.get (b := b2) tL).cell (intC_neg p a)
          have c2 := (F.get (b := b3) tL).cell (intC_neg q b)
          clear hlt he
          go_wp2_with (first | go_skip | ((go_at_call 129); (with_reducible refine fr_call F (hc _) ?_); (clear F; intro W F); (try dsimp only)) | ((with_reducible apply fL F); exact rfl; exact rfl; (exact tL); (exact tR3)) | ((with_reducible apply fLm F); exact rfl; exact rfl; (exact tL); (exact tM3); (exact tR3)) | ((with_reducible apply fA_int F); exact rfl) | ((with_reducible apply fX_int F); exact rfl; exact rfl) | ((with_reducible apply fA_arr F); exact rfl) | ((with_reducible apply fS F); exact rfl; exact rfl; exact rfl; (exact tL); (exact tR3); (exact tS2); clear F; intro W F; simp only [z7, z8] at F) | ((with_reducible apply fB_int0); exact rfl))
          exact bodyPost_ret (res_cs rfl rfl rfl (Fr.get F tL) (rowInt _ _)) rfl ⟨rfl, F.below⟩
theorem rmulZ {x y : Int} (hx : x.natAbs < bp 32) (hy : y.natAbs < bp 32) (h : (x * y).natAbs < bp 32) (w : World) : Calls Tryz.prog 96 #[.agg (IC x), .agg (IC y)] w (RetB (.tuple #[.agg (IC (x * y)), .int .i64 0]) w) := by
  have hm : x.natAbs * y.natAbs < bp 32 := by rw [← Int.natAbs_mul]; exact h
  refine rmul_any hx hy hm (fun w => rcanonZ hm (Int.natAbs_mul x y).symm ?_ ?_ w) w
  · intro h1
    rcases Int.lt_trichotomy x 0 with hx0 | hx0 | hx0 <;> rcases Int.lt_trichotomy y 0 with hy0 | hy0 | hy0
    · exact absurd h1 (by have := Int.mul_pos_of_neg_of_neg hx0 hy0; omega)
    · rw [hy0, Int.mul_zero] at h1; exact absurd h1 (by decide)
    · simp [hx0, Int.not_lt.2 (Int.le_of_lt hy0)]
    · rw [hx0, Int.zero_mul] at h1; exact absurd h1 (by decide)
    · rw [hx0, Int.zero_mul] at h1; exact absurd h1 (by decide)
    · rw [hx0, Int.zero_mul] at h1; exact absurd h1 (by decide)
    · simp [hy0, Int.not_lt.2 (Int.le_of_lt hx0)]
    · rw [hy0, Int.mul_zero] at h1; exact absurd h1 (by decide)
    · exact absurd h1 (by have := Int.mul_pos hx0 hy0; omega)
  · intro h1
    rcases Int.lt_trichotomy x 0 with hx0 | hx0 | hx0 <;> rcases Int.lt_trichotomy y 0 with hy0 | hy0 | hy0
    · simp [hx0, hy0]
    · rw [hy0, Int.mul_zero] at h1; exact absurd h1 (by decide)
    · exact absurd h1 (by have := Int.mul_neg_of_neg_of_pos hx0 hy0; omega)
    · rw [hx0, Int.zero_mul] at h1; exact absurd h1 (by decide)
    · rw [hx0, Int.zero_mul] at h1; exact absurd h1 (by decide)
    · rw [hx0, Int.zero_mul] at h1; exact absurd h1 (by decide)
    · exact absurd h1 (by have := Int.mul_neg_of_pos_of_neg hx0 hy0; omega)
    · rw [hy0, Int.mul_zero] at h1; exact absurd h1 (by decide)
    · simp [Int.not_lt.2 (Int.le_of_lt hx0), Int.not_lt.2 (Int.le_of_lt hy0)]
end
section
open Go.RowKit
set_option maxHeartbeats 4000000
theorem dr_c7 {i : Nat} (h : i < 7) : i = 0 ∨ i = 1 ∨ i = 2 ∨ i = 3 ∨ i = 4 ∨ i = 5 ∨ i = 6 := by omega
end
section
open Go.RowKit
set_option maxHeartbeats 4000000
theorem sgN_eq0 {x : Bool} {a : Nat} : (sgN x a == 0) = decide (a = 0) := by
  obtain ⟨h1, h2⟩ := sgN_0 (neg := x) (m := a) rfl
  by_cases h : a = 0
  · rw [h1 h, decide_eq_true h]; rfl
  · rw [h2 h, decide_eq_false h]
    cases x <;> rfl
theorem okR_eq {x : Bool} {a : Nat} {y : Bool} {b : Nat} : decide (okR x a y b) = ((!(x && decide (a = 0))) && (decide (0 < sgN y b) && (decide (bl a ≤ 480) && (decide (bl b ≤ 480) && (Nat.gcd a b == 1))))) := by
  rw [Bool.eq_iff_iff, decide_eq_true_eq]
  simp only [Bool.and_eq_true, decide_eq_true_eq, beq_iff_eq, Bool.not_eq_true', Bool.and_eq_false_iff]
  unfold okR
  have hy : 0 < sgN y b → (!y || !decide (b = 0)) = true := fun h => by
    obtain ⟨h1, h2⟩ := sgN_0 (neg := y) (m := b) rfl
    by_cases hb : b = 0
    · rw [h1 hb] at h
      omega
    · simp [hb]
  constructor
  · rintro ⟨⟨h1, h2⟩, h3, h4, h5, h6⟩
    refine ⟨?_, h5, h1, h2, h6⟩
    cases x
    · exact .inl rfl
    · exact .inr (by simpa using h3)
  · rintro ⟨h3, h5, h1, h2, h6⟩
    refine ⟨⟨h1, h2⟩, ?_, hy h5, h5, h6⟩
    rcases h3 with h3 | h3
    · rw [h3]; rfl
    · rw [h3]; cases x <;> rfl
set_option maxRecDepth 100000 in
theorem rvalid_any {x : Bool} {a : Nat} {y : Bool} {b : Nat} (ha : a < bp 32) (hb : b < bp 32) {f : Bool} (hf : decide (okR x a y b) = f) (w : World) : Calls Tryz.prog 51 #[.agg (ratC x a y b)] w (RetB (.bool f) w) := by
  have F := Fr.start w
  have e0 := sgN_eq0 (x := x) (a := a)
  rw [okR_eq] at hf
  obtain ⟨s, hs⟩ : ∃ v, sgN x a = v := ⟨_, rfl⟩
  obtain ⟨v, hv⟩ : ∃ v, sgN y b = v := ⟨_, rfl⟩
  have g1 := fun w => rsign_any (neg := x) ha hs w
  have g2 := fun w => rsign_any (neg := y) hb hv w
  have g3 := fun w => rbits_any (neg := x) ha w
  have g4 := fun w => rbits_any (neg := y) hb w
  have g5 := fun w => rgcd_any (x := x) (y := y) ha hb w
  have hg : Nat.gcd a b < bp 32 := by
    rcases Nat.eq_zero_or_pos a with h | h
    · rw [h, Nat.gcd_zero_left]
      exact hb
    · exact Nat.lt_of_le_of_lt (Nat.gcd_le_left b h) ha
  obtain ⟨g, hgg⟩ : ∃ g, Nat.gcd a b = g := ⟨_, rfl⟩
  obtain ⟨A, hA⟩ : ∃ A, bl a = A := ⟨_, rfl⟩
  obtain ⟨B, hB⟩ : ∃ B, bl b = B := ⟨_, rfl⟩
  rw [hs] at e0
  rw [hv, hA, hB, hgg] at hf
  rw [hA] at g3
  rw [hB] at g4
  rw [hgg] at g5 hg
  have eq1 := fun w => eq_IC 9997 (x := (g : Int)) (y := 1) (by omega) (by decide) w
  obtain ⟨q, hq1, hq2⟩ : (∃ q, decide ((g : Int) = 1) = q ∧ (g == 1) = q) := ⟨_, rfl, by rw [Bool.eq_iff_iff, beq_iff_eq, decide_eq_true_eq]; omega⟩
  rw [hq1] at eq1
  rw [hq2] at hf
  have fi := fun w => rfromZ (n := 1) (by decide) (by decide) w
  have cx : (ratC x a y b)[0]? = some (.bool x) := by
    unfold ratC
    rw [Array.getElem?_append_left (by rw [intC_size]; decide)]
    exact intC_neg x a
  obtain ⟨z, hz⟩ : ∃ z, decide (a = 0) = z := ⟨_, rfl⟩
  rw [hz] at e0 hf
  have HF := Lib.hid hf
  clear hf hs hv hgg hA hB hq1 hq2 hg hz ha hb
  go_enter Tryz.func51, Tryz.ntmps51
  go_wp2_with (first | go_skip | ((with_reducible apply fL F); exact rfl; exact rfl; (exact tL); (exact tR3)) | ((with_reducible apply fLm F); exact rfl; exact rfl; (exact tL); (exact tM3); (exact tR3)) | ((with_reducible apply fX_rat F); exact rfl; exact rfl))
  (clear F; intro b1 W F; try simp only [Act.put, z6, z1, z2])
  go_upto_region 1 with (first | go_skip | ((with_reducible apply fL F); exact rfl; exact rfl; (exact tL); (exact tR3)) | ((with_reducible apply fLm F); exact rfl; exact rfl; (exact tL); (exact tM3); (exact tR3)) | ((with_reducible apply fX_rat F); exact rfl; exact rfl))
  have c0 := (F.get (b := b1) tL).cell cx
  go_cut [17] from 3 to 17 (fun k wr => k = .bool ((x && z) || !decide (0 < v)) ∧ Fr w wr [(b1, ratC x a y b, 31)])
  case first =>
    by_cases hv : 0 < v
    all_goals
      first
      | (have t1 : decide (v ≤ 0) = false := decide_eq_false (by omega))
      | (have t1 : decide (v ≤ 0) = true := decide_eq_true (by omega))
      first
      | (have t2 : decide (0 < v) = true := decide_eq_true (by omega))
      | (have t2 : decide (0 < v) = false := decide_eq_false (by omega))
      clear hv
      cases x <;> cases z
      all_goals
        go_wp2_with (first | go_skip | ((go_at_call 77); (with_reducible refine fr_call F (g1 _) ?_); (clear F; intro W F); (try dsimp only)) | ((go_at_call 77); (with_reducible refine fr_call F (g2 _) ?_); (clear F; intro W F); (try dsimp only)) | ((with_reducible apply fL F); exact rfl; exact rfl; (exact tL); (exact tR3)) | ((with_reducible apply fLm F); exact rfl; exact rfl; (exact tL); (exact tM3); (exact tR3)) | ((with_reducible apply fX_rat F); exact rfl; exact rfl))
        go_meet
        exact ⟨by first | rfl | (rw [t2]; rfl), F⟩
  case rest =>
  clear F c0
  obtain ⟨rfl, F⟩ := hcut
  obtain ⟨k, hk⟩ : ∃ k, ((x && z) || !decide (0 < v)) = k := ⟨_, rfl⟩
  rw [hk]
  cases k
  · have hf : (decide (A ≤ 480) && (decide (B ≤ 480) && q)) = f := by
      rw [← HF.out]
      rw [Bool.or_eq_false_iff] at hk
      rw [hk.1, (by simpa using hk.2 : decide (0 < v) = true)]
      rfl
    have HF2 := Lib.hid hf
    clear hf HF hk
    by_cases h1 : A ≤ 480
    · have t1 : decide ((A : Int) ≤ 480) = true := decide_eq_true (by omega)
      by_cases h2 : B ≤ 480
      · have t2 : decide ((B : Int) ≤ 480) = true := decide_eq_true (by omega)
        have hf := HF2.out
        rw [decide_eq_true h1, decide_eq_true h2] at hf
        simp only [Bool.true_and] at hf
        subst hf
        clear HF2
        go_wp2_with (first | go_skip | ((go_at_call 97); (with_reducible refine fr_call F (g3 _) ?_); (clear F; intro W F); (try dsimp only)) | ((go_at_call 97); (with_reducible refine fr_call F (g4 _) ?_); (clear F; intro W F); (try dsimp only)) | ((go_at_call 98); (with_reducible refine fr_call F (g5 _) ?_); (clear F; intro W F); (try dsimp only)) | ((go_at_call 80); (with_reducible refine fr_call F (fi _) ?_); (clear F; intro W F); (try dsimp only)) | ((with_reducible apply fL F); exact rfl; exact rfl; (exact tL); (exact tR3)) | ((with_reducible apply fLm F); exact rfl; exact rfl; (exact tL); (exact tM3); (exact tR3)) | ((with_reducible apply fX_rat F); exact rfl; exact rfl))
        go_ret
        exact ⟨rfl, F.below⟩
      · have t2 : decide ((B : Int) ≤ 480) = false := decide_eq_false (by omega)
        have hf := HF2.out
        rw [decide_eq_true h1, decide_eq_false h2] at hf
        simp only [Bool.true_and, Bool.false_and] at hf
        subst hf
        clear HF2
        go_wp2_with (first | go_skip | ((go_at_call 97); (with_reducible refine fr_call F (g3 _) ?_); (clear F; intro W F); (try dsimp only)) | ((go_at_call 97); (with_reducible refine fr_call F (g4 _) ?_); (clear F; intro W F); (try dsimp only)) | ((with_reducible apply fL F); exact rfl; exact rfl; (exact tL); (exact tR3)) | ((with_reducible apply fLm F); exact rfl; exact rfl; (exact tL); (exact tM3); (exact tR3)) | ((with_reducible apply fX_rat F); exact rfl; exact rfl))
        go_ret
        exact ⟨rfl, F.below⟩
    · have t1 : decide ((A : Int) ≤ 480) = false := decide_eq_false (by omega)
      have hf := HF2.out
      rw [decide_eq_false h1] at hf
      simp only [Bool.false_and] at hf
      subst hf
      clear HF2
      go_wp2_with (first | go_skip | ((go_at_call 97); (with_reducible refine fr_call F (g3 _) ?_); (clear F; intro W F); (try dsimp only)) | ((with_reducible apply fL F); exact rfl; exact rfl; (exact tL); (exact tR3)) | ((with_reducible apply fLm F); exact rfl; exact rfl; (exact tL); (exact tM3); (exact tR3)) | ((with_reducible apply fX_rat F); exact rfl; exact rfl))
      go_ret
      exact ⟨rfl, F.below⟩
  · have hf : f = false := by
      rw [← HF.out]
      rw [Bool.or_eq_true] at hk
      rcases hk with h | h
      · rw [h]; rfl
      · rw [Bool.not_eq_true'] at h
        rw [h]
        simp
    subst hf
    clear HF hk
    go_wp2_with (first | go_skip | ((with_reducible apply fL F); exact rfl; exact rfl; (exact tL); (exact tR3)) | ((with_reducible apply fLm F); exact rfl; exact rfl; (exact tL); (exact tM3); (exact tR3)) | ((with_reducible apply fX_rat F); exact rfl; exact rfl))
    go_ret
    exact ⟨rfl, F.below⟩
end
end Go.Proofs.YtpaodheilchfnaaGreatDoor
