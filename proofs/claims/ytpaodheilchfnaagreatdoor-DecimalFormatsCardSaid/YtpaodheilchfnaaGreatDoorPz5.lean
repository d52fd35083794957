/- What the laws lean on. -/
import Derived.Test.YtpaodheilchfnaaGreatDoorPz4
namespace Go.Proofs.YtpaodheilchfnaaGreatDoor
set_option linter.unusedVariables false
set_option linter.unusedSimpArgs false
section
open Go.RowKit
set_option maxHeartbeats 2000000
theorem divN {x y : Int} (h0 : y ≠ 0) (h : ¬ (x < 0 ∧ x.natAbs % y.natAbs ≠ 0)) : x.natAbs / y.natAbs = (x / y).natAbs ∧ ((x.natAbs % y.natAbs : Nat) : Int) = x % y := by
  have hy : y.natAbs ≠ 0 := by omega
  rcases Int.lt_or_le x 0 with hx | hx
  · have hz : x.natAbs % y.natAbs = 0 := Classical.byContradiction fun hn => h ⟨hx, hn⟩
    have hd : y ∣ x := by
      rw [← Int.natAbs_dvd_natAbs]
      exact Nat.dvd_of_mod_eq_zero hz
    rw [hz, Int.emod_eq_zero_of_dvd hd]
    refine ⟨?_, rfl⟩
    obtain ⟨k, rfl⟩ := hd
    rw [Int.mul_ediv_cancel_left _ h0, Int.natAbs_mul, Nat.mul_div_cancel_left _ (by omega)]
  · obtain ⟨a, rfl⟩ := Int.eq_ofNat_of_zero_le hx
    refine ⟨?_, ?_⟩
    · rw [Int.natAbs_natCast]
      rcases Int.lt_or_le y 0 with hy2 | hy2
      · obtain ⟨b, rfl⟩ : ∃ b : Nat, y = -(b : Int) := ⟨y.natAbs, by omega⟩
        rw [Int.ediv_neg, Int.natAbs_neg, Int.natAbs_neg, Int.natAbs_natCast, ← Int.natCast_ediv, Int.natAbs_natCast]
      · obtain ⟨b, rfl⟩ := Int.eq_ofNat_of_zero_le hy2
        rw [Int.natAbs_natCast, ← Int.natCast_ediv, Int.natAbs_natCast]
    · rw [Int.natAbs_natCast, Int.natCast_emod]
      rcases Int.lt_or_le y 0 with hy2 | hy2
      · rw [show ((y.natAbs : Nat) : Int) = -y by omega, Int.emod_neg]
      · rw [show ((y.natAbs : Nat) : Int) = y by omega]
theorem divC {x y : Int} (h0 : y ≠ 0) (h : x < 0 ∧ x.natAbs % y.natAbs ≠ 0) : x.natAbs / y.natAbs + 1 = (x / y).natAbs ∧ ((y.natAbs - x.natAbs % y.natAbs : Nat) : Int) = x % y := by
  obtain ⟨hx, hm⟩ := h
  have hy : 0 < y.natAbs := by omega
  have hlt := Nat.mod_lt x.natAbs hy
  have hdm := Nat.div_add_mod x.natAbs y.natAbs
  obtain ⟨q, hq⟩ : ∃ q, x.natAbs / y.natAbs = q := ⟨_, rfl⟩
  obtain ⟨r, hr⟩ : ∃ r, x.natAbs % y.natAbs = r := ⟨_, rfl⟩
  rw [hq, hr] at hdm
  rw [hr] at hlt hm
  rw [hq, hr]
  have h1 : (x.natAbs : Int) = (y.natAbs : Int) * (q : Int) + (r : Int) := by
    rw [← hdm, Int.natCast_add, Int.natCast_mul]
  have h2 : ((y.natAbs - r : Nat) : Int) = (y.natAbs : Int) - (r : Int) := by omega
  have h3 : x = -(x.natAbs : Int) := by omega
  have h4 : (y.natAbs : Int) * ((q : Int) + 1) = (y.natAbs : Int) * (q : Int) + (y.natAbs : Int) := by rw [Int.mul_add, Int.mul_one]
  rcases Int.lt_or_le y 0 with hy2 | hy2
  · have hb : (y.natAbs : Int) = -y := by omega
    rw [hb] at h1 h2 h4
    rw [Int.neg_mul, Int.neg_mul] at h4
    rw [Int.neg_mul] at h1
    have hx2 : x = y * ((q : Int) + 1) + (-y - r) := by omega
    have e1 : x / y = (q : Int) + 1 := by
      rw [hx2, Int.add_comm, Int.add_mul_ediv_left _ _ h0, show (-y - (r : Int)) / y = 0 by rw [show y = -(-y) by omega, Int.ediv_neg, Int.ediv_eq_zero_of_lt (by omega) (by omega)]; rfl]
      omega
    refine ⟨by rw [e1]; omega, ?_⟩
    have := Int.emod_add_mul_ediv x y
    rw [e1] at this
    omega
  · have hb : (y.natAbs : Int) = y := by omega
    rw [hb] at h1 h2 h4
    have h5 : y * (-((q : Int) + 1)) = -(y * ((q : Int) + 1)) := Int.mul_neg _ _
    have hx2 : x = y * (-((q : Int) + 1)) + (y - r) := by omega
    have e1 : x / y = -((q : Int) + 1) := by
      rw [hx2, Int.add_comm, Int.add_mul_ediv_left _ _ h0, Int.ediv_eq_zero_of_lt (by omega) (by omega)]
      omega
    refine ⟨by rw [e1]; omega, ?_⟩
    have := Int.emod_add_mul_ediv x y
    rw [e1] at this
    omega
theorem divS {x y : Int} (h0 : y ≠ 0) : (x / y < 0 → (decide (x < 0) != decide (y < 0)) = true) ∧ (0 < x / y → (decide (x < 0) != decide (y < 0)) = false) := by
  have h1 := Int.emod_add_mul_ediv x y
  have h2 := Int.emod_nonneg x h0
  have h3 : x % y < y.natAbs := Int.emod_lt _ h0
  generalize x / y = q at *
  generalize x % y = r at *
  refine ⟨fun hq => ?_, fun hq => ?_⟩
  · rcases Int.lt_or_le y 0 with hy | hy
    · have : 0 ≤ y * q := Int.mul_nonneg_of_nonpos_of_nonpos (by omega) (by omega)
      have hx : ¬ x < 0 := by omega
      simp [hx, hy]
    · have : y * 1 ≤ y * (-q) := Int.mul_le_mul_of_nonneg_left (by omega) hy
      rw [Int.mul_neg, Int.mul_one] at this
      have hx : x < 0 := by omega
      have hy2 : ¬ y < 0 := by omega
      simp [hx, hy2]
  · rcases Int.lt_or_le y 0 with hy | hy
    · have : (-y) * 1 ≤ (-y) * q := Int.mul_le_mul_of_nonneg_left (by omega) (by omega)
      rw [Int.neg_mul, Int.neg_mul, Int.mul_one] at this
      have hx : x < 0 := by omega
      simp [hx, hy]
    · have : 0 ≤ y * q := Int.mul_nonneg (by omega) (by omega)
      have hx : ¬ x < 0 := by omega
      have hy2 : ¬ y < 0 := by omega
      simp [hx, hy2]
set_option maxRecDepth 100000 in
theorem divmodZ {x y : Int} (hx : x.natAbs < bp 32) (hy : y.natAbs < bp 32) (h0 : y ≠ 0) (w : World) : Calls Tryz.prog 114 #[.agg (IC x), .agg (IC y)] w (RetB (.tuple #[.agg (IC (x / y)), .agg (IC (x % y)), .int .i64 0]) w) := by
  have F := Fr.start w
  have hy0 : y.natAbs ≠ 0 := by omega
  have ez := eqz y.natAbs hy
  rw [← magZ, decide_eq_false hy0] at ez
  have hdm : x.natAbs / y.natAbs ≤ x.natAbs := Nat.div_le_self _ _
  have hmm : x.natAbs % y.natAbs < y.natAbs := Nat.mod_lt _ (by omega)
  have hS := divS (x := x) h0
  have hN := divN (x := x) h0
  have hC := divC (x := x) h0
  have hD : x.natAbs % y.natAbs ≠ 0 → x.natAbs / y.natAbs + 1 ≤ x.natAbs := fun h => by
    have h1 : 1 < y.natAbs := by
      rcases Nat.lt_or_ge 1 y.natAbs with h1 | h1
      · exact h1
      · have : y.natAbs = 1 := by omega
        rw [this, Nat.mod_one] at h
        exact absurd rfl h
    have h2 : 0 < x.natAbs := by
      rcases Nat.eq_zero_or_pos x.natAbs with h2 | h2
      · rw [h2, Nat.zero_mod] at h
        exact absurd rfl h
      · exact h2
    exact Nat.div_lt_self h2 h1
  obtain ⟨c, hc⟩ : ∃ c, x.natAbs / y.natAbs = c := ⟨_, rfl⟩
  obtain ⟨d, hd⟩ : ∃ d, x.natAbs % y.natAbs = d := ⟨_, rfl⟩
  have gd := fun {W : World} {b k : Nat} (h1 : MagAt W b x.natAbs) (h2 : MagAt W k y.natAbs) => divide_any h1 h2 hx hy hy0
  rw [hc, hd] at gd hD hN hC
  rw [hc] at hdm
  rw [hd] at hmm
  have ld : d < bp 32 := by omega
  have lc : c < bp 32 := by omega
  have ed := eqz d ld
  rw [← magZ] at ed
  have s1 := fun w => splitZ hx w
  have s2 := fun w => splitZ hy w
  obtain ⟨p, hp⟩ : ∃ p, decide (x < 0) = p := ⟨_, rfl⟩
  obtain ⟨q, hq⟩ : ∃ q, decide (y < 0) = q := ⟨_, rfl⟩
  rw [hp] at s1 hS
  rw [hq] at s2 hS
  have hcs : ∃ c' d' : Nat, c' < bp 32 ∧ d' < bp 32 ∧ c' = (x / y).natAbs ∧ (d' : Int) = x % y ∧ (if p = true ∧ d ≠ 0 then c' = c + 1 ∧ d' = y.natAbs - d ∧ c + 1 < bp 32 else c' = c ∧ d' = d) := by
    by_cases h : p = true ∧ d ≠ 0
    · have h1 : x < 0 := by simpa [h.1] using hp
      obtain ⟨e1, e2⟩ := hC ⟨h1, h.2⟩
      have := hD h.2
      exact ⟨c + 1, y.natAbs - d, by omega, by omega, e1, e2, by rw [if_pos h]; exact ⟨rfl, rfl, by omega⟩⟩
    · have h1 : ¬ (x < 0 ∧ d ≠ 0) := fun h1 => h ⟨by simpa [h1.1] using hp.symm, h1.2⟩
      obtain ⟨e1, e2⟩ := hN h1
      exact ⟨c, d, lc, ld, e1, e2, by rw [if_neg h]; exact ⟨rfl, rfl⟩⟩
  obtain ⟨c', d', lc', ld', hcc, hdd, hif⟩ := hcs
  have m1 := fun w => madeZ (n := p != q) lc' hcc hS.1 hS.2 w
  have m2 := fun w => madeZ (n := false) (x := x % y) ld' (by omega) (by omega) (fun _ => rfl) w
  have HI := Lib.hid hif
  have HX := Lib.hid (And.intro hx (And.intro hy hmm))
  clear hc hd hS hN hC hD hp hq hif hcc hdd hx hy h0 hmm hdm
  go_enter Tryz.func114, Tryz.ntmps114
  go_wp2_with (first | go_skip | ((with_reducible apply fL F); exact rfl; exact rfl; (exact tL); (exact tR1)) | ((with_reducible apply fA_int F); exact rfl) | ((with_reducible apply fX_int F); exact rfl; exact rfl) | ((with_reducible apply fA_mag F); exact rfl) | ((with_reducible apply fX_mag F); exact rfl; exact rfl) | ((with_reducible apply fS F); exact rfl; exact rfl; exact rfl; (exact tL); (exact tR1); (exact tS1); clear F; intro W F; simp only [z7, z8] at F) | ((with_reducible apply fB_int0); exact rfl) | ((with_reducible apply fB_mag0); exact rfl))
  (clear F; intro b2 W F; try simp only [Act.put, z6, z1, z2])
  go_wp2_with (first | go_skip | ((with_reducible apply fL F); exact rfl; exact rfl; (exact tL); (exact tR1)) | ((with_reducible apply fA_int F); exact rfl) | ((with_reducible apply fX_int F); exact rfl; exact rfl) | ((with_reducible apply fA_mag F); exact rfl) | ((with_reducible apply fX_mag F); exact rfl; exact rfl) | ((with_reducible apply fS F); exact rfl; exact rfl; exact rfl; (exact tL); (exact tR1); (exact tS1); clear F; intro W F; simp only [z7, z8] at F) | ((with_reducible apply fB_int0); exact rfl) | ((with_reducible apply fB_mag0); exact rfl))
  (clear F; intro b3 W F; try simp only [Act.put, z6, z1, z2])
  go_wp2_with (first | go_skip | ((with_reducible apply fL F); exact rfl; exact rfl; (exact tL); (exact tR1)) | ((with_reducible apply fA_int F); exact rfl) | ((with_reducible apply fX_int F); exact rfl; exact rfl) | ((with_reducible apply fA_mag F); exact rfl) | ((with_reducible apply fX_mag F); exact rfl; exact rfl) | ((with_reducible apply fS F); exact rfl; exact rfl; exact rfl; (exact tL); (exact tR1); (exact tS1); clear F; intro W F; simp only [z7, z8] at F) | ((with_reducible apply fB_int0); exact rfl) | ((with_reducible apply fB_mag0); exact rfl))
  (clear F; intro b4 W F; try simp only [Act.put, z6, z1, z2])
  go_wp2_with (first | go_skip | ((with_reducible apply fL F); exact rfl; exact rfl; (exact tL); (exact tR1)) | ((with_reducible apply fA_int F); exact rfl) | ((with_reducible apply fX_int F); exact rfl; exact rfl) | ((with_reducible apply fA_mag F); exact rfl) | ((with_reducible apply fX_mag F); exact rfl; exact rfl) | ((with_reducible apply fS F); exact rfl; exact rfl; exact rfl; (exact tL); (exact tR1); (exact tS1); clear F; intro W F; simp only [z7, z8] at F) | ((with_reducible apply fB_int0); exact rfl) | ((with_reducible apply fB_mag0); exact rfl))
  (clear F; intro b5 W F; try simp only [Act.put, z6, z1, z2])
  go_wp2_with (first | go_skip | ((go_at_call 100); (with_reducible refine fr_call F (s1 _) ?_); (clear F; intro W F); (try dsimp only)) | ((with_reducible apply fL F); exact rfl; exact rfl; (exact tL); (exact tR1)) | ((with_reducible apply fA_int F); exact rfl) | ((with_reducible apply fX_int F); exact rfl; exact rfl) | ((with_reducible apply fA_mag F); exact rfl) | ((with_reducible apply fX_mag F); exact rfl; exact rfl) | ((with_reducible apply fS F); exact rfl; exact rfl; exact rfl; (exact tL); (exact tR1); (exact tS1); clear F; intro W F; simp only [z7, z8] at F) | ((with_reducible apply fB_int0); exact rfl) | ((with_reducible apply fB_mag0); exact rfl))
  (clear F; intro b8 W F; try simp only [Act.put, z6, z1, z2])
  go_wp2_with (first | go_skip | ((go_at_call 100); (with_reducible refine fr_call F (s2 _) ?_); (clear F; intro W F); (try dsimp only)) | ((with_reducible apply fL F); exact rfl; exact rfl; (exact tL); (exact tR1)) | ((with_reducible apply fA_int F); exact rfl) | ((with_reducible apply fX_int F); exact rfl; exact rfl) | ((with_reducible apply fA_mag F); exact rfl) | ((with_reducible apply fX_mag F); exact rfl; exact rfl) | ((with_reducible apply fS F); exact rfl; exact rfl; exact rfl; (exact tL); (exact tR1); (exact tS1); clear F; intro W F; simp only [z7, z8] at F) | ((with_reducible apply fB_int0); exact rfl) | ((with_reducible apply fB_mag0); exact rfl))
  (clear F; intro b10 W F; try simp only [Act.put, z6, z1, z2])
  go_wp2_with (first | go_skip | ((go_at_call 156); (with_reducible refine fr_call F (gd ?_ ?_) ?_); (apply Fr.get F; (exact tL)); (apply Fr.get F; (exact tL)); (clear F; intro W F); (try dsimp only)) | ((with_reducible apply fL F); exact rfl; exact rfl; (exact tL); (exact tR1)) | ((with_reducible apply fA_int F); exact rfl) | ((with_reducible apply fX_int F); exact rfl; exact rfl) | ((with_reducible apply fA_mag F); exact rfl) | ((with_reducible apply fX_mag F); exact rfl; exact rfl) | ((with_reducible apply fS F); exact rfl; exact rfl; exact rfl; (exact tL); (exact tR1); (exact tS1); clear F; intro W F; simp only [z7, z8] at F) | ((with_reducible apply fB_int0); exact rfl) | ((with_reducible apply fB_mag0); exact rfl))
  (clear F; intro b11 W F; try simp only [Act.put, z6, z1, z2])
  go_wp2_with (first | go_skip | ((with_reducible apply fL F); exact rfl; exact rfl; (exact tL); (exact tR1)) | ((with_reducible apply fA_int F); exact rfl) | ((with_reducible apply fX_int F); exact rfl; exact rfl) | ((with_reducible apply fA_mag F); exact rfl) | ((with_reducible apply fX_mag F); exact rfl; exact rfl) | ((with_reducible apply fS F); exact rfl; exact rfl; exact rfl; (exact tL); (exact tR1); (exact tS1); clear F; intro W F; simp only [z7, z8] at F) | ((with_reducible apply fB_int0); exact rfl) | ((with_reducible apply fB_mag0); exact rfl))
  (clear F; intro b12 W F; try simp only [Act.put, z6, z1, z2])
  by_cases hcase : p = true ∧ d ≠ 0
  · obtain ⟨rfl, hdne⟩ := hcase
    have hi := HI.out
    rw [if_pos ⟨rfl, hdne⟩] at hi
    obtain ⟨rfl, rfl, hl⟩ := hi
    rw [decide_eq_false hdne] at ed
    have pl := fun {W : World} {g k : Nat} (h1 : MagAt W g c) (h2 : MagAt W k 1) => plus_any h1 h2 lc (by decide) (Nat.mod_eq_of_lt hl) (decide_eq_true hl)
    have mi := fun {W : World} {g k : Nat} (h1 : MagAt W g y.natAbs) (h2 : MagAt W k d) => minus_any h1 h2 HX.out.2.1 ld (Nat.le_of_lt HX.out.2.2)
    have mo : (true != q) = !q := by cases q <;> rfl
    rw [mo] at m1
    clear HI hl hdne mo
    go_wp2_with (first | go_skip | ((with_reducible apply fL F); exact rfl; exact rfl; (exact tL); (exact tR1)) | ((with_reducible apply fA_int F); exact rfl) | ((with_reducible apply fX_int F); exact rfl; exact rfl) | ((with_reducible apply fA_mag F); exact rfl) | ((with_reducible apply fX_mag F); exact rfl; exact rfl) | ((with_reducible apply fS F); exact rfl; exact rfl; exact rfl; (exact tL); (exact tR1); (exact tS1); clear F; intro W F; simp only [z7, z8] at F) | ((with_reducible apply fB_int0); exact rfl) | ((with_reducible apply fB_mag0); exact rfl))
    (clear F; intro b40 W F; try simp only [Act.put, z6, z1, z2])
    go_wp2_with (first | go_skip | ((go_at_call 118); (with_reducible refine fr_call F (pl ?_ ?_) ?_); (apply Fr.get F; (exact tL)); (apply Fr.get F; (exact tL)); (clear F; intro W F); (try dsimp only)) | ((go_at_call 117); (with_reducible refine fr_call F (mi ?_ ?_) ?_); (apply Fr.get F; (exact tL)); (apply Fr.get F; (exact tL)); (clear F; intro W F); (try dsimp only)) | ((with_reducible apply fL F); exact rfl; exact rfl; (exact tL); (exact tR1)) | ((with_reducible apply fA_int F); exact rfl) | ((with_reducible apply fX_int F); exact rfl; exact rfl) | ((with_reducible apply fA_mag F); exact rfl) | ((with_reducible apply fX_mag F); exact rfl; exact rfl) | ((with_reducible apply fS F); exact rfl; exact rfl; exact rfl; (exact tL); (exact tR1); (exact tS1); clear F; intro W F; simp only [z7, z8] at F) | ((with_reducible apply fB_int0); exact rfl) | ((with_reducible apply fB_mag0); exact rfl))
    clear ed ez
    replace F := F.sub (L' := [(b12, limA 32 (y.natAbs - d), 108), (b11, limA 32 (c + 1), 108), (b5, intC false 0, 29), (b4, intC false 0, 29)]) (by repeat (first | exact List.Sublist.slnil | apply List.Sublist.cons_cons | apply List.Sublist.cons))
    try simp only [Act.put, z6, z1, z2]
    refine wp_region_slots mixP [6, 45, 46, 47, 48, 49, 50, 51] (fun l mm W => ∃ (s6 s45 s46 s47 s48 s49 s50 s51 : Value) (c_b4 c_b5 : Array Value), mm = [s6, s45, s46, s47, s48, s49, s50, s51] ∧ (l.getD 0 false = true → s45 = .bool true) ∧ (l.getD 1 false = true → s46 = .bool q) ∧ (l.getD 2 false = true → s47 = .bool (!q)) ∧ (l.getD 3 false = true → s48 = .agg (limA 32 (c + 1))) ∧ (l.getD 4 false = true → s49 = .agg (IC (x / y))) ∧ (l.getD 5 false = true → s50 = .agg (limA 32 (y.natAbs - d))) ∧ (l.getD 6 false = true → s51 = .agg (IC (x % y))) ∧ (l.getD 7 false = true → c_b4 = IC (x / y)) ∧ (l.getD 8 false = true → c_b5 = IC (x % y)) ∧ (l.getD 9 false = true → s6 = .int .i64 0) ∧ c_b4.size = (IC (x / y)).size ∧ c_b5.size = (IC (x % y)).size ∧ Fr w W [(b12, limA 32 (y.natAbs - d), 108), (b11, limA 32 (c + 1), 108), (b5, c_b5, 29), (b4, c_b4, 29)]) (by kernel_rfl) rfl ?_ ?_ ?_
    · exact ⟨_, _, _, _, _, _, _, _, (intC false 0), (intC false 0), rfl, nf, nf, nf, nf, nf, nf, nf, nf, nf, nf, by exact tS1, by exact tS1, F.drew⟩
    · rintro listed mm W ii hi hsz hoff ⟨s6, s45, s46, s47, s48, s49, s50, s51, c_b4, c_b5, rfl, h0, h1, h2, h3, h4, h5, h6, h7, h8, h9, hz0, hz1, HF⟩ hd
      have hc : ii = 0 ∨ ii = 1 ∨ ii = 2 ∨ ii = 3 ∨ ii = 4 ∨ ii = 5 ∨ ii = 6 ∨ ii = 7 ∨ ii = 8 ∨ ii = 9 := by
        have hi2 : ii < 10 := hi
        omega
      have hsz2 : listed.size = 10 := hsz
      clear hi hsz
      rcases hc with rfl | rfl | rfl | rfl | rfl | rfl | rfl | rfl | rfl | rfl
      · refine wpOp_want rfl rfl (fun K hK => ?_)
        simp only [putAll, z1, z2, z3, z4, z5]
        refine ⟨?_⟩
        go_simp
        exact hK _ _ ⟨[s6, (.bool true), s46, s47, s48, s49, s50, s51], by simp only [putAll, z1, z2], s6, (.bool true), s46, s47, s48, s49, s50, s51, c_b4, c_b5, rfl, fun _ => rfl, lk h1, lk h2, lk h3, lk h4, lk h5, lk h6, lk h7, lk h8, lk h9, hz0, hz1, HF⟩
      · refine wpOp_want rfl rfl (fun K hK => ?_)
        simp only [putAll, z1, z2, z3, z4, z5]
        refine ⟨?_⟩
        go_simp
        exact hK _ _ ⟨[s6, s45, (.bool q), s47, s48, s49, s50, s51], by simp only [putAll, z1, z2], s6, s45, (.bool q), s47, s48, s49, s50, s51, c_b4, c_b5, rfl, lk h0, fun _ => rfl, lk h2, lk h3, lk h4, lk h5, lk h6, lk h7, lk h8, lk h9, hz0, hz1, HF⟩
      · have d0 := h0 (hd 0 (by kernel_rfl))
        have d1 := h1 (hd 1 (by kernel_rfl))
        obtain rfl := d0
        obtain rfl := d1
        refine wpOp_want rfl rfl (fun K hK => ?_)
        simp only [putAll, z1, z2, z3, z4, z5]
        refine ⟨?_⟩
        go_simp
        exact hK _ _ ⟨[s6, (.bool true), (.bool q), (.bool (!q)), s48, s49, s50, s51], by simp only [putAll, z1, z2], s6, (.bool true), (.bool q), (.bool (!q)), s48, s49, s50, s51, c_b4, c_b5, rfl, lk h0, lk h1, fun _ => rfl, lk h3, lk h4, lk h5, lk h6, lk h7, lk h8, lk h9, hz0, hz1, HF⟩
      · refine wpOp_want rfl rfl (fun K hK => ?_)
        simp only [putAll, z1, z2, z3, z4, z5]
        with_reducible apply gL HF
        · exact rfl
        · (exact tL)
        · (first | (exact tR1))
        go_simp
        exact hK _ _ ⟨[s6, s45, s46, s47, (.agg (limA 32 (c + 1))), s49, s50, s51], by simp only [putAll, z1, z2], s6, s45, s46, s47, (.agg (limA 32 (c + 1))), s49, s50, s51, c_b4, c_b5, rfl, lk h0, lk h1, lk h2, fun _ => rfl, lk h4, lk h5, lk h6, lk h7, lk h8, lk h9, hz0, hz1, HF⟩
      · have d2 := h2 (hd 2 (by kernel_rfl))
        have d3 := h3 (hd 3 (by kernel_rfl))
        obtain rfl := d2
        obtain rfl := d3
        refine wpOp_want rfl rfl (fun K hK => ?_)
        simp only [putAll, z1, z2, z3, z4, z5]
        refine ⟨?_⟩
        go_simp
        with_reducible refine fr_call HF (m1 _) ?_
        clear HF
        intro W HF
        (try dsimp only)
        exact hK _ _ ⟨[s6, s45, s46, (.bool (!q)), (.agg (limA 32 (c + 1))), (.agg (IC (x / y))), s50, s51], by simp only [putAll, z1, z2], s6, s45, s46, (.bool (!q)), (.agg (limA 32 (c + 1))), (.agg (IC (x / y))), s50, s51, c_b4, c_b5, rfl, lk h0, lk h1, lk h2, lk h3, fun _ => rfl, lk h5, lk h6, lk h7, lk h8, lk h9, hz0, hz1, HF⟩
      · refine wpOp_want rfl rfl (fun K hK => ?_)
        simp only [putAll, z1, z2, z3, z4, z5]
        with_reducible apply gL HF
        · exact rfl
        · (exact tL)
        · (first | (exact tR1))
        go_simp
        exact hK _ _ ⟨[s6, s45, s46, s47, s48, s49, (.agg (limA 32 (y.natAbs - d))), s51], by simp only [putAll, z1, z2], s6, s45, s46, s47, s48, s49, (.agg (limA 32 (y.natAbs - d))), s51, c_b4, c_b5, rfl, lk h0, lk h1, lk h2, lk h3, lk h4, fun _ => rfl, lk h6, lk h7, lk h8, lk h9, hz0, hz1, HF⟩
      · have d5 := h5 (hd 5 (by kernel_rfl))
        obtain rfl := d5
        refine wpOp_want rfl rfl (fun K hK => ?_)
        simp only [putAll, z1, z2, z3, z4, z5]
        refine ⟨?_⟩
        go_simp
        with_reducible refine fr_call HF (m2 _) ?_
        clear HF
        intro W HF
        (try dsimp only)
        exact hK _ _ ⟨[s6, s45, s46, s47, s48, s49, (.agg (limA 32 (y.natAbs - d))), (.agg (IC (x % y)))], by simp only [putAll, z1, z2], s6, s45, s46, s47, s48, s49, (.agg (limA 32 (y.natAbs - d))), (.agg (IC (x % y))), c_b4, c_b5, rfl, lk h0, lk h1, lk h2, lk h3, lk h4, lk h5, fun _ => rfl, lk h7, lk h8, lk h9, hz0, hz1, HF⟩
      · have d4 := h4 (hd 4 (by kernel_rfl))
        obtain rfl := d4
        refine wpOp_want rfl rfl (fun K hK => ?_)
        simp only [putAll, z1, z2, z3, z4, z5]
        with_reducible apply gS HF
        · exact rfl
        · exact rfl
        · (exact tL)
        · (first | (exact tR1))
        · first | exact hz0 | exact tS1
        clear HF
        intro W HF
        simp only [z7, z8] at HF
        go_simp
        exact hK _ _ ⟨[s6, s45, s46, s47, s48, (.agg (IC (x / y))), s50, s51], by simp only [putAll, z1, z2], s6, s45, s46, s47, s48, (.agg (IC (x / y))), s50, s51, (IC (x / y)), c_b5, rfl, lk h0, lk h1, lk h2, lk h3, lk h4, lk h5, lk h6, fun _ => rfl, lk h8, lk h9, rfl, hz1, HF⟩
      · have d6 := h6 (hd 6 (by kernel_rfl))
        obtain rfl := d6
        refine wpOp_want rfl rfl (fun K hK => ?_)
        simp only [putAll, z1, z2, z3, z4, z5]
        with_reducible apply gS HF
        · exact rfl
        · exact rfl
        · (exact tL)
        · (first | (exact tR1))
        · first | exact hz1 | exact tS1
        clear HF
        intro W HF
        simp only [z7, z8] at HF
        go_simp
        exact hK _ _ ⟨[s6, s45, s46, s47, s48, s49, s50, (.agg (IC (x % y)))], by simp only [putAll, z1, z2], s6, s45, s46, s47, s48, s49, s50, (.agg (IC (x % y))), c_b4, (IC (x % y)), rfl, lk h0, lk h1, lk h2, lk h3, lk h4, lk h5, lk h6, lk h7, fun _ => rfl, lk h9, hz0, rfl, HF⟩
      · refine wpOp_want rfl rfl (fun K hK => ?_)
        simp only [putAll, z1, z2, z3, z4, z5]
        refine ⟨?_⟩
        go_simp
        exact hK _ _ ⟨[(.int .i64 0), s45, s46, s47, s48, s49, s50, s51], by simp only [putAll, z1, z2], (.int .i64 0), s45, s46, s47, s48, s49, s50, s51, c_b4, c_b5, rfl, lk h0, lk h1, lk h2, lk h3, lk h4, lk h5, lk h6, lk h7, lk h8, fun _ => rfl, hz0, hz1, HF⟩
    rintro listed mm W ⟨s6, s45, s46, s47, s48, s49, s50, s51, c_b4, c_b5, rfl, h0, h1, h2, h3, h4, h5, h6, h7, h8, h9, hz0, hz1, HF⟩ hall
    obtain rfl := h0 (hall 0 (by decide))
    obtain rfl := h1 (hall 1 (by decide))
    obtain rfl := h2 (hall 2 (by decide))
    obtain rfl := h3 (hall 3 (by decide))
    obtain rfl := h4 (hall 4 (by decide))
    obtain rfl := h5 (hall 5 (by decide))
    obtain rfl := h6 (hall 6 (by decide))
    rw [h7 (hall 7 (by decide))] at HF
    rw [h8 (hall 8 (by decide))] at HF
    obtain rfl := h9 (hall 9 (by decide))
    clear hall h0 h1 h2 h3 h4 h5 h6 h7 h8 h9 hz0 hz1 F
    have F := HF
    clear HF
    simp only [putAll, z1, z2]
    go_wp2_with (first | go_skip | ((with_reducible apply fL F); exact rfl; exact rfl; (exact tL); (exact tR1)) | ((with_reducible apply fA_int F); exact rfl) | ((with_reducible apply fX_int F); exact rfl; exact rfl) | ((with_reducible apply fA_mag F); exact rfl) | ((with_reducible apply fX_mag F); exact rfl; exact rfl) | ((with_reducible apply fS F); exact rfl; exact rfl; exact rfl; (exact tL); (exact tR1); (exact tS1); clear F; intro W F; simp only [z7, z8] at F) | ((with_reducible apply fB_int0); exact rfl) | ((with_reducible apply fB_mag0); exact rfl))
    exact bodyPost_ret (res_ccs rfl rfl rfl rfl (Fr.get F tL) (rowInt _ _) (Fr.get F tL) (rowInt _ _)) rfl ⟨rfl, F.below⟩
  · have hi := HI.out
    rw [if_neg hcase] at hi
    obtain ⟨rfl, rfl⟩ := hi
    cases p
    · have mo : (false != q) = q := by cases q <;> rfl
      rw [mo] at m1
      go_wp2_with (first | go_skip | ((with_reducible apply fL F); exact rfl; exact rfl; (exact tL); (exact tR1)) | ((with_reducible apply fA_int F); exact rfl) | ((with_reducible apply fX_int F); exact rfl; exact rfl) | ((with_reducible apply fA_mag F); exact rfl) | ((with_reducible apply fX_mag F); exact rfl; exact rfl) | ((with_reducible apply fS F); exact rfl; exact rfl; exact rfl; (exact tL); (exact tR1); (exact tS1); clear F; intro W F; simp only [z7, z8] at F) | ((with_reducible apply fB_int0); exact rfl) | ((with_reducible apply fB_mag0); exact rfl))
      clear ed ez
      replace F := F.sub (L' := [(b12, limA 32 d', 108), (b11, limA 32 c', 108), (b5, intC false 0, 29), (b4, intC false 0, 29)]) (by repeat (first | exact List.Sublist.slnil | apply List.Sublist.cons_cons | apply List.Sublist.cons))
      try simp only [Act.put, z6, z1, z2]
      refine wp_region_slots mixP [6, 45, 46, 47, 48, 49, 50, 51] (fun l mm W => ∃ (s6 s45 s46 s47 s48 s49 s50 s51 : Value) (c_b4 c_b5 : Array Value), mm = [s6, s45, s46, s47, s48, s49, s50, s51] ∧ (l.getD 0 false = true → s45 = .bool false) ∧ (l.getD 1 false = true → s46 = .bool q) ∧ (l.getD 2 false = true → s47 = .bool q) ∧ (l.getD 3 false = true → s48 = .agg (limA 32 c')) ∧ (l.getD 4 false = true → s49 = .agg (IC (x / y))) ∧ (l.getD 5 false = true → s50 = .agg (limA 32 d')) ∧ (l.getD 6 false = true → s51 = .agg (IC (x % y))) ∧ (l.getD 7 false = true → c_b4 = IC (x / y)) ∧ (l.getD 8 false = true → c_b5 = IC (x % y)) ∧ (l.getD 9 false = true → s6 = .int .i64 0) ∧ c_b4.size = (IC (x / y)).size ∧ c_b5.size = (IC (x % y)).size ∧ Fr w W [(b12, limA 32 d', 108), (b11, limA 32 c', 108), (b5, c_b5, 29), (b4, c_b4, 29)]) (by kernel_rfl) rfl ?_ ?_ ?_
      · exact ⟨_, _, _, _, _, _, _, _, (intC false 0), (intC false 0), rfl, nf, nf, nf, nf, nf, nf, nf, nf, nf, nf, by exact tS1, by exact tS1, F.drew⟩
      · rintro listed mm W ii hi hsz hoff ⟨s6, s45, s46, s47, s48, s49, s50, s51, c_b4, c_b5, rfl, h0, h1, h2, h3, h4, h5, h6, h7, h8, h9, hz0, hz1, HF⟩ hd
        have hc : ii = 0 ∨ ii = 1 ∨ ii = 2 ∨ ii = 3 ∨ ii = 4 ∨ ii = 5 ∨ ii = 6 ∨ ii = 7 ∨ ii = 8 ∨ ii = 9 := by
          have hi2 : ii < 10 := hi
          omega
        have hsz2 : listed.size = 10 := hsz
        clear hi hsz
        rcases hc with rfl | rfl | rfl | rfl | rfl | rfl | rfl | rfl | rfl | rfl
        · refine wpOp_want rfl rfl (fun K hK => ?_)
          simp only [putAll, z1, z2, z3, z4, z5]
          refine ⟨?_⟩
          go_simp
          exact hK _ _ ⟨[s6, (.bool false), s46, s47, s48, s49, s50, s51], by simp only [putAll, z1, z2], s6, (.bool false), s46, s47, s48, s49, s50, s51, c_b4, c_b5, rfl, fun _ => rfl, lk h1, lk h2, lk h3, lk h4, lk h5, lk h6, lk h7, lk h8, lk h9, hz0, hz1, HF⟩
        · refine wpOp_want rfl rfl (fun K hK => ?_)
          simp only [putAll, z1, z2, z3, z4, z5]
          refine ⟨?_⟩
          go_simp
          exact hK _ _ ⟨[s6, s45, (.bool q), s47, s48, s49, s50, s51], by simp only [putAll, z1, z2], s6, s45, (.bool q), s47, s48, s49, s50, s51, c_b4, c_b5, rfl, lk h0, fun _ => rfl, lk h2, lk h3, lk h4, lk h5, lk h6, lk h7, lk h8, lk h9, hz0, hz1, HF⟩
        · have d0 := h0 (hd 0 (by kernel_rfl))
          have d1 := h1 (hd 1 (by kernel_rfl))
          obtain rfl := d0
          obtain rfl := d1
          refine wpOp_want rfl rfl (fun K hK => ?_)
          simp only [putAll, z1, z2, z3, z4, z5]
          refine ⟨?_⟩
          go_simp
          exact hK _ _ ⟨[s6, (.bool false), (.bool q), (.bool q), s48, s49, s50, s51], by simp only [putAll, z1, z2], s6, (.bool false), (.bool q), (.bool q), s48, s49, s50, s51, c_b4, c_b5, rfl, lk h0, lk h1, fun _ => rfl, lk h3, lk h4, lk h5, lk h6, lk h7, lk h8, lk h9, hz0, hz1, HF⟩
        · refine wpOp_want rfl rfl (fun K hK => ?_)
          simp only [putAll, z1, z2, z3, z4, z5]
          with_reducible apply gL HF
          · exact rfl
          · (exact tL)
          · (first | (exact tR1))
          go_simp
          exact hK _ _ ⟨[s6, s45, s46, s47, (.agg (limA 32 c')), s49, s50, s51], by simp only [putAll, z1, z2], s6, s45, s46, s47, (.agg (limA 32 c')), s49, s50, s51, c_b4, c_b5, rfl, lk h0, lk h1, lk h2, fun _ => rfl, lk h4, lk h5, lk h6, lk h7, lk h8, lk h9, hz0, hz1, HF⟩
        · have d2 := h2 (hd 2 (by kernel_rfl))
          have d3 := h3 (hd 3 (by kernel_rfl))
          obtain rfl := d2
          obtain rfl := d3
          refine wpOp_want rfl rfl (fun K hK => ?_)
          simp only [putAll, z1, z2, z3, z4, z5]
          refine ⟨?_⟩
          go_simp
          with_reducible refine fr_call HF (m1 _) ?_
          clear HF
          intro W HF
          (try dsimp only)
          exact hK _ _ ⟨[s6, s45, s46, (.bool q), (.agg (limA 32 c')), (.agg (IC (x / y))), s50, s51], by simp only [putAll, z1, z2], s6, s45, s46, (.bool q), (.agg (limA 32 c')), (.agg (IC (x / y))), s50, s51, c_b4, c_b5, rfl, lk h0, lk h1, lk h2, lk h3, fun _ => rfl, lk h5, lk h6, lk h7, lk h8, lk h9, hz0, hz1, HF⟩
        · refine wpOp_want rfl rfl (fun K hK => ?_)
          simp only [putAll, z1, z2, z3, z4, z5]
          with_reducible apply gL HF
          · exact rfl
          · (exact tL)
          · (first | (exact tR1))
          go_simp
          exact hK _ _ ⟨[s6, s45, s46, s47, s48, s49, (.agg (limA 32 d')), s51], by simp only [putAll, z1, z2], s6, s45, s46, s47, s48, s49, (.agg (limA 32 d')), s51, c_b4, c_b5, rfl, lk h0, lk h1, lk h2, lk h3, lk h4, fun _ => rfl, lk h6, lk h7, lk h8, lk h9, hz0, hz1, HF⟩
        · have d5 := h5 (hd 5 (by kernel_rfl))
          obtain rfl := d5
          refine wpOp_want rfl rfl (fun K hK => ?_)
          simp only [putAll, z1, z2, z3, z4, z5]
          refine ⟨?_⟩
          go_simp
          with_reducible refine fr_call HF (m2 _) ?_
          clear HF
          intro W HF
          (try dsimp only)
          exact hK _ _ ⟨[s6, s45, s46, s47, s48, s49, (.agg (limA 32 d')), (.agg (IC (x % y)))], by simp only [putAll, z1, z2], s6, s45, s46, s47, s48, s49, (.agg (limA 32 d')), (.agg (IC (x % y))), c_b4, c_b5, rfl, lk h0, lk h1, lk h2, lk h3, lk h4, lk h5, fun _ => rfl, lk h7, lk h8, lk h9, hz0, hz1, HF⟩
        · have d4 := h4 (hd 4 (by kernel_rfl))
          obtain rfl := d4
          refine wpOp_want rfl rfl (fun K hK => ?_)
          simp only [putAll, z1, z2, z3, z4, z5]
          with_reducible apply gS HF
          · exact rfl
          · exact rfl
          · (exact tL)
          · (first | (exact tR1))
          · first | exact hz0 | exact tS1
          clear HF
          intro W HF
          simp only [z7, z8] at HF
          go_simp
          exact hK _ _ ⟨[s6, s45, s46, s47, s48, (.agg (IC (x / y))), s50, s51], by simp only [putAll, z1, z2], s6, s45, s46, s47, s48, (.agg (IC (x / y))), s50, s51, (IC (x / y)), c_b5, rfl, lk h0, lk h1, lk h2, lk h3, lk h4, lk h5, lk h6, fun _ => rfl, lk h8, lk h9, rfl, hz1, HF⟩
        · have d6 := h6 (hd 6 (by kernel_rfl))
          obtain rfl := d6
          refine wpOp_want rfl rfl (fun K hK => ?_)
          simp only [putAll, z1, z2, z3, z4, z5]
          with_reducible apply gS HF
          · exact rfl
          · exact rfl
          · (exact tL)
          · (first | (exact tR1))
          · first | exact hz1 | exact tS1
          clear HF
          intro W HF
          simp only [z7, z8] at HF
          go_simp
          exact hK _ _ ⟨[s6, s45, s46, s47, s48, s49, s50, (.agg (IC (x % y)))], by simp only [putAll, z1, z2], s6, s45, s46, s47, s48, s49, s50, (.agg (IC (x % y))), c_b4, (IC (x % y)), rfl, lk h0, lk h1, lk h2, lk h3, lk h4, lk h5, lk h6, lk h7, fun _ => rfl, lk h9, hz0, rfl, HF⟩
        · refine wpOp_want rfl rfl (fun K hK => ?_)
          simp only [putAll, z1, z2, z3, z4, z5]
          refine ⟨?_⟩
          go_simp
          exact hK _ _ ⟨[(.int .i64 0), s45, s46, s47, s48, s49, s50, s51], by simp only [putAll, z1, z2], (.int .i64 0), s45, s46, s47, s48, s49, s50, s51, c_b4, c_b5, rfl, lk h0, lk h1, lk h2, lk h3, lk h4, lk h5, lk h6, lk h7, lk h8, fun _ => rfl, hz0, hz1, HF⟩
      rintro listed mm W ⟨s6, s45, s46, s47, s48, s49, s50, s51, c_b4, c_b5, rfl, h0, h1, h2, h3, h4, h5, h6, h7, h8, h9, hz0, hz1, HF⟩ hall
      obtain rfl := h0 (hall 0 (by decide))
      obtain rfl := h1 (hall 1 (by decide))
      obtain rfl := h2 (hall 2 (by decide))
      obtain rfl := h3 (hall 3 (by decide))
      obtain rfl := h4 (hall 4 (by decide))
      obtain rfl := h5 (hall 5 (by decide))
      obtain rfl := h6 (hall 6 (by decide))
      rw [h7 (hall 7 (by decide))] at HF
      rw [h8 (hall 8 (by decide))] at HF
      obtain rfl := h9 (hall 9 (by decide))
      clear hall h0 h1 h2 h3 h4 h5 h6 h7 h8 h9 hz0 hz1 F
      have F := HF
      clear HF
      simp only [putAll, z1, z2]
      go_wp2_with (first | go_skip | ((with_reducible apply fL F); exact rfl; exact rfl; (exact tL); (exact tR1)) | ((with_reducible apply fA_int F); exact rfl) | ((with_reducible apply fX_int F); exact rfl; exact rfl) | ((with_reducible apply fA_mag F); exact rfl) | ((with_reducible apply fX_mag F); exact rfl; exact rfl) | ((with_reducible apply fS F); exact rfl; exact rfl; exact rfl; (exact tL); (exact tR1); (exact tS1); clear F; intro W F; simp only [z7, z8] at F) | ((with_reducible apply fB_int0); exact rfl) | ((with_reducible apply fB_mag0); exact rfl))
      exact bodyPost_ret (res_ccs rfl rfl rfl rfl (Fr.get F tL) (rowInt _ _) (Fr.get F tL) (rowInt _ _)) rfl ⟨rfl, F.below⟩
    · have mo : (true != q) = !q := by cases q <;> rfl
      rw [mo] at m1
      have hd0 : decide (d' = 0) = true := by
        rw [decide_eq_true_eq]
        refine Classical.byContradiction fun h => hcase ⟨rfl, h⟩
      rw [hd0] at ed
      clear hcase hd0
      go_wp2_with (first | go_skip | ((with_reducible apply fL F); exact rfl; exact rfl; (exact tL); (exact tR1)) | ((with_reducible apply fA_int F); exact rfl) | ((with_reducible apply fX_int F); exact rfl; exact rfl) | ((with_reducible apply fA_mag F); exact rfl) | ((with_reducible apply fX_mag F); exact rfl; exact rfl) | ((with_reducible apply fS F); exact rfl; exact rfl; exact rfl; (exact tL); (exact tR1); (exact tS1); clear F; intro W F; simp only [z7, z8] at F) | ((with_reducible apply fB_int0); exact rfl) | ((with_reducible apply fB_mag0); exact rfl))
      clear ed ez
      replace F := F.sub (L' := [(b12, limA 32 d', 108), (b11, limA 32 c', 108), (b5, intC false 0, 29), (b4, intC false 0, 29)]) (by repeat (first | exact List.Sublist.slnil | apply List.Sublist.cons_cons | apply List.Sublist.cons))
      try simp only [Act.put, z6, z1, z2]
      refine wp_region_slots mixP [6, 45, 46, 47, 48, 49, 50, 51] (fun l mm W => ∃ (s6 s45 s46 s47 s48 s49 s50 s51 : Value) (c_b4 c_b5 : Array Value), mm = [s6, s45, s46, s47, s48, s49, s50, s51] ∧ (l.getD 0 false = true → s45 = .bool true) ∧ (l.getD 1 false = true → s46 = .bool q) ∧ (l.getD 2 false = true → s47 = .bool (!q)) ∧ (l.getD 3 false = true → s48 = .agg (limA 32 c')) ∧ (l.getD 4 false = true → s49 = .agg (IC (x / y))) ∧ (l.getD 5 false = true → s50 = .agg (limA 32 d')) ∧ (l.getD 6 false = true → s51 = .agg (IC (x % y))) ∧ (l.getD 7 false = true → c_b4 = IC (x / y)) ∧ (l.getD 8 false = true → c_b5 = IC (x % y)) ∧ (l.getD 9 false = true → s6 = .int .i64 0) ∧ c_b4.size = (IC (x / y)).size ∧ c_b5.size = (IC (x % y)).size ∧ Fr w W [(b12, limA 32 d', 108), (b11, limA 32 c', 108), (b5, c_b5, 29), (b4, c_b4, 29)]) (by kernel_rfl) rfl ?_ ?_ ?_
      · exact ⟨_, _, _, _, _, _, _, _, (intC false 0), (intC false 0), rfl, nf, nf, nf, nf, nf, nf, nf, nf, nf, nf, by exact tS1, by exact tS1, F.drew⟩
      · rintro listed mm W ii hi hsz hoff ⟨s6, s45, s46, s47, s48, s49, s50, s51, c_b4, c_b5, rfl, h0, h1, h2, h3, h4, h5, h6, h7, h8, h9, hz0, hz1, HF⟩ hd
        have hc : ii = 0 ∨ ii = 1 ∨ ii = 2 ∨ ii = 3 ∨ ii = 4 ∨ ii = 5 ∨ ii = 6 ∨ ii = 7 ∨ ii = 8 ∨ ii = 9 := by
          have hi2 : ii < 10 := hi
          omega
        have hsz2 : listed.size = 10 := hsz
        clear hi hsz
        rcases hc with rfl | rfl | rfl | rfl | rfl | rfl | rfl | rfl | rfl | rfl
        · refine wpOp_want rfl rfl (fun K hK => ?_)
          simp only [putAll, z1, z2, z3, z4, z5]
          refine ⟨?_⟩
          go_simp
          exact hK _ _ ⟨[s6, (.bool true), s46, s47, s48, s49, s50, s51], by simp only [putAll, z1, z2], s6, (.bool true), s46, s47, s48, s49, s50, s51, c_b4, c_b5, rfl, fun _ => rfl, lk h1, lk h2, lk h3, lk h4, lk h5, lk h6, lk h7, lk h8, lk h9, hz0, hz1, HF⟩
        · refine wpOp_want rfl rfl (fun K hK => ?_)
          simp only [putAll, z1, z2, z3, z4, z5]
          refine ⟨?_⟩
          go_simp
          exact hK _ _ ⟨[s6, s45, (.bool q), s47, s48, s49, s50, s51], by simp only [putAll, z1, z2], s6, s45, (.bool q), s47, s48, s49, s50, s51, c_b4, c_b5, rfl, lk h0, fun _ => rfl, lk h2, lk h3, lk h4, lk h5, lk h6, lk h7, lk h8, lk h9, hz0, hz1, HF⟩
        · have d0 := h0 (hd 0 (by kernel_rfl))
          have d1 := h1 (hd 1 (by kernel_rfl))
          obtain rfl := d0
          obtain rfl := d1
          refine wpOp_want rfl rfl (fun K hK => ?_)
          simp only [putAll, z1, z2, z3, z4, z5]
          refine ⟨?_⟩
          go_simp
          exact hK _ _ ⟨[s6, (.bool true), (.bool q), (.bool (!q)), s48, s49, s50, s51], by simp only [putAll, z1, z2], s6, (.bool true), (.bool q), (.bool (!q)), s48, s49, s50, s51, c_b4, c_b5, rfl, lk h0, lk h1, fun _ => rfl, lk h3, lk h4, lk h5, lk h6, lk h7, lk h8, lk h9, hz0, hz1, HF⟩
        · refine wpOp_want rfl rfl (fun K hK => ?_)
          simp only [putAll, z1, z2, z3, z4, z5]
          with_reducible apply gL HF
          · exact rfl
          · (exact tL)
          · (first | (exact tR1))
          go_simp
          exact hK _ _ ⟨[s6, s45, s46, s47, (.agg (limA 32 c')), s49, s50, s51], by simp only [putAll, z1, z2], s6, s45, s46, s47, (.agg (limA 32 c')), s49, s50, s51, c_b4, c_b5, rfl, lk h0, lk h1, lk h2, fun _ => rfl, lk h4, lk h5, lk h6, lk h7, lk h8, lk h9, hz0, hz1, HF⟩
        · have d2 := h2 (hd 2 (by kernel_rfl))
          have d3 := h3 (hd 3 (by kernel_rfl))
          obtain rfl := d2
          obtain rfl := d3
          refine wpOp_want rfl rfl (fun K hK => ?_)
          simp only [putAll, z1, z2, z3, z4, z5]
          refine ⟨?_⟩
          go_simp
          with_reducible refine fr_call HF (m1 _) ?_
          clear HF
          intro W HF
          (try dsimp only)
          exact hK _ _ ⟨[s6, s45, s46, (.bool (!q)), (.agg (limA 32 c')), (.agg (IC (x / y))), s50, s51], by simp only [putAll, z1, z2], s6, s45, s46, (.bool (!q)), (.agg (limA 32 c')), (.agg (IC (x / y))), s50, s51, c_b4, c_b5, rfl, lk h0, lk h1, lk h2, lk h3, fun _ => rfl, lk h5, lk h6, lk h7, lk h8, lk h9, hz0, hz1, HF⟩
        · refine wpOp_want rfl rfl (fun K hK => ?_)
          simp only [putAll, z1, z2, z3, z4, z5]
          with_reducible apply gL HF
          · exact rfl
          · (exact tL)
          · (first | (exact tR1))
          go_simp
          exact hK _ _ ⟨[s6, s45, s46, s47, s48, s49, (.agg (limA 32 d')), s51], by simp only [putAll, z1, z2], s6, s45, s46, s47, s48, s49, (.agg (limA 32 d')), s51, c_b4, c_b5, rfl, lk h0, lk h1, lk h2, lk h3, lk h4, fun _ => rfl, lk h6, lk h7, lk h8, lk h9, hz0, hz1, HF⟩
        · have d5 := h5 (hd 5 (by kernel_rfl))
          obtain rfl := d5
          refine wpOp_want rfl rfl (fun K hK => ?_)
          simp only [putAll, z1, z2, z3, z4, z5]
          refine ⟨?_⟩
          go_simp
          with_reducible refine fr_call HF (m2 _) ?_
          clear HF
          intro W HF
          (try dsimp only)
          exact hK _ _ ⟨[s6, s45, s46, s47, s48, s49, (.agg (limA 32 d')), (.agg (IC (x % y)))], by simp only [putAll, z1, z2], s6, s45, s46, s47, s48, s49, (.agg (limA 32 d')), (.agg (IC (x % y))), c_b4, c_b5, rfl, lk h0, lk h1, lk h2, lk h3, lk h4, lk h5, fun _ => rfl, lk h7, lk h8, lk h9, hz0, hz1, HF⟩
        · have d4 := h4 (hd 4 (by kernel_rfl))
          obtain rfl := d4
          refine wpOp_want rfl rfl (fun K hK => ?_)
          simp only [putAll, z1, z2, z3, z4, z5]
          with_reducible apply gS HF
          · exact rfl
          · exact rfl
          · (exact tL)
          · (first | (exact tR1))
          · first | exact hz0 | exact tS1
          clear HF
          intro W HF
          simp only [z7, z8] at HF
          go_simp
          exact hK _ _ ⟨[s6, s45, s46, s47, s48, (.agg (IC (x / y))), s50, s51], by simp only [putAll, z1, z2], s6, s45, s46, s47, s48, (.agg (IC (x / y))), s50, s51, (IC (x / y)), c_b5, rfl, lk h0, lk h1, lk h2, lk h3, lk h4, lk h5, lk h6, fun _ => rfl, lk h8, lk h9, rfl, hz1, HF⟩
        · have d6 := h6 (hd 6 (by kernel_rfl))
          obtain rfl := d6
          refine wpOp_want rfl rfl (fun K hK => ?_)
          simp only [putAll, z1, z2, z3, z4, z5]
          with_reducible apply gS HF
          · exact rfl
          · exact rfl
          · (exact tL)
          · (first | (exact tR1))
          · first | exact hz1 | exact tS1
          clear HF
          intro W HF
          simp only [z7, z8] at HF
          go_simp
          exact hK _ _ ⟨[s6, s45, s46, s47, s48, s49, s50, (.agg (IC (x % y)))], by simp only [putAll, z1, z2], s6, s45, s46, s47, s48, s49, s50, (.agg (IC (x % y))), c_b4, (IC (x % y)), rfl, lk h0, lk h1, lk h2, lk h3, lk h4, lk h5, lk h6, lk h7, fun _ => rfl, lk h9, hz0, rfl, HF⟩
        · refine wpOp_want rfl rfl (fun K hK => ?_)
          simp only [putAll, z1, z2, z3, z4, z5]
          refine ⟨?_⟩
          go_simp
          exact hK _ _ ⟨[(.int .i64 0), s45, s46, s47, s48, s49, s50, s51], by simp only [putAll, z1, z2], (.int .i64 0), s45, s46, s47, s48, s49, s50, s51, c_b4, c_b5, rfl, lk h0, lk h1, lk h2, lk h3, lk h4, lk h5, lk h6, lk h7, lk h8, fun _ => rfl, hz0, hz1, HF⟩
      rintro listed mm W ⟨s6, s45, s46, s47, s48, s49, s50, s51, c_b4, c_b5, rfl, h0, h1, h2, h3, h4, h5, h6, h7, h8, h9, hz0, hz1, HF⟩ hall
      obtain rfl := h0 (hall 0 (by decide))
      obtain rfl := h1 (hall 1 (by decide))
      obtain rfl := h2 (hall 2 (by decide))
      obtain rfl := h3 (hall 3 (by decide))
      obtain rfl := h4 (hall 4 (by decide))
      obtain rfl := h5 (hall 5 (by decide))
      obtain rfl := h6 (hall 6 (by decide))
      rw [h7 (hall 7 (by decide))] at HF
      rw [h8 (hall 8 (by decide))] at HF
      obtain rfl := h9 (hall 9 (by decide))
      clear hall h0 h1 h2 h3 h4 h5 h6 h7 h8 h9 hz0 hz1 F
      have F := HF
      clear HF
      simp only [putAll, z1, z2]
      go_wp2_with (first | go_skip | ((with_reducible apply fL F); exact rfl; exact rfl; (exact tL); (exact tR1)) | ((with_reducible apply fA_int F); exact rfl) | ((with_reducible apply fX_int F); exact rfl; exact rfl) | ((with_reducible apply fA_mag F); exact rfl) | ((with_reducible apply fX_mag F); exact rfl; exact rfl) | ((with_reducible apply fS F); exact rfl; exact rfl; exact rfl; (exact tL); (exact tR1); (exact tS1); clear F; intro W F; simp only [z7, z8] at F) | ((with_reducible apply fB_int0); exact rfl) | ((with_reducible apply fB_mag0); exact rfl))
      exact bodyPost_ret (res_ccs rfl rfl rfl rfl (Fr.get F tL) (rowInt _ _) (Fr.get F tL) (rowInt _ _)) rfl ⟨rfl, F.below⟩
end
section
open Go.RowKit
set_option maxHeartbeats 2000000
set_option maxRecDepth 100000 in
theorem gcd_any {x y : Bool} {a b : Nat} (hx : a < bp 32) (hy : b < bp 32) (w : World) : Calls Tryz.prog 131 #[.agg (intC x a), .agg (intC y b)] w (RetB (.agg (IC (Nat.gcd a b : Nat))) w) := by
  have F := Fr.start w
  have s1 := fun w => splitC (neg := x) hx w
  have s2 := fun w => splitC (neg := y) hy w
  obtain ⟨p, hp⟩ : ∃ p, canB x a = p := ⟨_, rfl⟩
  obtain ⟨q, hq⟩ : ∃ q, canB y b = q := ⟨_, rfl⟩
  rw [hp] at s1
  rw [hq] at s2
  obtain ⟨g, hg⟩ : ∃ g, Nat.gcd a b = g := ⟨_, rfl⟩
  rw [hg]
  have HG := Lib.hid hg
  have HX := Lib.hid (show a < bp 32 ∧ b < bp 32 from ⟨hx, hy⟩)
  clear hp hq hg hx hy
  go_enter Tryz.func131, Tryz.ntmps131
  go_wp2_with (first | go_skip | ((with_reducible apply fL F); exact rfl; exact rfl; (exact tL); (exact tR1)) | ((with_reducible apply fA_int F); exact rfl) | ((with_reducible apply fX_int F); exact rfl; exact rfl) | ((with_reducible apply fA_mag F); exact rfl) | ((with_reducible apply fS F); exact rfl; exact rfl; exact rfl; (exact tL); (exact tR1); (exact tS1); clear F; intro W F; simp only [z7, z8] at F) | ((with_reducible apply fB_mag0); exact rfl))
  (clear F; intro b2 W F; try simp only [Act.put, z6, z1, z2])
  go_wp2_with (first | go_skip | ((with_reducible apply fL F); exact rfl; exact rfl; (exact tL); (exact tR1)) | ((with_reducible apply fA_int F); exact rfl) | ((with_reducible apply fX_int F); exact rfl; exact rfl) | ((with_reducible apply fA_mag F); exact rfl) | ((with_reducible apply fS F); exact rfl; exact rfl; exact rfl; (exact tL); (exact tR1); (exact tS1); clear F; intro W F; simp only [z7, z8] at F) | ((with_reducible apply fB_mag0); exact rfl))
  (clear F; intro b3 W F; try simp only [Act.put, z6, z1, z2])
  go_wp2_with (first | go_skip | ((with_reducible apply fL F); exact rfl; exact rfl; (exact tL); (exact tR1)) | ((with_reducible apply fA_int F); exact rfl) | ((with_reducible apply fX_int F); exact rfl; exact rfl) | ((with_reducible apply fA_mag F); exact rfl) | ((with_reducible apply fS F); exact rfl; exact rfl; exact rfl; (exact tL); (exact tR1); (exact tS1); clear F; intro W F; simp only [z7, z8] at F) | ((with_reducible apply fB_mag0); exact rfl))
  (clear F; intro b4 W F; try simp only [Act.put, z6, z1, z2])
  go_wp2_with (first | go_skip | ((go_at_call 100); (with_reducible refine fr_call F (s1 _) ?_); (clear F; intro W F); (try dsimp only)) | ((with_reducible apply fL F); exact rfl; exact rfl; (exact tL); (exact tR1)) | ((with_reducible apply fA_int F); exact rfl) | ((with_reducible apply fX_int F); exact rfl; exact rfl) | ((with_reducible apply fA_mag F); exact rfl) | ((with_reducible apply fS F); exact rfl; exact rfl; exact rfl; (exact tL); (exact tR1); (exact tS1); clear F; intro W F; simp only [z7, z8] at F) | ((with_reducible apply fB_mag0); exact rfl))
  (clear F; intro b6 W F; try simp only [Act.put, z6, z1, z2])
  go_wp2_with (first | go_skip | ((go_at_call 100); (with_reducible refine fr_call F (s2 _) ?_); (clear F; intro W F); (try dsimp only)) | ((with_reducible apply fL F); exact rfl; exact rfl; (exact tL); (exact tR1)) | ((with_reducible apply fA_int F); exact rfl) | ((with_reducible apply fX_int F); exact rfl; exact rfl) | ((with_reducible apply fA_mag F); exact rfl) | ((with_reducible apply fS F); exact rfl; exact rfl; exact rfl; (exact tL); (exact tR1); (exact tS1); clear F; intro W F; simp only [z7, z8] at F) | ((with_reducible apply fB_mag0); exact rfl))
  (clear F; intro b8 W F; try simp only [Act.put, z6, z1, z2])
  go_wp2_with (first | go_skip | ((with_reducible apply fL F); exact rfl; exact rfl; (exact tL); (exact tR1)) | ((with_reducible apply fA_int F); exact rfl) | ((with_reducible apply fX_int F); exact rfl; exact rfl) | ((with_reducible apply fA_mag F); exact rfl) | ((with_reducible apply fS F); exact rfl; exact rfl; exact rfl; (exact tL); (exact tR1); (exact tS1); clear F; intro W F; simp only [z7, z8] at F) | ((with_reducible apply fB_mag0); exact rfl))
  replace F := F.sub (L' := [(b8, limA 32 b, 108), (b6, limA 32 a, 108), (b4, intC false 0, 29)]) (by repeat (first | exact List.Sublist.slnil | apply List.Sublist.cons_cons | apply List.Sublist.cons))
  go_loopw [] (fun wr => ∃ m n : Nat, m < bp 32 ∧ n < bp 32 ∧ Nat.gcd m n = Nat.gcd a b ∧ Fr w wr [(b8, limA 32 n, 108), (b6, limA 32 m, 108), (b4, intC false 0, 29)]) (fun wr => magOf wr b8)
  case atStart => exact ⟨a, b, HX.out.1, HX.out.2, rfl, F⟩
  case round =>
    obtain ⟨m, n, hm, hn, hg, F⟩ := hrel
    have HGG := Lib.hid hg
    have HF := Lib.hid (magOf_is hn (F.get (Lies.here)))
    clear hg
    have ez := eqz n hn
    rw [← magZ] at ez
    by_cases h0 : n = 0
    · have hd0 : decide (n = 0) = true := decide_eq_true h0
      rw [hd0] at ez
      have e := HGG.out
      rw [h0, Nat.gcd_zero_right] at e
      have m1 := fun w => madeZ (n := false) (x := (g : Int)) hm (by rw [e, HG.out, Int.natAbs_natCast]) (by omega) (fun _ => rfl) w
      clear e h0 hd0
      go_wp2_with (first | go_skip | ((go_at_call 116); (with_reducible refine fr_call F (m1 _) ?_); (clear F; intro W F); (try dsimp only)) | ((with_reducible apply fL F); exact rfl; exact rfl; (exact tL); (exact tR1)) | ((with_reducible apply fA_int F); exact rfl) | ((with_reducible apply fX_int F); exact rfl; exact rfl) | ((with_reducible apply fA_mag F); exact rfl) | ((with_reducible apply fS F); exact rfl; exact rfl; exact rfl; (exact tL); (exact tR1); (exact tS1); clear F; intro W F; simp only [z7, z8] at F) | ((with_reducible apply fB_mag0); exact rfl))
      exact bodyPost_ret (res_c rfl rfl (Fr.get F tL) (rowInt _ _)) rfl ⟨rfl, F.below⟩
    · have hd0 : decide (n = 0) = false := decide_eq_false h0
      rw [hd0] at ez
      obtain ⟨c, hc⟩ : ∃ c, m / n = c := ⟨_, rfl⟩
      obtain ⟨d, hd⟩ : ∃ d, m % n = d := ⟨_, rfl⟩
      have gd := fun {W : World} {b k : Nat} (h1 : MagAt W b m) (h2 : MagAt W k n) => divide_any h1 h2 hm hn h0
      rw [hc, hd] at gd
      have hdn : d < n := by rw [← hd]; exact Nat.mod_lt _ (by omega)
      have hg2 : Nat.gcd n d = Nat.gcd a b := by rw [← hd, ← HGG.out, Nat.gcd_comm m n, Nat.gcd_rec n m, Nat.gcd_comm]
      have HG2 := Lib.hid hg2
      clear hc hd hg2 hd0
      go_wp2_with (first | go_skip | ((go_at_call 156); (with_reducible refine fr_call F (gd ?_ ?_) ?_); (apply Fr.get F; (exact tL)); (apply Fr.get F; (exact tL)); (clear F; intro W F); (try dsimp only)) | ((with_reducible apply fL F); exact rfl; exact rfl; (exact tL); (exact tR1)) | ((with_reducible apply fA_int F); exact rfl) | ((with_reducible apply fX_int F); exact rfl; exact rfl) | ((with_reducible apply fA_mag F); exact rfl) | ((with_reducible apply fS F); exact rfl; exact rfl; exact rfl; (exact tL); (exact tR1); (exact tS1); clear F; intro W F; simp only [z7, z8] at F) | ((with_reducible apply fB_mag0); exact rfl))
      (clear F; intro b9 W F; try simp only [Act.put, z6, z1, z2])
      go_wp2_with (first | go_skip | ((with_reducible apply fL F); exact rfl; exact rfl; (exact tL); (exact tR1)) | ((with_reducible apply fA_int F); exact rfl) | ((with_reducible apply fX_int F); exact rfl; exact rfl) | ((with_reducible apply fA_mag F); exact rfl) | ((with_reducible apply fS F); exact rfl; exact rfl; exact rfl; (exact tL); (exact tR1); (exact tS1); clear F; intro W F; simp only [z7, z8] at F) | ((with_reducible apply fB_mag0); exact rfl))
      (clear F; intro b10 W F; try simp only [Act.put, z6, z1, z2])
      go_wp2_with (first | go_skip | ((with_reducible apply fL F); exact rfl; exact rfl; (exact tL); (exact tR1)) | ((with_reducible apply fA_int F); exact rfl) | ((with_reducible apply fX_int F); exact rfl; exact rfl) | ((with_reducible apply fA_mag F); exact rfl) | ((with_reducible apply fS F); exact rfl; exact rfl; exact rfl; (exact tL); (exact tR1); (exact tS1); clear F; intro W F; simp only [z7, z8] at F) | ((with_reducible apply fB_mag0); exact rfl))
      clear ez
      try simp only [Act.put, z6, z1, z2]
      refine wp_region_slots mixP [28, 29] (fun l mm W => ∃ (s28 s29 : Value) (c_b6 c_b8 : Array Value), mm = [s28, s29] ∧ (l.getD 0 false = true → s28 = .agg (limA 32 n)) ∧ (l.getD 1 false = true → s29 = .agg (limA 32 d)) ∧ (l.getD 2 false = true → c_b6 = limA 32 n) ∧ (l.getD 3 false = true → c_b8 = limA 32 d) ∧ (l.getD 3 false = false → c_b8 = limA 32 n) ∧ (l.getD 3 false = true → l.getD 0 false = true) ∧ c_b6.size = (limA 32 n).size ∧ c_b8.size = (limA 32 d).size ∧ Fr w W [(b10, limA 32 d, 108), (b9, limA 32 c, 108), (b8, c_b8, 108), (b6, c_b6, 108), (b4, intC false 0, 29)]) (by kernel_rfl) rfl ?_ ?_ ?_
      · exact ⟨_, _, (limA 32 m), (limA 32 n), rfl, nf, nf, nf, nf, fun _ => rfl, nf, by exact tS1, by exact tS1, F.drew⟩
      · rintro listed mm W ii hi hsz hoff ⟨s28, s29, c_b6, c_b8, rfl, h0, h1, h2, h3, hO_b8, hW_b8_0, hz0, hz1, HF⟩ hd
        have hc : ii = 0 ∨ ii = 1 ∨ ii = 2 ∨ ii = 3 := by
          have hi2 : ii < 4 := hi
          omega
        have hsz2 : listed.size = 4 := hsz
        clear hi hsz
        rcases hc with rfl | rfl | rfl | rfl
        · refine wpOp_want rfl rfl (fun K hK => ?_)
          simp only [putAll, z1, z2, z3, z4, z5]
          have hold := hO_b8 (by cases hx : listed.getD 3 false with | false => rfl | true => exact absurd (hW_b8_0 hx) (by rw [hoff]; decide))
          rw [hold] at HF
          with_reducible apply gL HF
          · exact rfl
          · (exact tL)
          · (first | (exact tR1))
          rw [← hold] at HF
          go_simp
          exact hK _ _ ⟨[(.agg (limA 32 n)), s29], by simp only [putAll, z1, z2], (.agg (limA 32 n)), s29, c_b6, c_b8, rfl, fun _ => rfl, lk h1, lk h2, lk h3, listed_keepF (by decide) hO_b8, fun _ => getD_on (by omega), hz0, hz1, HF⟩
        · refine wpOp_want rfl rfl (fun K hK => ?_)
          simp only [putAll, z1, z2, z3, z4, z5]
          with_reducible apply gL HF
          · exact rfl
          · (exact tL)
          · (first | (exact tR1))
          go_simp
          exact hK _ _ ⟨[s28, (.agg (limA 32 d))], by simp only [putAll, z1, z2], s28, (.agg (limA 32 d)), c_b6, c_b8, rfl, lk h0, fun _ => rfl, lk h2, lk h3, listed_keepF (by decide) hO_b8, fun h => by rw [getD_keep (show 1 ≠ 3 by decide)] at h; rw [getD_keep (show 1 ≠ 0 by decide)]; exact hW_b8_0 h, hz0, hz1, HF⟩
        · have d0 := h0 (hd 0 (by kernel_rfl))
          obtain rfl := d0
          refine wpOp_want rfl rfl (fun K hK => ?_)
          simp only [putAll, z1, z2, z3, z4, z5]
          with_reducible apply gS HF
          · exact rfl
          · exact rfl
          · (exact tL)
          · (first | (exact tR1))
          · first | exact hz0 | exact tS1
          clear HF
          intro W HF
          simp only [z7, z8] at HF
          go_simp
          exact hK _ _ ⟨[(.agg (limA 32 n)), s29], by simp only [putAll, z1, z2], (.agg (limA 32 n)), s29, (limA 32 n), c_b8, rfl, lk h0, lk h1, fun _ => rfl, lk h3, listed_keepF (by decide) hO_b8, fun h => by rw [getD_keep (show 2 ≠ 3 by decide)] at h; rw [getD_keep (show 2 ≠ 0 by decide)]; exact hW_b8_0 h, rfl, hz1, HF⟩
        · have d1 := h1 (hd 1 (by kernel_rfl))
          obtain rfl := d1
          refine wpOp_want rfl rfl (fun K hK => ?_)
          simp only [putAll, z1, z2, z3, z4, z5]
          with_reducible apply gS HF
          · exact rfl
          · exact rfl
          · (exact tL)
          · (first | (exact tR1))
          · first | exact hz1 | exact tS1
          clear HF
          intro W HF
          simp only [z7, z8] at HF
          go_simp
          exact hK _ _ ⟨[s28, (.agg (limA 32 d))], by simp only [putAll, z1, z2], s28, (.agg (limA 32 d)), c_b6, (limA 32 d), rfl, lk h0, lk h1, lk h2, fun _ => rfl, fun h => absurd h (by rw [getD_on (show 3 < listed.size by omega)]; decide), fun _ => by rw [getD_keep (show 3 ≠ 0 by decide)]; exact hd 0 (by kernel_rfl), hz0, rfl, HF⟩
      rintro listed mm W ⟨s28, s29, c_b6, c_b8, rfl, h0, h1, h2, h3, hO_b8, hW_b8_0, hz0, hz1, HF⟩ hall
      obtain rfl := h0 (hall 0 (by decide))
      obtain rfl := h1 (hall 1 (by decide))
      rw [h2 (hall 2 (by decide))] at HF
      rw [h3 (hall 3 (by decide))] at HF
      clear hall h0 h1 h2 h3 hO_b8 hW_b8_0 hz0 hz1 F
      have F := HF
      clear HF
      simp only [putAll, z1, z2]
      replace F := F.sub (L' := [(b8, limA 32 d, 108), (b6, limA 32 n, 108), (b4, intC false 0, 29)]) (by repeat (first | exact List.Sublist.slnil | apply List.Sublist.cons_cons | apply List.Sublist.cons))
      go_wp2_with fail
      go_roundw
      case rel => exact ⟨n, d, hn, by omega, HG2.out, F⟩
      case measure =>
        rw [HF.out, magOf_is (by omega) (F.get (Lies.here))]
        exact hdn
theorem gcdZ {x y : Int} (hx : x.natAbs < bp 32) (hy : y.natAbs < bp 32) (w : World) : Calls Tryz.prog 131 #[.agg (IC x), .agg (IC y)] w (RetB (.agg (IC (Int.gcd x y))) w) := gcd_any hx hy w
end
section
open Go.RowKit
def ratC (x : Bool) (a : Nat) (y : Bool) (b : Nat) : Array Value := intC x a ++ intC y b
def RC (n d : Int) : Array Value := IC n ++ IC d
theorem ratC_size (x : Bool) (a : Nat) (y : Bool) (b : Nat) : (ratC x a y b).size = 66 := by simp [ratC, intC_size]
theorem RC_size (n d : Int) : (RC n d).size = 66 := by simp [RC, IC_size]
theorem rowRatT : RowT Tryz.prog 31 66 := ⟨⟨_, Tryz.underlying31, rfl⟩, by kernel_rfl⟩
theorem rowRat (x : Bool) (a : Nat) (y : Bool) (b : Nat) : RowV Tryz.prog 31 (ratC x a y b) := ⟨by rw [ratC_size]; exact rowRatT, by
  have h1 := (rowInt x a).one
  have h2 := (rowInt y b).one
  unfold ratC
  rw [Array.all_append, h1, h2]
  rfl⟩
theorem rowRC (n d : Int) : RowV Tryz.prog 31 (RC n d) := rowRat _ _ _ _
theorem rat_num (x : Bool) (a : Nat) (y : Bool) (b : Nat) : ((ratC x a y b).toList.drop 0).take (intC x a).size = (intC x a).toList := by
  unfold ratC
  rw [List.drop_zero, Array.toList_append, List.take_append_of_le_length (by simp), List.take_of_length_le (by simp)]
theorem rat_den (x : Bool) (a : Nat) (y : Bool) (b : Nat) : ((ratC x a y b).toList.drop 33).take (intC y b).size = (intC y b).toList := by
  unfold ratC
  have h : (intC x a).toList.length = 33 := by rw [Array.length_toList, intC_size]
  rw [Array.toList_append, List.drop_append_of_le_length (by omega), List.drop_of_length_le (by omega), List.nil_append, List.take_of_length_le (by simp)]
theorem RC_num (n d : Int) : ((RC n d).toList.drop 0).take (IC n).size = (IC n).toList := rat_num _ _ _ _
theorem RC_den (n d : Int) : ((RC n d).toList.drop 33).take (IC d).size = (IC d).toList := rat_den _ _ _ _
theorem tR2 {T : TypeId} {cs : Array Value} (h : RowV Tryz.prog T cs := by first | (with_reducible exact rowRC _ _) | (with_reducible exact rowInt _ _) | (with_reducible exact rowIC _) | (with_reducible exact rowRat _ _ _ _) | (with_reducible exact rowMag _)) : RowV Tryz.prog T cs := h
theorem tS2 {a b : Nat} (h : a = b := by first | (focus (simp only [IC_size, intC_size, limA_size, RC_size, ratC_size]; done)) | with_unfolding_all exact rfl) : a = b := h
theorem tM2 {l l' : List Value} (h : l = l' := by first | (with_reducible exact RC_num _ _) | (with_reducible exact RC_den _ _) | (with_reducible exact rat_num _ _ _ _) | (with_reducible exact rat_den _ _ _ _)) : l = l' := h
theorem ratZ : RC 0 0 = #[.bool false, .int .u32 0, .int .u32 0, .int .u32 0, .int .u32 0, .int .u32 0, .int .u32 0, .int .u32 0, .int .u32 0, .int .u32 0, .int .u32 0, .int .u32 0, .int .u32 0, .int .u32 0, .int .u32 0, .int .u32 0, .int .u32 0, .int .u32 0, .int .u32 0, .int .u32 0, .int .u32 0, .int .u32 0, .int .u32 0, .int .u32 0, .int .u32 0, .int .u32 0, .int .u32 0, .int .u32 0, .int .u32 0, .int .u32 0, .int .u32 0, .int .u32 0, .int .u32 0, .bool false, .int .u32 0, .int .u32 0, .int .u32 0, .int .u32 0, .int .u32 0, .int .u32 0, .int .u32 0, .int .u32 0, .int .u32 0, .int .u32 0, .int .u32 0, .int .u32 0, .int .u32 0, .int .u32 0, .int .u32 0, .int .u32 0, .int .u32 0, .int .u32 0, .int .u32 0, .int .u32 0, .int .u32 0, .int .u32 0, .int .u32 0, .int .u32 0, .int .u32 0, .int .u32 0, .int .u32 0, .int .u32 0, .int .u32 0, .int .u32 0, .int .u32 0, .int .u32 0] := by
  have h : IC 0 = #[.bool false, .int .u32 0, .int .u32 0, .int .u32 0, .int .u32 0, .int .u32 0, .int .u32 0, .int .u32 0, .int .u32 0, .int .u32 0, .int .u32 0, .int .u32 0, .int .u32 0, .int .u32 0, .int .u32 0, .int .u32 0, .int .u32 0, .int .u32 0, .int .u32 0, .int .u32 0, .int .u32 0, .int .u32 0, .int .u32 0, .int .u32 0, .int .u32 0, .int .u32 0, .int .u32 0, .int .u32 0, .int .u32 0, .int .u32 0, .int .u32 0, .int .u32 0, .int .u32 0] := intZ
  unfold RC
  rw [h]
  rfl
theorem built_ratR (x : Bool) (a : Nat) (y : Bool) (b : Nat) : Tryz.prog.built 31 [(0, .agg (intC x a)), (1, .agg (intC y b))] = some (ratC x a y b) := by kernel_rfl
theorem built_rat (n d : Int) : Tryz.prog.built 31 [(0, .agg (IC n)), (1, .agg (IC d))] = some (RC n d) := built_ratR _ _ _ _
theorem built_ratZ : Tryz.prog.built 31 [] = some (RC 0 0) := by rw [ratZ]; kernel_rfl
section
variable {o : Oper} {a : Act} {W w : World} {F : List Ent} {K : Act → World → Prop} {Q : Exit → Act → World → Prop} {ops : Array Oper} {rest : List Oper}
theorem alloc_rat (ho : o.op = .alloc 31) : (execOp a.eval o).run Tryz.prog W = .ok (.value (.pointer (some ⟨W.heap.size, 0, none⟩))) (W.alloc (.cells (RC 0 0) 31)) := by
  obtain ⟨dst, op, pos, af, g, x⟩ := o
  subst ho
  rw [ratZ]
  go_simp
  rfl
theorem box_rat {x : Operand} {cs : Array Value} (ho : o.op = .box 31 x) (hx : a.eval x = .agg cs) : (execOp a.eval o).run Tryz.prog W = .ok (.value (.pointer (some ⟨W.heap.size, 0, none⟩))) (W.alloc (.cells cs 31)) := by
  obtain ⟨dst, op, pos, af, g, z⟩ := o
  subst ho
  unfold execOp
  simp only [hx]
  go_simp
theorem op_alloc_rat (h : Fr w W F) (ho : o.op = .alloc 31) (hk : Hold (∀ b W', Fr w W' ((b, RC 0 0, 31) :: F) → K (a.put o.dst (.pointer (some ⟨b, 0, none⟩))) W')) : OpW Tryz.prog o a W K Q := op_alloc h (alloc_rat ho) hk
theorem wplF_alloc_rat (h : Fr w W F) (hw : Region.wanted o (yielded ops a.tmps) = true) (ho : o.op = .alloc 31) (hk : Hold (∀ b W', Fr w W' ((b, RC 0 0, 31) :: F) → wpList Tryz.prog ops Q rest (a.put o.dst (.pointer (some ⟨b, 0, none⟩))) W')) : wpList Tryz.prog ops Q (o :: rest) a W := wplF_alloc h hw (alloc_rat ho) hk
theorem wplF_box_rat {x : Operand} {cs : Array Value} (h : Fr w W F) (hw : Region.wanted o (yielded ops a.tmps) = true) (ho : o.op = .box 31 x) (hx : a.eval x = .agg cs) (hk : Hold (∀ b W', Fr w W' ((b, cs, 31) :: F) → wpList Tryz.prog ops Q rest (a.put o.dst (.pointer (some ⟨b, 0, none⟩))) W')) : wpList Tryz.prog ops Q (o :: rest) a W := wplF_alloc h hw (box_rat ho hx) hk
theorem wplB_rat0 (hw : Region.wanted o (yielded ops a.tmps) = true) (ho : o.op = .build 31 #[]) (hk : wpList Tryz.prog ops Q rest (a.put o.dst (.agg (RC 0 0))) W) : wpList Tryz.prog ops Q (o :: rest) a W :=
  wplF_build hw _ _ ho (by simp only [List.map_toArray, List.map_nil]; exact built_ratZ) hk
theorem opB_rat {x y : Operand} {n d : Int} (ho : o.op = .build 31 #[(0, x), (1, y)]) (hx : a.eval x = .agg (IC n)) (hy : a.eval y = .agg (IC d)) (hk : K (a.put o.dst (.agg (RC n d))) W) : OpW Tryz.prog o a W K Q :=
  op_build _ _ ho (by simp only [List.map_toArray, List.map_cons, List.map_nil, hx, hy]; exact built_rat n d) hk
theorem wplB_rat {x y : Operand} {n d : Int} (hw : Region.wanted o (yielded ops a.tmps) = true) (ho : o.op = .build 31 #[(0, x), (1, y)]) (hx : a.eval x = .agg (IC n)) (hy : a.eval y = .agg (IC d)) (hk : wpList Tryz.prog ops Q rest (a.put o.dst (.agg (RC n d))) W) : wpList Tryz.prog ops Q (o :: rest) a W :=
  wplF_build hw _ _ ho (by simp only [List.map_toArray, List.map_cons, List.map_nil, hx, hy]; exact built_rat n d) hk
end
section
variable {a : Act} {w W : World} {K : Act → World → Prop} {Q : Exit → Act → World → Prop} {F A L : List Ent} {b : Nat} {cs ds : Array Value} {t T : TypeId} {x y : Operand} {ops : Array Oper} {rest : List Oper} {dst : Option Tmp} {ty : TypeId} {pos : String} {af : Array Edge} {gd : Option (Nat × Bool)}
theorem fA_rat  (h : Fr w W F) (hw : Region.wanted ⟨dst, .alloc 31, ty, pos, af, gd⟩ (yielded ops a.tmps) = true)  (hk : Hold (∀ b W', Fr w W' ((b, RC 0 0, 31) :: F) → wpList Tryz.prog ops Q rest (a.put dst (.pointer (some ⟨b, 0, none⟩))) W')) : wpList Tryz.prog ops Q (⟨dst, .alloc 31, ty, pos, af, gd⟩ :: rest) a W := wplF_alloc_rat h hw rfl hk
theorem gA_rat  (h : Fr w W F)  (hk : Hold (∀ b W', Fr w W' ((b, RC 0 0, 31) :: F) → K (a.put dst (.pointer (some ⟨b, 0, none⟩))) W')) : OpW Tryz.prog ⟨dst, .alloc 31, ty, pos, af, gd⟩ a W K Q := op_alloc_rat h rfl hk
theorem fX_rat  (h : Fr w W F) (hw : Region.wanted ⟨dst, .box 31 x, ty, pos, af, gd⟩ (yielded ops a.tmps) = true) (hx : a.eval x = .agg cs) (hk : Hold (∀ b W', Fr w W' ((b, cs, 31) :: F) → wpList Tryz.prog ops Q rest (a.put dst (.pointer (some ⟨b, 0, none⟩))) W')) : wpList Tryz.prog ops Q (⟨dst, .box 31 x, ty, pos, af, gd⟩ :: rest) a W := wplF_box_rat h hw rfl hx hk
theorem fB_rat0  (hw : Region.wanted ⟨dst, .build 31 #[], ty, pos, af, gd⟩ (yielded ops a.tmps) = true)  (hk : wpList Tryz.prog ops Q rest (a.put dst (.agg (RC 0 0))) W) : wpList Tryz.prog ops Q (⟨dst, .build 31 #[], ty, pos, af, gd⟩ :: rest) a W := wplB_rat0 hw rfl  hk
theorem fB_rat {n d : Int} (hw : Region.wanted ⟨dst, .build 31 #[(0, x), (1, y)], ty, pos, af, gd⟩ (yielded ops a.tmps) = true) (hx : a.eval x = .agg (IC n)) (hy : a.eval y = .agg (IC d)) (hk : wpList Tryz.prog ops Q rest (a.put dst (.agg (RC n d))) W) : wpList Tryz.prog ops Q (⟨dst, .build 31 #[(0, x), (1, y)], ty, pos, af, gd⟩ :: rest) a W := wplB_rat hw rfl hx hy hk
theorem gB_rat {n d : Int} (hx : a.eval x = .agg (IC n)) (hy : a.eval y = .agg (IC d)) (hk : K (a.put dst (.agg (RC n d))) W) : OpW Tryz.prog ⟨dst, .build 31 #[(0, x), (1, y)], ty, pos, af, gd⟩ a W K Q := opB_rat rfl hx hy hk
end
end
section
open Go.RowKit
section
variable {o : Oper} {a : Act} {W : World}
theorem alloc_arr (ho : o.op = .alloc 27) : (execOp a.eval o).run Tryz.prog W = .ok (.value (.pointer (some ⟨W.heap.size, 0, none⟩))) (W.alloc (.cells (limA 32 0) 27)) := by
  obtain ⟨dst, op, pos, af, g, x⟩ := o
  subst ho
  rw [magZ]
  go_simp
theorem box_arr {x : Operand} {cs : Array Value} (ho : o.op = .box 27 x) (hx : a.eval x = .agg cs) : (execOp a.eval o).run Tryz.prog W = .ok (.value (.pointer (some ⟨W.heap.size, 0, none⟩))) (W.alloc (.cells cs 27)) := by
  obtain ⟨dst, op, pos, af, g, z⟩ := o
  subst ho
  unfold execOp
  simp only [hx]
  go_simp
theorem op_alloc_arr {w : World} {F : List Ent} {K : Act → World → Prop} {Q : Exit → Act → World → Prop} (h : Fr w W F) (ho : o.op = .alloc 27) (hk : Hold (∀ b W', Fr w W' ((b, limA 32 0, 27) :: F) → K (a.put o.dst (.pointer (some ⟨b, 0, none⟩))) W')) : OpW Tryz.prog o a W K Q := op_alloc h (alloc_arr ho) hk
theorem wplF_alloc_arr {w : World} {F : List Ent} {ops : Array Oper} {rest : List Oper} {Q : Exit → Act → World → Prop} (h : Fr w W F) (hw : Region.wanted o (yielded ops a.tmps) = true) (ho : o.op = .alloc 27) (hk : Hold (∀ b W', Fr w W' ((b, limA 32 0, 27) :: F) → wpList Tryz.prog ops Q rest (a.put o.dst (.pointer (some ⟨b, 0, none⟩))) W')) : wpList Tryz.prog ops Q (o :: rest) a W := wplF_alloc h hw (alloc_arr ho) hk
theorem wplF_box_arr {w : World} {F : List Ent} {ops : Array Oper} {rest : List Oper} {Q : Exit → Act → World → Prop} {x : Operand} {cs : Array Value} (h : Fr w W F) (hw : Region.wanted o (yielded ops a.tmps) = true) (ho : o.op = .box 27 x) (hx : a.eval x = .agg cs) (hk : Hold (∀ b W', Fr w W' ((b, cs, 27) :: F) → wpList Tryz.prog ops Q rest (a.put o.dst (.pointer (some ⟨b, 0, none⟩))) W')) : wpList Tryz.prog ops Q (o :: rest) a W := wplF_alloc h hw (box_arr ho hx) hk
end
section
variable {a : Act} {w W : World} {K : Act → World → Prop} {Q : Exit → Act → World → Prop} {F A L : List Ent} {b : Nat} {cs ds : Array Value} {t T : TypeId} {x y : Operand} {ops : Array Oper} {rest : List Oper} {dst : Option Tmp} {ty : TypeId} {pos : String} {af : Array Edge} {gd : Option (Nat × Bool)}
theorem fA_arr  (h : Fr w W F) (hw : Region.wanted ⟨dst, .alloc 27, ty, pos, af, gd⟩ (yielded ops a.tmps) = true)  (hk : Hold (∀ b W', Fr w W' ((b, limA 32 0, 27) :: F) → wpList Tryz.prog ops Q rest (a.put dst (.pointer (some ⟨b, 0, none⟩))) W')) : wpList Tryz.prog ops Q (⟨dst, .alloc 27, ty, pos, af, gd⟩ :: rest) a W := wplF_alloc_arr h hw rfl hk
theorem gA_arr  (h : Fr w W F)  (hk : Hold (∀ b W', Fr w W' ((b, limA 32 0, 27) :: F) → K (a.put dst (.pointer (some ⟨b, 0, none⟩))) W')) : OpW Tryz.prog ⟨dst, .alloc 27, ty, pos, af, gd⟩ a W K Q := op_alloc_arr h rfl hk
theorem fX_arr  (h : Fr w W F) (hw : Region.wanted ⟨dst, .box 27 x, ty, pos, af, gd⟩ (yielded ops a.tmps) = true) (hx : a.eval x = .agg cs) (hk : Hold (∀ b W', Fr w W' ((b, cs, 27) :: F) → wpList Tryz.prog ops Q rest (a.put dst (.pointer (some ⟨b, 0, none⟩))) W')) : wpList Tryz.prog ops Q (⟨dst, .box 27 x, ty, pos, af, gd⟩ :: rest) a W := wplF_box_arr h hw rfl hx hk
end
theorem IC_tail (z : Int) : ((IC z).toList.drop 1).take (limA 32 z.natAbs).size = (limA 32 z.natAbs).toList := intC_tail _ _
theorem tR3 {T : TypeId} {cs : Array Value} (h : RowV Tryz.prog T cs := by first | (with_reducible exact rowRC _ _) | (with_reducible exact rowInt _ _) | (with_reducible exact rowIC _) | (with_reducible exact rowArr _) | (with_reducible exact rowRat _ _ _ _) | (with_reducible exact rowMag _)) : RowV Tryz.prog T cs := h
theorem tM3 {l l' : List Value} (h : l = l' := by first | (with_reducible exact RC_num _ _) | (with_reducible exact RC_den _ _) | (with_reducible exact rat_num _ _ _ _) | (with_reducible exact rat_den _ _ _ _) | (with_reducible exact intC_tail _ _) | (with_reducible exact IC_tail _)) : l = l' := h
end
section
open Go.RowKit
set_option maxHeartbeats 4000000
set_option maxRecDepth 100000 in
theorem rlimbs_any {m n : Nat} (lm : m < bp 32) (hu : Used m n) (w : World) : Calls Tryz.prog 130 #[.agg (limA 32 m)] w (RetB (.int .i64 n) w) := by
  have F := Fr.start w
  have HU := Lib.hid hu
  have HL := Lib.hid lm
  clear hu lm
  go_enter Tryz.func130, Tryz.ntmps130
  go_wp2_with (first | go_skip | ((with_reducible apply fX_arr F); exact rfl; exact rfl))
  (clear F; intro b1 W F; try simp only [Act.put, z6, z1, z2])
  go_wp2_with (first | go_skip | ((with_reducible apply fX_arr F); exact rfl; exact rfl))
  go_loopw [3] (fun iv wr => ∃ i : Nat, i ≤ 32 ∧ iv = .int .i64 i ∧ m < bp i ∧ Fr w wr [(b1, limA 32 m, 27)]) (fun iv _ => (intOf iv).toNat)
  case atStart => exact ⟨32, by omega, rfl, HL.out, F⟩
  case round =>
    clear F
    obtain ⟨i, hi, rfl, he, F⟩ := hrel
    have HEI := Lib.hid he
    clear he HL
    cases i with
    | zero =>
      have H0 := Lib.hid (HU.out.unique ⟨HEI.out, .inl rfl⟩)
      go_wp2_with fail
      go_ret
      exact ⟨ret_int (by first | (rw [H0.out]; done) | (rw [H0.out]; rfl)), F.below⟩
    | succ i =>
      have c1 := (F.get Lies.here).cell (limA_at (m := m) (show i < 32 by omega))
      obtain ⟨x, hx⟩ : ∃ x, lim m i = x := ⟨_, rfl⟩
      rw [hx] at c1
      have HX := Lib.hid hx
      have e1 : IntKind.i64.wrap (((i + 1 : Nat) : Int) - 1) = (i : Int) := by rw [show ((i + 1 : Nat) : Int) - 1 = (i : Int) by omega]; exact IntWalk.i64_in _ (by omega)
      have i0 : (0 : Int) ≤ (i : Int) := by omega
      have i1 : (i : Int) < 32 := by omega
      have i2 : i < 32 := by omega
      have i3 : (0 : Int) < (i : Int) + 1 := by omega
      clear hx
      by_cases h0 : x = 0
      · have H0 := Lib.hid (lt_pred HEI.out (by rw [HX.out]; exact h0))
        subst h0
        clear HX
        go_wp2_with fail
        go_roundw
        case rel => exact ⟨i, by omega, by go_num, H0.out, F⟩
        case measure => simp [intOf]
      · have H0 := Lib.hid (HU.out.unique ⟨HEI.out, .inr (le_of_lim (by rw [Nat.add_sub_cancel, HX.out]; exact h0))⟩)
        have g1 : ((x : Int) == 0) = false := by rw [beq_eq_false_iff_ne]; omega
        clear HX
        go_wp2_with fail
        go_ret
        exact ⟨ret_int (by first | (rw [H0.out]; done) | (rw [H0.out]; rfl)), F.below⟩
theorem used_zero {m n : Nat} (h : Used m n) : n = 0 ↔ m = 0 := by
  constructor
  · rintro rfl
    have := h.1
    rw [bp_zero] at this
    omega
  · rintro rfl
    exact (Used.unique h ⟨bp_pos 0, .inl rfl⟩)
set_option maxRecDepth 100000 in
theorem rzero_any {m : Nat} (lm : m < bp 32) {z : Bool} (hz : decide (m = 0) = z) (w : World) : Calls Tryz.prog 125 #[.agg (limA 32 m)] w (RetB (.bool z) w) := by
  have F := Fr.start w
  obtain ⟨n, hn, hu⟩ := used_ex m lm
  have g1 := fun w => rlimbs_any lm hu w
  have e : ((n : Int) == 0) = z := by
    rw [← hz, Bool.eq_iff_iff, beq_iff_eq, decide_eq_true_eq, ← used_zero hu]
    omega
  clear hz hu hn lm
  go_enter Tryz.func125, Tryz.ntmps125
  go_wp2_with (first | go_skip | ((with_reducible apply fL F); exact rfl; exact rfl; (exact tL); (exact tR3)) | ((with_reducible apply fX_arr F); exact rfl; exact rfl))
  (clear F; intro b1 W F; try simp only [Act.put, z6, z1, z2])
  go_wp2_with (first | go_skip | ((go_at_call 130); (with_reducible refine fr_call F (g1 _) ?_); (clear F; intro W F); (try dsimp only)) | ((with_reducible apply fL F); exact rfl; exact rfl; (exact tL); (exact tR3)) | ((with_reducible apply fX_arr F); exact rfl; exact rfl))
  go_ret
  exact ⟨rfl, F.below⟩
set_option maxRecDepth 100000 in
theorem rcompare_any {a b : Nat} (la : a < bp 32) (lb : b < bp 32) (w : World) : Calls Tryz.prog 95 #[.agg (limA 32 a), .agg (limA 32 b)] w (RetB (.int .i64 (cmpN a b)) w) := by
  have F := Fr.start w
  have HE := Lib.hid (show a / bp 32 = b / bp 32 by rw [div_bp_zero la, div_bp_zero lb])
  clear la lb
  obtain ⟨v, hv⟩ : ∃ v, cmpN a b = v := ⟨_, rfl⟩
  rw [hv]
  have HV := Lib.hid hv
  clear hv
  go_enter Tryz.func95, Tryz.ntmps95
  go_wp2_with (first | go_skip | ((with_reducible apply fX_arr F); exact rfl; exact rfl))
  (clear F; intro b2 W F; try simp only [Act.put, z6, z1, z2])
  go_wp2_with (first | go_skip | ((with_reducible apply fX_arr F); exact rfl; exact rfl))
  (clear F; intro b3 W F; try simp only [Act.put, z6, z1, z2])
  go_wp2_with (first | go_skip | ((with_reducible apply fX_arr F); exact rfl; exact rfl))
  go_loopw [5] (fun iv wr => ∃ i : Nat, i ≤ 32 ∧ iv = .int .i64 ((i : Int) - 1) ∧ a / bp i = b / bp i ∧ Fr w wr [(b3, limA 32 b, 27), (b2, limA 32 a, 27)]) (fun iv _ => (intOf iv + 1).toNat)
  case atStart => exact ⟨32, by omega, rfl, HE.out, F⟩
  case round =>
    clear F
    obtain ⟨i, hi, rfl, he, F⟩ := hrel
    have HEI := Lib.hid he
    clear he HE
    cases i with
    | zero =>
      have h0 := cmpN_eq HEI.out
      rw [HV.out] at h0
      have H0 := Lib.hid h0
      clear h0
      go_wp2_with fail
      go_ret
      exact ⟨ret_int H0.out.symm, F.below⟩
    | succ i =>
      obtain ⟨s1, s2, s3⟩ := cmpN_step HEI.out
      have HS := Lib.hid (And.intro s1 (And.intro s2 s3))
      clear s1 s2 s3
      have c1 := (F.get (Lies.tl Lies.here)).cell (limA_at (m := a) (show i < 32 by omega))
      have c2 := (F.get Lies.here).cell (limA_at (m := b) (show i < 32 by omega))
      obtain ⟨x, hx⟩ : ∃ x, lim a i = x := ⟨_, rfl⟩
      obtain ⟨y, hy⟩ : ∃ y, lim b i = y := ⟨_, rfl⟩
      rw [hx] at c1
      rw [hy] at c2
      rw [hx, hy, HV.out] at HS
      have e1 : ((i + 1 : Nat) : Int) - 1 = (i : Int) := by omega
      rw [e1]
      have i0 : (0 : Int) ≤ (i : Int) := by omega
      have i1 : (i : Int) < 32 := by omega
      have i2 : i < 32 := by omega
      clear hx hy e1
      by_cases hlt : x < y
      · have H0 := Lib.hid (HS.out.1 hlt)
        have g1 := decide_eq_true hlt
        clear HS
        go_wp2_with fail
        go_quiet (fail)
        go_wp2_with fail
        go_ret
        exact ⟨ret_int H0.out.symm, bnext F.below (bdn _ _)⟩
      · have g1 := decide_eq_false hlt
        by_cases hgt : y < x
        · have H0 := Lib.hid (HS.out.2.1 hgt)
          have g2 := decide_eq_true hgt
          clear HS
          go_wp2_with fail
          go_quiet (fail)
          go_wp2_with fail
          go_quiet (fail)
          go_wp2_with fail
          go_ret
          exact ⟨ret_int H0.out.symm, bnext F.below (bdn2 _ _ _)⟩
        · have g2 := decide_eq_false hgt
          have H0 := Lib.hid (HS.out.2.2 (by omega))
          clear HS
          go_wp2_with fail
          go_quiet (fail)
          go_wp2_with fail
          go_quiet (fail)
          go_wp2_with fail
          go_roundw
          case rel => exact ⟨i, by omega, by go_num, H0.out, F.drewN _⟩
          case measure => simp [intOf]
end
section
open Go.RowKit
set_option maxHeartbeats 4000000
set_option maxRecDepth 100000 in
theorem rcanon_any {neg : Bool} {m : Nat} (lm : m < bp 32) {z : Bool} (hz : decide (m = 0) = z) (w : World) : Calls Tryz.prog 129 #[.bool neg, .agg (limA 32 m)] w (RetB (.agg (intC (neg && !z) m)) w) := by
  have F := Fr.start w
  have g1 := fun w => rzero_any lm hz w
  clear hz lm
  go_enter Tryz.func129, Tryz.ntmps129
  go_wp2_with (first | go_skip | ((with_reducible apply fL F); exact rfl; exact rfl; (exact tL); (exact tR3)) | ((with_reducible apply fA_int F); exact rfl) | ((with_reducible apply fX_arr F); exact rfl; exact rfl) | ((with_reducible apply fS F); exact rfl; exact rfl; exact rfl; (exact tL); (exact tR3); (exact tS2); clear F; intro W F; simp only [z7, z8] at F) | ((with_reducible apply fB_int); exact rfl; exact rfl; exact rfl))
  (clear F; intro b3 W F; try simp only [Act.put, z6, z1, z2])
  go_wp2_with (first | go_skip | ((with_reducible apply fL F); exact rfl; exact rfl; (exact tL); (exact tR3)) | ((with_reducible apply fA_int F); exact rfl) | ((with_reducible apply fX_arr F); exact rfl; exact rfl) | ((with_reducible apply fS F); exact rfl; exact rfl; exact rfl; (exact tL); (exact tR3); (exact tS2); clear F; intro W F; simp only [z7, z8] at F) | ((with_reducible apply fB_int); exact rfl; exact rfl; exact rfl))
  (clear F; intro b4 W F; try simp only [Act.put, z6, z1, z2])
  go_wp2_with (first | go_skip | ((with_reducible apply fL F); exact rfl; exact rfl; (exact tL); (exact tR3)) | ((with_reducible apply fA_int F); exact rfl) | ((with_reducible apply fX_arr F); exact rfl; exact rfl) | ((with_reducible apply fS F); exact rfl; exact rfl; exact rfl; (exact tL); (exact tR3); (exact tS2); clear F; intro W F; simp only [z7, z8] at F) | ((with_reducible apply fB_int); exact rfl; exact rfl; exact rfl))
  cases neg
  · skip
    try simp only [Act.put, z6, z1, z2]
    refine wp_region_slots mixP [5, 6, 7, 8, 9, 10, 11, 12] (fun l mm W => ∃ (s5 s6 s7 s8 s9 s10 s11 s12 : Value) (c_b4 : Array Value), mm = [s5, s6, s7, s8, s9, s10, s11, s12] ∧ (l.getD 0 false = true → s5 = .bool false) ∧ (l.getD 1 false = true → s6 = .bool false) ∧ (l.getD 2 false = true → s7 = undef) ∧ (l.getD 3 false = true → s8 = undef) ∧ (l.getD 4 false = true → s9 = undef) ∧ (l.getD 5 false = true → s10 = .bool false) ∧ (l.getD 6 false = true → s11 = .agg (limA 32 m)) ∧ (l.getD 7 false = true → s12 = .agg (intC false m)) ∧ (l.getD 8 false = true → c_b4 = intC false m) ∧ c_b4.size = (intC false m).size ∧ Fr w W [(b4, c_b4, 29), (b3, limA 32 m, 27)]) (by kernel_rfl) rfl ?_ ?_ ?_
    · exact ⟨_, _, _, _, _, _, _, _, (intC false 0), rfl, nf, nf, nf, nf, nf, nf, nf, nf, nf, by exact tS2, F.drew⟩
    · rintro listed mm W ii hi hsz hoff ⟨s5, s6, s7, s8, s9, s10, s11, s12, c_b4, rfl, h0, h1, h2, h3, h4, h5, h6, h7, h8, hz0, HF⟩ hd
      have hc : ii = 0 ∨ ii = 1 ∨ ii = 2 ∨ ii = 3 ∨ ii = 4 ∨ ii = 5 ∨ ii = 6 ∨ ii = 7 ∨ ii = 8 := by
        have hi2 : ii < 9 := hi
        omega
      have hsz2 : listed.size = 9 := hsz
      clear hi hsz
      rcases hc with rfl | rfl | rfl | rfl | rfl | rfl | rfl | rfl | rfl
      · refine wpOp_want rfl rfl (fun K hK => ?_)
        simp only [putAll, z1, z2, z3, z4, z5]
        refine ⟨?_⟩
        go_simp
        exact hK _ _ ⟨[(.bool false), s6, s7, s8, s9, s10, s11, s12], by simp only [putAll, z1, z2], (.bool false), s6, s7, s8, s9, s10, s11, s12, c_b4, rfl, fun _ => rfl, lk h1, lk h2, lk h3, lk h4, lk h5, lk h6, lk h7, lk h8, hz0, HF⟩
      · have d0 := h0 (hd 0 (by kernel_rfl))
        obtain rfl := d0
        refine wpOp_want rfl rfl (fun K hK => ?_)
        simp only [putAll, z1, z2, z3, z4, z5]
        refine ⟨?_⟩
        go_simp
        exact hK _ _ ⟨[(.bool false), (.bool false), s7, s8, s9, s10, s11, s12], by simp only [putAll, z1, z2], (.bool false), (.bool false), s7, s8, s9, s10, s11, s12, c_b4, rfl, lk h0, fun _ => rfl, lk h2, lk h3, lk h4, lk h5, lk h6, lk h7, lk h8, hz0, HF⟩
      · have d1 := h1 (hd 1 (by kernel_rfl))
        obtain rfl := d1
        refine wpOp_skip rfl rfl (fun K hK => ?_)
        simp only [putAll, z1, z2, z3, z4, z5]
        go_simp
        exact hK _ _ ⟨[s5, (.bool false), (undef), s8, s9, s10, s11, s12], by simp only [putAll, z1, z2], s5, (.bool false), (undef), s8, s9, s10, s11, s12, c_b4, rfl, lk h0, lk h1, fun _ => rfl, lk h3, lk h4, lk h5, lk h6, lk h7, lk h8, hz0, HF⟩
      · have d1 := h1 (hd 1 (by kernel_rfl))
        have d2 := h2 (hd 2 (by kernel_rfl))
        obtain rfl := d1
        obtain rfl := d2
        refine wpOp_skip rfl rfl (fun K hK => ?_)
        simp only [putAll, z1, z2, z3, z4, z5]
        go_simp
        exact hK _ _ ⟨[s5, (.bool false), (undef), (undef), s9, s10, s11, s12], by simp only [putAll, z1, z2], s5, (.bool false), (undef), (undef), s9, s10, s11, s12, c_b4, rfl, lk h0, lk h1, lk h2, fun _ => rfl, lk h4, lk h5, lk h6, lk h7, lk h8, hz0, HF⟩
      · have d1 := h1 (hd 1 (by kernel_rfl))
        have d3 := h3 (hd 3 (by kernel_rfl))
        obtain rfl := d1
        obtain rfl := d3
        refine wpOp_skip rfl rfl (fun K hK => ?_)
        simp only [putAll, z1, z2, z3, z4, z5]
        go_simp
        exact hK _ _ ⟨[s5, (.bool false), s7, (undef), (undef), s10, s11, s12], by simp only [putAll, z1, z2], s5, (.bool false), s7, (undef), (undef), s10, s11, s12, c_b4, rfl, lk h0, lk h1, lk h2, lk h3, fun _ => rfl, lk h5, lk h6, lk h7, lk h8, hz0, HF⟩
      · have d1 := h1 (hd 1 (by kernel_rfl))
        have d4 := h4 (hd 4 (by kernel_rfl))
        obtain rfl := d1
        obtain rfl := d4
        refine wpOp_want rfl rfl (fun K hK => ?_)
        simp only [putAll, z1, z2, z3, z4, z5]
        refine ⟨?_⟩
        go_simp
        exact hK _ _ ⟨[s5, (.bool false), s7, s8, (undef), (.bool false), s11, s12], by simp only [putAll, z1, z2], s5, (.bool false), s7, s8, (undef), (.bool false), s11, s12, c_b4, rfl, lk h0, lk h1, lk h2, lk h3, lk h4, fun _ => rfl, lk h6, lk h7, lk h8, hz0, HF⟩
      · refine wpOp_want rfl rfl (fun K hK => ?_)
        simp only [putAll, z1, z2, z3, z4, z5]
        with_reducible apply gL HF
        · exact rfl
        · (exact tL)
        · (first | (exact tR3))
        go_simp
        exact hK _ _ ⟨[s5, s6, s7, s8, s9, s10, (.agg (limA 32 m)), s12], by simp only [putAll, z1, z2], s5, s6, s7, s8, s9, s10, (.agg (limA 32 m)), s12, c_b4, rfl, lk h0, lk h1, lk h2, lk h3, lk h4, lk h5, fun _ => rfl, lk h7, lk h8, hz0, HF⟩
      · have d5 := h5 (hd 5 (by kernel_rfl))
        have d6 := h6 (hd 6 (by kernel_rfl))
        obtain rfl := d5
        obtain rfl := d6
        refine wpOp_want rfl rfl (fun K hK => ?_)
        simp only [putAll, z1, z2, z3, z4, z5]
        with_reducible apply gB_int
        · exact rfl
        · exact rfl
        go_simp
        exact hK _ _ ⟨[s5, s6, s7, s8, s9, (.bool false), (.agg (limA 32 m)), (.agg (intC false m))], by simp only [putAll, z1, z2], s5, s6, s7, s8, s9, (.bool false), (.agg (limA 32 m)), (.agg (intC false m)), c_b4, rfl, lk h0, lk h1, lk h2, lk h3, lk h4, lk h5, lk h6, fun _ => rfl, lk h8, hz0, HF⟩
      · have d7 := h7 (hd 7 (by kernel_rfl))
        obtain rfl := d7
        refine wpOp_want rfl rfl (fun K hK => ?_)
        simp only [putAll, z1, z2, z3, z4, z5]
        with_reducible apply gS HF
        · exact rfl
        · exact rfl
        · (exact tL)
        · (first | (exact tR3))
        · first | exact hz0 | exact tS2
        clear HF
        intro W HF
        simp only [z7, z8] at HF
        go_simp
        exact hK _ _ ⟨[s5, s6, s7, s8, s9, s10, s11, (.agg (intC false m))], by simp only [putAll, z1, z2], s5, s6, s7, s8, s9, s10, s11, (.agg (intC false m)), (intC false m), rfl, lk h0, lk h1, lk h2, lk h3, lk h4, lk h5, lk h6, lk h7, fun _ => rfl, rfl, HF⟩
    rintro listed mm W ⟨s5, s6, s7, s8, s9, s10, s11, s12, c_b4, rfl, h0, h1, h2, h3, h4, h5, h6, h7, h8, hz0, HF⟩ hall
    obtain rfl := h0 (hall 0 (by decide))
    obtain rfl := h1 (hall 1 (by decide))
    obtain rfl := h2 (hall 2 (by decide))
    obtain rfl := h3 (hall 3 (by decide))
    obtain rfl := h4 (hall 4 (by decide))
    obtain rfl := h5 (hall 5 (by decide))
    obtain rfl := h6 (hall 6 (by decide))
    obtain rfl := h7 (hall 7 (by decide))
    rw [h8 (hall 8 (by decide))] at HF
    clear hall h0 h1 h2 h3 h4 h5 h6 h7 h8 hz0 F
    have F := HF
    clear HF
    simp only [putAll, z1, z2]
    go_wp2_with (first | go_skip | ((with_reducible apply fL F); exact rfl; exact rfl; (exact tL); (exact tR3)) | ((with_reducible apply fA_int F); exact rfl) | ((with_reducible apply fX_arr F); exact rfl; exact rfl) | ((with_reducible apply fS F); exact rfl; exact rfl; exact rfl; (exact tL); (exact tR3); (exact tS2); clear F; intro W F; simp only [z7, z8] at F) | ((with_reducible apply fB_int); exact rfl; exact rfl; exact rfl))
    exact bodyPost_ret (res_c rfl rfl (Fr.get F tL) (rowInt _ _)) rfl ⟨rfl, F.below⟩
  · skip
    try simp only [Act.put, z6, z1, z2]
    refine wp_region_slots mixP [5, 6, 7, 8, 9, 10, 11, 12] (fun l mm W => ∃ (s5 s6 s7 s8 s9 s10 s11 s12 : Value) (c_b4 : Array Value), mm = [s5, s6, s7, s8, s9, s10, s11, s12] ∧ (l.getD 0 false = true → s5 = .bool true) ∧ (l.getD 1 false = true → s6 = .bool true) ∧ (l.getD 2 false = true → s7 = .agg (limA 32 m)) ∧ (l.getD 3 false = true → s8 = .bool z) ∧ (l.getD 4 false = true → s9 = .bool (!z)) ∧ (l.getD 5 false = true → s10 = .bool (!z)) ∧ (l.getD 6 false = true → s11 = .agg (limA 32 m)) ∧ (l.getD 7 false = true → s12 = .agg (intC (!z) m)) ∧ (l.getD 8 false = true → c_b4 = intC (!z) m) ∧ c_b4.size = (intC (!z) m).size ∧ Fr w W [(b4, c_b4, 29), (b3, limA 32 m, 27)]) (by kernel_rfl) rfl ?_ ?_ ?_
    · exact ⟨_, _, _, _, _, _, _, _, (intC false 0), rfl, nf, nf, nf, nf, nf, nf, nf, nf, nf, by exact tS2, F.drew⟩
    · rintro listed mm W ii hi hsz hoff ⟨s5, s6, s7, s8, s9, s10, s11, s12, c_b4, rfl, h0, h1, h2, h3, h4, h5, h6, h7, h8, hz0, HF⟩ hd
      have hc : ii = 0 ∨ ii = 1 ∨ ii = 2 ∨ ii = 3 ∨ ii = 4 ∨ ii = 5 ∨ ii = 6 ∨ ii = 7 ∨ ii = 8 := by
        have hi2 : ii < 9 := hi
        omega
      have hsz2 : listed.size = 9 := hsz
      clear hi hsz
      rcases hc with rfl | rfl | rfl | rfl | rfl | rfl | rfl | rfl | rfl
      · refine wpOp_want rfl rfl (fun K hK => ?_)
        simp only [putAll, z1, z2, z3, z4, z5]
        refine ⟨?_⟩
        go_simp
        exact hK _ _ ⟨[(.bool true), s6, s7, s8, s9, s10, s11, s12], by simp only [putAll, z1, z2], (.bool true), s6, s7, s8, s9, s10, s11, s12, c_b4, rfl, fun _ => rfl, lk h1, lk h2, lk h3, lk h4, lk h5, lk h6, lk h7, lk h8, hz0, HF⟩
      · have d0 := h0 (hd 0 (by kernel_rfl))
        obtain rfl := d0
        refine wpOp_want rfl rfl (fun K hK => ?_)
        simp only [putAll, z1, z2, z3, z4, z5]
        refine ⟨?_⟩
        go_simp
        exact hK _ _ ⟨[(.bool true), (.bool true), s7, s8, s9, s10, s11, s12], by simp only [putAll, z1, z2], (.bool true), (.bool true), s7, s8, s9, s10, s11, s12, c_b4, rfl, lk h0, fun _ => rfl, lk h2, lk h3, lk h4, lk h5, lk h6, lk h7, lk h8, hz0, HF⟩
      · have d1 := h1 (hd 1 (by kernel_rfl))
        obtain rfl := d1
        refine wpOp_want rfl rfl (fun K hK => ?_)
        simp only [putAll, z1, z2, z3, z4, z5]
        with_reducible apply gL HF
        · exact rfl
        · (exact tL)
        · (first | (exact tR3))
        go_simp
        exact hK _ _ ⟨[s5, (.bool true), (.agg (limA 32 m)), s8, s9, s10, s11, s12], by simp only [putAll, z1, z2], s5, (.bool true), (.agg (limA 32 m)), s8, s9, s10, s11, s12, c_b4, rfl, lk h0, lk h1, fun _ => rfl, lk h3, lk h4, lk h5, lk h6, lk h7, lk h8, hz0, HF⟩
      · have d1 := h1 (hd 1 (by kernel_rfl))
        have d2 := h2 (hd 2 (by kernel_rfl))
        obtain rfl := d1
        obtain rfl := d2
        refine wpOp_want rfl rfl (fun K hK => ?_)
        simp only [putAll, z1, z2, z3, z4, z5]
        refine ⟨?_⟩
        go_simp
        with_reducible refine fr_call HF (g1 _) ?_
        clear HF
        intro W HF
        (try dsimp only)
        exact hK _ _ ⟨[s5, (.bool true), (.agg (limA 32 m)), (.bool z), s9, s10, s11, s12], by simp only [putAll, z1, z2], s5, (.bool true), (.agg (limA 32 m)), (.bool z), s9, s10, s11, s12, c_b4, rfl, lk h0, lk h1, lk h2, fun _ => rfl, lk h4, lk h5, lk h6, lk h7, lk h8, hz0, HF⟩
      · have d1 := h1 (hd 1 (by kernel_rfl))
        have d3 := h3 (hd 3 (by kernel_rfl))
        obtain rfl := d1
        obtain rfl := d3
        refine wpOp_want rfl rfl (fun K hK => ?_)
        simp only [putAll, z1, z2, z3, z4, z5]
        refine ⟨?_⟩
        go_simp
        exact hK _ _ ⟨[s5, (.bool true), s7, (.bool z), (.bool (!z)), s10, s11, s12], by simp only [putAll, z1, z2], s5, (.bool true), s7, (.bool z), (.bool (!z)), s10, s11, s12, c_b4, rfl, lk h0, lk h1, lk h2, lk h3, fun _ => rfl, lk h5, lk h6, lk h7, lk h8, hz0, HF⟩
      · have d1 := h1 (hd 1 (by kernel_rfl))
        have d4 := h4 (hd 4 (by kernel_rfl))
        obtain rfl := d1
        obtain rfl := d4
        refine wpOp_want rfl rfl (fun K hK => ?_)
        simp only [putAll, z1, z2, z3, z4, z5]
        refine ⟨?_⟩
        go_simp
        exact hK _ _ ⟨[s5, (.bool true), s7, s8, (.bool (!z)), (.bool (!z)), s11, s12], by simp only [putAll, z1, z2], s5, (.bool true), s7, s8, (.bool (!z)), (.bool (!z)), s11, s12, c_b4, rfl, lk h0, lk h1, lk h2, lk h3, lk h4, fun _ => rfl, lk h6, lk h7, lk h8, hz0, HF⟩
      · refine wpOp_want rfl rfl (fun K hK => ?_)
        simp only [putAll, z1, z2, z3, z4, z5]
        with_reducible apply gL HF
        · exact rfl
        · (exact tL)
        · (first | (exact tR3))
        go_simp
        exact hK _ _ ⟨[s5, s6, s7, s8, s9, s10, (.agg (limA 32 m)), s12], by simp only [putAll, z1, z2], s5, s6, s7, s8, s9, s10, (.agg (limA 32 m)), s12, c_b4, rfl, lk h0, lk h1, lk h2, lk h3, lk h4, lk h5, fun _ => rfl, lk h7, lk h8, hz0, HF⟩
      · have d5 := h5 (hd 5 (by kernel_rfl))
        have d6 := h6 (hd 6 (by kernel_rfl))
        obtain rfl := d5
        obtain rfl := d6
        refine wpOp_want rfl rfl (fun K hK => ?_)
        simp only [putAll, z1, z2, z3, z4, z5]
        with_reducible apply gB_int
        · exact rfl
        · exact rfl
        go_simp
        exact hK _ _ ⟨[s5, s6, s7, s8, s9, (.bool (!z)), (.agg (limA 32 m)), (.agg (intC (!z) m))], by simp only [putAll, z1, z2], s5, s6, s7, s8, s9, (.bool (!z)), (.agg (limA 32 m)), (.agg (intC (!z) m)), c_b4, rfl, lk h0, lk h1, lk h2, lk h3, lk h4, lk h5, lk h6, fun _ => rfl, lk h8, hz0, HF⟩
      · have d7 := h7 (hd 7 (by kernel_rfl))
        obtain rfl := d7
        refine wpOp_want rfl rfl (fun K hK => ?_)
        simp only [putAll, z1, z2, z3, z4, z5]
        with_reducible apply gS HF
        · exact rfl
        · exact rfl
        · (exact tL)
        · (first | (exact tR3))
        · first | exact hz0 | exact tS2
        clear HF
        intro W HF
        simp only [z7, z8] at HF
        go_simp
        exact hK _ _ ⟨[s5, s6, s7, s8, s9, s10, s11, (.agg (intC (!z) m))], by simp only [putAll, z1, z2], s5, s6, s7, s8, s9, s10, s11, (.agg (intC (!z) m)), (intC (!z) m), rfl, lk h0, lk h1, lk h2, lk h3, lk h4, lk h5, lk h6, lk h7, fun _ => rfl, rfl, HF⟩
    rintro listed mm W ⟨s5, s6, s7, s8, s9, s10, s11, s12, c_b4, rfl, h0, h1, h2, h3, h4, h5, h6, h7, h8, hz0, HF⟩ hall
    obtain rfl := h0 (hall 0 (by decide))
    obtain rfl := h1 (hall 1 (by decide))
    obtain rfl := h2 (hall 2 (by decide))
    obtain rfl := h3 (hall 3 (by decide))
    obtain rfl := h4 (hall 4 (by decide))
    obtain rfl := h5 (hall 5 (by decide))
    obtain rfl := h6 (hall 6 (by decide))
    obtain rfl := h7 (hall 7 (by decide))
    rw [h8 (hall 8 (by decide))] at HF
    clear hall h0 h1 h2 h3 h4 h5 h6 h7 h8 hz0 F
    have F := HF
    clear HF
    simp only [putAll, z1, z2]
    go_wp2_with (first | go_skip | ((with_reducible apply fL F); exact rfl; exact rfl; (exact tL); (exact tR3)) | ((with_reducible apply fA_int F); exact rfl) | ((with_reducible apply fX_arr F); exact rfl; exact rfl) | ((with_reducible apply fS F); exact rfl; exact rfl; exact rfl; (exact tL); (exact tR3); (exact tS2); clear F; intro W F; simp only [z7, z8] at F) | ((with_reducible apply fB_int); exact rfl; exact rfl; exact rfl))
    exact bodyPost_ret (res_c rfl rfl (Fr.get F tL) (rowInt _ _)) rfl ⟨rfl, F.below⟩
theorem rcanonZ {n : Bool} {m : Nat} {x : Int} (hm : m < bp 32) (hx : m = x.natAbs) (h1 : x < 0 → n = true) (h2 : 0 < x → n = false) (w : World) : Calls Tryz.prog 129 #[.bool n, .agg (limA 32 m)] w (RetB (.agg (IC x)) w) := by
  have h := rcanon_any (neg := n) hm rfl w
  have e := canB_eq (n := n) hx h1 h2
  unfold canB at e
  rw [e] at h
  subst hx
  exact h
set_option maxRecDepth 100000 in
theorem rsum_any {a b : Nat} (la : a < bp 32) (lb : b < bp 32) {c : Nat} {f : Bool} (hc : (a + b) % bp 32 = c) (hf : decide (a + b < bp 32) = f) (w : World) : Calls Tryz.prog 128 #[.agg (limA 32 a), .agg (limA 32 b)] w (RetB (.tuple #[.agg (limA 32 c), .bool f]) w) := by
  have F := Fr.start w
  have HC := Lib.hid hc
  have HF := Lib.hid hf
  have HL := Lib.hid (And.intro la lb)
  clear la lb hc hf
  go_enter Tryz.func128, Tryz.ntmps128
  go_wp2_with (first | go_skip | ((with_reducible apply fL F); exact rfl; exact rfl; (exact tL); (exact tR3)) | ((with_reducible apply fA_arr F); exact rfl) | ((with_reducible apply fX_arr F); exact rfl; exact rfl) | ((with_reducible apply fS F); exact rfl; exact rfl; exact rfl; (exact tL); (exact tR3); (exact tS2); clear F; intro W F; simp only [z7, z8] at F))
  (clear F; intro b2 W F; try simp only [Act.put, z6, z1, z2])
  go_wp2_with (first | go_skip | ((with_reducible apply fL F); exact rfl; exact rfl; (exact tL); (exact tR3)) | ((with_reducible apply fA_arr F); exact rfl) | ((with_reducible apply fX_arr F); exact rfl; exact rfl) | ((with_reducible apply fS F); exact rfl; exact rfl; exact rfl; (exact tL); (exact tR3); (exact tS2); clear F; intro W F; simp only [z7, z8] at F))
  (clear F; intro b3 W F; try simp only [Act.put, z6, z1, z2])
  go_wp2_with (first | go_skip | ((with_reducible apply fL F); exact rfl; exact rfl; (exact tL); (exact tR3)) | ((with_reducible apply fA_arr F); exact rfl) | ((with_reducible apply fX_arr F); exact rfl; exact rfl) | ((with_reducible apply fS F); exact rfl; exact rfl; exact rfl; (exact tL); (exact tR3); (exact tS2); clear F; intro W F; simp only [z7, z8] at F))
  (clear F; intro b4 W F; try simp only [Act.put, z6, z1, z2])
  go_wp2_with (first | go_skip | ((with_reducible apply fL F); exact rfl; exact rfl; (exact tL); (exact tR3)) | ((with_reducible apply fA_arr F); exact rfl) | ((with_reducible apply fX_arr F); exact rfl; exact rfl) | ((with_reducible apply fS F); exact rfl; exact rfl; exact rfl; (exact tL); (exact tR3); (exact tS2); clear F; intro W F; simp only [z7, z8] at F))
  (clear F; intro b6 W F; try simp only [Act.put, z6, z1, z2])
  go_wp2_with (first | go_skip | ((with_reducible apply fL F); exact rfl; exact rfl; (exact tL); (exact tR3)) | ((with_reducible apply fA_arr F); exact rfl) | ((with_reducible apply fX_arr F); exact rfl; exact rfl) | ((with_reducible apply fS F); exact rfl; exact rfl; exact rfl; (exact tL); (exact tR3); (exact tS2); clear F; intro W F; simp only [z7, z8] at F))
  go_loopw [7, 8] (fun cv iv wr => ∃ i q s : Nat, i ≤ 32 ∧ cv = .int .u64 q ∧ iv = .int .i64 i ∧ s < bp i ∧ s + q * bp i = a % bp i + b % bp i ∧ Fr w wr [(b6, limA 32 s, 27), (b4, limA 32 0, 27), (b3, limA 32 b, 27), (b2, limA 32 a, 27)]) (fun _ iv _ => 32 - (intOf iv).toNat)
  case atStart => exact ⟨0, 0, 0, by omega, rfl, rfl, bp_pos 0, by rw [bp_zero]; omega, F⟩
  case round =>
    clear F
    obtain ⟨i, q, s, hi, rfl, rfl, hs, hq, F⟩ := hrel
    have HS := Lib.hid (And.intro hs hq)
    have hq1 := carry_le hq
    clear hs hq
    by_cases hlt : i < 32
    · obtain ⟨x, hx⟩ : ∃ x, lim a i = x := ⟨_, rfl⟩
      obtain ⟨y, hy⟩ : ∃ y, lim b i = y := ⟨_, rfl⟩
      have hx1 := lim_lt a i
      have hy1 := lim_lt b i
      obtain ⟨p1, p2⟩ := plus_step HS.out.1 HS.out.2
      have hd := Nat.mod_lt (lim a i + lim b i + q) (show 0 < 4294967296 by omega)
      have c1 := (F.get tL : BlkAt wr b2 _ _).cell (limA_at (m := a) hlt)
      have c2 := (F.get tL : BlkAt wr b3 _ _).cell (limA_at (m := b) hlt)
      rw [hx] at c1 hx1
      rw [hy] at c2 hy1
      rw [hx, hy] at p1 p2 hd
      obtain ⟨v, hv⟩ : ∃ v, x + y + q = v := ⟨_, rfl⟩
      rw [hv] at p1 p2 hd
      have hv1 : v < 18446744073709551616 := by omega
      have m1 : IntKind.u64.wrap ((x : Int) + (y : Int)) = ((x : Int) + (y : Int)) := by rw [show (x : Int) + (y : Int) = ((x + y : Nat) : Int) by omega]; exact wrap64 (by omega)
      have m2 : (x : Int) + (y : Int) + (q : Int) = (v : Int) := by omega
      have m3 : IntKind.u64.wrap (v : Int) = (v : Int) := wrap64 hv1
      have i0 : (0 : Int) ≤ (i : Int) := by omega
      have i1 : (i : Int) < 32 := by omega
      have HP := Lib.hid (And.intro p1 (And.intro p2 hd))
      clear p1 p2 hd hx hy hv
      go_wp2_with fail
      go_quiet (fail)
      replace F := F.drewN nq
      generalize wr.drewN nq = wq at *
      have cst := (F.get Lies.here).cell (limA_at (m := s) hlt)
      have fst := BlkAt.fz (F.get Lies.here) i
      obtain ⟨d, hdd⟩ : ∃ d, v % 4294967296 = d := ⟨_, rfl⟩
      obtain ⟨q', hqq⟩ : ∃ q', v / 4294967296 = q' := ⟨_, rfl⟩
      rw [hdd, hqq] at HP
      have m4 : (v : Int) % 4294967296 = (d : Int) := by omega
      have m5 : (v : Int) / 4294967296 = (q' : Int) := by omega
      have HN := Lib.hid ((F.cellA (A := []) i (.int .u32 d)).is (limA_set HP.out.2.2))
      clear hdd hqq F c1 c2 m1 m2 m3
      go_wp2_with fail
      go_roundw
      case rel => exact ⟨i + 1, q', setM s i d, by omega, rfl, by go_num, HP.out.1, HP.out.2.1, HN.out⟩
      case measure => simp [intOf]; omega
    · obtain rfl : i = 32 := by omega
      rw [Nat.mod_eq_of_lt HL.out.1, Nat.mod_eq_of_lt HL.out.2] at HS
      have hsv : s = c := by
        rw [← HC.out, ← HS.out.2, Nat.add_mul_mod_self_right, Nat.mod_eq_of_lt HS.out.1]
      have hfv : decide (q = 0) = f := by
        rw [← HF.out, ← HS.out.2]
        have h1 := HS.out.1
        have h2 := bp_pos 32
        congr 1
        rw [eq_iff_iff]
        constructor
        · rintro rfl
          omega
        · intro h
          rcases Nat.lt_or_ge 0 q with h3 | h3
          · have := Nat.mul_le_mul_right (bp 32) h3
            omega
          · omega
      subst hsv
      have g1 : ((q : Int) == 0) = f := by
        rw [← hfv]
        by_cases h : q = 0
        · simp [h]
        · rw [decide_eq_false h, beq_eq_false_iff_ne]
          omega
      clear hfv HS HC HF HL hq1
      go_wp2_with (first | go_skip | ((with_reducible apply fL F); exact rfl; exact rfl; (exact tL); (exact tR3)) | ((with_reducible apply fA_arr F); exact rfl) | ((with_reducible apply fX_arr F); exact rfl; exact rfl) | ((with_reducible apply fS F); exact rfl; exact rfl; exact rfl; (exact tL); (exact tR3); (exact tS2); clear F; intro W F; simp only [z7, z8] at F))
      exact bodyPost_ret (res_cs rfl rfl rfl (Fr.get F tL) (rowArr _)) rfl ⟨rfl, F.below⟩
end
section
open Go.RowKit
set_option maxHeartbeats 4000000
set_option maxRecDepth 100000 in
theorem rdiff_any {a b : Nat} (la : a < bp 32) (lb : b < bp 32) {c : Nat} (hc : (a + bp 32 - b) % bp 32 = c) (w : World) : Calls Tryz.prog 127 #[.agg (limA 32 a), .agg (limA 32 b)] w (RetB (.agg (limA 32 c)) w) := by
  have F := Fr.start w
  have HC := Lib.hid hc
  have HL := Lib.hid (And.intro la lb)
  clear la lb hc
  go_enter Tryz.func127, Tryz.ntmps127
  go_wp2_with (first | go_skip | ((with_reducible apply fL F); exact rfl; exact rfl; (exact tL); (exact tR3)) | ((with_reducible apply fA_arr F); exact rfl) | ((with_reducible apply fX_arr F); exact rfl; exact rfl) | ((with_reducible apply fS F); exact rfl; exact rfl; exact rfl; (exact tL); (exact tR3); (exact tS2); clear F; intro W F; simp only [z7, z8] at F))
  (clear F; intro b2 W F; try simp only [Act.put, z6, z1, z2])
  go_wp2_with (first | go_skip | ((with_reducible apply fL F); exact rfl; exact rfl; (exact tL); (exact tR3)) | ((with_reducible apply fA_arr F); exact rfl) | ((with_reducible apply fX_arr F); exact rfl; exact rfl) | ((with_reducible apply fS F); exact rfl; exact rfl; exact rfl; (exact tL); (exact tR3); (exact tS2); clear F; intro W F; simp only [z7, z8] at F))
  (clear F; intro b3 W F; try simp only [Act.put, z6, z1, z2])
  go_wp2_with (first | go_skip | ((with_reducible apply fL F); exact rfl; exact rfl; (exact tL); (exact tR3)) | ((with_reducible apply fA_arr F); exact rfl) | ((with_reducible apply fX_arr F); exact rfl; exact rfl) | ((with_reducible apply fS F); exact rfl; exact rfl; exact rfl; (exact tL); (exact tR3); (exact tS2); clear F; intro W F; simp only [z7, z8] at F))
  (clear F; intro b4 W F; try simp only [Act.put, z6, z1, z2])
  go_wp2_with (first | go_skip | ((with_reducible apply fL F); exact rfl; exact rfl; (exact tL); (exact tR3)) | ((with_reducible apply fA_arr F); exact rfl) | ((with_reducible apply fX_arr F); exact rfl; exact rfl) | ((with_reducible apply fS F); exact rfl; exact rfl; exact rfl; (exact tL); (exact tR3); (exact tS2); clear F; intro W F; simp only [z7, z8] at F))
  (clear F; intro b5 W F; try simp only [Act.put, z6, z1, z2])
  go_wp2_with (first | go_skip | ((with_reducible apply fL F); exact rfl; exact rfl; (exact tL); (exact tR3)) | ((with_reducible apply fA_arr F); exact rfl) | ((with_reducible apply fX_arr F); exact rfl; exact rfl) | ((with_reducible apply fS F); exact rfl; exact rfl; exact rfl; (exact tL); (exact tR3); (exact tS2); clear F; intro W F; simp only [z7, z8] at F))
  go_loopw [6, 7] (fun cv iv wr => ∃ i q s : Nat, i ≤ 32 ∧ cv = .int .u64 q ∧ iv = .int .i64 i ∧ s < bp i ∧ s + b % bp i = a % bp i + q * bp i ∧ Fr w wr [(b5, limA 32 s, 27), (b4, limA 32 0, 27), (b3, limA 32 b, 27), (b2, limA 32 a, 27)]) (fun _ iv _ => 32 - (intOf iv).toNat)
  case atStart => exact ⟨0, 0, 0, by omega, rfl, rfl, bp_pos 0, by rw [bp_zero]; omega, F⟩
  case round =>
    clear F
    obtain ⟨i, q, s, hi, rfl, rfl, hs, hq, F⟩ := hrel
    have HS := Lib.hid (And.intro hs hq)
    have hq1 := borrow_le hs hq
    clear hs hq
    by_cases hlt : i < 32
    · obtain ⟨x, hx⟩ : ∃ x, lim a i = x := ⟨_, rfl⟩
      obtain ⟨y, hy⟩ : ∃ y, lim b i = y := ⟨_, rfl⟩
      have hx1 := lim_lt a i
      have hy1 := lim_lt b i
      obtain ⟨d, q', hd, hq', hdd⟩ := sub_ex (lim a i) (lim b i) q hx1 hy1 hq1
      obtain ⟨p1, p2⟩ := minus_step HS.out.1 HS.out.2 hd hdd
      have c1 := (F.get tL : BlkAt wr b2 _ _).cell (limA_at (m := a) hlt)
      have c2 := (F.get tL : BlkAt wr b3 _ _).cell (limA_at (m := b) hlt)
      rw [hx] at c1 hx1
      rw [hy] at c2 hy1
      rw [hx, hy] at hdd
      obtain ⟨u, hu⟩ : ∃ u : Nat, IntKind.u64.wrap ((x : Int) - (y : Int)) = (u : Int) := ⟨(IntKind.u64.wrap ((x : Int) - (y : Int))).toNat, by rw [IntKind.wrap_u64]; omega⟩
      obtain ⟨v, hv⟩ : ∃ v : Nat, IntKind.u64.wrap ((u : Int) - (q : Int)) = (v : Int) := ⟨(IntKind.u64.wrap ((u : Int) - (q : Int))).toNat, by rw [IntKind.wrap_u64]; omega⟩
      have hvv : v % 4294967296 = d ∧ v / 9223372036854775808 = q' := by
        have h1 := hu
        have h2 := hv
        rw [IntKind.wrap_u64] at h1 h2
        omega
      have m4 : (v : Int) % 4294967296 = (d : Int) := by omega
      have m5 : (v : Int) / 9223372036854775808 = (q' : Int) := by omega
      have i0 : (0 : Int) ≤ (i : Int) := by omega
      have i1 : (i : Int) < 32 := by omega
      have HP := Lib.hid (And.intro p1 (And.intro p2 hd))
      clear p1 p2 hd hx hy hdd hvv hq'
      go_wp2_with fail
      go_quiet (fail)
      replace F := F.drewN nq
      generalize wr.drewN nq = wq at *
      have cst := (F.get Lies.here).cell (limA_at (m := s) hlt)
      have fst := BlkAt.fz (F.get Lies.here) i
      have HN := Lib.hid ((F.cellA (A := []) i (.int .u32 d)).is (limA_set HP.out.2.2))
      clear F c1 c2 hu hv
      go_wp2_with fail
      go_roundw
      case rel => exact ⟨i + 1, q', setM s i d, by omega, rfl, by go_num, HP.out.1, HP.out.2.1, HN.out⟩
      case measure => simp [intOf]; omega
    · obtain rfl : i = 32 := by omega
      rw [Nat.mod_eq_of_lt HL.out.1, Nat.mod_eq_of_lt HL.out.2] at HS
      have hsv : s = c := by
        rw [← HC.out]
        have h1 := HS.out.1
        have h2 := HS.out.2
        have h3 := HL.out.1
        have h4 := HL.out.2
        have h5 : q = 0 ∨ q = 1 := by omega
        rcases h5 with rfl | rfl
        · rw [show a + bp 32 - b = s + bp 32 by omega, Nat.add_mod_right, Nat.mod_eq_of_lt h1]
        · rw [show a + bp 32 - b = s by omega, Nat.mod_eq_of_lt h1]
      subst hsv
      clear HS HC HL hq1
      go_wp2_with (first | go_skip | ((with_reducible apply fL F); exact rfl; exact rfl; (exact tL); (exact tR3)) | ((with_reducible apply fA_arr F); exact rfl) | ((with_reducible apply fX_arr F); exact rfl; exact rfl) | ((with_reducible apply fS F); exact rfl; exact rfl; exact rfl; (exact tL); (exact tR3); (exact tS2); clear F; intro W F; simp only [z7, z8] at F))
      exact bodyPost_ret (res_c rfl rfl (Fr.get F tL) (rowArr _)) rfl ⟨rfl, F.below⟩
theorem rdiff_le {a b : Nat} (la : a < bp 32) (lb : b < bp 32) (h : b ≤ a) (w : World) : Calls Tryz.prog 127 #[.agg (limA 32 a), .agg (limA 32 b)] w (RetB (.agg (limA 32 (a - b))) w) :=
  rdiff_any la lb (by rw [show a + bp 32 - b = (a - b) + bp 32 by omega, Nat.add_mod_right, Nat.mod_eq_of_lt (by omega)]) w
end
section
open Go.RowKit
set_option maxHeartbeats 4000000
theorem sgN_0 {neg : Bool} {m : Nat} {v : Int} (hv : sgN neg m = v) : (m = 0 → v = 0) ∧ (m ≠ 0 → v = if neg = true then -1 else 1) := by
  subst hv
  unfold sgN
  exact ⟨fun h => by rw [if_pos h], fun h => by rw [if_neg h]⟩
set_option maxRecDepth 100000 in
theorem rsign_any {neg : Bool} {m : Nat} (lm : m < bp 32) {v : Int} (hv : sgN neg m = v) (w : World) : Calls Tryz.prog 77 #[.agg (intC neg m)] w (RetB (.int .i64 v) w) := by
  have F := Fr.start w
  obtain ⟨z, hz⟩ : ∃ z, decide (m = 0) = z := ⟨_, rfl⟩
  have g1 := fun w => rzero_any lm hz w
  obtain ⟨s1, s2⟩ := sgN_0 hv
  clear lm hv
  go_enter Tryz.func77, Tryz.ntmps77
  go_wp2_with (first | go_skip | ((with_reducible apply fL F); exact rfl; exact rfl; (exact tL); (exact tR3)) | ((with_reducible apply fLm F); exact rfl; exact rfl; (exact tL); (exact tM3); (exact tR3)) | ((with_reducible apply fX_int F); exact rfl; exact rfl))
  (clear F; intro b1 W F; try simp only [Act.put, z6, z1, z2])
  have c0 := (F.get Lies.here).cell (intC_neg neg m)
  cases z
  · have hm := of_decide_eq_false hz
    obtain rfl := s2 hm
    clear s1 s2 hm hz
    have c0 : ∀ W, Fr w W [(b1, intC neg m, 29)] → W.cell? ⟨b1, 0, none⟩ = some (.bool neg) := fun W h => (h.get Lies.here).cell (intC_neg neg m)
    go_upto_region 3 with (first | go_skip | ((go_at_call 125); (with_reducible refine fr_call F (g1 _) ?_); (clear F; intro W F); (try dsimp only)) | ((with_reducible apply fL F); exact rfl; exact rfl; (exact tL); (exact tR3)) | ((with_reducible apply fLm F); exact rfl; exact rfl; (exact tL); (exact tM3); (exact tR3)) | ((with_reducible apply fX_int F); exact rfl; exact rfl))
    have c1 := c0 _ F
    clear c0
    cases neg
    all_goals
      go_wp2_with (first | go_skip | ((with_reducible apply fL F); exact rfl; exact rfl; (exact tL); (exact tR3)) | ((with_reducible apply fLm F); exact rfl; exact rfl; (exact tL); (exact tM3); (exact tR3)) | ((with_reducible apply fX_int F); exact rfl; exact rfl))
      go_ret
      exact ⟨rfl, F.below⟩
  · have hm := of_decide_eq_true hz
    obtain rfl := s1 hm
    clear s1 s2 hm hz
    go_wp2_with (first | go_skip | ((go_at_call 125); (with_reducible refine fr_call F (g1 _) ?_); (clear F; intro W F); (try dsimp only)) | ((with_reducible apply fL F); exact rfl; exact rfl; (exact tL); (exact tR3)) | ((with_reducible apply fLm F); exact rfl; exact rfl; (exact tL); (exact tM3); (exact tR3)) | ((with_reducible apply fX_int F); exact rfl; exact rfl))
    go_ret
    exact ⟨rfl, F.below⟩
theorem rsignZ {x : Int} (hx : x.natAbs < bp 32) (w : World) : Calls Tryz.prog 77 #[.agg (IC x)] w (RetB (.int .i64 x.sign) w) := rsign_any hx (sgN_z x) w
set_option maxRecDepth 100000 in
theorem rneg_any {x : Int} (hx : x.natAbs < bp 32) (w : World) : Calls Tryz.prog 99 #[.agg (IC x)] w (RetB (.agg (IC (-x))) w) := by
  have F := Fr.start w
  have g1 := fun w => rcanonZ (n := !decide (x < 0)) (m := x.natAbs) (x := -x) hx (by omega) (fun h => by rw [decide_eq_false (by omega)]; rfl) (fun h => by rw [decide_eq_true (by omega)]; rfl) w
  clear hx
  go_enter Tryz.func99, Tryz.ntmps99
  go_wp2_with (first | go_skip | ((with_reducible apply fL F); exact rfl; exact rfl; (exact tL); (exact tR3)) | ((with_reducible apply fLm F); exact rfl; exact rfl; (exact tL); (exact tM3); (exact tR3)) | ((with_reducible apply fA_int F); exact rfl) | ((with_reducible apply fX_int F); exact rfl; exact rfl) | ((with_reducible apply fS F); exact rfl; exact rfl; exact rfl; (exact tL); (exact tR3); (exact tS2); clear F; intro W F; simp only [z7, z8] at F))
  (clear F; intro b1 W F; try simp only [Act.put, z6, z1, z2])
  go_wp2_with (first | go_skip | ((with_reducible apply fL F); exact rfl; exact rfl; (exact tL); (exact tR3)) | ((with_reducible apply fLm F); exact rfl; exact rfl; (exact tL); (exact tM3); (exact tR3)) | ((with_reducible apply fA_int F); exact rfl) | ((with_reducible apply fX_int F); exact rfl; exact rfl) | ((with_reducible apply fS F); exact rfl; exact rfl; exact rfl; (exact tL); (exact tR3); (exact tS2); clear F; intro W F; simp only [z7, z8] at F))
  (clear F; intro b2 W F; try simp only [Act.put, z6, z1, z2])
  have c0 := (F.get tL : BlkAt W b1 _ _).cell (intC_neg (decide (x < 0)) x.natAbs)
  obtain ⟨s, hs⟩ : ∃ s, decide (x < 0) = s := ⟨_, rfl⟩
  rw [hs] at g1 c0
  clear hs
  go_wp2_with (first | go_skip | ((go_at_call 129); (with_reducible refine fr_call F (g1 _) ?_); (clear F; intro W F); (try dsimp only)) | ((with_reducible apply fL F); exact rfl; exact rfl; (exact tL); (exact tR3)) | ((with_reducible apply fLm F); exact rfl; exact rfl; (exact tL); (exact tM3); (exact tR3)) | ((with_reducible apply fA_int F); exact rfl) | ((with_reducible apply fX_int F); exact rfl; exact rfl) | ((with_reducible apply fS F); exact rfl; exact rfl; exact rfl; (exact tL); (exact tR3); (exact tS2); clear F; intro W F; simp only [z7, z8] at F))
  exact bodyPost_ret (res_c rfl rfl (Fr.get F tL) (rowIC _)) rfl ⟨rfl, F.below⟩
end
section
open Go.RowKit
set_option maxHeartbeats 4000000
theorem bl_half {v : Nat} (h : v ≠ 0) : bl (v / 2) + 1 = bl v := by
  unfold bl
  rw [if_neg h]
  by_cases h1 : v / 2 = 0
  · rw [if_pos h1]
    have : v = 1 := by omega
    subst this
    rfl
  · rw [if_neg h1, Nat.log2_def v, if_pos (by omega)]
set_option maxRecDepth 100000 in
theorem rbits_any {neg : Bool} {m : Nat} (lm : m < bp 32) (w : World) : Calls Tryz.prog 97 #[.agg (intC neg m)] w (RetB (.int .i64 (bl m)) w) := by
  have F := Fr.start w
  obtain ⟨n, hn, hu⟩ := used_ex m lm
  have g1 := fun w => rlimbs_any lm hu w
  have HZ := Lib.hid (used_zero hu)
  have HU := Lib.hid hu
  have HB := Lib.hid (bl_1024 lm)
  clear lm hu
  go_enter Tryz.func97, Tryz.ntmps97
  go_wp2_with (first | go_skip | ((with_reducible apply fL F); exact rfl; exact rfl; (exact tL); (exact tR3)) | ((with_reducible apply fLm F); exact rfl; exact rfl; (exact tL); (exact tM3); (exact tR3)) | ((with_reducible apply fX_int F); exact rfl; exact rfl))
  (clear F; intro b1 W F; try simp only [Act.put, z6, z1, z2])
  by_cases h0 : n = 0
  · have hb : bl m = 0 := by rw [HZ.out.1 h0]; rfl
    subst h0
    have HBL := Lib.hid hb
    clear HZ HU HB hb
    go_wp2_with (first | go_skip | ((go_at_call 130); (with_reducible refine fr_call F (g1 _) ?_); (clear F; intro W F); (try dsimp only)) | ((with_reducible apply fL F); exact rfl; exact rfl; (exact tL); (exact tR3)) | ((with_reducible apply fLm F); exact rfl; exact rfl; (exact tL); (exact tM3); (exact tR3)) | ((with_reducible apply fX_int F); exact rfl; exact rfl))
    go_ret
    exact ⟨ret_int (by rw [HBL.out]; rfl), F.below⟩
  have hbl := bl_lim HU.out h0
  obtain ⟨k, hk⟩ : ∃ k, n - 1 = k := ⟨_, rfl⟩
  rw [hk] at hbl
  have hk32 : k < 32 := by omega
  have e1 : (n : Int) - 1 = (k : Int) := by omega
  have e0 : ((n : Int) == 0) = false := by rw [beq_eq_false_iff_ne]; omega
  have wk : RowKit.wrap64 (k : Int) = (k : Int) := by rw [RowKit.wrap64]; omega
  have c1 : ∀ W, Fr w W [(b1, intC neg m, 29)] → W.cell? ⟨b1, 1 + k, none⟩ = some (.int .u32 (lim m k)) := fun W h => (h.get Lies.here).cell (by
    unfold intC
    rw [Array.getElem?_append_right (by simp)]
    simpa using limA_at (m := m) hk32)
  have hx1 := lim_lt m k
  obtain ⟨x, hx⟩ : ∃ x, lim m k = x := ⟨_, rfl⟩
  rw [hx] at c1 hbl hx1
  have HL := Lib.hid hbl
  have k0 : (0 : Int) ≤ (k : Int) := by omega
  have k1 : (k : Int) < 32 := by omega
  have k32 : (32 : Int) * (k : Int) = ((32 * k : Nat) : Int) := by omega
  obtain ⟨K, hK⟩ : ∃ K, 32 * k = K := ⟨_, rfl⟩
  rw [hK] at k32 HL
  have wK : RowKit.wrap64 (K : Int) = (K : Int) := by rw [RowKit.wrap64]; omega
  clear hbl hx h0 HZ HU hk hK
  go_upto_region 5 with (first | go_skip | ((go_at_call 130); (with_reducible refine fr_call F (g1 _) ?_); (clear F; intro W F); (try dsimp only)) | ((with_reducible apply fL F); exact rfl; exact rfl; (exact tL); (exact tR3)) | ((with_reducible apply fLm F); exact rfl; exact rfl; (exact tL); (exact tM3); (exact tR3)) | ((with_reducible apply fX_int F); exact rfl; exact rfl))
  have c2 := c1 _ F
  clear c1
  go_wp2_with (first | go_skip | ((with_reducible apply fL F); exact rfl; exact rfl; (exact tL); (exact tR3)) | ((with_reducible apply fLm F); exact rfl; exact rfl; (exact tL); (exact tM3); (exact tR3)) | ((with_reducible apply fX_int F); exact rfl; exact rfl))
  go_loopw [4, 5] (fun kv xv wr => ∃ q v : Nat, v < 4294967296 ∧ kv = .int .i64 q ∧ xv = .int .u32 v ∧ q + bl v = bl m ∧ Fr w wr [(b1, intC neg m, 29)]) (fun _ xv _ => (intOf xv).toNat)
  case atStart => exact ⟨K, x, hx1, by first | rfl | exact congrArg (Value.int .i64) wK, rfl, HL.out.symm, F⟩
  case round =>
    clear F
    obtain ⟨q, v, hv, rfl, rfl, hq, F⟩ := hrel
    have HQ := Lib.hid hq
    have hq2 : q ≤ 1024 := by have := HB.out; omega
    clear hq HL
    by_cases h0 : v = 0
    · have e : q = bl m := by rw [← HQ.out, h0]; rfl
      subst h0
      have HE := Lib.hid e
      clear e
      go_wp2_with fail
      go_ret
      exact ⟨ret_int (by rw [HE.out]), F.below⟩
    · have t1 : 0 < v := by omega
      have hh := bl_half h0
      have HN := Lib.hid (show q + 1 + bl (v / 2) = bl m by rw [← HQ.out, ← hh]; omega)
      have m1 : (v : Int) / 2 = ((v / 2 : Nat) : Int) := by omega
      have HV := Lib.hid (show v / 2 < v ∧ v / 2 < 4294967296 by omega)
      have wq : RowKit.wrap64 ((q : Int) + 1) = (q : Int) + 1 := by rw [RowKit.wrap64]; omega
      obtain ⟨u, hu⟩ : ∃ u, v / 2 = u := ⟨_, rfl⟩
      rw [hu] at m1 HN HV
      clear hh h0 hu
      go_wp2_with fail
      go_roundw
      case rel => exact ⟨q + 1, u, HV.out.2, by go_num, by go_num, HN.out, F⟩
      case measure => have := HV.out.1; simp [intOf]; omega
end
section
open Go.RowKit
theorem arr_und : ∃ e, Tryz.prog.underlying 27 = some (.array 32 e) ∧ Tryz.prog.underlying e = some (.int .u32) ∧ (Tryz.prog.info? e).map (·.size) = some 1 := ⟨_, Tryz.underlying27, by kernel_rfl, by kernel_rfl⟩
theorem eq_arrT {T : TypeId} (hT : ∃ e, Tryz.prog.underlying T = some (.array 32 e) ∧ Tryz.prog.underlying e = some (.int .u32) ∧ (Tryz.prog.info? e).map (·.size) = some 1) (d m k : Nat) (w : World) (hm : m < bp 32) (hk : k < bp 32) : (Op.equalIn (d + 2) T (.agg (limA 32 m)) (.agg (limA 32 k))).run Tryz.prog w = .ok (decide (m = k)) w := by
  obtain ⟨e, h1, h2, h3⟩ := hT
  have hD : ∀ (a b : Int) (w : World), (Op.equalIn (d + 1) e (.int .u32 a) (.int .u32 b)).run Tryz.prog w = .ok (a == b) w := fun a b w => run_equalIn_int w d e .u32 .u32 a b h2
  generalize hDD : d + 1 = D at hD
  rw [show d + 2 = D + 1 by omega]
  have hs : ∀ w, (sizeOf e).run Tryz.prog w = .ok 1 w := by
    intro w
    cases hi : Tryz.prog.info? e with
    | none => rw [hi] at h3; cases h3
    | some i =>
      rw [hi] at h3
      simp at h3
      simp [sizeOf, typeInfo, hi, h3]
  have hp : ∀ (n i : Nat) (w : World), i < 32 → (part e (limA 32 n) (i * 1)).run Tryz.prog w = .ok (.int .u32 (lim n i)) w := by
    intro n i w hi
    have ha : (isAgg e).run Tryz.prog w = .ok false w := by simp [isAgg, run_underlying h2]
    simp [part, ha, limA_at hi]
  simp only [Op.equalIn, Sem.run_bind, run_underlying h1, hs, Result.andThen_ok, Std.Legacy.Range.forIn_eq_forIn_range', Std.Legacy.Range.size, Nat.sub_zero, Nat.add_sub_cancel, Nat.div_one]
  rw [eq_loop (fun i => (lim m i : Int)) (fun i => (lim k i : Int)) (hp m) (hp k) hD 32 0 w (by omega)]
  have key : ((List.range' 0 32).all (fun j => (lim m j : Int) == (lim k j : Int))) = decide (m = k) := by
    by_cases h : m = k
    · subst h
      simp
    · rw [decide_eq_false h, Bool.eq_false_iff]
      intro hc2
      rw [List.all_eq_true] at hc2
      refine h (eq_of_lims 32 hm hk (fun j hj => ?_))
      have := hc2 j (by simp; omega)
      simp at this
      omega
  rw [key]
  by_cases h : m = k
  · simp [h]
  · simp [h]
theorem part_row {T : TypeId} {cs ds : Array Value} {k : Nat} (hd : (cs.toList.drop k).take ds.size = ds.toList) (hr : RowV Tryz.prog T ds) (w : World) : (part T cs k).run Tryz.prog w = .ok (.agg ds) w := by
  obtain ⟨d, hu, hd2⟩ := hr.row.row
  have ha : (isAgg T).run Tryz.prog w = .ok true w := by
    unfold isAgg
    rw [Sem.run_bind, run_underlying hu w]
    cases d <;> simp_all
  cases hq : Tryz.prog.info? T with
  | none =>
    have := hr.row.size
    simp [hq] at this
  | some i =>
    have hs : i.size = ds.size := by simpa [hq] using hr.row.size
    have he : cs.extract k (k + ds.size) = ds := by
      apply Array.toList_inj.1
      rw [Array.toList_extract, List.extract_eq_take_drop, Nat.add_sub_cancel_left, hd]
    simp [part, ha, sizeOf, typeInfo, hq, hs, he]
theorem eq_two {T T1 T2 o1 o2 : Nat} {D : Nat} {xs ys : Array Value} {u1 v1 u2 v2 : Value} {r1 r2 : Bool} (hT : ∃ fs, Tryz.prog.underlying T = some (.struct fs) ∧ fs.toList.map (fun f => (decide (f.name = "_"), f.type, f.offset)) = [(false, T1, o1), (false, T2, o2)]) (hp : Tryz.prog.stoodInHeld T = false)
    (p1 : ∀ w, (part T1 xs o1).run Tryz.prog w = .ok u1 w) (q1 : ∀ w, (part T1 ys o1).run Tryz.prog w = .ok v1 w) (p2 : ∀ w, (part T2 xs o2).run Tryz.prog w = .ok u2 w) (q2 : ∀ w, (part T2 ys o2).run Tryz.prog w = .ok v2 w)
    (e1 : ∀ w, (Op.equalIn D T1 u1 v1).run Tryz.prog w = .ok r1 w) (e2 : ∀ w, (Op.equalIn D T2 u2 v2).run Tryz.prog w = .ok r2 w) (w : World) : (Op.equalIn (D + 1) T (.agg xs) (.agg ys)).run Tryz.prog w = .ok (r1 && r2) w := by
  obtain ⟨fs, hu, hfs⟩ := hT
  have hfo : Tryz.prog.fieldsOf T = fs := by
    unfold Program.fieldsOf
    rw [hu]
  rw [run_equalIn_agg w D _ _ _ (by rw [hfo]; exact hu) hp, hfo]
  obtain ⟨f1, f2, hl⟩ : ∃ f1 f2, fs.toList = [f1, f2] := by
    cases h1 : fs.toList with
    | nil => rw [h1] at hfs; simp at hfs
    | cons f1 r =>
      cases r with
      | nil => rw [h1] at hfs; simp at hfs
      | cons f2 r =>
        cases r with
        | nil => exact ⟨f1, f2, rfl⟩
        | cons f3 r => rw [h1] at hfs; simp at hfs
  rw [hl] at hfs ⊢
  simp only [List.map_cons, List.map_nil, List.cons.injEq, Prod.mk.injEq, decide_eq_false_iff_not, and_true] at hfs
  obtain ⟨⟨n1, t1, o1e⟩, n2, t2, o2e⟩ := hfs
  simp only [Op.eqFields, t1, o1e, t2, o2e, if_pos n1, if_pos n2, Sem.run_bind, p1, q1, e1, Result.andThen_ok]
  cases r1
  · simp
  · simp only [Bool.not_true, Bool.false_eq_true, if_false, Sem.run_bind, p2, q2, e2, Result.andThen_ok, Bool.true_and]
    cases r2 <;> simp
theorem bool_und : Tryz.prog.underlying 4 = some .bool := Tryz.underlying4
theorem eq_int (d : Nat) (x : Bool) (a : Nat) (y : Bool) (b : Nat) (ha : a < bp 32) (hb : b < bp 32) (w : World) : (Op.equalIn (d + 3) 29 (.agg (intC x a)) (.agg (intC y b))).run Tryz.prog w = .ok ((x == y) && decide (a = b)) w := by
  have hb0 : ∀ (x : Bool) (a : Nat) (w : World), (part 4 (intC x a) 0).run Tryz.prog w = .ok (.bool x) w := by
    intro x a w
    have h1 : (isAgg 4).run Tryz.prog w = .ok false w := by simp [isAgg, run_underlying bool_und]
    simp [part, h1, intC_neg]
  exact eq_two ⟨_, Tryz.underlying29, by kernel_rfl⟩ (by kernel_rfl) (hb0 x a) (hb0 y b) (fun w => part_row (intC_tail x a) (rowArr a) w) (fun w => part_row (intC_tail y b) (rowArr b) w)
    (fun w => run_equalIn_bool' w (d + 1) _ _ _ bool_und) (fun w => eq_arrT arr_und d a b w ha hb) w
theorem eq_IC (d : Nat) {x y : Int} (hx : x.natAbs < bp 32) (hy : y.natAbs < bp 32) (w : World) : (Op.equalIn (d + 3) 29 (.agg (IC x)) (.agg (IC y))).run Tryz.prog w = .ok (decide (x = y)) w := by
  rw [show IC x = intC (decide (x < 0)) x.natAbs from rfl, show IC y = intC (decide (y < 0)) y.natAbs from rfl, eq_int d _ _ _ _ hx hy]
  congr 1
  by_cases h : x = y
  · subst h
    simp
  · rw [decide_eq_false h]
    by_cases h2 : x.natAbs = y.natAbs
    · have h3 : (decide (x < 0) == decide (y < 0)) = false := by
        rw [beq_eq_false_iff_ne]
        intro h4
        rw [decide_eq_decide] at h4
        omega
      rw [h3]
      rfl
    · rw [decide_eq_false h2, Bool.and_false]
theorem eq_RC {n d n' d' : Int} (h1 : n.natAbs < bp 32) (h2 : d.natAbs < bp 32) (h3 : n'.natAbs < bp 32) (h4 : d'.natAbs < bp 32) (w : World) :
    (Op.equalIn 10000 31 (.agg (RC n d)) (.agg (RC n' d'))).run Tryz.prog w = .ok (decide (n = n') && decide (d = d')) w :=
  eq_two (D := 9999) ⟨_, Tryz.underlying31, by kernel_rfl⟩ (by kernel_rfl) (fun w => part_row (RC_num n d) (rowIC n) w) (fun w => part_row (RC_num n' d') (rowIC n') w) (fun w => part_row (RC_den n d) (rowIC d) w) (fun w => part_row (RC_den n' d') (rowIC d') w)
    (fun w => eq_IC 9996 h1 h3 w) (fun w => eq_IC 9996 h2 h4 w) w
end
section
open Go.RowKit
set_option maxHeartbeats 2000000
theorem lim_two {a : Nat} (h : a < 18446744073709551616) : a = lim a 0 + lim a 1 * 4294967296 := by
  unfold lim
  rw [bp_zero, bp_one, Nat.div_one]
  omega
theorem mag2 {a : Nat} (h : a < 18446744073709551616) : limA 32 a = #[.int .u32 (lim a 0 : Nat), .int .u32 (lim a 1 : Nat), .int .u32 0, .int .u32 0, .int .u32 0, .int .u32 0, .int .u32 0, .int .u32 0, .int .u32 0, .int .u32 0, .int .u32 0, .int .u32 0, .int .u32 0, .int .u32 0, .int .u32 0, .int .u32 0, .int .u32 0, .int .u32 0, .int .u32 0, .int .u32 0, .int .u32 0, .int .u32 0, .int .u32 0, .int .u32 0, .int .u32 0, .int .u32 0, .int .u32 0, .int .u32 0, .int .u32 0, .int .u32 0, .int .u32 0, .int .u32 0] := by
  have hz : ∀ i, 2 ≤ i → lim a i = 0 := fun i hi => lim_ge (n := 2) (by unfold bp; omega) hi
  unfold limA
  rw [show List.range 32 = [0, 1, 2, 3, 4, 5, 6, 7, 8, 9, 10, 11, 12, 13, 14, 15, 16, 17, 18, 19, 20, 21, 22, 23, 24, 25, 26, 27, 28, 29, 30, 31] from rfl]
  simp only [List.map_cons, List.map_nil]
  simp [hz]
set_option maxRecDepth 100000 in
theorem fromZ {n : Int} (h1 : -9223372036854775808 ≤ n) (h2 : n < 9223372036854775808) (w : World) : Calls Tryz.prog 74 #[.int .i64 n] w (RetB (.agg (IC n)) w) := by
  have F := Fr.start w
  obtain ⟨a, ha⟩ : ∃ a, n.natAbs = a := ⟨_, rfl⟩
  have ha1 : a < 18446744073709551616 := by omega
  have ha2 : a < bp 32 := Nat.lt_of_lt_of_le (show a < bp 2 by unfold bp; omega) (bp_le (by decide))
  obtain ⟨l0, hl0⟩ : ∃ l, lim a 0 = l := ⟨_, rfl⟩
  obtain ⟨l1, hl1⟩ : ∃ l, lim a 1 = l := ⟨_, rfl⟩
  have hs := lim_two ha1
  have b0 := lim_lt a 0
  have b1 := lim_lt a 1
  rw [hl0] at b0 hs
  rw [hl1] at b1 hs
  have m1 := fun w => madeZ (n := decide (n < 0)) (x := n) ha2 ha.symm (fun h => decide_eq_true h) (fun h => decide_eq_false (by omega)) w
  rw [mag2 ha1, hl0, hl1] at m1
  have e2 : (a : Int) % 4294967296 = (l0 : Int) := by omega
  have e3 : (a : Int) / 4294967296 = (l1 : Int) := by omega
  have e4 : (l1 : Int) % 4294967296 = (l1 : Int) := by omega
  go_enter Tryz.func74, Tryz.ntmps74
  by_cases hn : n < 0
  · rw [decide_eq_true hn] at m1
    have e1 : IntKind.u64.wrap (-IntKind.u64.wrap n) = (a : Int) := by
      rw [IntKind.wrap_u64, IntKind.wrap_u64]
      omega
    clear ha hl0 hl1 hs
    go_wp2_with (first | go_skip | ((with_reducible apply fA_int F); exact rfl) | ((with_reducible apply fS F); exact rfl; exact rfl; exact rfl; (exact tL); (exact tR1); (exact tS1); clear F; intro W F; simp only [z7, z8] at F))
    (clear F; intro b2 W F; try simp only [Act.put, z6, z1, z2])
    go_wp2_with (first | go_skip | ((go_at_call 116); (with_reducible refine fr_call F (m1 _) ?_); (clear F; intro W F); (try dsimp only)) | ((with_reducible apply fA_int F); exact rfl) | ((with_reducible apply fS F); exact rfl; exact rfl; exact rfl; (exact tL); (exact tR1); (exact tS1); clear F; intro W F; simp only [z7, z8] at F))
    exact bodyPost_ret (res_c rfl rfl (Fr.get F tL) (rowIC _)) rfl ⟨rfl, F.below⟩
  · rw [decide_eq_false hn] at m1
    have hdc : decide (n < 0) = false := decide_eq_false hn
    have e1 : n = (a : Int) := by omega
    have e5 : n % 4294967296 = (l0 : Int) := by omega
    have e6 : n / 4294967296 = (l1 : Int) := by omega
    clear ha hl0 hl1 hs e1
    go_wp2_with (first | go_skip | ((with_reducible apply fA_int F); exact rfl) | ((with_reducible apply fS F); exact rfl; exact rfl; exact rfl; (exact tL); (exact tR1); (exact tS1); clear F; intro W F; simp only [z7, z8] at F))
    (clear F; intro b2 W F; try simp only [Act.put, z6, z1, z2])
    go_wp2_with (first | go_skip | ((go_at_call 116); (with_reducible refine fr_call F (m1 _) ?_); (clear F; intro W F); (try dsimp only)) | ((with_reducible apply fA_int F); exact rfl) | ((with_reducible apply fS F); exact rfl; exact rfl; exact rfl; (exact tL); (exact tR1); (exact tS1); clear F; intro W F; simp only [z7, z8] at F))
    exact bodyPost_ret (res_c rfl rfl (Fr.get F tL) (rowIC _)) rfl ⟨rfl, F.below⟩
end
section
open Go.RowKit
set_option maxHeartbeats 2000000
set_option maxRecDepth 100000 in
theorem fits_any {x : Bool} {a : Nat} {y : Bool} {b : Nat} (ha : a < bp 32) (hb : b < bp 32) {f : Bool} (hf : decide (bl a ≤ 480 ∧ bl b ≤ 480) = f) (w : World) : Calls Tryz.prog 133 #[.agg (ratC x a y b)] w (RetB (.bool f) w) := by
  have F := Fr.start w
  have g1 := fun w => bits_any (neg := x) ha w
  have g2 := fun w => bits_any (neg := y) hb w
  obtain ⟨n, hn⟩ : ∃ n, bl a = n := ⟨_, rfl⟩
  obtain ⟨m, hm⟩ : ∃ n, bl b = n := ⟨_, rfl⟩
  rw [hn] at g1
  rw [hm] at g2
  rw [hn, hm] at hf
  clear hn hm
  go_enter Tryz.func133, Tryz.ntmps133
  go_wp2_with (first | go_skip | ((with_reducible apply fL F); exact rfl; exact rfl; (exact tL); (exact tR2)) | ((with_reducible apply fLm F); exact rfl; exact rfl; (exact tL); (exact tM2); (exact tR2)) | ((with_reducible apply fX_rat F); exact rfl; exact rfl))
  (clear F; intro b1 W F; try simp only [Act.put, z6, z1, z2])
  by_cases h1 : n ≤ 480
  · by_cases h2 : m ≤ 480
    · rw [decide_eq_true ⟨h1, h2⟩] at hf
      subst hf
      have i1 : (n : Int) ≤ 480 := by omega
      have i2 : (m : Int) ≤ 480 := by omega
      clear h1 h2
      go_wp2_with (first | go_skip | ((go_at_call 163); (with_reducible refine fr_call F (g1 _) ?_); (clear F; intro W F); (try dsimp only)) | ((go_at_call 163); (with_reducible refine fr_call F (g2 _) ?_); (clear F; intro W F); (try dsimp only)) | ((with_reducible apply fL F); exact rfl; exact rfl; (exact tL); (exact tR2)) | ((with_reducible apply fLm F); exact rfl; exact rfl; (exact tL); (exact tM2); (exact tR2)) | ((with_reducible apply fX_rat F); exact rfl; exact rfl))
      go_ret
      exact ⟨rfl, F.below⟩
    · rw [decide_eq_false (fun h => h2 h.2)] at hf
      subst hf
      have i1 : (n : Int) ≤ 480 := by omega
      have i2 : ¬ (m : Int) ≤ 480 := by omega
      clear h1 h2
      go_wp2_with (first | go_skip | ((go_at_call 163); (with_reducible refine fr_call F (g1 _) ?_); (clear F; intro W F); (try dsimp only)) | ((go_at_call 163); (with_reducible refine fr_call F (g2 _) ?_); (clear F; intro W F); (try dsimp only)) | ((with_reducible apply fL F); exact rfl; exact rfl; (exact tL); (exact tR2)) | ((with_reducible apply fLm F); exact rfl; exact rfl; (exact tL); (exact tM2); (exact tR2)) | ((with_reducible apply fX_rat F); exact rfl; exact rfl))
      go_ret
      exact ⟨rfl, F.below⟩
  · rw [decide_eq_false (fun h => h1 h.1)] at hf
    subst hf
    have i1 : ¬ (n : Int) ≤ 480 := by omega
    clear h1
    go_wp2_with (first | go_skip | ((go_at_call 163); (with_reducible refine fr_call F (g1 _) ?_); (clear F; intro W F); (try dsimp only)) | ((go_at_call 163); (with_reducible refine fr_call F (g2 _) ?_); (clear F; intro W F); (try dsimp only)) | ((with_reducible apply fL F); exact rfl; exact rfl; (exact tL); (exact tR2)) | ((with_reducible apply fLm F); exact rfl; exact rfl; (exact tL); (exact tM2); (exact tR2)) | ((with_reducible apply fX_rat F); exact rfl; exact rfl))
    go_ret
    exact ⟨rfl, F.below⟩
theorem intC_0 (x : Bool) (a : Nat) : (intC x a)[0]? = some (.bool x) := intC_neg x a
set_option maxRecDepth 100000 in
theorem canonical_any {x : Bool} {a : Nat} (ha : a < bp 32) {f : Bool} (hf : (!x || !decide (a = 0)) = f) (w : World) : Calls Tryz.prog 142 #[.agg (intC x a)] w (RetB (.bool f) w) := by
  have F := Fr.start w
  obtain ⟨v, hv⟩ : ∃ v, sgN x a = v := ⟨_, rfl⟩
  have g1 := fun w => sign_any (neg := x) ha hv w
  go_enter Tryz.func142, Tryz.ntmps142
  go_wp2_with (first | go_skip | ((with_reducible apply fL F); exact rfl; exact rfl; (exact tL); (exact tR2)) | ((with_reducible apply fLm F); exact rfl; exact rfl; (exact tL); (exact tM2); (exact tR2)) | ((with_reducible apply fX_int F); exact rfl; exact rfl))
  (clear F; intro b1 W F; try simp only [Act.put, z6, z1, z2])
  have c0 := (F.get Lies.here).cell (intC_0 x a)
  cases x
  · simp only [Bool.not_false, Bool.true_or] at hf
    subst hf
    clear hv g1
    go_wp2_with (first | go_skip | ((with_reducible apply fL F); exact rfl; exact rfl; (exact tL); (exact tR2)) | ((with_reducible apply fLm F); exact rfl; exact rfl; (exact tL); (exact tM2); (exact tR2)) | ((with_reducible apply fX_int F); exact rfl; exact rfl))
    go_ret
    exact ⟨rfl, F.below⟩
  · simp only [Bool.not_true, Bool.false_or] at hf
    by_cases h : a = 0
    · subst h
      have h1 : ¬ v < 0 := by rw [← hv]; decide
      subst hf
      clear hv
      go_wp2_with (first | go_skip | ((go_at_call 72); (with_reducible refine fr_call F (g1 _) ?_); (clear F; intro W F); (try dsimp only)) | ((with_reducible apply fL F); exact rfl; exact rfl; (exact tL); (exact tR2)) | ((with_reducible apply fLm F); exact rfl; exact rfl; (exact tL); (exact tM2); (exact tR2)) | ((with_reducible apply fX_int F); exact rfl; exact rfl))
      go_ret
      exact ⟨rfl, F.below⟩
    · have h1 : v < 0 := by rw [← hv]; unfold sgN; rw [if_neg h, if_pos rfl]; decide
      rw [decide_eq_false h] at hf
      subst hf
      clear hv h
      go_wp2_with (first | go_skip | ((go_at_call 72); (with_reducible refine fr_call F (g1 _) ?_); (clear F; intro W F); (try dsimp only)) | ((with_reducible apply fL F); exact rfl; exact rfl; (exact tL); (exact tR2)) | ((with_reducible apply fLm F); exact rfl; exact rfl; (exact tL); (exact tM2); (exact tR2)) | ((with_reducible apply fX_int F); exact rfl; exact rfl))
      go_ret
      exact ⟨rfl, F.below⟩
def okR (x : Bool) (a : Nat) (y : Bool) (b : Nat) : Prop := (bl a ≤ 480 ∧ bl b ≤ 480) ∧ (!x || !decide (a = 0)) = true ∧ (!y || !decide (b = 0)) = true ∧ 0 < sgN y b ∧ Nat.gcd a b = 1
instance (x : Bool) (a : Nat) (y : Bool) (b : Nat) : Decidable (okR x a y b) := by unfold okR; infer_instance
theorem lt_bp_of {a k : Nat} (h : bl a ≤ 32 * k) : a < bp k := by
  rw [bp_two]
  exact bl_le.1 h
theorem okR_bound {x : Bool} {a : Nat} {y : Bool} {b : Nat} (h : okR x a y b) : a < bp 15 ∧ b < bp 15 ∧ y = false ∧ b ≠ 0 ∧ (x = true → a ≠ 0) ∧ Nat.gcd a b = 1 := by
  obtain ⟨⟨h1, h2⟩, h3, h4, h5, h6⟩ := h
  refine ⟨lt_bp_of (k := 15) h1, lt_bp_of (k := 15) h2, ?_, ?_, ?_, h6⟩
  · cases y
    · rfl
    · unfold sgN at h5
      split at h5 <;> simp at h5
  · rintro rfl
    simp [sgN] at h5
  · rintro rfl rfl
    simp at h3
set_option maxRecDepth 100000 in
theorem valid_any {x : Bool} {a : Nat} {y : Bool} {b : Nat} (ha : a < bp 32) (hb : b < bp 32) {f : Bool} (hf : decide (okR x a y b) = f) (w : World) : Calls Tryz.prog 93 #[.agg (ratC x a y b)] w (RetB (.bool f) w) := by
  have F := Fr.start w
  obtain ⟨f1, h1⟩ : ∃ v, decide (bl a ≤ 480 ∧ bl b ≤ 480) = v := ⟨_, rfl⟩
  obtain ⟨f2, h2⟩ : ∃ v, (!x || !decide (a = 0)) = v := ⟨_, rfl⟩
  obtain ⟨f3, h3⟩ : ∃ v, (!y || !decide (b = 0)) = v := ⟨_, rfl⟩
  obtain ⟨v, hv⟩ : ∃ v, sgN y b = v := ⟨_, rfl⟩
  have g1 := fun w => fits_any (x := x) (y := y) ha hb h1 w
  have g2 := fun w => canonical_any ha h2 w
  have g3 := fun w => canonical_any hb h3 w
  have g4 := fun w => sign_any (neg := y) hb hv w
  have g5 := fun w => gcd_any (x := x) (y := y) ha hb w
  have hg : Nat.gcd a b < bp 32 := by
    rcases Nat.eq_zero_or_pos a with h | h
    · rw [h, Nat.gcd_zero_left]
      exact hb
    · exact Nat.lt_of_le_of_lt (Nat.gcd_le_left b h) ha
  obtain ⟨g, hgg⟩ : ∃ g, Nat.gcd a b = g := ⟨_, rfl⟩
  have e : decide (okR x a y b) = (f1 && (f2 && (f3 && (decide (0 < v) && decide (g = 1))))) := by
    rw [Bool.eq_iff_iff, decide_eq_true_eq]
    simp only [Bool.and_eq_true, decide_eq_true_eq]
    rw [← h1, ← h2, ← h3, ← hv, ← hgg, decide_eq_true_eq]
    exact Iff.rfl
  rw [e] at hf
  rw [hgg] at g5 hg
  have eq1 := fun w => eq_IC 9997 (x := (g : Int)) (y := 1) (by omega) (by decide) w
  have q1 : (∃ q, decide ((g : Int) = 1) = q ∧ decide (g = 1) = q) := ⟨_, rfl, by rw [decide_eq_decide]; omega⟩
  obtain ⟨q, hq1, hq2⟩ := q1
  rw [hq1] at eq1
  rw [hq2] at hf
  have fi := fun w => fromZ (n := 1) (by decide) (by decide) w
  clear h1 h2 h3 hv e hgg hq1 hq2 hg
  have HF := Lib.hid hf
  clear hf
  go_enter Tryz.func93, Tryz.ntmps93
  go_wp2_with (first | go_skip | ((with_reducible apply fL F); exact rfl; exact rfl; (exact tL); (exact tR2)) | ((with_reducible apply fLm F); exact rfl; exact rfl; (exact tL); (exact tM2); (exact tR2)) | ((with_reducible apply fX_rat F); exact rfl; exact rfl))
  (clear F; intro b1 W F; try simp only [Act.put, z6, z1, z2])
  cases f1
  · have hf := HF.out
    simp only [Bool.false_and] at hf
    subst hf
    go_wp2_with (first | go_skip | ((go_at_call 133); (with_reducible refine fr_call F (g1 _) ?_); (clear F; intro W F); (try dsimp only)) | ((with_reducible apply fL F); exact rfl; exact rfl; (exact tL); (exact tR2)) | ((with_reducible apply fLm F); exact rfl; exact rfl; (exact tL); (exact tM2); (exact tR2)) | ((with_reducible apply fX_rat F); exact rfl; exact rfl))
    go_ret
    exact ⟨rfl, F.below⟩
  cases f2
  · have hf := HF.out
    simp only [Bool.false_and, Bool.true_and] at hf
    subst hf
    go_wp2_with (first | go_skip | ((go_at_call 133); (with_reducible refine fr_call F (g1 _) ?_); (clear F; intro W F); (try dsimp only)) | ((go_at_call 142); (with_reducible refine fr_call F (g2 _) ?_); (clear F; intro W F); (try dsimp only)) | ((with_reducible apply fL F); exact rfl; exact rfl; (exact tL); (exact tR2)) | ((with_reducible apply fLm F); exact rfl; exact rfl; (exact tL); (exact tM2); (exact tR2)) | ((with_reducible apply fX_rat F); exact rfl; exact rfl))
    go_ret
    exact ⟨rfl, F.below⟩
  cases f3
  · have hf := HF.out
    simp only [Bool.false_and, Bool.true_and] at hf
    subst hf
    go_wp2_with (first | go_skip | ((go_at_call 133); (with_reducible refine fr_call F (g1 _) ?_); (clear F; intro W F); (try dsimp only)) | ((go_at_call 142); (with_reducible refine fr_call F (g2 _) ?_); (clear F; intro W F); (try dsimp only)) | ((go_at_call 142); (with_reducible refine fr_call F (g3 _) ?_); (clear F; intro W F); (try dsimp only)) | ((with_reducible apply fL F); exact rfl; exact rfl; (exact tL); (exact tR2)) | ((with_reducible apply fLm F); exact rfl; exact rfl; (exact tL); (exact tM2); (exact tR2)) | ((with_reducible apply fX_rat F); exact rfl; exact rfl))
    go_ret
    exact ⟨rfl, F.below⟩
  by_cases hv : 0 < v
  · have hf := HF.out
    rw [decide_eq_true hv] at hf
    simp only [Bool.true_and] at hf
    subst hf
    go_wp2_with (first | go_skip | ((go_at_call 133); (with_reducible refine fr_call F (g1 _) ?_); (clear F; intro W F); (try dsimp only)) | ((go_at_call 142); (with_reducible refine fr_call F (g2 _) ?_); (clear F; intro W F); (try dsimp only)) | ((go_at_call 142); (with_reducible refine fr_call F (g3 _) ?_); (clear F; intro W F); (try dsimp only)) | ((go_at_call 72); (with_reducible refine fr_call F (g4 _) ?_); (clear F; intro W F); (try dsimp only)) | ((go_at_call 131); (with_reducible refine fr_call F (g5 _) ?_); (clear F; intro W F); (try dsimp only)) | ((go_at_call 74); (with_reducible refine fr_call F (fi _) ?_); (clear F; intro W F); (try dsimp only)) | ((with_reducible apply fL F); exact rfl; exact rfl; (exact tL); (exact tR2)) | ((with_reducible apply fLm F); exact rfl; exact rfl; (exact tL); (exact tM2); (exact tR2)) | ((with_reducible apply fX_rat F); exact rfl; exact rfl))
    go_ret
    exact ⟨rfl, F.below⟩
  · have hf := HF.out
    rw [decide_eq_false hv] at hf
    simp only [Bool.false_and, Bool.true_and] at hf
    subst hf
    go_wp2_with (first | go_skip | ((go_at_call 133); (with_reducible refine fr_call F (g1 _) ?_); (clear F; intro W F); (try dsimp only)) | ((go_at_call 142); (with_reducible refine fr_call F (g2 _) ?_); (clear F; intro W F); (try dsimp only)) | ((go_at_call 142); (with_reducible refine fr_call F (g3 _) ?_); (clear F; intro W F); (try dsimp only)) | ((go_at_call 72); (with_reducible refine fr_call F (g4 _) ?_); (clear F; intro W F); (try dsimp only)) | ((with_reducible apply fL F); exact rfl; exact rfl; (exact tL); (exact tR2)) | ((with_reducible apply fLm F); exact rfl; exact rfl; (exact tL); (exact tM2); (exact tR2)) | ((with_reducible apply fX_rat F); exact rfl; exact rfl))
    go_ret
    exact ⟨rfl, F.below⟩
end
section
open Go.RowKit
set_option maxHeartbeats 2000000
section
variable {x y : Int}
set_option maxRecDepth 100000 in
theorem productZ (hx : x.natAbs < bp 32) (hy : y.natAbs < bp 32) (h : (x * y).natAbs < bp 32) (w : World) : Calls Tryz.prog 112 #[.agg (IC x), .agg (IC y)] w (RetB (.agg (IC (x * y))) w) := by
  have F := Fr.start w
  have g1 := fun w => mulZ hx hy h w
  clear hx hy h
  go_enter Tryz.func112, Tryz.ntmps112
  go_wp2_with (first | go_skip | ((with_reducible apply fL F); exact rfl; exact rfl; (exact tL); (exact tR2)) | ((with_reducible apply fA_int F); exact rfl) | ((with_reducible apply fX_int F); exact rfl; exact rfl) | ((with_reducible apply fS F); exact rfl; exact rfl; exact rfl; (exact tL); (exact tR2); (exact tS2); clear F; intro W F; simp only [z7, z8] at F))
  (clear F; intro b2 W F; try simp only [Act.put, z6, z1, z2])
  go_wp2_with (first | go_skip | ((with_reducible apply fL F); exact rfl; exact rfl; (exact tL); (exact tR2)) | ((with_reducible apply fA_int F); exact rfl) | ((with_reducible apply fX_int F); exact rfl; exact rfl) | ((with_reducible apply fS F); exact rfl; exact rfl; exact rfl; (exact tL); (exact tR2); (exact tS2); clear F; intro W F; simp only [z7, z8] at F))
  (clear F; intro b3 W F; try simp only [Act.put, z6, z1, z2])
  go_wp2_with (first | go_skip | ((with_reducible apply fL F); exact rfl; exact rfl; (exact tL); (exact tR2)) | ((with_reducible apply fA_int F); exact rfl) | ((with_reducible apply fX_int F); exact rfl; exact rfl) | ((with_reducible apply fS F); exact rfl; exact rfl; exact rfl; (exact tL); (exact tR2); (exact tS2); clear F; intro W F; simp only [z7, z8] at F))
  (clear F; intro b4 W F; try simp only [Act.put, z6, z1, z2])
  go_wp2_with (first | go_skip | ((go_at_call 113); (with_reducible refine fr_call F (g1 _) ?_); (clear F; intro W F); (try dsimp only)) | ((with_reducible apply fL F); exact rfl; exact rfl; (exact tL); (exact tR2)) | ((with_reducible apply fA_int F); exact rfl) | ((with_reducible apply fX_int F); exact rfl; exact rfl) | ((with_reducible apply fS F); exact rfl; exact rfl; exact rfl; (exact tL); (exact tR2); (exact tS2); clear F; intro W F; simp only [z7, z8] at F))
  (clear F; intro b5 W F; try simp only [Act.put, z6, z1, z2])
  go_wp2_with (first | go_skip | ((with_reducible apply fL F); exact rfl; exact rfl; (exact tL); (exact tR2)) | ((with_reducible apply fA_int F); exact rfl) | ((with_reducible apply fX_int F); exact rfl; exact rfl) | ((with_reducible apply fS F); exact rfl; exact rfl; exact rfl; (exact tL); (exact tR2); (exact tS2); clear F; intro W F; simp only [z7, z8] at F))
  exact bodyPost_ret (res_c rfl rfl (Fr.get F tL) (rowIC _)) rfl ⟨rfl, F.below⟩
set_option maxRecDepth 100000 in
theorem wholeZ (hx : x.natAbs < bp 32) (hy : y.natAbs < bp 32) (h : y ≠ 0) (w : World) : Calls Tryz.prog 132 #[.agg (IC x), .agg (IC y)] w (RetB (.agg (IC (x / y))) w) := by
  have F := Fr.start w
  have g1 := fun w => divmodZ hx hy h w
  clear hx hy h
  go_enter Tryz.func132, Tryz.ntmps132
  go_wp2_with (first | go_skip | ((with_reducible apply fL F); exact rfl; exact rfl; (exact tL); (exact tR2)) | ((with_reducible apply fA_int F); exact rfl) | ((with_reducible apply fX_int F); exact rfl; exact rfl) | ((with_reducible apply fS F); exact rfl; exact rfl; exact rfl; (exact tL); (exact tR2); (exact tS2); clear F; intro W F; simp only [z7, z8] at F))
  (clear F; intro b2 W F; try simp only [Act.put, z6, z1, z2])
  go_wp2_with (first | go_skip | ((with_reducible apply fL F); exact rfl; exact rfl; (exact tL); (exact tR2)) | ((with_reducible apply fA_int F); exact rfl) | ((with_reducible apply fX_int F); exact rfl; exact rfl) | ((with_reducible apply fS F); exact rfl; exact rfl; exact rfl; (exact tL); (exact tR2); (exact tS2); clear F; intro W F; simp only [z7, z8] at F))
  (clear F; intro b3 W F; try simp only [Act.put, z6, z1, z2])
  go_wp2_with (first | go_skip | ((with_reducible apply fL F); exact rfl; exact rfl; (exact tL); (exact tR2)) | ((with_reducible apply fA_int F); exact rfl) | ((with_reducible apply fX_int F); exact rfl; exact rfl) | ((with_reducible apply fS F); exact rfl; exact rfl; exact rfl; (exact tL); (exact tR2); (exact tS2); clear F; intro W F; simp only [z7, z8] at F))
  (clear F; intro b4 W F; try simp only [Act.put, z6, z1, z2])
  go_wp2_with (first | go_skip | ((go_at_call 114); (with_reducible refine fr_call F (g1 _) ?_); (clear F; intro W F); (try dsimp only)) | ((with_reducible apply fL F); exact rfl; exact rfl; (exact tL); (exact tR2)) | ((with_reducible apply fA_int F); exact rfl) | ((with_reducible apply fX_int F); exact rfl; exact rfl) | ((with_reducible apply fS F); exact rfl; exact rfl; exact rfl; (exact tL); (exact tR2); (exact tS2); clear F; intro W F; simp only [z7, z8] at F))
  (clear F; intro b5 W F; try simp only [Act.put, z6, z1, z2])
  go_wp2_with (first | go_skip | ((with_reducible apply fL F); exact rfl; exact rfl; (exact tL); (exact tR2)) | ((with_reducible apply fA_int F); exact rfl) | ((with_reducible apply fX_int F); exact rfl; exact rfl) | ((with_reducible apply fS F); exact rfl; exact rfl; exact rfl; (exact tL); (exact tR2); (exact tS2); clear F; intro W F; simp only [z7, z8] at F))
  (clear F; intro b6 W F; try simp only [Act.put, z6, z1, z2])
  go_wp2_with (first | go_skip | ((with_reducible apply fL F); exact rfl; exact rfl; (exact tL); (exact tR2)) | ((with_reducible apply fA_int F); exact rfl) | ((with_reducible apply fX_int F); exact rfl; exact rfl) | ((with_reducible apply fS F); exact rfl; exact rfl; exact rfl; (exact tL); (exact tR2); (exact tS2); clear F; intro W F; simp only [z7, z8] at F))
  exact bodyPost_ret (res_c rfl rfl (Fr.get F tL) (rowIC _)) rfl ⟨rfl, F.below⟩
end
def mkR (n d : Int) : Int × Int × Int :=
  if d = 0 then (0, 0, 11)
  else
    let s : Int := if d < 0 then -(Int.gcd n d : Int) else (Int.gcd n d : Int)
    if bl (n / s).natAbs ≤ 480 ∧ bl (d / s).natAbs ≤ 480 then (n / s, d / s, 0) else (0, 0, 10)
theorem gcd_le {n d : Int} (hn : n.natAbs < bp 32) (hd : d.natAbs < bp 32) : Int.gcd n d < bp 32 := by
  unfold Int.gcd
  rcases Nat.eq_zero_or_pos n.natAbs with h | h
  · rw [h, Nat.gcd_zero_left]
    exact hd
  · exact Nat.lt_of_le_of_lt (Nat.gcd_le_left _ h) hn
theorem div_le_abs (n s : Int) : (n / s).natAbs ≤ n.natAbs := Int.natAbs_ediv_le_natAbs n s
set_option maxRecDepth 100000 in
theorem makeZ {n d : Int} (hn : n.natAbs < bp 32) (hd : d.natAbs < bp 32) {r : Int × Int × Int} (hr : mkR n d = r) (w : World) : Calls Tryz.prog 82 #[.agg (IC n), .agg (IC d)] w (RetB (.tuple #[.agg (RC r.1 r.2.1), .int .i64 r.2.2]) w) := by
  have F := Fr.start w
  have g1 := fun w => signZ hd w
  have g2 := fun w => gcdZ hn hd w
  have hg := gcd_le hn hd
  have hgp : d ≠ 0 → Int.gcd n d ≠ 0 := fun h0 h => h0 (Int.gcd_eq_zero_iff.1 h).2
  obtain ⟨g, hgg⟩ : ∃ g, Int.gcd n d = g := ⟨_, rfl⟩
  unfold mkR at hr
  rw [hgg] at g2 hg hgp hr
  have HR := Lib.hid hr
  obtain ⟨s, hs⟩ : ∃ s, d.sign = s := ⟨_, rfl⟩
  rw [hs] at g1
  have HS := Lib.hid hs
  clear hr hs hgg
  go_enter Tryz.func82, Tryz.ntmps82
  go_wp2_with (first | go_skip | ((with_reducible apply fL F); exact rfl; exact rfl; (exact tL); (exact tR2)) | ((with_reducible apply fA_int F); exact rfl) | ((with_reducible apply fX_int F); exact rfl; exact rfl) | ((with_reducible apply fA_rat F); exact rfl) | ((with_reducible apply fS F); exact rfl; exact rfl; exact rfl; (exact tL); (exact tR2); (exact tS2); clear F; intro W F; simp only [z7, z8] at F) | ((with_reducible apply fB_rat0); exact rfl) | ((with_reducible apply fB_rat); exact rfl; exact rfl; exact rfl))
  (clear F; intro b2 W F; try simp only [Act.put, z6, z1, z2])
  go_wp2_with (first | go_skip | ((with_reducible apply fL F); exact rfl; exact rfl; (exact tL); (exact tR2)) | ((with_reducible apply fA_int F); exact rfl) | ((with_reducible apply fX_int F); exact rfl; exact rfl) | ((with_reducible apply fA_rat F); exact rfl) | ((with_reducible apply fS F); exact rfl; exact rfl; exact rfl; (exact tL); (exact tR2); (exact tS2); clear F; intro W F; simp only [z7, z8] at F) | ((with_reducible apply fB_rat0); exact rfl) | ((with_reducible apply fB_rat); exact rfl; exact rfl; exact rfl))
  (clear F; intro b3 W F; try simp only [Act.put, z6, z1, z2])
  go_wp2_with (first | go_skip | ((with_reducible apply fL F); exact rfl; exact rfl; (exact tL); (exact tR2)) | ((with_reducible apply fA_int F); exact rfl) | ((with_reducible apply fX_int F); exact rfl; exact rfl) | ((with_reducible apply fA_rat F); exact rfl) | ((with_reducible apply fS F); exact rfl; exact rfl; exact rfl; (exact tL); (exact tR2); (exact tS2); clear F; intro W F; simp only [z7, z8] at F) | ((with_reducible apply fB_rat0); exact rfl) | ((with_reducible apply fB_rat); exact rfl; exact rfl; exact rfl))
  (clear F; intro b4 W F; try simp only [Act.put, z6, z1, z2])
  by_cases h0 : d = 0
  · have hs0 : s = 0 := by rw [← HS.out, h0, Int.sign_zero]
    have hr := HR.out
    rw [if_pos h0] at hr
    subst hr
    subst hs0
    clear h0 hd hn hg hgp g2 HR HS
    go_wp2_with (first | go_skip | ((go_at_call 72); (with_reducible refine fr_call F (g1 _) ?_); (clear F; intro W F); (try dsimp only)) | ((with_reducible apply fL F); exact rfl; exact rfl; (exact tL); (exact tR2)) | ((with_reducible apply fA_int F); exact rfl) | ((with_reducible apply fX_int F); exact rfl; exact rfl) | ((with_reducible apply fA_rat F); exact rfl) | ((with_reducible apply fS F); exact rfl; exact rfl; exact rfl; (exact tL); (exact tR2); (exact tS2); clear F; intro W F; simp only [z7, z8] at F) | ((with_reducible apply fB_rat0); exact rfl) | ((with_reducible apply fB_rat); exact rfl; exact rfl; exact rfl))
    exact bodyPost_ret (res_cs rfl rfl rfl (Fr.get F tL) (rowRC _ _)) rfl ⟨rfl, F.below⟩
  · have hs0 : ¬ s = 0 := by rw [← HS.out]; exact fun h => h0 (Int.sign_eq_zero_iff_zero.1 h)
    have hr := HR.out
    rw [if_neg h0] at hr
    have hs1 : s < 0 ↔ d < 0 := by rw [← HS.out]; exact Int.sign_neg_iff
    have hgz : (g : Int) ≠ 0 := by have := hgp h0; omega
    obtain ⟨q, hq⟩ : ∃ q : Int, (if d < 0 then -(g : Int) else (g : Int)) = q := ⟨_, rfl⟩
    simp only [hq] at hr
    have hq0 : q ≠ 0 := by rw [← hq]; split <;> omega
    have hqb : q.natAbs < bp 32 := by rw [← hq]; split <;> omega
    have g3 := fun w => negZ (x := (g : Int)) (by omega) w
    have g4 := fun w => wholeZ hn hqb hq0 w
    have g5 := fun w => wholeZ hd hqb hq0 w
    have hb1 : (n / q).natAbs < bp 32 := Nat.lt_of_le_of_lt (div_le_abs n q) hn
    have hb2 : (d / q).natAbs < bp 32 := Nat.lt_of_le_of_lt (div_le_abs d q) hd
    obtain ⟨u, hu⟩ : ∃ u, n / q = u := ⟨_, rfl⟩
    obtain ⟨v, hv⟩ : ∃ v, d / q = v := ⟨_, rfl⟩
    rw [hu] at g4 hr hb1
    rw [hv] at g5 hr hb2
    obtain ⟨f, hf⟩ : ∃ f, decide (bl u.natAbs ≤ 480 ∧ bl v.natAbs ≤ 480) = f := ⟨_, rfl⟩
    have g6 := fun w => fits_any (x := decide (u < 0)) (y := decide (v < 0)) hb1 hb2 hf w
    have g7 : ∀ w, Calls Tryz.prog 133 #[.agg (RC u v)] w (RetB (.bool f) w) := g6
    have HQ := Lib.hid hq
    have HR2 := Lib.hid (show r = if f = true then (u, v, 0) else (0, 0, 10) from by rw [← hr, ← hf]; simp only [decide_eq_true_eq])
    have hsd := HS.out
    clear hr hq hu hv hf hn hd hg hgp hb1 hb2 h0 HR g6 hgz hq0 hqb hsd HS
    by_cases hneg : d < 0
    · have hsn : s < 0 := hs1.2 hneg
      have hq : -(g : Int) = q := by rw [← HQ.out, if_pos hneg]
      clear hs1 hneg HQ
      go_wp2_with (first | go_skip | ((go_at_call 72); (with_reducible refine fr_call F (g1 _) ?_); (clear F; intro W F); (try dsimp only)) | ((go_at_call 131); (with_reducible refine fr_call F (g2 _) ?_); (clear F; intro W F); (try dsimp only)) | ((with_reducible apply fL F); exact rfl; exact rfl; (exact tL); (exact tR2)) | ((with_reducible apply fA_int F); exact rfl) | ((with_reducible apply fX_int F); exact rfl; exact rfl) | ((with_reducible apply fA_rat F); exact rfl) | ((with_reducible apply fS F); exact rfl; exact rfl; exact rfl; (exact tL); (exact tR2); (exact tS2); clear F; intro W F; simp only [z7, z8] at F) | ((with_reducible apply fB_rat0); exact rfl) | ((with_reducible apply fB_rat); exact rfl; exact rfl; exact rfl))
      (clear F; intro b6 W F; try simp only [Act.put, z6, z1, z2])
      go_wp2_with (first | go_skip | ((go_at_call 72); (with_reducible refine fr_call F (g1 _) ?_); (clear F; intro W F); (try dsimp only)) | ((go_at_call 108); (with_reducible refine fr_call F (g3 _) ?_); (clear F; intro W F); (try dsimp only)) | ((with_reducible apply fL F); exact rfl; exact rfl; (exact tL); (exact tR2)) | ((with_reducible apply fA_int F); exact rfl) | ((with_reducible apply fX_int F); exact rfl; exact rfl) | ((with_reducible apply fA_rat F); exact rfl) | ((with_reducible apply fS F); exact rfl; exact rfl; exact rfl; (exact tL); (exact tR2); (exact tS2); clear F; intro W F; simp only [z7, z8] at F) | ((with_reducible apply fB_rat0); exact rfl) | ((with_reducible apply fB_rat); exact rfl; exact rfl; exact rfl))
      try rw [hq] at F
      clear hq
      try simp only [Act.put, z6, z1, z2]
      refine wp_region_slots mixP [7, 20, 21, 22, 23, 24, 25, 26] (fun l mm W => ∃ (s7 s20 s21 s22 s23 s24 s25 s26 : Value) (c_b7 : Array Value) (b7 : Nat), mm = [s7, s20, s21, s22, s23, s24, s25, s26] ∧ (l.getD 0 false = true → s20 = .agg (IC n)) ∧ (l.getD 1 false = true → s21 = .agg (IC q)) ∧ (l.getD 2 false = true → s22 = .agg (IC u)) ∧ (l.getD 3 false = true → s23 = .agg (IC d)) ∧ (l.getD 4 false = true → s24 = .agg (IC q)) ∧ (l.getD 5 false = true → s25 = .agg (IC v)) ∧ (l.getD 6 false = true → s26 = .agg (RC u v)) ∧ (l.getD 7 false = true → s7 = .pointer (some ⟨b7, 0, none⟩)) ∧ (l.getD 8 false = true → c_b7 = RC u v) ∧ (l.getD 8 false = true → l.getD 7 false = true) ∧ c_b7.size = (RC u v).size ∧ Fr w W ((b6, IC q, 29) :: (b4, RC 0 0, 31) :: (b3, IC d, 29) :: (b2, IC n, 29) :: (onl (l.getD 7 false) (b7, c_b7, 31)))) (by kernel_rfl) rfl ?_ ?_ ?_
      · exact ⟨_, _, _, _, _, _, _, _, (RC 0 0), 0, rfl, nf, nf, nf, nf, nf, nf, nf, nf, nf, nf, by exact tS2, F.drew⟩
      · rintro listed mm W ii hi hsz hoff ⟨s7, s20, s21, s22, s23, s24, s25, s26, c_b7, b7, rfl, h0, h1, h2, h3, h4, h5, h6, h7, h8, hN_b7, hz0, HF⟩ hd
        have hc : ii = 0 ∨ ii = 1 ∨ ii = 2 ∨ ii = 3 ∨ ii = 4 ∨ ii = 5 ∨ ii = 6 ∨ ii = 7 ∨ ii = 8 := by
          have hi2 : ii < 9 := hi
          omega
        have hsz2 : listed.size = 9 := hsz
        clear hi hsz
        rcases hc with rfl | rfl | rfl | rfl | rfl | rfl | rfl | rfl | rfl
        · refine wpOp_want rfl rfl (fun K hK => ?_)
          simp only [putAll, z1, z2, z3, z4, z5]
          with_reducible apply gL HF
          · exact rfl
          · (exact tL)
          · (first | (exact tR2))
          go_simp
          exact hK _ _ ⟨[s7, (.agg (IC n)), s21, s22, s23, s24, s25, s26], by simp only [putAll, z1, z2], s7, (.agg (IC n)), s21, s22, s23, s24, s25, s26, c_b7, b7, rfl, fun _ => rfl, lk h1, lk h2, lk h3, lk h4, lk h5, lk h6, lk h7, lk h8, fun h => by rw [getD_keep (show 0 ≠ 8 by decide)] at h; rw [getD_keep (show 0 ≠ 7 by decide)]; exact hN_b7 h, hz0, by rw [getD_keep (show 0 ≠ 7 by decide)]; exact HF⟩
        · refine wpOp_want rfl rfl (fun K hK => ?_)
          simp only [putAll, z1, z2, z3, z4, z5]
          with_reducible apply gL HF
          · exact rfl
          · (exact tL)
          · (first | (exact tR2))
          go_simp
          exact hK _ _ ⟨[s7, s20, (.agg (IC q)), s22, s23, s24, s25, s26], by simp only [putAll, z1, z2], s7, s20, (.agg (IC q)), s22, s23, s24, s25, s26, c_b7, b7, rfl, lk h0, fun _ => rfl, lk h2, lk h3, lk h4, lk h5, lk h6, lk h7, lk h8, fun h => by rw [getD_keep (show 1 ≠ 8 by decide)] at h; rw [getD_keep (show 1 ≠ 7 by decide)]; exact hN_b7 h, hz0, by rw [getD_keep (show 1 ≠ 7 by decide)]; exact HF⟩
        · have d0 := h0 (hd 0 (by kernel_rfl))
          have d1 := h1 (hd 1 (by kernel_rfl))
          obtain rfl := d0
          obtain rfl := d1
          refine wpOp_want rfl rfl (fun K hK => ?_)
          simp only [putAll, z1, z2, z3, z4, z5]
          refine ⟨?_⟩
          go_simp
          with_reducible refine fr_call HF (g4 _) ?_
          clear HF
          intro W HF
          (try dsimp only)
          exact hK _ _ ⟨[s7, (.agg (IC n)), (.agg (IC q)), (.agg (IC u)), s23, s24, s25, s26], by simp only [putAll, z1, z2], s7, (.agg (IC n)), (.agg (IC q)), (.agg (IC u)), s23, s24, s25, s26, c_b7, b7, rfl, lk h0, lk h1, fun _ => rfl, lk h3, lk h4, lk h5, lk h6, lk h7, lk h8, fun h => by rw [getD_keep (show 2 ≠ 8 by decide)] at h; rw [getD_keep (show 2 ≠ 7 by decide)]; exact hN_b7 h, hz0, by rw [getD_keep (show 2 ≠ 7 by decide)]; exact HF⟩
        · refine wpOp_want rfl rfl (fun K hK => ?_)
          simp only [putAll, z1, z2, z3, z4, z5]
          with_reducible apply gL HF
          · exact rfl
          · (exact tL)
          · (first | (exact tR2))
          go_simp
          exact hK _ _ ⟨[s7, s20, s21, s22, (.agg (IC d)), s24, s25, s26], by simp only [putAll, z1, z2], s7, s20, s21, s22, (.agg (IC d)), s24, s25, s26, c_b7, b7, rfl, lk h0, lk h1, lk h2, fun _ => rfl, lk h4, lk h5, lk h6, lk h7, lk h8, fun h => by rw [getD_keep (show 3 ≠ 8 by decide)] at h; rw [getD_keep (show 3 ≠ 7 by decide)]; exact hN_b7 h, hz0, by rw [getD_keep (show 3 ≠ 7 by decide)]; exact HF⟩
        · refine wpOp_want rfl rfl (fun K hK => ?_)
          simp only [putAll, z1, z2, z3, z4, z5]
          with_reducible apply gL HF
          · exact rfl
          · (exact tL)
          · (first | (exact tR2))
          go_simp
          exact hK _ _ ⟨[s7, s20, s21, s22, s23, (.agg (IC q)), s25, s26], by simp only [putAll, z1, z2], s7, s20, s21, s22, s23, (.agg (IC q)), s25, s26, c_b7, b7, rfl, lk h0, lk h1, lk h2, lk h3, fun _ => rfl, lk h5, lk h6, lk h7, lk h8, fun h => by rw [getD_keep (show 4 ≠ 8 by decide)] at h; rw [getD_keep (show 4 ≠ 7 by decide)]; exact hN_b7 h, hz0, by rw [getD_keep (show 4 ≠ 7 by decide)]; exact HF⟩
        · have d3 := h3 (hd 3 (by kernel_rfl))
          have d4 := h4 (hd 4 (by kernel_rfl))
          obtain rfl := d3
          obtain rfl := d4
          refine wpOp_want rfl rfl (fun K hK => ?_)
          simp only [putAll, z1, z2, z3, z4, z5]
          refine ⟨?_⟩
          go_simp
          with_reducible refine fr_call HF (g5 _) ?_
          clear HF
          intro W HF
          (try dsimp only)
          exact hK _ _ ⟨[s7, s20, s21, s22, (.agg (IC d)), (.agg (IC q)), (.agg (IC v)), s26], by simp only [putAll, z1, z2], s7, s20, s21, s22, (.agg (IC d)), (.agg (IC q)), (.agg (IC v)), s26, c_b7, b7, rfl, lk h0, lk h1, lk h2, lk h3, lk h4, fun _ => rfl, lk h6, lk h7, lk h8, fun h => by rw [getD_keep (show 5 ≠ 8 by decide)] at h; rw [getD_keep (show 5 ≠ 7 by decide)]; exact hN_b7 h, hz0, by rw [getD_keep (show 5 ≠ 7 by decide)]; exact HF⟩
        · have d2 := h2 (hd 2 (by kernel_rfl))
          have d5 := h5 (hd 5 (by kernel_rfl))
          obtain rfl := d2
          obtain rfl := d5
          refine wpOp_want rfl rfl (fun K hK => ?_)
          simp only [putAll, z1, z2, z3, z4, z5]
          with_reducible apply gB_rat
          · exact rfl
          · exact rfl
          go_simp
          exact hK _ _ ⟨[s7, s20, s21, (.agg (IC u)), s23, s24, (.agg (IC v)), (.agg (RC u v))], by simp only [putAll, z1, z2], s7, s20, s21, (.agg (IC u)), s23, s24, (.agg (IC v)), (.agg (RC u v)), c_b7, b7, rfl, lk h0, lk h1, lk h2, lk h3, lk h4, lk h5, fun _ => rfl, lk h7, lk h8, fun h => by rw [getD_keep (show 6 ≠ 8 by decide)] at h; rw [getD_keep (show 6 ≠ 7 by decide)]; exact hN_b7 h, hz0, by rw [getD_keep (show 6 ≠ 7 by decide)]; exact HF⟩
        · refine wpOp_want rfl rfl (fun K hK => ?_)
          simp only [putAll, z1, z2, z3, z4, z5]
          rw [show listed.getD 7 false = false from hoff] at HF
          skip
          with_reducible apply gA_rat HF
          intro bN W HF
          go_simp
          exact hK _ _ ⟨[(.pointer (some ⟨bN, 0, none⟩)), s20, s21, s22, s23, s24, s25, s26], by simp only [putAll, z1, z2], (.pointer (some ⟨bN, 0, none⟩)), s20, s21, s22, s23, s24, s25, s26, (RC 0 0), bN, rfl, lk h0, lk h1, lk h2, lk h3, lk h4, lk h5, lk h6, fun _ => rfl, fun h => absurd (hN_b7 (by rw [getD_keep (show 7 ≠ 8 by decide)] at h; exact h)) (by rw [hoff]; decide), fun _ => getD_on (by omega), by exact tS2, by rw [getD_on (show 7 < listed.size by omega)]; exact Fr.mid (A := [(b6, IC q, 29), (b4, RC 0 0, 31), (b3, IC d, 29), (b2, IC n, 29)]) HF⟩
        · have d6 := h6 (hd 6 (by kernel_rfl))
          have d7 := h7 (hd 7 (by kernel_rfl))
          obtain rfl := d6
          obtain rfl := d7
          refine wpOp_want rfl rfl (fun K hK => ?_)
          simp only [putAll, z1, z2, z3, z4, z5]
          rw [hd 7 (by kernel_rfl)] at HF
          simp only [onl, if_true, z7, z8] at HF
          with_reducible apply gS HF
          · exact rfl
          · exact rfl
          · (exact tL)
          · (first | (exact tR2))
          · first | exact hz0 | exact tS2
          clear HF
          intro W HF
          simp only [z7, z8] at HF
          go_simp
          exact hK _ _ ⟨[(.pointer (some ⟨b7, 0, none⟩)), s20, s21, s22, s23, s24, s25, (.agg (RC u v))], by simp only [putAll, z1, z2], (.pointer (some ⟨b7, 0, none⟩)), s20, s21, s22, s23, s24, s25, (.agg (RC u v)), (RC u v), b7, rfl, lk h0, lk h1, lk h2, lk h3, lk h4, lk h5, lk h6, lk h7, fun _ => rfl, fun _ => by rw [getD_keep (show 8 ≠ 7 by decide)]; exact hd 7 (by kernel_rfl), rfl, by rw [getD_keep (show 8 ≠ 7 by decide), hd 7 (by kernel_rfl)]; exact HF⟩
      rintro listed mm W ⟨s7, s20, s21, s22, s23, s24, s25, s26, c_b7, b7, rfl, h0, h1, h2, h3, h4, h5, h6, h7, h8, hN_b7, hz0, HF⟩ hall
      rw [hall 7 (by decide)] at HF
      simp only [onl, if_true, z7, z8] at HF
      obtain rfl := h0 (hall 0 (by decide))
      obtain rfl := h1 (hall 1 (by decide))
      obtain rfl := h2 (hall 2 (by decide))
      obtain rfl := h3 (hall 3 (by decide))
      obtain rfl := h4 (hall 4 (by decide))
      obtain rfl := h5 (hall 5 (by decide))
      obtain rfl := h6 (hall 6 (by decide))
      obtain rfl := h7 (hall 7 (by decide))
      rw [h8 (hall 8 (by decide))] at HF
      clear hall h0 h1 h2 h3 h4 h5 h6 h7 h8 hN_b7 hz0 F
      have F := HF
      clear HF
      simp only [putAll, z1, z2]
      cases f
      · have hr := HR2.out
        rw [if_neg (by decide)] at hr
        subst hr
        clear HR2
        go_wp2_with (first | go_skip | ((go_at_call 133); (with_reducible refine fr_call F (g7 _) ?_); (clear F; intro W F); (try dsimp only)) | ((with_reducible apply fL F); exact rfl; exact rfl; (exact tL); (exact tR2)) | ((with_reducible apply fA_int F); exact rfl) | ((with_reducible apply fX_int F); exact rfl; exact rfl) | ((with_reducible apply fA_rat F); exact rfl) | ((with_reducible apply fS F); exact rfl; exact rfl; exact rfl; (exact tL); (exact tR2); (exact tS2); clear F; intro W F; simp only [z7, z8] at F) | ((with_reducible apply fB_rat0); exact rfl) | ((with_reducible apply fB_rat); exact rfl; exact rfl; exact rfl))
        exact bodyPost_ret (res_cs rfl rfl rfl (Fr.get F tL) (rowRC _ _)) rfl ⟨rfl, F.below⟩
      · have hr := HR2.out
        rw [if_pos rfl] at hr
        subst hr
        clear HR2
        go_wp2_with (first | go_skip | ((go_at_call 133); (with_reducible refine fr_call F (g7 _) ?_); (clear F; intro W F); (try dsimp only)) | ((with_reducible apply fL F); exact rfl; exact rfl; (exact tL); (exact tR2)) | ((with_reducible apply fA_int F); exact rfl) | ((with_reducible apply fX_int F); exact rfl; exact rfl) | ((with_reducible apply fA_rat F); exact rfl) | ((with_reducible apply fS F); exact rfl; exact rfl; exact rfl; (exact tL); (exact tR2); (exact tS2); clear F; intro W F; simp only [z7, z8] at F) | ((with_reducible apply fB_rat0); exact rfl) | ((with_reducible apply fB_rat); exact rfl; exact rfl; exact rfl))
        exact bodyPost_ret (res_cs rfl rfl rfl (Fr.get F tL) (rowRC _ _)) rfl ⟨rfl, F.below⟩
    · have hsn : ¬ s < 0 := fun h => hneg (hs1.1 h)
      have hq : (g : Int) = q := by rw [← HQ.out, if_neg hneg]
      clear hs1 hneg HQ
      go_wp2_with (first | go_skip | ((go_at_call 72); (with_reducible refine fr_call F (g1 _) ?_); (clear F; intro W F); (try dsimp only)) | ((go_at_call 131); (with_reducible refine fr_call F (g2 _) ?_); (clear F; intro W F); (try dsimp only)) | ((with_reducible apply fL F); exact rfl; exact rfl; (exact tL); (exact tR2)) | ((with_reducible apply fA_int F); exact rfl) | ((with_reducible apply fX_int F); exact rfl; exact rfl) | ((with_reducible apply fA_rat F); exact rfl) | ((with_reducible apply fS F); exact rfl; exact rfl; exact rfl; (exact tL); (exact tR2); (exact tS2); clear F; intro W F; simp only [z7, z8] at F) | ((with_reducible apply fB_rat0); exact rfl) | ((with_reducible apply fB_rat); exact rfl; exact rfl; exact rfl))
      (clear F; intro b6 W F; try simp only [Act.put, z6, z1, z2])
      go_wp2_with (first | go_skip | ((go_at_call 72); (with_reducible refine fr_call F (g1 _) ?_); (clear F; intro W F); (try dsimp only)) | ((with_reducible apply fL F); exact rfl; exact rfl; (exact tL); (exact tR2)) | ((with_reducible apply fA_int F); exact rfl) | ((with_reducible apply fX_int F); exact rfl; exact rfl) | ((with_reducible apply fA_rat F); exact rfl) | ((with_reducible apply fS F); exact rfl; exact rfl; exact rfl; (exact tL); (exact tR2); (exact tS2); clear F; intro W F; simp only [z7, z8] at F) | ((with_reducible apply fB_rat0); exact rfl) | ((with_reducible apply fB_rat); exact rfl; exact rfl; exact rfl))
      try rw [hq] at F
      clear hq
      try simp only [Act.put, z6, z1, z2]
      refine wp_region_slots mixP [7, 20, 21, 22, 23, 24, 25, 26] (fun l mm W => ∃ (s7 s20 s21 s22 s23 s24 s25 s26 : Value) (c_b7 : Array Value) (b7 : Nat), mm = [s7, s20, s21, s22, s23, s24, s25, s26] ∧ (l.getD 0 false = true → s20 = .agg (IC n)) ∧ (l.getD 1 false = true → s21 = .agg (IC q)) ∧ (l.getD 2 false = true → s22 = .agg (IC u)) ∧ (l.getD 3 false = true → s23 = .agg (IC d)) ∧ (l.getD 4 false = true → s24 = .agg (IC q)) ∧ (l.getD 5 false = true → s25 = .agg (IC v)) ∧ (l.getD 6 false = true → s26 = .agg (RC u v)) ∧ (l.getD 7 false = true → s7 = .pointer (some ⟨b7, 0, none⟩)) ∧ (l.getD 8 false = true → c_b7 = RC u v) ∧ (l.getD 8 false = true → l.getD 7 false = true) ∧ c_b7.size = (RC u v).size ∧ Fr w W ((b6, IC q, 29) :: (b4, RC 0 0, 31) :: (b3, IC d, 29) :: (b2, IC n, 29) :: (onl (l.getD 7 false) (b7, c_b7, 31)))) (by kernel_rfl) rfl ?_ ?_ ?_
      · exact ⟨_, _, _, _, _, _, _, _, (RC 0 0), 0, rfl, nf, nf, nf, nf, nf, nf, nf, nf, nf, nf, by exact tS2, F.drew⟩
      · rintro listed mm W ii hi hsz hoff ⟨s7, s20, s21, s22, s23, s24, s25, s26, c_b7, b7, rfl, h0, h1, h2, h3, h4, h5, h6, h7, h8, hN_b7, hz0, HF⟩ hd
        have hc : ii = 0 ∨ ii = 1 ∨ ii = 2 ∨ ii = 3 ∨ ii = 4 ∨ ii = 5 ∨ ii = 6 ∨ ii = 7 ∨ ii = 8 := by
          have hi2 : ii < 9 := hi
          omega
        have hsz2 : listed.size = 9 := hsz
        clear hi hsz
        rcases hc with rfl | rfl | rfl | rfl | rfl | rfl | rfl | rfl | rfl
        · refine wpOp_want rfl rfl (fun K hK => ?_)
          simp only [putAll, z1, z2, z3, z4, z5]
          with_reducible apply gL HF
          · exact rfl
          · (exact tL)
          · (first | (exact tR2))
          go_simp
          exact hK _ _ ⟨[s7, (.agg (IC n)), s21, s22, s23, s24, s25, s26], by simp only [putAll, z1, z2], s7, (.agg (IC n)), s21, s22, s23, s24, s25, s26, c_b7, b7, rfl, fun _ => rfl, lk h1, lk h2, lk h3, lk h4, lk h5, lk h6, lk h7, lk h8, fun h => by rw [getD_keep (show 0 ≠ 8 by decide)] at h; rw [getD_keep (show 0 ≠ 7 by decide)]; exact hN_b7 h, hz0, by rw [getD_keep (show 0 ≠ 7 by decide)]; exact HF⟩
        · refine wpOp_want rfl rfl (fun K hK => ?_)
          simp only [putAll, z1, z2, z3, z4, z5]
          with_reducible apply gL HF
          · exact rfl
          · (exact tL)
          · (first | (exact tR2))
          go_simp
          exact hK _ _ ⟨[s7, s20, (.agg (IC q)), s22, s23, s24, s25, s26], by simp only [putAll, z1, z2], s7, s20, (.agg (IC q)), s22, s23, s24, s25, s26, c_b7, b7, rfl, lk h0, fun _ => rfl, lk h2, lk h3, lk h4, lk h5, lk h6, lk h7, lk h8, fun h => by rw [getD_keep (show 1 ≠ 8 by decide)] at h; rw [getD_keep (show 1 ≠ 7 by decide)]; exact hN_b7 h, hz0, by rw [getD_keep (show 1 ≠ 7 by decide)]; exact HF⟩
        · have d0 := h0 (hd 0 (by kernel_rfl))
          have d1 := h1 (hd 1 (by kernel_rfl))
          obtain rfl := d0
          obtain rfl := d1
          refine wpOp_want rfl rfl (fun K hK => ?_)
          simp only [putAll, z1, z2, z3, z4, z5]
          refine ⟨?_⟩
          go_simp
          with_reducible refine fr_call HF (g4 _) ?_
          clear HF
          intro W HF
          (try dsimp only)
          exact hK _ _ ⟨[s7, (.agg (IC n)), (.agg (IC q)), (.agg (IC u)), s23, s24, s25, s26], by simp only [putAll, z1, z2], s7, (.agg (IC n)), (.agg (IC q)), (.agg (IC u)), s23, s24, s25, s26, c_b7, b7, rfl, lk h0, lk h1, fun _ => rfl, lk h3, lk h4, lk h5, lk h6, lk h7, lk h8, fun h => by rw [getD_keep (show 2 ≠ 8 by decide)] at h; rw [getD_keep (show 2 ≠ 7 by decide)]; exact hN_b7 h, hz0, by rw [getD_keep (show 2 ≠ 7 by decide)]; exact HF⟩
        · refine wpOp_want rfl rfl (fun K hK => ?_)
          simp only [putAll, z1, z2, z3, z4, z5]
          with_reducible apply gL HF
          · exact rfl
          · (exact tL)
          · (first | (exact tR2))
          go_simp
          exact hK _ _ ⟨[s7, s20, s21, s22, (.agg (IC d)), s24, s25, s26], by simp only [putAll, z1, z2], s7, s20, s21, s22, (.agg (IC d)), s24, s25, s26, c_b7, b7, rfl, lk h0, lk h1, lk h2, fun _ => rfl, lk h4, lk h5, lk h6, lk h7, lk h8, fun h => by rw [getD_keep (show 3 ≠ 8 by decide)] at h; rw [getD_keep (show 3 ≠ 7 by decide)]; exact hN_b7 h, hz0, by rw [getD_keep (show 3 ≠ 7 by decide)]; exact HF⟩
        · refine wpOp_want rfl rfl (fun K hK => ?_)
          simp only [putAll, z1, z2, z3, z4, z5]
          with_reducible apply gL HF
          · exact rfl
          · (exact tL)
          · (first | (exact tR2))
          go_simp
          exact hK _ _ ⟨[s7, s20, s21, s22, s23, (.agg (IC q)), s25, s26], by simp only [putAll, z1, z2], s7, s20, s21, s22, s23, (.agg (IC q)), s25, s26, c_b7, b7, rfl, lk h0, lk h1, lk h2, lk h3, fun _ => rfl, lk h5, lk h6, lk h7, lk h8, fun h => by rw [getD_keep (show 4 ≠ 8 by decide)] at h; rw [getD_keep (show 4 ≠ 7 by decide)]; exact hN_b7 h, hz0, by rw [getD_keep (show 4 ≠ 7 by decide)]; exact HF⟩
        · have d3 := h3 (hd 3 (by kernel_rfl))
          have d4 := h4 (hd 4 (by kernel_rfl))
          obtain rfl := d3
          obtain rfl := d4
          refine wpOp_want rfl rfl (fun K hK => ?_)
          simp only [putAll, z1, z2, z3, z4, z5]
          refine ⟨?_⟩
          go_simp
          with_reducible refine fr_call HF (g5 _) ?_
          clear HF
          intro W HF
          (try dsimp only)
          exact hK _ _ ⟨[s7, s20, s21, s22, (.agg (IC d)), (.agg (IC q)), (.agg (IC v)), s26], by simp only [putAll, z1, z2], s7, s20, s21, s22, (.agg (IC d)), (.agg (IC q)), (.agg (IC v)), s26, c_b7, b7, rfl, lk h0, lk h1, lk h2, lk h3, lk h4, fun _ => rfl, lk h6, lk h7, lk h8, fun h => by rw [getD_keep (show 5 ≠ 8 by decide)] at h; rw [getD_keep (show 5 ≠ 7 by decide)]; exact hN_b7 h, hz0, by rw [getD_keep (show 5 ≠ 7 by decide)]; exact HF⟩
        · have d2 := h2 (hd 2 (by kernel_rfl))
          have d5 := h5 (hd 5 (by kernel_rfl))
          obtain rfl := d2
          obtain rfl := d5
          refine wpOp_want rfl rfl (fun K hK => ?_)
          simp only [putAll, z1, z2, z3, z4, z5]
          with_reducible apply gB_rat
          · exact rfl
          · exact rfl
          go_simp
          exact hK _ _ ⟨[s7, s20, s21, (.agg (IC u)), s23, s24, (.agg (IC v)), (.agg (RC u v))], by simp only [putAll, z1, z2], s7, s20, s21, (.agg (IC u)), s23, s24, (.agg (IC v)), (.agg (RC u v)), c_b7, b7, rfl, lk h0, lk h1, lk h2, lk h3, lk h4, lk h5, fun _ => rfl, lk h7, lk h8, fun h => by rw [getD_keep (show 6 ≠ 8 by decide)] at h; rw [getD_keep (show 6 ≠ 7 by decide)]; exact hN_b7 h, hz0, by rw [getD_keep (show 6 ≠ 7 by decide)]; exact HF⟩
        · refine wpOp_want rfl rfl (fun K hK => ?_)
          simp only [putAll, z1, z2, z3, z4, z5]
          rw [show listed.getD 7 false = false from hoff] at HF
          skip
          with_reducible apply gA_rat HF
          intro bN W HF
          go_simp
          exact hK _ _ ⟨[(.pointer (some ⟨bN, 0, none⟩)), s20, s21, s22, s23, s24, s25, s26], by simp only [putAll, z1, z2], (.pointer (some ⟨bN, 0, none⟩)), s20, s21, s22, s23, s24, s25, s26, (RC 0 0), bN, rfl, lk h0, lk h1, lk h2, lk h3, lk h4, lk h5, lk h6, fun _ => rfl, fun h => absurd (hN_b7 (by rw [getD_keep (show 7 ≠ 8 by decide)] at h; exact h)) (by rw [hoff]; decide), fun _ => getD_on (by omega), by exact tS2, by rw [getD_on (show 7 < listed.size by omega)]; exact Fr.mid (A := [(b6, IC q, 29), (b4, RC 0 0, 31), (b3, IC d, 29), (b2, IC n, 29)]) HF⟩
        · have d6 := h6 (hd 6 (by kernel_rfl))
          have d7 := h7 (hd 7 (by kernel_rfl))
          obtain rfl := d6
          obtain rfl := d7
          refine wpOp_want rfl rfl (fun K hK => ?_)
          simp only [putAll, z1, z2, z3, z4, z5]
          rw [hd 7 (by kernel_rfl)] at HF
          simp only [onl, if_true, z7, z8] at HF
          with_reducible apply gS HF
          · exact rfl
          · exact rfl
          · (exact tL)
          · (first | (exact tR2))
          · first | exact hz0 | exact tS2
          clear HF
          intro W HF
          simp only [z7, z8] at HF
          go_simp
          exact hK _ _ ⟨[(.pointer (some ⟨b7, 0, none⟩)), s20, s21, s22, s23, s24, s25, (.agg (RC u v))], by simp only [putAll, z1, z2], (.pointer (some ⟨b7, 0, none⟩)), s20, s21, s22, s23, s24, s25, (.agg (RC u v)), (RC u v), b7, rfl, lk h0, lk h1, lk h2, lk h3, lk h4, lk h5, lk h6, lk h7, fun _ => rfl, fun _ => by rw [getD_keep (show 8 ≠ 7 by decide)]; exact hd 7 (by kernel_rfl), rfl, by rw [getD_keep (show 8 ≠ 7 by decide), hd 7 (by kernel_rfl)]; exact HF⟩
      rintro listed mm W ⟨s7, s20, s21, s22, s23, s24, s25, s26, c_b7, b7, rfl, h0, h1, h2, h3, h4, h5, h6, h7, h8, hN_b7, hz0, HF⟩ hall
      rw [hall 7 (by decide)] at HF
      simp only [onl, if_true, z7, z8] at HF
      obtain rfl := h0 (hall 0 (by decide))
      obtain rfl := h1 (hall 1 (by decide))
      obtain rfl := h2 (hall 2 (by decide))
      obtain rfl := h3 (hall 3 (by decide))
      obtain rfl := h4 (hall 4 (by decide))
      obtain rfl := h5 (hall 5 (by decide))
      obtain rfl := h6 (hall 6 (by decide))
      obtain rfl := h7 (hall 7 (by decide))
      rw [h8 (hall 8 (by decide))] at HF
      clear hall h0 h1 h2 h3 h4 h5 h6 h7 h8 hN_b7 hz0 F
      have F := HF
      clear HF
      simp only [putAll, z1, z2]
      cases f
      · have hr := HR2.out
        rw [if_neg (by decide)] at hr
        subst hr
        clear HR2
        go_wp2_with (first | go_skip | ((go_at_call 133); (with_reducible refine fr_call F (g7 _) ?_); (clear F; intro W F); (try dsimp only)) | ((with_reducible apply fL F); exact rfl; exact rfl; (exact tL); (exact tR2)) | ((with_reducible apply fA_int F); exact rfl) | ((with_reducible apply fX_int F); exact rfl; exact rfl) | ((with_reducible apply fA_rat F); exact rfl) | ((with_reducible apply fS F); exact rfl; exact rfl; exact rfl; (exact tL); (exact tR2); (exact tS2); clear F; intro W F; simp only [z7, z8] at F) | ((with_reducible apply fB_rat0); exact rfl) | ((with_reducible apply fB_rat); exact rfl; exact rfl; exact rfl))
        exact bodyPost_ret (res_cs rfl rfl rfl (Fr.get F tL) (rowRC _ _)) rfl ⟨rfl, F.below⟩
      · have hr := HR2.out
        rw [if_pos rfl] at hr
        subst hr
        clear HR2
        go_wp2_with (first | go_skip | ((go_at_call 133); (with_reducible refine fr_call F (g7 _) ?_); (clear F; intro W F); (try dsimp only)) | ((with_reducible apply fL F); exact rfl; exact rfl; (exact tL); (exact tR2)) | ((with_reducible apply fA_int F); exact rfl) | ((with_reducible apply fX_int F); exact rfl; exact rfl) | ((with_reducible apply fA_rat F); exact rfl) | ((with_reducible apply fS F); exact rfl; exact rfl; exact rfl; (exact tL); (exact tR2); (exact tS2); clear F; intro W F; simp only [z7, z8] at F) | ((with_reducible apply fB_rat0); exact rfl) | ((with_reducible apply fB_rat); exact rfl; exact rfl; exact rfl))
        exact bodyPost_ret (res_cs rfl rfl rfl (Fr.get F tL) (rowRC _ _)) rfl ⟨rfl, F.below⟩
end
end Go.Proofs.YtpaodheilchfnaaGreatDoor
