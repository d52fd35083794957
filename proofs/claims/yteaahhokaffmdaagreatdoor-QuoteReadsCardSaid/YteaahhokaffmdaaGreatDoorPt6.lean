/- What the laws lean on. -/
import Derived.Test.YteaahhokaffmdaaGreatDoorPt5
import Derived.Deep.OwnRows
import Derived.Great.BuildSlice
namespace Go.Proofs.YteaahhokaffmdaaGreatDoor
set_option linter.unusedVariables false
set_option linter.unusedSimpArgs false
section
open Go.RowKit
set_option maxHeartbeats 2000000
theorem divN {x y : Int} (h0 : y ≠ 0) (h : ¬ (x < 0 ∧ x.natAbs % y.natAbs ≠ 0)) : x.natAbs / y.natAbs = (x / y).natAbs ∧ ((x.natAbs % y.natAbs : Nat) : Int) = x % y := by
 have hy : y.natAbs ≠ 0 := by omega
 rcases Int.lt_or_le x 0 with hx | hx
 ·have hz : x.natAbs % y.natAbs = 0 := Classical.byContradiction fun hn => h ⟨hx, hn⟩
  have hd : y ∣ x := by
   rw [← Int.natAbs_dvd_natAbs]
   exact Nat.dvd_of_mod_eq_zero hz
  rw [hz, Int.emod_eq_zero_of_dvd hd]
  refine ⟨?_, rfl⟩
  obtain ⟨k, rfl⟩ := hd
  rw [Int.mul_ediv_cancel_left _ h0, Int.natAbs_mul, Nat.mul_div_cancel_left _ (by omega)]
 ·obtain ⟨a, rfl⟩ := Int.eq_ofNat_of_zero_le hx
  refine ⟨?_, ?_⟩
  ·rw [Int.natAbs_natCast]
   rcases Int.lt_or_le y 0 with hy2 | hy2
   ·obtain ⟨b, rfl⟩ : ∃ b : Nat, y = -(b : Int) := ⟨y.natAbs, by omega⟩
    rw [Int.ediv_neg, Int.natAbs_neg, Int.natAbs_neg, Int.natAbs_natCast, ← Int.natCast_ediv, Int.natAbs_natCast]
   ·obtain ⟨b, rfl⟩ := Int.eq_ofNat_of_zero_le hy2
    rw [Int.natAbs_natCast, ← Int.natCast_ediv, Int.natAbs_natCast]
  ·rw [Int.natAbs_natCast, Int.natCast_emod]
   rcases Int.lt_or_le y 0 with hy2 | hy2
   ·rw [show ((y.natAbs : Nat) : Int) = -y by omega, Int.emod_neg]
   ·rw [show ((y.natAbs : Nat) : Int) = y by omega]
theorem divC {x y : Int} (h0 : y ≠ 0) (h : x < 0 ∧ x.natAbs % y.natAbs ≠ 0) : x.natAbs / y.natAbs + 1 = (x / y).natAbs ∧ ((y.natAbs - x.natAbs % y.natAbs : Nat) : Int) = x % y := by
 obtain ⟨hx, hm⟩ := h
 have hy : 0 < y.natAbs := by omega
 have hlt := Nat.mod_lt x.natAbs hy
 have hdm := Nat.div_add_mod x.natAbs y.natAbs
 obtain ⟨q, hq⟩ : ∃ q, x.natAbs / y.natAbs = q := ⟨_, rfl⟩
 obtain ⟨r, hr⟩ : ∃ r, x.natAbs % y.natAbs = r := ⟨_, rfl⟩
 rw [hq, hr] at hdm
 rw [hr] at hlt hm
 rw [hq, hr]
 have h1 : (x.natAbs : Int) = (y.natAbs : Int) * (q : Int) + (r : Int) := by
  rw [← hdm, Int.natCast_add, Int.natCast_mul]
 have h2 : ((y.natAbs - r : Nat) : Int) = (y.natAbs : Int) - (r : Int) := by omega
 have h3 : x = -(x.natAbs : Int) := by omega
 have h4 : (y.natAbs : Int) * ((q : Int) + 1) = (y.natAbs : Int) * (q : Int) + (y.natAbs : Int) := by rw [Int.mul_add, Int.mul_one]
 rcases Int.lt_or_le y 0 with hy2 | hy2
 ·have hb : (y.natAbs : Int) = -y := by omega
  rw [hb] at h1 h2 h4
  rw [Int.neg_mul, Int.neg_mul] at h4
  rw [Int.neg_mul] at h1
  have hx2 : x = y * ((q : Int) + 1) + (-y - r) := by omega
  have e1 : x / y = (q : Int) + 1 := by
   rw [hx2, Int.add_comm, Int.add_mul_ediv_left _ _ h0, show (-y - (r : Int)) / y = 0 by rw [show y = -(-y) by omega, Int.ediv_neg, Int.ediv_eq_zero_of_lt (by omega) (by omega)]; rfl]
   omega
  refine ⟨by rw [e1]; omega, ?_⟩
  have := Int.emod_add_mul_ediv x y
  rw [e1] at this
  omega
 ·have hb : (y.natAbs : Int) = y := by omega
  rw [hb] at h1 h2 h4
  have h5 : y * (-((q : Int) + 1)) = -(y * ((q : Int) + 1)) := Int.mul_neg _ _
  have hx2 : x = y * (-((q : Int) + 1)) + (y - r) := by omega
  have e1 : x / y = -((q : Int) + 1) := by
   rw [hx2, Int.add_comm, Int.add_mul_ediv_left _ _ h0, Int.ediv_eq_zero_of_lt (by omega) (by omega)]
   omega
  refine ⟨by rw [e1]; omega, ?_⟩
  have := Int.emod_add_mul_ediv x y
  rw [e1] at this
  omega
theorem divS {x y : Int} (h0 : y ≠ 0) : (x / y < 0 → (decide (x < 0) != decide (y < 0)) = true) ∧ (0 < x / y → (decide (x < 0) != decide (y < 0)) = false) := by
 have h1 := Int.emod_add_mul_ediv x y
 have h2 := Int.emod_nonneg x h0
 have h3 : x % y < y.natAbs := Int.emod_lt _ h0
 generalize x / y = q at *
 generalize x % y = r at *
 refine ⟨fun hq => ?_, fun hq => ?_⟩
 ·rcases Int.lt_or_le y 0 with hy | hy
  ·have : 0 ≤ y * q := Int.mul_nonneg_of_nonpos_of_nonpos (by omega) (by omega)
   have hx : ¬ x < 0 := by omega
   simp [hx, hy]
  ·have : y * 1 ≤ y * (-q) := Int.mul_le_mul_of_nonneg_left (by omega) hy
   rw [Int.mul_neg, Int.mul_one] at this
   have hx : x < 0 := by omega
   have hy2 : ¬ y < 0 := by omega
   simp [hx, hy2]
 ·rcases Int.lt_or_le y 0 with hy | hy
  ·have : (-y) * 1 ≤ (-y) * q := Int.mul_le_mul_of_nonneg_left (by omega) (by omega)
   rw [Int.neg_mul, Int.neg_mul, Int.mul_one] at this
   have hx : x < 0 := by omega
   simp [hx, hy]
  ·have : 0 ≤ y * q := Int.mul_nonneg (by omega) (by omega)
   have hx : ¬ x < 0 := by omega
   have hy2 : ¬ y < 0 := by omega
   simp [hx, hy2]
set_option maxRecDepth 100000 in
theorem divmodZ {x y : Int} (hx : x.natAbs < bp 32) (hy : y.natAbs < bp 32) (h0 : y ≠ 0) (w : World) : Calls Tryz.prog 140 #[.agg (IC x), .agg (IC y)] w (RetB (.tuple #[.agg (IC (x / y)), .agg (IC (x % y)), .int .i64 0]) w) := by
 have F := Fr.start w
 have hy0 : y.natAbs ≠ 0 := by omega
 have ez := eqz y.natAbs hy
 rw [← magZ, decide_eq_false hy0] at ez
 have hdm : x.natAbs / y.natAbs ≤ x.natAbs := Nat.div_le_self _ _
 have hmm : x.natAbs % y.natAbs < y.natAbs := Nat.mod_lt _ (by omega)
 have hS := divS (x := x) h0
 have hN := divN (x := x) h0
 have hC := divC (x := x) h0
 have hD : x.natAbs % y.natAbs ≠ 0 → x.natAbs / y.natAbs + 1 ≤ x.natAbs := fun h => by
  have h1 : 1 < y.natAbs := by
   rcases Nat.lt_or_ge 1 y.natAbs with h1 | h1
   ·exact h1
   ·have : y.natAbs = 1 := by omega
    rw [this, Nat.mod_one] at h
    exact absurd rfl h
  have h2 : 0 < x.natAbs := by
   rcases Nat.eq_zero_or_pos x.natAbs with h2 | h2
   ·rw [h2, Nat.zero_mod] at h
    exact absurd rfl h
   ·exact h2
  exact Nat.div_lt_self h2 h1
 obtain ⟨c, hc⟩ : ∃ c, x.natAbs / y.natAbs = c := ⟨_, rfl⟩
 obtain ⟨d, hd⟩ : ∃ d, x.natAbs % y.natAbs = d := ⟨_, rfl⟩
 have gd := fun {W : World} {b k : Nat} (h1 : MagAt W b x.natAbs) (h2 : MagAt W k y.natAbs) => divide_any h1 h2 hx hy hy0
 rw [hc, hd] at gd hD hN hC
 rw [hc] at hdm
 rw [hd] at hmm
 have ld : d < bp 32 := by omega
 have lc : c < bp 32 := by omega
 have ed := eqz d ld
 rw [← magZ] at ed
 have s1 := fun w => splitZ hx w
 have s2 := fun w => splitZ hy w
 obtain ⟨p, hp⟩ : ∃ p, decide (x < 0) = p := ⟨_, rfl⟩
 obtain ⟨q, hq⟩ : ∃ q, decide (y < 0) = q := ⟨_, rfl⟩
 rw [hp] at s1 hS
 rw [hq] at s2 hS
 have hcs : ∃ c' d' : Nat, c' < bp 32 ∧ d' < bp 32 ∧ c' = (x / y).natAbs ∧ (d' : Int) = x % y ∧ (if p = true ∧ d ≠ 0 then c' = c + 1 ∧ d' = y.natAbs - d ∧ c + 1 < bp 32 else c' = c ∧ d' = d) := by
  by_cases h : p = true ∧ d ≠ 0
  ·have h1 : x < 0 := by simpa [h.1] using hp
   obtain ⟨e1, e2⟩ := hC ⟨h1, h.2⟩
   have := hD h.2
   exact ⟨c + 1, y.natAbs - d, by omega, by omega, e1, e2, by rw [if_pos h]; exact ⟨rfl, rfl, by omega⟩⟩
  ·have h1 : ¬ (x < 0 ∧ d ≠ 0) := fun h1 => h ⟨by simpa [h1.1] using hp.symm, h1.2⟩
   obtain ⟨e1, e2⟩ := hN h1
   exact ⟨c, d, lc, ld, e1, e2, by rw [if_neg h]; exact ⟨rfl, rfl⟩⟩
 obtain ⟨c', d', lc', ld', hcc, hdd, hif⟩ := hcs
 have m1 := fun w => madeZ (n := p != q) lc' hcc hS.1 hS.2 w
 have m2 := fun w => madeZ (n := false) (x := x % y) ld' (by omega) (by omega) (fun _ => rfl) w
 have HI := Lib.hid hif
 have HX := Lib.hid (And.intro hx (And.intro hy hmm))
 clear hc hd hS hN hC hD hp hq hif hcc hdd hx hy h0 hmm hdm
 go_enter Tryz.func140, Tryz.ntmps140
 go_wp2_with (first | go_skip | refine aY1 ?_ | (refine aT1 ?_; clear F; intro W F) | refine aN0 ?_)
 (clear F; intro b2 W F; try simp only [Act.put, z6, z1, z2])
 go_wp2_with (first | go_skip | refine aY1 ?_ | (refine aT1 ?_; clear F; intro W F) | refine aN0 ?_)
 (clear F; intro b3 W F; try simp only [Act.put, z6, z1, z2])
 go_wp2_with (first | go_skip | refine aY1 ?_ | (refine aT1 ?_; clear F; intro W F) | refine aN0 ?_)
 (clear F; intro b4 W F; try simp only [Act.put, z6, z1, z2])
 go_wp2_with (first | go_skip | refine aY1 ?_ | (refine aT1 ?_; clear F; intro W F) | refine aN0 ?_)
 (clear F; intro b5 W F; try simp only [Act.put, z6, z1, z2])
 go_wp2_with (first | go_skip | ((go_at_call 141); (with_reducible refine fr_call F (s1 _) ?_); (clear F; intro W F); (try dsimp only)) | refine aY1 ?_ | (refine aT1 ?_; clear F; intro W F) | refine aN0 ?_)
 (clear F; intro b8 W F; try simp only [Act.put, z6, z1, z2])
 go_wp2_with (first | go_skip | ((go_at_call 141); (with_reducible refine fr_call F (s2 _) ?_); (clear F; intro W F); (try dsimp only)) | refine aY1 ?_ | (refine aT1 ?_; clear F; intro W F) | refine aN0 ?_)
 (clear F; intro b10 W F; try simp only [Act.put, z6, z1, z2])
 go_wp2_with (first | go_skip | ((go_at_call 196); (with_reducible refine fr_call F (gd ?_ ?_) ?_); (apply Fr.get F; (exact tL)); (apply Fr.get F; (exact tL)); (clear F; intro W F); (try dsimp only)) | refine aY1 ?_ | (refine aT1 ?_; clear F; intro W F) | refine aN0 ?_)
 (clear F; intro b11 W F; try simp only [Act.put, z6, z1, z2])
 go_wp2_with (first | go_skip | refine aY1 ?_ | (refine aT1 ?_; clear F; intro W F) | refine aN0 ?_)
 (clear F; intro b12 W F; try simp only [Act.put, z6, z1, z2])
 by_cases hcase : p = true ∧ d ≠ 0
 ·obtain ⟨rfl, hdne⟩ := hcase
  have hi := HI.out
  rw [if_pos ⟨rfl, hdne⟩] at hi
  obtain ⟨rfl, rfl, hl⟩ := hi
  rw [decide_eq_false hdne] at ed
  have pl := fun {W : World} {g k : Nat} (h1 : MagAt W g c) (h2 : MagAt W k 1) => plus_any h1 h2 lc (by decide) (Nat.mod_eq_of_lt hl) (decide_eq_true hl)
  have mi := fun {W : World} {g k : Nat} (h1 : MagAt W g y.natAbs) (h2 : MagAt W k d) => minus_any h1 h2 HX.out.2.1 ld (Nat.le_of_lt HX.out.2.2)
  have mo : (true != q) = !q := by cases q <;> rfl
  rw [mo] at m1
  clear HI hl hdne mo
  go_wp2_with (first | go_skip | refine aY1 ?_ | (refine aT1 ?_; clear F; intro W F) | refine aN0 ?_)
  (clear F; intro b40 W F; try simp only [Act.put, z6, z1, z2])
  go_wp2_with (first | go_skip | ((go_at_call 197); (with_reducible refine fr_call F (pl ?_ ?_) ?_); (apply Fr.get F; (exact tL)); (apply Fr.get F; (exact tL)); (clear F; intro W F); (try dsimp only)) | ((go_at_call 198); (with_reducible refine fr_call F (mi ?_ ?_) ?_); (apply Fr.get F; (exact tL)); (apply Fr.get F; (exact tL)); (clear F; intro W F); (try dsimp only)) | refine aY1 ?_ | (refine aT1 ?_; clear F; intro W F) | refine aN0 ?_)
  clear ed ez
  replace F := F.sub (L' := [(b12, limA 32 (y.natAbs - d), 155), (b11, limA 32 (c + 1), 155), (b5, intC false 0, 29), (b4, intC false 0, 29)]) (by repeat (first | exact List.Sublist.slnil | apply List.Sublist.cons_cons | apply List.Sublist.cons))
  try simp only [Act.put, z6, z1, z2]
  refine wp_region_slots mixP [6, 45, 46, 47, 48, 49, 50, 51] (fun l mm W => ∃ (s6 s45 s46 s47 s48 s49 s50 s51 : Value) (c_b4 c_b5 : Array Value), mm = [s6, s45, s46, s47, s48, s49, s50, s51] ∧ Fr w W [(b12, limA 32 (y.natAbs - d), 155), (b11, limA 32 (c + 1), 155), (b5, c_b5, 29), (b4, c_b4, 29)] ∧ On l 0 [s45 = .bool true, s46 = .bool q, s47 = .bool (!q), s48 = .agg (limA 32 (c + 1)), s49 = .agg (IC (x / y)), s50 = .agg (limA 32 (y.natAbs - d)), s51 = .agg (IC (x % y)), c_b4 = IC (x / y), c_b5 = IC (x % y), s6 = .int .i64 0] ∧ c_b4.size = (IC (x / y)).size ∧ c_b5.size = (IC (x % y)).size ∧ True) (by kernel_rfl) (putAll_self _ _) ?_ ?_ ?_
  ·exact ⟨_, _, _, _, _, _, _, _, (intC false 0), (intC false 0), rfl, F.drew, On.none _ _ _, dT⟩
  ·rintro listed mm W ii hi hsz hoff ⟨s6, s45, s46, s47, s48, s49, s50, s51, c_b4, c_b5, rfl, HF, hH, hz0, hz1, -⟩ hd
   simp only [putAll, z1, z2]
   obtain rfl | rfl | rfl | rfl | rfl | rfl | rfl | rfl | rfl | rfl := dr_c10 hi
   ·exact oP
   ·exact oP
   ·obtain rfl : s45 = _ := dh 0 hH hd
    obtain rfl : s46 = _ := dh 1 hH hd
    exact oP
   ·exact oY1
   ·obtain rfl : s47 = _ := dh 2 hH hd
    obtain rfl : s48 = _ := dh 3 hH hd
    refine ow rfl rfl fun K hK => ?_
    refine ⟨?_⟩
    go_simp
    with_reducible refine fr_call HF (m1 _) ?_
    exact oC
   ·exact oY1
   ·obtain rfl : s50 = _ := dh 5 hH hd
    refine ow rfl rfl fun K hK => ?_
    refine ⟨?_⟩
    go_simp
    with_reducible refine fr_call HF (m2 _) ?_
    exact oC
   ·obtain rfl : s49 = _ := dh 4 hH hd
    exact oT1
   ·obtain rfl : s51 = _ := dh 6 hH hd
    exact oT1
   ·exact oP
  rintro listed mm W ⟨s6, s45, s46, s47, s48, s49, s50, s51, c_b4, c_b5, rfl, HF, hH, hz0, hz1, -⟩ hall
  obtain ⟨rfl, rfl, rfl, rfl, rfl, rfl, rfl, e7, e8, rfl⟩ := onA hH hall
  rw [e7] at HF
  rw [e8] at HF
  clear hall hH e7 e8 hz0 hz1 F
  have F := HF
  clear HF
  simp only [putAll, z1, z2]
  go_wp2_with (first | go_skip | refine aY1 ?_ | (refine aT1 ?_; clear F; intro W F) | refine aN0 ?_)
  exact bodyPost_ret (res_ccs rfl rfl rfl rfl (Fr.get F tL) (rowInt _ _) (Fr.get F tL) (rowInt _ _)) rfl ⟨rfl, F.below⟩
 ·have hi := HI.out
  rw [if_neg hcase] at hi
  obtain ⟨rfl, rfl⟩ := hi
  cases p
  ·have mo : (false != q) = q := by cases q <;> rfl
   rw [mo] at m1
   go_wp2_with (first | go_skip | refine aY1 ?_ | (refine aT1 ?_; clear F; intro W F) | refine aN0 ?_)
   clear ed ez
   replace F := F.sub (L' := [(b12, limA 32 d', 155), (b11, limA 32 c', 155), (b5, intC false 0, 29), (b4, intC false 0, 29)]) (by repeat (first | exact List.Sublist.slnil | apply List.Sublist.cons_cons | apply List.Sublist.cons))
   try simp only [Act.put, z6, z1, z2]
   refine wp_region_slots mixP [6, 45, 46, 47, 48, 49, 50, 51] (fun l mm W => ∃ (s6 s45 s46 s47 s48 s49 s50 s51 : Value) (c_b4 c_b5 : Array Value), mm = [s6, s45, s46, s47, s48, s49, s50, s51] ∧ Fr w W [(b12, limA 32 d', 155), (b11, limA 32 c', 155), (b5, c_b5, 29), (b4, c_b4, 29)] ∧ On l 0 [s45 = .bool false, s46 = .bool q, s47 = .bool q, s48 = .agg (limA 32 c'), s49 = .agg (IC (x / y)), s50 = .agg (limA 32 d'), s51 = .agg (IC (x % y)), c_b4 = IC (x / y), c_b5 = IC (x % y), s6 = .int .i64 0] ∧ c_b4.size = (IC (x / y)).size ∧ c_b5.size = (IC (x % y)).size ∧ True) (by kernel_rfl) (putAll_self _ _) ?_ ?_ ?_
   ·exact ⟨_, _, _, _, _, _, _, _, (intC false 0), (intC false 0), rfl, F.drew, On.none _ _ _, dT⟩
   ·rintro listed mm W ii hi hsz hoff ⟨s6, s45, s46, s47, s48, s49, s50, s51, c_b4, c_b5, rfl, HF, hH, hz0, hz1, -⟩ hd
    simp only [putAll, z1, z2]
    obtain rfl | rfl | rfl | rfl | rfl | rfl | rfl | rfl | rfl | rfl := dr_c10 hi
    ·exact oP
    ·exact oP
    ·obtain rfl : s45 = _ := dh 0 hH hd
     obtain rfl : s46 = _ := dh 1 hH hd
     exact oP
    ·exact oY1
    ·obtain rfl : s47 = _ := dh 2 hH hd
     obtain rfl : s48 = _ := dh 3 hH hd
     refine ow rfl rfl fun K hK => ?_
     refine ⟨?_⟩
     go_simp
     with_reducible refine fr_call HF (m1 _) ?_
     exact oC
    ·exact oY1
    ·obtain rfl : s50 = _ := dh 5 hH hd
     refine ow rfl rfl fun K hK => ?_
     refine ⟨?_⟩
     go_simp
     with_reducible refine fr_call HF (m2 _) ?_
     exact oC
    ·obtain rfl : s49 = _ := dh 4 hH hd
     exact oT1
    ·obtain rfl : s51 = _ := dh 6 hH hd
     exact oT1
    ·exact oP
   rintro listed mm W ⟨s6, s45, s46, s47, s48, s49, s50, s51, c_b4, c_b5, rfl, HF, hH, hz0, hz1, -⟩ hall
   obtain ⟨rfl, rfl, rfl, rfl, rfl, rfl, rfl, e7, e8, rfl⟩ := onA hH hall
   rw [e7] at HF
   rw [e8] at HF
   clear hall hH e7 e8 hz0 hz1 F
   have F := HF
   clear HF
   simp only [putAll, z1, z2]
   go_wp2_with (first | go_skip | refine aY1 ?_ | (refine aT1 ?_; clear F; intro W F) | refine aN0 ?_)
   exact bodyPost_ret (res_ccs rfl rfl rfl rfl (Fr.get F tL) (rowInt _ _) (Fr.get F tL) (rowInt _ _)) rfl ⟨rfl, F.below⟩
  ·have mo : (true != q) = !q := by cases q <;> rfl
   rw [mo] at m1
   have hd0 : decide (d' = 0) = true := by
    rw [decide_eq_true_eq]
    refine Classical.byContradiction fun h => hcase ⟨rfl, h⟩
   rw [hd0] at ed
   clear hcase hd0
   go_wp2_with (first | go_skip | refine aY1 ?_ | (refine aT1 ?_; clear F; intro W F) | refine aN0 ?_)
   clear ed ez
   replace F := F.sub (L' := [(b12, limA 32 d', 155), (b11, limA 32 c', 155), (b5, intC false 0, 29), (b4, intC false 0, 29)]) (by repeat (first | exact List.Sublist.slnil | apply List.Sublist.cons_cons | apply List.Sublist.cons))
   try simp only [Act.put, z6, z1, z2]
   refine wp_region_slots mixP [6, 45, 46, 47, 48, 49, 50, 51] (fun l mm W => ∃ (s6 s45 s46 s47 s48 s49 s50 s51 : Value) (c_b4 c_b5 : Array Value), mm = [s6, s45, s46, s47, s48, s49, s50, s51] ∧ Fr w W [(b12, limA 32 d', 155), (b11, limA 32 c', 155), (b5, c_b5, 29), (b4, c_b4, 29)] ∧ On l 0 [s45 = .bool true, s46 = .bool q, s47 = .bool (!q), s48 = .agg (limA 32 c'), s49 = .agg (IC (x / y)), s50 = .agg (limA 32 d'), s51 = .agg (IC (x % y)), c_b4 = IC (x / y), c_b5 = IC (x % y), s6 = .int .i64 0] ∧ c_b4.size = (IC (x / y)).size ∧ c_b5.size = (IC (x % y)).size ∧ True) (by kernel_rfl) (putAll_self _ _) ?_ ?_ ?_
   ·exact ⟨_, _, _, _, _, _, _, _, (intC false 0), (intC false 0), rfl, F.drew, On.none _ _ _, dT⟩
   ·rintro listed mm W ii hi hsz hoff ⟨s6, s45, s46, s47, s48, s49, s50, s51, c_b4, c_b5, rfl, HF, hH, hz0, hz1, -⟩ hd
    simp only [putAll, z1, z2]
    obtain rfl | rfl | rfl | rfl | rfl | rfl | rfl | rfl | rfl | rfl := dr_c10 hi
    ·exact oP
    ·exact oP
    ·obtain rfl : s45 = _ := dh 0 hH hd
     obtain rfl : s46 = _ := dh 1 hH hd
     exact oP
    ·exact oY1
    ·obtain rfl : s47 = _ := dh 2 hH hd
     obtain rfl : s48 = _ := dh 3 hH hd
     refine ow rfl rfl fun K hK => ?_
     refine ⟨?_⟩
     go_simp
     with_reducible refine fr_call HF (m1 _) ?_
     exact oC
    ·exact oY1
    ·obtain rfl : s50 = _ := dh 5 hH hd
     refine ow rfl rfl fun K hK => ?_
     refine ⟨?_⟩
     go_simp
     with_reducible refine fr_call HF (m2 _) ?_
     exact oC
    ·obtain rfl : s49 = _ := dh 4 hH hd
     exact oT1
    ·obtain rfl : s51 = _ := dh 6 hH hd
     exact oT1
    ·exact oP
   rintro listed mm W ⟨s6, s45, s46, s47, s48, s49, s50, s51, c_b4, c_b5, rfl, HF, hH, hz0, hz1, -⟩ hall
   obtain ⟨rfl, rfl, rfl, rfl, rfl, rfl, rfl, e7, e8, rfl⟩ := onA hH hall
   rw [e7] at HF
   rw [e8] at HF
   clear hall hH e7 e8 hz0 hz1 F
   have F := HF
   clear HF
   simp only [putAll, z1, z2]
   go_wp2_with (first | go_skip | refine aY1 ?_ | (refine aT1 ?_; clear F; intro W F) | refine aN0 ?_)
   exact bodyPost_ret (res_ccs rfl rfl rfl rfl (Fr.get F tL) (rowInt _ _) (Fr.get F tL) (rowInt _ _)) rfl ⟨rfl, F.below⟩
end
section
open Go.RowKit
set_option maxHeartbeats 2000000
set_option maxRecDepth 100000 in
theorem gcd_any {x y : Bool} {a b : Nat} (hx : a < bp 32) (hy : b < bp 32) (w : World) : Calls Tryz.prog 182 #[.agg (intC x a), .agg (intC y b)] w (RetB (.agg (IC (Nat.gcd a b : Nat))) w) := by
 have F := Fr.start w
 have s1 := fun w => splitC (neg := x) hx w
 have s2 := fun w => splitC (neg := y) hy w
 obtain ⟨p, hp⟩ : ∃ p, canB x a = p := ⟨_, rfl⟩
 obtain ⟨q, hq⟩ : ∃ q, canB y b = q := ⟨_, rfl⟩
 rw [hp] at s1
 rw [hq] at s2
 obtain ⟨g, hg⟩ : ∃ g, Nat.gcd a b = g := ⟨_, rfl⟩
 rw [hg]
 have HG := Lib.hid hg
 have HX := Lib.hid (show a < bp 32 ∧ b < bp 32 from ⟨hx, hy⟩)
 clear hp hq hg hx hy
 go_enter Tryz.func182, Tryz.ntmps182
 go_wp2_with (first | go_skip | refine aY1 ?_ | (refine aT1 ?_; clear F; intro W F) | refine aN0 ?_)
 (clear F; intro b2 W F; try simp only [Act.put, z6, z1, z2])
 go_wp2_with (first | go_skip | refine aY1 ?_ | (refine aT1 ?_; clear F; intro W F) | refine aN0 ?_)
 (clear F; intro b3 W F; try simp only [Act.put, z6, z1, z2])
 go_wp2_with (first | go_skip | refine aY1 ?_ | (refine aT1 ?_; clear F; intro W F) | refine aN0 ?_)
 (clear F; intro b4 W F; try simp only [Act.put, z6, z1, z2])
 go_wp2_with (first | go_skip | ((go_at_call 141); (with_reducible refine fr_call F (s1 _) ?_); (clear F; intro W F); (try dsimp only)) | refine aY1 ?_ | (refine aT1 ?_; clear F; intro W F) | refine aN0 ?_)
 (clear F; intro b6 W F; try simp only [Act.put, z6, z1, z2])
 go_wp2_with (first | go_skip | ((go_at_call 141); (with_reducible refine fr_call F (s2 _) ?_); (clear F; intro W F); (try dsimp only)) | refine aY1 ?_ | (refine aT1 ?_; clear F; intro W F) | refine aN0 ?_)
 (clear F; intro b8 W F; try simp only [Act.put, z6, z1, z2])
 go_wp2_with (first | go_skip | refine aY1 ?_ | (refine aT1 ?_; clear F; intro W F) | refine aN0 ?_)
 replace F := F.sub (L' := [(b8, limA 32 b, 155), (b6, limA 32 a, 155), (b4, intC false 0, 29)]) (by repeat (first | exact List.Sublist.slnil | apply List.Sublist.cons_cons | apply List.Sublist.cons))
 go_loopw [] (fun wr => ∃ m n : Nat, m < bp 32 ∧ n < bp 32 ∧ Nat.gcd m n = Nat.gcd a b ∧ Fr w wr [(b8, limA 32 n, 155), (b6, limA 32 m, 155), (b4, intC false 0, 29)]) (fun wr => magOf wr b8)
 case atStart => exact ⟨a, b, HX.out.1, HX.out.2, rfl, F⟩
 case round =>
  obtain ⟨m, n, hm, hn, hg, F⟩ := hrel
  have HGG := Lib.hid hg
  have HF := Lib.hid (magOf_is hn (F.get (Lies.here)))
  clear hg
  have ez := eqz n hn
  rw [← magZ] at ez
  by_cases h0 : n = 0
  ·have hd0 : decide (n = 0) = true := decide_eq_true h0
   rw [hd0] at ez
   have e := HGG.out
   rw [h0, Nat.gcd_zero_right] at e
   have m1 := fun w => madeZ (n := false) (x := (g : Int)) hm (by rw [e, HG.out, Int.natAbs_natCast]) (by omega) (fun _ => rfl) w
   clear e h0 hd0
   go_wp2_with (first | go_skip | ((go_at_call 185); (with_reducible refine fr_call F (m1 _) ?_); (clear F; intro W F); (try dsimp only)) | refine aY1 ?_ | (refine aT1 ?_; clear F; intro W F) | refine aN0 ?_)
   exact bodyPost_ret (res_c rfl rfl (Fr.get F tL) (rowInt _ _)) rfl ⟨rfl, F.below⟩
  ·have hd0 : decide (n = 0) = false := decide_eq_false h0
   rw [hd0] at ez
   obtain ⟨c, hc⟩ : ∃ c, m / n = c := ⟨_, rfl⟩
   obtain ⟨d, hd⟩ : ∃ d, m % n = d := ⟨_, rfl⟩
   have gd := fun {W : World} {b k : Nat} (h1 : MagAt W b m) (h2 : MagAt W k n) => divide_any h1 h2 hm hn h0
   rw [hc, hd] at gd
   have hdn : d < n := by rw [← hd]; exact Nat.mod_lt _ (by omega)
   have hg2 : Nat.gcd n d = Nat.gcd a b := by rw [← hd, ← HGG.out, Nat.gcd_comm m n, Nat.gcd_rec n m, Nat.gcd_comm]
   have HG2 := Lib.hid hg2
   clear hc hd hg2 hd0
   go_wp2_with (first | go_skip | ((go_at_call 196); (with_reducible refine fr_call F (gd ?_ ?_) ?_); (apply Fr.get F; (exact tL)); (apply Fr.get F; (exact tL)); (clear F; intro W F); (try dsimp only)) | refine aY1 ?_ | (refine aT1 ?_; clear F; intro W F) | refine aN0 ?_)
   (clear F; intro b9 W F; try simp only [Act.put, z6, z1, z2])
   go_wp2_with (first | go_skip | refine aY1 ?_ | (refine aT1 ?_; clear F; intro W F) | refine aN0 ?_)
   (clear F; intro b10 W F; try simp only [Act.put, z6, z1, z2])
   go_wp2_with (first | go_skip | refine aY1 ?_ | (refine aT1 ?_; clear F; intro W F) | refine aN0 ?_)
   clear ez
   try simp only [Act.put, z6, z1, z2]
   refine wp_region_slots mixP [28, 29] (fun l mm W => ∃ (s28 s29 : Value) (c_b6 c_b8 : Array Value), mm = [s28, s29] ∧ Fr w W [(b10, limA 32 d, 155), (b9, limA 32 c, 155), (b8, c_b8, 155), (b6, c_b6, 155), (b4, intC false 0, 29)] ∧ On l 0 [s28 = .agg (limA 32 n), s29 = .agg (limA 32 d), c_b6 = limA 32 n, c_b8 = limA 32 d] ∧ Wt l [(3, 0)] ∧ (l.getD 3 false = false → c_b8 = limA 32 n) ∧ c_b6.size = (limA 32 n).size ∧ c_b8.size = (limA 32 d).size ∧ True) (by kernel_rfl) (putAll_self _ _) ?_ ?_ ?_
   ·exact ⟨_, _, (limA 32 m), (limA 32 n), rfl, F.drew, On.none _ _ _, Wt.none _ _, fun _ => rfl, dT⟩
   ·rintro listed mm W ii hi hsz hoff ⟨s28, s29, c_b6, c_b8, rfl, HF, hH, hw, hO_b8, hz0, hz1, -⟩ hd
    simp only [putAll, z1, z2]
    obtain rfl | rfl | rfl | rfl := dr_c4 hi
    ·have hold := oldG hO_b8 hw hoff
     rw [hold] at HF
     exact oY1o
    ·exact oY1
    ·obtain rfl : s28 = _ := dh 0 hH hd
     exact oT1
    ·obtain rfl : s29 = _ := dh 1 hH hd
     exact oT1
   rintro listed mm W ⟨s28, s29, c_b6, c_b8, rfl, HF, hH, hw, hO_b8, hz0, hz1, -⟩ hall
   obtain ⟨rfl, rfl, e2, e3⟩ := onA hH hall
   rw [e2] at HF
   rw [e3] at HF
   clear hall hH e2 e3 hw hO_b8 hz0 hz1 F
   have F := HF
   clear HF
   simp only [putAll, z1, z2]
   replace F := F.sub (L' := [(b8, limA 32 d, 155), (b6, limA 32 n, 155), (b4, intC false 0, 29)]) (by repeat (first | exact List.Sublist.slnil | apply List.Sublist.cons_cons | apply List.Sublist.cons))
   go_wp2_with fail
   go_roundw
   case rel => exact ⟨n, d, hn, by omega, HG2.out, F⟩
   case measure =>
    rw [HF.out, magOf_is (by omega) (F.get (Lies.here))]
    exact hdn
theorem gcdZ {x y : Int} (hx : x.natAbs < bp 32) (hy : y.natAbs < bp 32) (w : World) : Calls Tryz.prog 182 #[.agg (IC x), .agg (IC y)] w (RetB (.agg (IC (Int.gcd x y))) w) := gcd_any hx hy w
end
section
open Go.RowKit
def ratC (x : Bool) (a : Nat) (y : Bool) (b : Nat) : Array Value := intC x a ++ intC y b
def RC (n d : Int) : Array Value := IC n ++ IC d
theorem ratC_size (x : Bool) (a : Nat) (y : Bool) (b : Nat) : (ratC x a y b).size = 66 := by simp [ratC, intC_size]
theorem RC_size (n d : Int) : (RC n d).size = 66 := by simp [RC, IC_size]
theorem rowRatT : RowT Tryz.prog 31 66 := ⟨⟨_, Tryz.underlying31, rfl⟩, by kernel_rfl⟩
theorem rowRat (x : Bool) (a : Nat) (y : Bool) (b : Nat) : RowV Tryz.prog 31 (ratC x a y b) := ⟨by rw [ratC_size]; exact rowRatT, by
 have h1 := (rowInt x a).one
 have h2 := (rowInt y b).one
 unfold ratC
 rw [Array.all_append, h1, h2]
 rfl⟩
theorem rowRC (n d : Int) : RowV Tryz.prog 31 (RC n d) := rowRat _ _ _ _
theorem rat_num (x : Bool) (a : Nat) (y : Bool) (b : Nat) : ((ratC x a y b).toList.drop 0).take (intC x a).size = (intC x a).toList := by
 unfold ratC
 rw [List.drop_zero, Array.toList_append, List.take_append_of_le_length (by simp), List.take_of_length_le (by simp)]
theorem rat_den (x : Bool) (a : Nat) (y : Bool) (b : Nat) : ((ratC x a y b).toList.drop 33).take (intC y b).size = (intC y b).toList := by
 unfold ratC
 have h : (intC x a).toList.length = 33 := by rw [Array.length_toList, intC_size]
 rw [Array.toList_append, List.drop_append_of_le_length (by omega), List.drop_of_length_le (by omega), List.nil_append, List.take_of_length_le (by simp)]
theorem RC_num (n d : Int) : ((RC n d).toList.drop 0).take (IC n).size = (IC n).toList := rat_num _ _ _ _
theorem RC_den (n d : Int) : ((RC n d).toList.drop 33).take (IC d).size = (IC d).toList := rat_den _ _ _ _
theorem tR2 {T : TypeId} {cs : Array Value} (h : RowV Tryz.prog T cs := by first | (with_reducible exact rowRC _ _) | (with_reducible exact rowInt _ _) | (with_reducible exact rowIC _) | (with_reducible exact rowRat _ _ _ _) | (with_reducible exact rowMag _)) : RowV Tryz.prog T cs := h
theorem tS2 {a b : Nat} (h : a = b := by first | (focus (simp only [IC_size, intC_size, limA_size, RC_size, ratC_size]; done)) | with_unfolding_all exact rfl) : a = b := h
theorem tM2 {l l' : List Value} (h : l = l' := by first | (with_reducible exact RC_num _ _) | (with_reducible exact RC_den _ _) | (with_reducible exact rat_num _ _ _ _) | (with_reducible exact rat_den _ _ _ _)) : l = l' := h
theorem ratZ : RC 0 0 = #[.bool false, .int .u32 0, .int .u32 0, .int .u32 0, .int .u32 0, .int .u32 0, .int .u32 0, .int .u32 0, .int .u32 0, .int .u32 0, .int .u32 0, .int .u32 0, .int .u32 0, .int .u32 0, .int .u32 0, .int .u32 0, .int .u32 0, .int .u32 0, .int .u32 0, .int .u32 0, .int .u32 0, .int .u32 0, .int .u32 0, .int .u32 0, .int .u32 0, .int .u32 0, .int .u32 0, .int .u32 0, .int .u32 0, .int .u32 0, .int .u32 0, .int .u32 0, .int .u32 0, .bool false, .int .u32 0, .int .u32 0, .int .u32 0, .int .u32 0, .int .u32 0, .int .u32 0, .int .u32 0, .int .u32 0, .int .u32 0, .int .u32 0, .int .u32 0, .int .u32 0, .int .u32 0, .int .u32 0, .int .u32 0, .int .u32 0, .int .u32 0, .int .u32 0, .int .u32 0, .int .u32 0, .int .u32 0, .int .u32 0, .int .u32 0, .int .u32 0, .int .u32 0, .int .u32 0, .int .u32 0, .int .u32 0, .int .u32 0, .int .u32 0, .int .u32 0, .int .u32 0] := by
 have h : IC 0 = #[.bool false, .int .u32 0, .int .u32 0, .int .u32 0, .int .u32 0, .int .u32 0, .int .u32 0, .int .u32 0, .int .u32 0, .int .u32 0, .int .u32 0, .int .u32 0, .int .u32 0, .int .u32 0, .int .u32 0, .int .u32 0, .int .u32 0, .int .u32 0, .int .u32 0, .int .u32 0, .int .u32 0, .int .u32 0, .int .u32 0, .int .u32 0, .int .u32 0, .int .u32 0, .int .u32 0, .int .u32 0, .int .u32 0, .int .u32 0, .int .u32 0, .int .u32 0, .int .u32 0] := intZ
 unfold RC
 rw [h]
 rfl
theorem built_ratR (x : Bool) (a : Nat) (y : Bool) (b : Nat) : Tryz.prog.built 31 [(0, .agg (intC x a)), (1, .agg (intC y b))] = some (ratC x a y b) := by kernel_rfl
theorem built_rat (n d : Int) : Tryz.prog.built 31 [(0, .agg (IC n)), (1, .agg (IC d))] = some (RC n d) := built_ratR _ _ _ _
theorem built_ratZ : Tryz.prog.built 31 [] = some (RC 0 0) := by rw [ratZ]; kernel_rfl
section
variable {o : Oper} {a : Act} {W w : World} {F : List Ent} {K : Act → World → Prop} {Q : Exit → Act → World → Prop} {ops : Array Oper} {rest : List Oper}
theorem alloc_rat (ho : o.op = .alloc 31) : (execOp a.eval o).run Tryz.prog W = .ok (.value (.pointer (some ⟨W.heap.size, 0, none⟩))) (W.alloc (.cells (RC 0 0) 31)) := by
 obtain ⟨dst, op, pos, af, g, x⟩ := o
 subst ho
 rw [ratZ]
 go_simp
 rfl
theorem box_rat {x : Operand} {cs : Array Value} (ho : o.op = .box 31 x) (hx : a.eval x = .agg cs) : (execOp a.eval o).run Tryz.prog W = .ok (.value (.pointer (some ⟨W.heap.size, 0, none⟩))) (W.alloc (.cells cs 31)) := by
 obtain ⟨dst, op, pos, af, g, z⟩ := o
 subst ho
 unfold execOp
 simp only [hx]
 go_simp
theorem op_alloc_rat (h : Fr w W F) (ho : o.op = .alloc 31) (hk : Hold (∀ b W', Fr w W' ((b, RC 0 0, 31) :: F) → K (a.put o.dst (.pointer (some ⟨b, 0, none⟩))) W')) : OpW Tryz.prog o a W K Q := op_alloc h (alloc_rat ho) hk
theorem op_box_rat {x : Operand} {cs : Array Value} (h : Fr w W F) (ho : o.op = .box 31 x) (hx : a.eval x = .agg cs) (hk : Hold (∀ b W', Fr w W' ((b, cs, 31) :: F) → K (a.put o.dst (.pointer (some ⟨b, 0, none⟩))) W')) : OpW Tryz.prog o a W K Q := op_alloc h (box_rat ho hx) hk
theorem opB_rat0 (ho : o.op = .build 31 #[]) (hk : K (a.put o.dst (.agg (RC 0 0))) W) : OpW Tryz.prog o a W K Q :=
 op_build _ _ ho (by simp only [List.map_toArray, List.map_nil]; exact built_ratZ) hk
theorem opB_rat {x y : Operand} {n d : Int} (ho : o.op = .build 31 #[(0, x), (1, y)]) (hx : a.eval x = .agg (IC n)) (hy : a.eval y = .agg (IC d)) (hk : K (a.put o.dst (.agg (RC n d))) W) : OpW Tryz.prog o a W K Q :=
 op_build _ _ ho (by simp only [List.map_toArray, List.map_cons, List.map_nil, hx, hy]; exact built_rat n d) hk
end
section
variable {a : Act} {w W : World} {K : Act → World → Prop} {Q : Exit → Act → World → Prop} {F A L : List Ent} {b : Nat} {cs ds : Array Value} {t T : TypeId} {x y : Operand} {ops : Array Oper} {rest : List Oper} {dst : Option Tmp} {ty : TypeId} {pos : String} {af : Array Edge} {gd : Option (Nat × Bool)}
theorem gA_rat  (h : Fr w W F)  (hk : Hold (∀ b W', Fr w W' ((b, RC 0 0, 31) :: F) → K (a.put dst (.pointer (some ⟨b, 0, none⟩))) W')) : OpW Tryz.prog ⟨dst, .alloc 31, ty, pos, af, gd⟩ a W K Q := op_alloc_rat h rfl hk
theorem gX_rat  (h : Fr w W F) (hx : a.eval x = .agg cs) (hk : Hold (∀ b W', Fr w W' ((b, cs, 31) :: F) → K (a.put dst (.pointer (some ⟨b, 0, none⟩))) W')) : OpW Tryz.prog ⟨dst, .box 31 x, ty, pos, af, gd⟩ a W K Q := op_box_rat h rfl hx hk
theorem gB_rat0   (hk : K (a.put dst (.agg (RC 0 0))) W) : OpW Tryz.prog ⟨dst, .build 31 #[], ty, pos, af, gd⟩ a W K Q := opB_rat0 rfl  hk
theorem gB_rat {n d : Int} (hx : a.eval x = .agg (IC n)) (hy : a.eval y = .agg (IC d)) (hk : K (a.put dst (.agg (RC n d))) W) : OpW Tryz.prog ⟨dst, .build 31 #[(0, x), (1, y)], ty, pos, af, gd⟩ a W K Q := opB_rat rfl hx hy hk
end
end
section
open Go.RowKit
section
variable {op : Op} {a : Act} {w W : World} {F F' A L : List Ent} {b k : Nat} {cs ds cs' : Array Value} {t T : TypeId} {x y : Operand}
theorem nA_rat : Nw Tryz.prog (.alloc 31) a F (RC 0 0) 31 := ⟨fun h hk => gA_rat h hk⟩
theorem nX_rat (hx : a.eval x = .agg cs) : Nw Tryz.prog (.box 31 x) a F cs 31 := ⟨fun h hk => gX_rat h hx hk⟩
theorem yB_rat0 : Yld Tryz.prog (.build 31 #[]) a F (.agg (RC 0 0)) := ⟨fun h hk => gB_rat0 hk⟩
theorem yB_rat {n d : Int} (hx : a.eval x = .agg (IC n)) (hy : a.eval y = .agg (IC d)) : Yld Tryz.prog (.build 31 #[(0, x), (1, y)]) a F (.agg (RC n d)) := ⟨fun h hk => gB_rat hx hy hk⟩
theorem jY2 {p : Prop} (h : p := by (first
 | (apply yL; exact rfl; exact tL; exact tR2)
 | (apply yLm; exact rfl; exact tL; exact tM2; exact tR2)
 | exact yB_int0
 | exact yB_mag0
 | exact yB_mag1
 | exact yB_int rfl rfl
 | exact yB_rat0
 | exact yB_rat rfl rfl)) : p := h
theorem kY2 {p q : Prop} (h : p ∧ q := by (refine ⟨?_, ?_⟩; exact rfl; exact jY2)) : p ∧ q := h
theorem jT2 {p : Prop} (h : p := by (first
 | (apply sS; exact rfl; exact rfl; exact tL; exact tR2; exact tS2; (simp only [z7, z8]; exact rfl)))) : p := h
theorem kT2 {p q : Prop} (h : p ∧ q := by (refine ⟨?_, ?_⟩; exact rfl; exact jT2)) : p ∧ q := h
theorem jN2 {p : Prop} (h : p := by (first | exact nA_int | exact nX_int rfl | exact nA_mag | exact nX_mag rfl | exact nA_rat | exact nX_rat rfl)) : p := h
theorem kN2 {p q : Prop} (h : p ∧ q := by (refine ⟨?_, ?_⟩; exact rfl; exact jN2)) : p ∧ q := h
end
section
variable {P : Program} {op : Op} {a : Act} {w W : World} {F F' : List Ent} {v : Value} {Q : Exit → Act → World → Prop} {ops : Array Oper} {rest : List Oper} {dst : Option Tmp} {ty : TypeId} {pos : String} {af : Array Edge} {gd : Option (Nat × Bool)} {cs : Array Value} {t : TypeId}
theorem aY2 (hk : wpList P ops Q rest (a.put dst v) W) (h : Fr w W F := by exact F) (hc : Region.wanted ⟨dst, op, ty, pos, af, gd⟩ (yielded ops a.tmps) = true ∧ Yld P op a F v := by exact kY2) : wpList P ops Q (⟨dst, op, ty, pos, af, gd⟩ :: rest) a W := fY h hc hk
theorem aT2 (hk : ∀ W', Fr w W' F' → wpList P ops Q rest a W') (h : Fr w W F := by exact F) (hc : Region.wanted ⟨none, op, ty, pos, af, gd⟩ (yielded ops a.tmps) = true ∧ Str P op a F F' := by exact kT2) : wpList P ops Q (⟨none, op, ty, pos, af, gd⟩ :: rest) a W := fT h hc hk
theorem aN2 (hk : Hold (∀ b W', Fr w W' ((b, cs, t) :: F) → wpList P ops Q rest (a.put dst (.pointer (some ⟨b, 0, none⟩))) W')) (h : Fr w W F := by exact F) (hc : Region.wanted ⟨dst, op, ty, pos, af, gd⟩ (yielded ops a.tmps) = true ∧ Nw P op a F cs t := by exact kN2) : wpList P ops Q (⟨dst, op, ty, pos, af, gd⟩ :: rest) a W := fN h hc hk
end
theorem oY2 {p : Prop} (h : p := by (refine ow rfl rfl fun K hK => ?_; (with_reducible apply gY HF); exact jY2; go_simp; exact hK _ _ dK)) : p := h
theorem oY2o {p : Prop} (h : p := by (refine ow rfl rfl fun K hK => ?_; (with_reducible apply gY HF); exact jY2; (rw [← hold] at HF); go_simp; exact hK _ _ dK)) : p := h
theorem oT2 {p : Prop} (h : p := by (refine ow rfl rfl fun K hK => ?_; (with_reducible apply gS HF); exact rfl; exact rfl; exact tL; exact tR2; (first | with_reducible assumption | exact tS2); exact oU)) : p := h
end
section
open Go.RowKit
section
variable {o : Oper} {a : Act} {W : World}
theorem alloc_arr (ho : o.op = .alloc 27) : (execOp a.eval o).run Tryz.prog W = .ok (.value (.pointer (some ⟨W.heap.size, 0, none⟩))) (W.alloc (.cells (limA 32 0) 27)) := by
 obtain ⟨dst, op, pos, af, g, x⟩ := o
 subst ho
 rw [magZ]
 go_simp
theorem box_arr {x : Operand} {cs : Array Value} (ho : o.op = .box 27 x) (hx : a.eval x = .agg cs) : (execOp a.eval o).run Tryz.prog W = .ok (.value (.pointer (some ⟨W.heap.size, 0, none⟩))) (W.alloc (.cells cs 27)) := by
 obtain ⟨dst, op, pos, af, g, z⟩ := o
 subst ho
 unfold execOp
 simp only [hx]
 go_simp
theorem op_alloc_arr {w : World} {F : List Ent} {K : Act → World → Prop} {Q : Exit → Act → World → Prop} (h : Fr w W F) (ho : o.op = .alloc 27) (hk : Hold (∀ b W', Fr w W' ((b, limA 32 0, 27) :: F) → K (a.put o.dst (.pointer (some ⟨b, 0, none⟩))) W')) : OpW Tryz.prog o a W K Q := op_alloc h (alloc_arr ho) hk
theorem op_box_arr {w : World} {F : List Ent} {K : Act → World → Prop} {Q : Exit → Act → World → Prop} {x : Operand} {cs : Array Value} (h : Fr w W F) (ho : o.op = .box 27 x) (hx : a.eval x = .agg cs) (hk : Hold (∀ b W', Fr w W' ((b, cs, 27) :: F) → K (a.put o.dst (.pointer (some ⟨b, 0, none⟩))) W')) : OpW Tryz.prog o a W K Q := op_alloc h (box_arr ho hx) hk
theorem built_arrZ : Tryz.prog.built 27 [] = some (limA 32 0) := by rw [magZ]; kernel_rfl
theorem opB_arr0  {K : Act → World → Prop} {Q : Exit → Act → World → Prop} (ho : o.op = .build 27 #[])  (hk : K (a.put o.dst (.agg (limA 32 0))) W) : OpW Tryz.prog o a W K Q :=
 op_build _ _ ho (by simp only [List.map_toArray, List.map_cons, List.map_nil]; exact built_arrZ) hk
end
section
variable {a : Act} {w W : World} {K : Act → World → Prop} {Q : Exit → Act → World → Prop} {F A L : List Ent} {b : Nat} {cs ds : Array Value} {t T : TypeId} {x y : Operand} {ops : Array Oper} {rest : List Oper} {dst : Option Tmp} {ty : TypeId} {pos : String} {af : Array Edge} {gd : Option (Nat × Bool)}
theorem gA_arr  (h : Fr w W F)  (hk : Hold (∀ b W', Fr w W' ((b, limA 32 0, 27) :: F) → K (a.put dst (.pointer (some ⟨b, 0, none⟩))) W')) : OpW Tryz.prog ⟨dst, .alloc 27, ty, pos, af, gd⟩ a W K Q := op_alloc_arr h rfl hk
theorem gX_arr  (h : Fr w W F) (hx : a.eval x = .agg cs) (hk : Hold (∀ b W', Fr w W' ((b, cs, 27) :: F) → K (a.put dst (.pointer (some ⟨b, 0, none⟩))) W')) : OpW Tryz.prog ⟨dst, .box 27 x, ty, pos, af, gd⟩ a W K Q := op_box_arr h rfl hx hk
theorem gB_arr0   (hk : K (a.put dst (.agg (limA 32 0))) W) : OpW Tryz.prog ⟨dst, .build 27 #[], ty, pos, af, gd⟩ a W K Q := opB_arr0 rfl  hk
end
theorem IC_tail (z : Int) : ((IC z).toList.drop 1).take (limA 32 z.natAbs).size = (limA 32 z.natAbs).toList := intC_tail _ _
theorem tR3 {T : TypeId} {cs : Array Value} (h : RowV Tryz.prog T cs := by first | (with_reducible exact rowRC _ _) | (with_reducible exact rowInt _ _) | (with_reducible exact rowIC _) | (with_reducible exact rowArr _) | (with_reducible exact rowRat _ _ _ _) | (with_reducible exact rowMag _)) : RowV Tryz.prog T cs := h
theorem tM3 {l l' : List Value} (h : l = l' := by first | (with_reducible exact RC_num _ _) | (with_reducible exact RC_den _ _) | (with_reducible exact rat_num _ _ _ _) | (with_reducible exact rat_den _ _ _ _) | (with_reducible exact intC_tail _ _) | (with_reducible exact IC_tail _)) : l = l' := h
end
section
open Go.RowKit
section
variable {op : Op} {a : Act} {w W : World} {F F' A L : List Ent} {b k : Nat} {cs ds cs' : Array Value} {t T : TypeId} {x y : Operand}
theorem nA_arr : Nw Tryz.prog (.alloc 27) a F (limA 32 0) 27 := ⟨fun h hk => gA_arr h hk⟩
theorem nX_arr (hx : a.eval x = .agg cs) : Nw Tryz.prog (.box 27 x) a F cs 27 := ⟨fun h hk => gX_arr h hx hk⟩
theorem yB_arr0 : Yld Tryz.prog (.build 27 #[]) a F (.agg (limA 32 0)) := ⟨fun h hk => gB_arr0 hk⟩
theorem jY3 {p : Prop} (h : p := by (first
 | (apply yL; exact rfl; exact tL; exact tR3)
 | (apply yLm; exact rfl; exact tL; exact tM3; exact tR3)
 | exact yB_int0
 | exact yB_mag0
 | exact yB_mag1
 | exact yB_int rfl rfl
 | exact yB_rat0
 | exact yB_rat rfl rfl
 | exact yB_arr0)) : p := h
theorem kY3 {p q : Prop} (h : p ∧ q := by (refine ⟨?_, ?_⟩; exact rfl; exact jY3)) : p ∧ q := h
theorem jT3 {p : Prop} (h : p := by (first
 | (apply sS; exact rfl; exact rfl; exact tL; exact tR3; exact tS2; (simp only [z7, z8]; exact rfl)))) : p := h
theorem kT3 {p q : Prop} (h : p ∧ q := by (refine ⟨?_, ?_⟩; exact rfl; exact jT3)) : p ∧ q := h
theorem jN3 {p : Prop} (h : p := by (first | exact nA_int | exact nX_int rfl | exact nA_mag | exact nX_mag rfl | exact nA_rat | exact nX_rat rfl | exact nA_arr | exact nX_arr rfl)) : p := h
theorem kN3 {p q : Prop} (h : p ∧ q := by (refine ⟨?_, ?_⟩; exact rfl; exact jN3)) : p ∧ q := h
end
section
variable {P : Program} {op : Op} {a : Act} {w W : World} {F F' : List Ent} {v : Value} {Q : Exit → Act → World → Prop} {ops : Array Oper} {rest : List Oper} {dst : Option Tmp} {ty : TypeId} {pos : String} {af : Array Edge} {gd : Option (Nat × Bool)} {cs : Array Value} {t : TypeId}
theorem aY3 (hk : wpList P ops Q rest (a.put dst v) W) (h : Fr w W F := by exact F) (hc : Region.wanted ⟨dst, op, ty, pos, af, gd⟩ (yielded ops a.tmps) = true ∧ Yld P op a F v := by exact kY3) : wpList P ops Q (⟨dst, op, ty, pos, af, gd⟩ :: rest) a W := fY h hc hk
theorem aT3 (hk : ∀ W', Fr w W' F' → wpList P ops Q rest a W') (h : Fr w W F := by exact F) (hc : Region.wanted ⟨none, op, ty, pos, af, gd⟩ (yielded ops a.tmps) = true ∧ Str P op a F F' := by exact kT3) : wpList P ops Q (⟨none, op, ty, pos, af, gd⟩ :: rest) a W := fT h hc hk
theorem aN3 (hk : Hold (∀ b W', Fr w W' ((b, cs, t) :: F) → wpList P ops Q rest (a.put dst (.pointer (some ⟨b, 0, none⟩))) W')) (h : Fr w W F := by exact F) (hc : Region.wanted ⟨dst, op, ty, pos, af, gd⟩ (yielded ops a.tmps) = true ∧ Nw P op a F cs t := by exact kN3) : wpList P ops Q (⟨dst, op, ty, pos, af, gd⟩ :: rest) a W := fN h hc hk
end
theorem oY3 {p : Prop} (h : p := by (refine ow rfl rfl fun K hK => ?_; (with_reducible apply gY HF); exact jY3; go_simp; exact hK _ _ dK)) : p := h
theorem oY3o {p : Prop} (h : p := by (refine ow rfl rfl fun K hK => ?_; (with_reducible apply gY HF); exact jY3; (rw [← hold] at HF); go_simp; exact hK _ _ dK)) : p := h
theorem oT3 {p : Prop} (h : p := by (refine ow rfl rfl fun K hK => ?_; (with_reducible apply gS HF); exact rfl; exact rfl; exact tL; exact tR3; (first | with_reducible assumption | exact tS2); exact oU)) : p := h
end
section
section
open Go.RowKit
structure TapeAt (w : World) (B b n : Nat) : Prop where
 base : B ≤ b
 ex : ∃ (A : Option Addr) (L : List Int) (cap p : Nat), L.length ≤ 9223372036854775807 ∧ p + n ≤ 1000000000 ∧
  w.heap[b]? = some (.cells #[.slice A L.length cap, .int .i64 p] 43 (0, 0)) ∧
  ∀ k x, L[k]? = some x → ∃ bb o, A = some ⟨bb, o, none⟩ ∧ bb < B ∧ w.cell? ⟨bb, o + k, none⟩ = some (.int .i64 x)
theorem TapeAt.lt {w : World} {B b n : Nat} (h : TapeAt w B b n) : b < w.heap.size := by
 obtain ⟨_, A, L, cap, p, _, _, h, _⟩ := h
 exact (Array.getElem?_eq_some_iff.1 h).1
theorem TapeAt.keep {w w' : World} {B b n : Nat} (h : TapeAt w B b n) (h1 : ∀ k, k < B → w'.heap[k]? = w.heap[k]?) (h2 : w'.heap[b]? = w.heap[b]?) : TapeAt w' B b n := by
 obtain ⟨hb, A, L, cap, p, hl, hp, hc, he⟩ := h
 refine ⟨hb, A, L, cap, p, hl, hp, h2.trans hc, fun k x hx => ?_⟩
 obtain ⟨bb, o, hA, hlt, hcell⟩ := he k x hx
 exact ⟨bb, o, hA, hlt, (World.cell?_of_block (w := w) (h1 bb hlt)).trans hcell⟩
theorem TapeAt.below {w w' : World} {B b n : Nat} (h : TapeAt w B b n) (hb : Below w.heap.size w w') : TapeAt w' B b n :=
 h.keep (fun k hk => hb.block k (by have := h.lt; have := h.base; omega)) (hb.block b h.lt)
theorem TapeAt.alloc {w : World} {B b n : Nat} (h : TapeAt w B b n) (o : Obj) : TapeAt (w.alloc o) B b n := h.below (bal0 w o)
theorem TapeAt.setCell {w : World} {B b n : Nat} (h : TapeAt w B b n) {p : Addr} (hB : B ≤ p.block) (hne : p.block ≠ b) (v : Value) : TapeAt (w.setCell p v) B b n :=
 h.keep (fun k hk => Below.heap_setCell w p v k (by omega)) (Below.heap_setCell w p v b (by omega))
abbrev Only (b : Nat) (w w' : World) : Prop := w.grownBy w' (some b)
theorem only_refl (b : Nat) (w : World) : Only b w w := ⟨rfl, rfl, rfl, Nat.le_refl _, fun _ _ _ => rfl⟩
theorem only_trans {b : Nat} {x y z : World} (h : Only b x y) (k : Only b y z) : Only b x z :=
 ⟨k.os.trans h.os, k.tape.trans h.tape, k.output.trans h.output, Nat.le_trans h.size k.size, fun i hi hne => (k.block i (Nat.lt_of_lt_of_le hi h.size) hne).trans (h.block i hi hne)⟩
theorem only_below {b : Nat} {x y : World} (h : Below x.heap.size x y) : Only b x y := ⟨h.os, h.tape, h.output, h.size, fun i hi _ => h.block i hi⟩
theorem only_next {b : Nat} {x y z : World} (h : Only b x y) (k : Below y.heap.size y z) : Only b x z := only_trans h (only_below k)
end
end
section
open Go.RowKit
structure Tp (w0 u : World) (B b N : Nat) : Prop where
 only : Only b w0 u
 tape : TapeAt u B b N
section
variable {w0 u W W' : World} {L : List Ent} {B b N : Nat}
theorem Tp.start (h : TapeAt w0 B b N) : Tp w0 w0 B b N := ⟨only_refl _ _, h⟩
theorem Tp.at (h : Tp w0 u B b N) (F : Fr u W L) : TapeAt W B b N := h.tape.below F.below
theorem Tp.out (h : Tp w0 u B b N) (F : Fr u W L) : Only b w0 W := only_next h.only F.below
theorem Fr.tape (F : Fr u W L) {n : Nat} (hT : TapeAt u B b n) (hT' : TapeAt W' B b N) (ho : Only b W W') : ∃ u', Only b u u' ∧ TapeAt u' B b N ∧ Fr u' W' L := by
 have hb := hT.lt
 have hB := hT.base
 have hsz := F.below.size
 obtain ⟨x, hx⟩ : ∃ x, W'.heap[b]? = some x := ⟨_, Array.getElem?_eq_getElem hT'.lt⟩
 let u' : World := { u with heap := u.heap.setIfInBounds b x }
 have hs : u'.heap.size = u.heap.size := by simp [u']
 have hblk : ∀ k, k < u.heap.size → W'.heap[k]? = u'.heap[k]? := by
  intro k hk
  by_cases e : k = b
  ·subst e
   rw [hx]
   simp [u', hk]
  ·have h1 : u'.heap[k]? = u.heap[k]? := by simp [u', Ne.symm e]
   rw [h1, ← F.below.block k hk]
   exact ho.block k (by omega) (by intro e2; injection e2 with e2; exact e e2)
 have hbl : Below u'.heap.size u' W' := ⟨ho.os.trans F.below.os, ho.tape.trans F.below.tape, ho.output.trans F.below.output, by have := ho.size; omega, fun k hk => hblk k (by omega)⟩
 refine ⟨u', ⟨rfl, rfl, rfl, by omega, fun k hk hne => ?_⟩, ?_, hbl, fun y hy => ?_, fun y hy => by rw [hs]; exact F.own y hy, F.dis⟩
 ·have hk2 : k ≠ b := fun e => hne (by rw [e])
  simp [u', Ne.symm hk2]
 ·exact hT'.keep (fun k hk => (hblk k (by omega)).symm) (hblk b hb).symm
 ·have h1 := F.blk y hy
  have h2 := F.own y hy
  exact ⟨(ho.block _ h1.lt (by intro e; injection e with e; omega)).trans h1.blk⟩
end
end
section
open Go.RowKit
def bm (n m : Nat) : Array Bool := ⟨(List.range n).map fun i => m.testBit i⟩
theorem bm_none (n : Nat) : Array.replicate n false = bm n 0 := by
 apply Array.toList_inj.1
 unfold bm
 simp only [Array.toList_replicate, Nat.zero_testBit, List.map_const', List.length_range]
section
variable {P : Program} {md : Region.Mode} {ops : Array Oper} {Q : Exit → Act → World → Prop} {n m m' i fuel : Nat} {o : Oper} {a : Act} {w : World} {rs : List Nat}
theorem wp_region_bm {id : Nat} (n : Nat) (hm : P.follows .mixedOrders = true) (hn : ops.size = n) (h : wpAny P .any ops Q n (bm n 0) a w.drew) : (Code.region id ops true).wp P Q a w := by
 subst hn
 refine wp_region_any hm ?_
 rw [bm_none]
 exact h
theorem dg_ready (rs : List Nat) (hr : Region.ready md ops (bm n m) = rs) (hne : rs.isEmpty = false) (h : AllReady P md ops Q fuel (bm n m) a w rs) : wpAny P md ops Q (fuel + 1) (bm n m) a w :=
 wpAny_ready hr (by intro e; subst e; simp at hne) h
theorem dg_want (i m' : Nat) (ho : ops[i]? = some o) (hl : (bm n m).setIfInBounds i true = bm n m') (hw : Region.wanted o (yielded ops a.tmps) = true)
  (h : ∀ K : Act → World → Prop, (∀ a' w', wpAny P md ops Q fuel (bm n m') a' w' → K a' w') → OpW P o a w K Q) (hs : AllReady P md ops Q fuel (bm n m) a w rs) : AllReady P md ops Q fuel (bm n m) a w (i :: rs) :=
 AllReady.cons ho (fun K hK => by rw [if_pos hw]; rw [hl] at hK; exact (h K hK).out) hs
theorem dg_skip (i m' : Nat) (ho : ops[i]? = some o) (hl : (bm n m).setIfInBounds i true = bm n m') (hw : Region.wanted o (yielded ops a.tmps) = false)
  (h : wpAny P md ops Q fuel (bm n m') (a.put o.dst undef) w) (hs : AllReady P md ops Q fuel (bm n m) a w rs) : AllReady P md ops Q fuel (bm n m) a w (i :: rs) :=
 AllReady.cons ho (fun K hK => by rw [if_neg (by simp [hw])]; rw [hl] at hK; exact hK _ _ h) hs
theorem dg_nil : AllReady P md ops Q fuel (bm n m) a w [] := AllReady.nil
theorem dg_one (i m' : Nat) (hr : Region.ready md ops (bm n m) = [i]) (ho : ops[i]? = some o) (hl : (bm n m).setIfInBounds i true = bm n m') (hw : Region.wanted o (yielded ops a.tmps) = true)
  (h : ∀ K : Act → World → Prop, (∀ a' w', wpAny P md ops Q fuel (bm n m') a' w' → K a' w') → OpW P o a w K Q) : wpAny P md ops Q (fuel + 1) (bm n m) a w :=
 dg_ready [i] hr rfl (dg_want i m' ho hl hw h dg_nil)
theorem dg_oneS (i m' : Nat) (hr : Region.ready md ops (bm n m) = [i]) (ho : ops[i]? = some o) (hl : (bm n m).setIfInBounds i true = bm n m') (hw : Region.wanted o (yielded ops a.tmps) = false)
  (h : wpAny P md ops Q fuel (bm n m') (a.put o.dst undef) w) : wpAny P md ops Q (fuel + 1) (bm n m) a w :=
 dg_ready [i] hr rfl (dg_skip i m' ho hl hw h dg_nil)
theorem dg_take (i d m' : Nat) {oi : Oper} {tmps : List Value} {ds : List Deferred} {v : Value} (hi : ops[i]? = some oi) (hd : oi.dst = some d)
  (hs : Region.noSelect ops = true) (hf : Region.free md ops (bm n m) i = true) (hr : (Region.ready md ops (bm n m)).contains i = true) (hl : (bm n m).setIfInBounds i true = bm n m')
  (hQ : ∀ c a w, Q (.panic c) (a.put oi.dst v) w → Q (.panic c) a w) (hy : Yields P ops oi v ⟨⟨tmps⟩, ds⟩)
  (h : wpAny P md ops Q fuel (bm n m') ⟨⟨tmps.set d v⟩, ds⟩ w) : wpAny P md ops Q (fuel + 1) (bm n m) ⟨⟨tmps⟩, ds⟩ w := by
 refine rg_take i d hi hd hs hf hr hQ hy ?_
 rw [hl]
 exact h
theorem dg_meet (f' m' : Nat) {w0 : World} {ts1 : List Value} {ds : List Deferred} {F' : List Ent} (h : (∀ W, Fr w0 W F' → wpAny P md ops Q f' (bm n m') ⟨⟨ts1⟩, ds⟩ W) → wpAny P md ops Q fuel (bm n m) a w) (hr : ∀ W, Fr w0 W F' → wpAny P md ops Q f' (bm n m') ⟨⟨ts1⟩, ds⟩ W) : wpAny P md ops Q fuel (bm n m) a w := h hr
theorem dg_end (hr : Region.ready md ops (bm n m) = []) (h : Q .normal a w) (f : Nat) : wpAny P md ops Q f (bm n m) a w := wpAny_done hr h f
end
end
section
open Go.RowKit
structure SlT (P : Program) (t e : TypeId) (s : Nat) : Prop where
 sl : P.underlying t = some (.slice e)
 info : ((P.info? e).map fun i => (i.size, i.zero.isSome)) = some (s, true)
def flatC (vs : List Value) : Array Value := (vs.flatMap fun v => v.cells.toList).toArray
theorem flatC_strs (l : List ByteArray) : flatC (l.map Value.string) = (l.map Value.string).toArray := by
 unfold flatC
 congr 1
 induction l with
 | nil => rfl
 | cons x l ih => rw [List.map_cons, List.flatMap_cons, ih]; rfl
section
variable {P : Program} {o : Oper} {a : Act} {w W : World} {F : List Ent} {K : Act → World → Prop} {Q : Exit → Act → World → Prop} {t e : TypeId} {s : Nat} {parts : Array (Nat × Operand)} {len : Nat} {vs : List Value} {ops : Array Oper} {rest : List Oper} {dst : Option Tmp} {ty : TypeId} {pos : String} {af : Array Edge} {gd : Option (Nat × Bool)}
theorem zip_parts : ∀ (l : List (Nat × Operand)) (k : Nat), l.map (·.1) = List.range' k l.length → (l.map fun x => (x.1, a.eval x.2)) = ((l.map fun x => a.eval x.2).zipIdx k).map fun x => (x.2, x.1)
 | [], k, _ => rfl
 | (i, x) :: l, k, h => by
  rw [List.length_cons, List.range'_succ, List.map_cons] at h
  injection h with h1 h2
  have h1 : i = k := h1
  subst h1
  simp only [List.map_cons, List.zipIdx_cons]
  rw [zip_parts l (i + 1) h2]
theorem op_bslice (h : Fr w W F) (hT : SlT P t e s) (ho : o.op = .buildSlice t len parts) (hix : parts.toList.map (·.1) = List.range' 0 parts.toList.length) (hl : parts.toList.length = len) (hs : 0 < len * s) (hs2 : len * s ≤ 2 ^ 24)
    (hv : (parts.toList.map fun x => a.eval x.2) = vs) (h1 : vs.all (fun v => v.cells.size == s) = true)
    (hk : Hold (∀ b W', Fr w W' ((b, flatC vs, e) :: F) → K (a.put o.dst (.slice (some ⟨b, 0, none⟩) len len)) W')) : OpW P o a W K Q := by
  subst hv
  have hi := hT.info
  cases hie : P.info? e with
  | none => rw [hie] at hi; cases hi
  | some ie =>
    rw [hie] at hi
    simp only [Option.map_some, Option.some.injEq, Prod.mk.injEq] at hi
    obtain ⟨hsz, hz⟩ := hi
    obtain ⟨z, hzz⟩ := Option.isSome_iff_exists.1 hz
    refine ⟨wp_buildSlice t e len parts ho (flatC _) ie z hT.sl hie hzz (by rw [hsz]; omega) (by rw [hsz]; omega) ?_ (hk _ _ (h.alloc _ _))⟩
    rw [Array.toList_map]
    have e1 := zip_parts (a := a) parts.toList 0 hix
    rw [e1, hsz]
    refine Great.fill_whole (by rcases Nat.eq_zero_or_pos s with h0 | h0; · subst h0; simp at hs
                                · exact h0) _ _ (fun v hv => ?_) (by simp [hl])
    have := List.all_eq_true.1 h1 v hv
    simpa using this
theorem fSli (h : Fr w W F) (hT : SlT P t e s) (hw : Region.wanted ⟨dst, .buildSlice t len parts, ty, pos, af, gd⟩ (yielded ops a.tmps) = true) (hix : parts.toList.map (·.1) = List.range' 0 parts.toList.length) (hl : parts.toList.length = len) (hs : 0 < len * s) (hs2 : len * s ≤ 2 ^ 24) (hv : (parts.toList.map fun x => a.eval x.2) = vs) (h1 : vs.all (fun v => v.cells.size == s) = true)
  (hk : Hold (∀ b W', Fr w W' ((b, flatC vs, e) :: F) → wpList P ops Q rest (a.put dst (.slice (some ⟨b, 0, none⟩) len len)) W')) : wpList P ops Q (⟨dst, .buildSlice t len parts, ty, pos, af, gd⟩ :: rest) a W :=
 wpList_want hw fun K hK => (op_bslice h hT rfl hix hl hs hs2 hv h1 (fun b W' F => hK _ _ (hk b W' F))).out
end
theorem slInt : SlT Tryz.prog 40 3 1 := ⟨Tryz.underlying40, by kernel_rfl⟩
theorem slStr : SlT Tryz.prog 48 9 1 := ⟨Tryz.underlying48, by kernel_rfl⟩
end
section
open Go.RowKit
structure ScT (P : Program) (T : TypeId) : Prop where
 sz : (P.info? T).map (·.size) = some 1
 ag : ∃ d, P.underlying T = some d ∧ (match d with | .struct _ | .array _ _ => false | _ => true) = true
section
variable {P : Program} {T : TypeId} {v v0 : Value} {W : World} {p : Addr}
theorem run_load_cell (hT : ScT P T) (hc : W.cell? p = some v) : (loadVar T p).run P W = .ok v W := by
 obtain ⟨d, hu, hd⟩ := hT.ag
 have ha : (isAgg T).run P W = .ok false W := by
  unfold isAgg
  rw [Sem.run_bind, run_underlying hu W]
  cases d <;> simp_all
 simp [loadVar, ha, hc]
theorem run_store_cell {b k : Nat} (hT : ScT P T) (h1 : v.oneCell' = true) (hc : W.cell? ⟨b, k, none⟩ = some v0) (hf : W.frozen? ⟨b, k, none⟩ = false) : (storeVar T ⟨b, k, none⟩ v).run P W = .ok () (W.setCell ⟨b, k, none⟩ v) := by
 cases hi : P.info? T with
 | none => have := hT.sz; rw [hi] at this; cases this
 | some i =>
  have hs : i.size = 1 := by have := hT.sz; rw [hi] at this; simpa using this
  have hv : v.cells = #[v] := by cases v <;> simp_all [Value.cells, Value.oneCell']
  have hp : (⟨b, k, none⟩ : Addr).add 0 = ⟨b, k, none⟩ := rfl
  simp [storeVar, sizeOf, typeInfo, hi, hs, hv, storeCells, run_store P W _ v _ h1, stored, hp, hc, hf]
end
section
variable {P : Program} {a : Act} {w W : World} {K : Act → World → Prop} {Q : Exit → Act → World → Prop} {F A L : List Ent} {b k : Nat} {cs cs' : Array Value} {t T : TypeId} {x y : Operand} {ops : Array Oper} {rest : List Oper} {dst : Option Tmp} {ty : TypeId} {pos : String} {af : Array Edge} {gd : Option (Nat × Bool)} {v v0 : Value}
theorem gLc (h : Fr w W F) (hx : a.eval x = .pointer (some ⟨b, k, none⟩)) (hl : Lies F A b cs t L) (hT : ScT P T) (hc : cs[k]? = some v) (hk : K (a.put dst v) W) : OpW P ⟨dst, .load T x, ty, pos, af, gd⟩ a W K Q := by
 refine ⟨?_⟩
 unfold Oper.wp execOp
 simp only [hx, Instr.loadAt, Instr.sureAddr, Sem.run_bind, Sem.run_pure, Result.andThen_ok, run_load_cell hT ((h.get hl).cell hc)]
 exact hk
theorem fLc (h : Fr w W F) (hw : Region.wanted ⟨dst, .load T x, ty, pos, af, gd⟩ (yielded ops a.tmps) = true) (hx : a.eval x = .pointer (some ⟨b, k, none⟩)) (hl : Lies F A b cs t L) (hT : ScT P T) (hc : cs[k]? = some v) (hk : wpList P ops Q rest (a.put dst v) W) : wpList P ops Q (⟨dst, .load T x, ty, pos, af, gd⟩ :: rest) a W :=
 wpList_want hw fun K hK => (gLc h hx hl hT hc (hK _ _ hk)).out
theorem gSc (h : Fr w W F) (hx : a.eval x = .pointer (some ⟨b, k, none⟩)) (hy : a.eval y = v) (hl : Lies F A b cs t L) (hT : ScT P T) (h1 : v.oneCell' = true) (hc : cs[k]? = some v0) (he : cs.setIfInBounds k v = cs') (hk : ∀ W', Fr w W' (A ++ (b, cs', t) :: L) → K a W') : OpW P ⟨none, .store T x y, ty, pos, af, gd⟩ a W K Q := by
 have hb := h.get hl
 refine ⟨?_⟩
 unfold Oper.wp execOp
 simp only [hx, hy, Instr.storeAt, Instr.sureAddr, Sem.run_bind, Sem.run_pure, Result.andThen_ok, run_store_cell hT h1 (hb.cell hc) (hb.fz k)]
 have e := hl.eq
 subst e
 subst he
 exact hk _ (h.cellA k v)
end
theorem scInt : ScT Tryz.prog 3 := ⟨by kernel_rfl, _, Tryz.underlying3, rfl⟩
theorem scBool : ScT Tryz.prog 4 := ⟨by kernel_rfl, _, Tryz.underlying4, rfl⟩
theorem scStr : ScT Tryz.prog 9 := ⟨by kernel_rfl, _, Tryz.underlying9, rfl⟩
end
section
open Go.RowKit
theorem arr_und : ∃ e, Tryz.prog.underlying 27 = some (.array 32 e) ∧ Tryz.prog.underlying e = some (.int .u32) ∧ (Tryz.prog.info? e).map (·.size) = some 1 := ⟨_, Tryz.underlying27, by kernel_rfl, by kernel_rfl⟩
theorem eq_arrT {T : TypeId} (hT : ∃ e, Tryz.prog.underlying T = some (.array 32 e) ∧ Tryz.prog.underlying e = some (.int .u32) ∧ (Tryz.prog.info? e).map (·.size) = some 1) (d m k : Nat) (w : World) (hm : m < bp 32) (hk : k < bp 32) : (Op.equalIn (d + 2) T (.agg (limA 32 m)) (.agg (limA 32 k))).run Tryz.prog w = .ok (decide (m = k)) w := by
 obtain ⟨e, h1, h2, h3⟩ := hT
 have hD : ∀ (a b : Int) (w : World), (Op.equalIn (d + 1) e (.int .u32 a) (.int .u32 b)).run Tryz.prog w = .ok (a == b) w := fun a b w => run_equalIn_int w d e .u32 .u32 a b h2
 generalize hDD : d + 1 = D at hD
 rw [show d + 2 = D + 1 by omega]
 have hs : ∀ w, (sizeOf e).run Tryz.prog w = .ok 1 w := by
  intro w
  cases hi : Tryz.prog.info? e with
  | none => rw [hi] at h3; cases h3
  | some i =>
   rw [hi] at h3
   simp at h3
   simp [sizeOf, typeInfo, hi, h3]
 have hp : ∀ (n i : Nat) (w : World), i < 32 → (part e (limA 32 n) (i * 1)).run Tryz.prog w = .ok (.int .u32 (lim n i)) w := by
  intro n i w hi
  have ha : (isAgg e).run Tryz.prog w = .ok false w := by simp [isAgg, run_underlying h2]
  simp [part, ha, limA_at hi]
 simp only [Op.equalIn, Sem.run_bind, run_underlying h1, hs, Result.andThen_ok, Std.Legacy.Range.forIn_eq_forIn_range', Std.Legacy.Range.size, Nat.sub_zero, Nat.add_sub_cancel, Nat.div_one]
 rw [eq_loop (fun i => (lim m i : Int)) (fun i => (lim k i : Int)) (hp m) (hp k) hD 32 0 w (by omega)]
 have key : ((List.range' 0 32).all (fun j => (lim m j : Int) == (lim k j : Int))) = decide (m = k) := by
  by_cases h : m = k
  ·subst h
   simp
  ·rw [decide_eq_false h, Bool.eq_false_iff]
   intro hc2
   rw [List.all_eq_true] at hc2
   refine h (eq_of_lims 32 hm hk (fun j hj => ?_))
   have := hc2 j (by simp; omega)
   simp at this
   omega
 rw [key]
 by_cases h : m = k
 ·simp [h]
 ·simp [h]
theorem part_row {T : TypeId} {cs ds : Array Value} {k : Nat} (hd : (cs.toList.drop k).take ds.size = ds.toList) (hr : RowV Tryz.prog T ds) (w : World) : (part T cs k).run Tryz.prog w = .ok (.agg ds) w := by
 obtain ⟨d, hu, hd2⟩ := hr.row.row
 have ha : (isAgg T).run Tryz.prog w = .ok true w := by
  unfold isAgg
  rw [Sem.run_bind, run_underlying hu w]
  cases d <;> simp_all
 cases hq : Tryz.prog.info? T with
 | none =>
  have := hr.row.size
  simp [hq] at this
 | some i =>
  have hs : i.size = ds.size := by simpa [hq] using hr.row.size
  have he : cs.extract k (k + ds.size) = ds := by
   apply Array.toList_inj.1
   rw [Array.toList_extract, List.extract_eq_take_drop, Nat.add_sub_cancel_left, hd]
  simp [part, ha, sizeOf, typeInfo, hq, hs, he]
theorem eq_two {T T1 T2 o1 o2 : Nat} {D : Nat} {xs ys : Array Value} {u1 v1 u2 v2 : Value} {r1 r2 : Bool} (hT : ∃ fs, Tryz.prog.underlying T = some (.struct fs) ∧ fs.toList.map (fun f => (decide (f.name = "_"), f.type, f.offset)) = [(false, T1, o1), (false, T2, o2)]) (hp : Tryz.prog.stoodInHeld T = false)
  (p1 : ∀ w, (part T1 xs o1).run Tryz.prog w = .ok u1 w) (q1 : ∀ w, (part T1 ys o1).run Tryz.prog w = .ok v1 w) (p2 : ∀ w, (part T2 xs o2).run Tryz.prog w = .ok u2 w) (q2 : ∀ w, (part T2 ys o2).run Tryz.prog w = .ok v2 w)
  (e1 : ∀ w, (Op.equalIn D T1 u1 v1).run Tryz.prog w = .ok r1 w) (e2 : ∀ w, (Op.equalIn D T2 u2 v2).run Tryz.prog w = .ok r2 w) (w : World) : (Op.equalIn (D + 1) T (.agg xs) (.agg ys)).run Tryz.prog w = .ok (r1 && r2) w := by
 obtain ⟨fs, hu, hfs⟩ := hT
 have hfo : Tryz.prog.fieldsOf T = fs := by
  unfold Program.fieldsOf
  rw [hu]
 rw [run_equalIn_agg w D _ _ _ (by rw [hfo]; exact hu) hp, hfo]
 obtain ⟨f1, f2, hl⟩ : ∃ f1 f2, fs.toList = [f1, f2] := by
  cases h1 : fs.toList with
  | nil => rw [h1] at hfs; simp at hfs
  | cons f1 r =>
   cases r with
   | nil => rw [h1] at hfs; simp at hfs
   | cons f2 r =>
    cases r with
    | nil => exact ⟨f1, f2, rfl⟩
    | cons f3 r => rw [h1] at hfs; simp at hfs
 rw [hl] at hfs ⊢
 simp only [List.map_cons, List.map_nil, List.cons.injEq, Prod.mk.injEq, decide_eq_false_iff_not, and_true] at hfs
 obtain ⟨⟨n1, t1, o1e⟩, n2, t2, o2e⟩ := hfs
 simp only [Op.eqFields, t1, o1e, t2, o2e, if_pos n1, if_pos n2, Sem.run_bind, p1, q1, e1, Result.andThen_ok]
 cases r1
 ·simp
 ·simp only [Bool.not_true, Bool.false_eq_true, if_false, Sem.run_bind, p2, q2, e2, Result.andThen_ok, Bool.true_and]
  cases r2 <;> simp
theorem bool_und : Tryz.prog.underlying 4 = some .bool := Tryz.underlying4
theorem eq_int (d : Nat) (x : Bool) (a : Nat) (y : Bool) (b : Nat) (ha : a < bp 32) (hb : b < bp 32) (w : World) : (Op.equalIn (d + 3) 29 (.agg (intC x a)) (.agg (intC y b))).run Tryz.prog w = .ok ((x == y) && decide (a = b)) w := by
 have hb0 : ∀ (x : Bool) (a : Nat) (w : World), (part 4 (intC x a) 0).run Tryz.prog w = .ok (.bool x) w := by
  intro x a w
  have h1 : (isAgg 4).run Tryz.prog w = .ok false w := by simp [isAgg, run_underlying bool_und]
  simp [part, h1, intC_neg]
 exact eq_two ⟨_, Tryz.underlying29, by kernel_rfl⟩ (by kernel_rfl) (hb0 x a) (hb0 y b) (fun w => part_row (intC_tail x a) (rowArr a) w) (fun w => part_row (intC_tail y b) (rowArr b) w)
  (fun w => run_equalIn_bool' w (d + 1) _ _ _ bool_und) (fun w => eq_arrT arr_und d a b w ha hb) w
theorem eq_IC (d : Nat) {x y : Int} (hx : x.natAbs < bp 32) (hy : y.natAbs < bp 32) (w : World) : (Op.equalIn (d + 3) 29 (.agg (IC x)) (.agg (IC y))).run Tryz.prog w = .ok (decide (x = y)) w := by
 rw [show IC x = intC (decide (x < 0)) x.natAbs from rfl, show IC y = intC (decide (y < 0)) y.natAbs from rfl, eq_int d _ _ _ _ hx hy]
 congr 1
 by_cases h : x = y
 ·subst h
  simp
 ·rw [decide_eq_false h]
  by_cases h2 : x.natAbs = y.natAbs
  ·have h3 : (decide (x < 0) == decide (y < 0)) = false := by
    rw [beq_eq_false_iff_ne]
    intro h4
    rw [decide_eq_decide] at h4
    omega
   rw [h3]
   rfl
  ·rw [decide_eq_false h2, Bool.and_false]
theorem eq_rat (x : Bool) (a : Nat) (y : Bool) (b : Nat) (x' : Bool) (a' : Nat) (y' : Bool) (b' : Nat) (ha : a < bp 32) (hb : b < bp 32) (ha' : a' < bp 32) (hb' : b' < bp 32) (w : World) :
  (Op.equalIn 10000 31 (.agg (ratC x a y b)) (.agg (ratC x' a' y' b'))).run Tryz.prog w = .ok (((x == x') && decide (a = a')) && ((y == y') && decide (b = b'))) w :=
 eq_two (D := 9999) ⟨_, Tryz.underlying31, by kernel_rfl⟩ (by kernel_rfl) (fun w => part_row (rat_num x a y b) (rowInt x a) w) (fun w => part_row (rat_num x' a' y' b') (rowInt x' a') w) (fun w => part_row (rat_den x a y b) (rowInt y b) w) (fun w => part_row (rat_den x' a' y' b') (rowInt y' b') w)
  (fun w => eq_int 9996 _ _ _ _ ha ha' w) (fun w => eq_int 9996 _ _ _ _ hb hb' w) w
end
section
open Go.RowKit
set_option maxHeartbeats 2000000
theorem lim_two {a : Nat} (h : a < 18446744073709551616) : a = lim a 0 + lim a 1 * 4294967296 := by
 unfold lim
 rw [bp_zero, bp_one, Nat.div_one]
 omega
theorem mag2 {a : Nat} (h : a < 18446744073709551616) : limA 32 a = #[.int .u32 (lim a 0 : Nat), .int .u32 (lim a 1 : Nat), .int .u32 0, .int .u32 0, .int .u32 0, .int .u32 0, .int .u32 0, .int .u32 0, .int .u32 0, .int .u32 0, .int .u32 0, .int .u32 0, .int .u32 0, .int .u32 0, .int .u32 0, .int .u32 0, .int .u32 0, .int .u32 0, .int .u32 0, .int .u32 0, .int .u32 0, .int .u32 0, .int .u32 0, .int .u32 0, .int .u32 0, .int .u32 0, .int .u32 0, .int .u32 0, .int .u32 0, .int .u32 0, .int .u32 0, .int .u32 0] := by
 have hz : ∀ i, 2 ≤ i → lim a i = 0 := fun i hi => lim_ge (n := 2) (by unfold bp; omega) hi
 unfold limA
 rw [show List.range 32 = [0, 1, 2, 3, 4, 5, 6, 7, 8, 9, 10, 11, 12, 13, 14, 15, 16, 17, 18, 19, 20, 21, 22, 23, 24, 25, 26, 27, 28, 29, 30, 31] from rfl]
 simp only [List.map_cons, List.map_nil]
 simp [hz]
set_option maxRecDepth 100000 in
theorem fromZ {n : Int} (h1 : -9223372036854775808 ≤ n) (h2 : n < 9223372036854775808) (w : World) : Calls Tryz.prog 126 #[.int .i64 n] w (RetB (.agg (IC n)) w) := by
 have F := Fr.start w
 obtain ⟨a, ha⟩ : ∃ a, n.natAbs = a := ⟨_, rfl⟩
 have ha1 : a < 18446744073709551616 := by omega
 have ha2 : a < bp 32 := Nat.lt_of_lt_of_le (show a < bp 2 by unfold bp; omega) (bp_le (by decide))
 obtain ⟨l0, hl0⟩ : ∃ l, lim a 0 = l := ⟨_, rfl⟩
 obtain ⟨l1, hl1⟩ : ∃ l, lim a 1 = l := ⟨_, rfl⟩
 have hs := lim_two ha1
 have b0 := lim_lt a 0
 have b1 := lim_lt a 1
 rw [hl0] at b0 hs
 rw [hl1] at b1 hs
 have m1 := fun w => madeZ (n := decide (n < 0)) (x := n) ha2 ha.symm (fun h => decide_eq_true h) (fun h => decide_eq_false (by omega)) w
 rw [mag2 ha1, hl0, hl1] at m1
 have e2 : (a : Int) % 4294967296 = (l0 : Int) := by omega
 have e3 : (a : Int) / 4294967296 = (l1 : Int) := by omega
 have e4 : (l1 : Int) % 4294967296 = (l1 : Int) := by omega
 go_enter Tryz.func126, Tryz.ntmps126
 by_cases hn : n < 0
 ·rw [decide_eq_true hn] at m1
  have e1 : IntKind.u64.wrap (-IntKind.u64.wrap n) = (a : Int) := by
   rw [IntKind.wrap_u64, IntKind.wrap_u64]
   omega
  clear ha hl0 hl1 hs
  go_wp2_with (first | go_skip | refine aY1 ?_ | (refine aT1 ?_; clear F; intro W F) | refine aN0 ?_)
  (clear F; intro b2 W F; try simp only [Act.put, z6, z1, z2])
  go_wp2_with (first | go_skip | ((go_at_call 185); (with_reducible refine fr_call F (m1 _) ?_); (clear F; intro W F); (try dsimp only)) | refine aY1 ?_ | (refine aT1 ?_; clear F; intro W F) | refine aN0 ?_)
  exact bodyPost_ret (res_c rfl rfl (Fr.get F tL) (rowIC _)) rfl ⟨rfl, F.below⟩
 ·rw [decide_eq_false hn] at m1
  have hdc : decide (n < 0) = false := decide_eq_false hn
  have e1 : n = (a : Int) := by omega
  have e5 : n % 4294967296 = (l0 : Int) := by omega
  have e6 : n / 4294967296 = (l1 : Int) := by omega
  clear ha hl0 hl1 hs e1
  go_wp2_with (first | go_skip | refine aY1 ?_ | (refine aT1 ?_; clear F; intro W F) | refine aN0 ?_)
  (clear F; intro b2 W F; try simp only [Act.put, z6, z1, z2])
  go_wp2_with (first | go_skip | ((go_at_call 185); (with_reducible refine fr_call F (m1 _) ?_); (clear F; intro W F); (try dsimp only)) | refine aY1 ?_ | (refine aT1 ?_; clear F; intro W F) | refine aN0 ?_)
  exact bodyPost_ret (res_c rfl rfl (Fr.get F tL) (rowIC _)) rfl ⟨rfl, F.below⟩
end
section
open Go.RowKit
set_option maxHeartbeats 2000000
set_option maxRecDepth 100000 in
theorem fits_any {x : Bool} {a : Nat} {y : Bool} {b : Nat} (ha : a < bp 32) (hb : b < bp 32) {f : Bool} (hf : decide (bl a ≤ 480 ∧ bl b ≤ 480) = f) (w : World) : Calls Tryz.prog 184 #[.agg (ratC x a y b)] w (RetB (.bool f) w) := by
 have F := Fr.start w
 have g1 := fun w => bits_any (neg := x) ha w
 have g2 := fun w => bits_any (neg := y) hb w
 obtain ⟨n, hn⟩ : ∃ n, bl a = n := ⟨_, rfl⟩
 obtain ⟨m, hm⟩ : ∃ n, bl b = n := ⟨_, rfl⟩
 rw [hn] at g1
 rw [hm] at g2
 rw [hn, hm] at hf
 clear hn hm
 go_enter Tryz.func184, Tryz.ntmps184
 go_wp2_with (first | go_skip | refine aY2 ?_ | (refine aT2 ?_; clear F; intro W F) | refine aN2 ?_)
 (clear F; intro b1 W F; try simp only [Act.put, z6, z1, z2])
 by_cases h1 : n ≤ 480
 ·by_cases h2 : m ≤ 480
  ·rw [decide_eq_true ⟨h1, h2⟩] at hf
   subst hf
   have i1 : (n : Int) ≤ 480 := by omega
   have i2 : (m : Int) ≤ 480 := by omega
   clear h1 h2
   go_wp2_with (first | go_skip | ((go_at_call 225); (with_reducible refine fr_call F (g1 _) ?_); (clear F; intro W F); (try dsimp only)) | ((go_at_call 225); (with_reducible refine fr_call F (g2 _) ?_); (clear F; intro W F); (try dsimp only)) | refine aY2 ?_ | (refine aT2 ?_; clear F; intro W F) | refine aN2 ?_)
   go_ret
   exact ⟨rfl, F.below⟩
  ·rw [decide_eq_false (fun h => h2 h.2)] at hf
   subst hf
   have i1 : (n : Int) ≤ 480 := by omega
   have i2 : ¬ (m : Int) ≤ 480 := by omega
   clear h1 h2
   go_wp2_with (first | go_skip | ((go_at_call 225); (with_reducible refine fr_call F (g1 _) ?_); (clear F; intro W F); (try dsimp only)) | ((go_at_call 225); (with_reducible refine fr_call F (g2 _) ?_); (clear F; intro W F); (try dsimp only)) | refine aY2 ?_ | (refine aT2 ?_; clear F; intro W F) | refine aN2 ?_)
   go_ret
   exact ⟨rfl, F.below⟩
 ·rw [decide_eq_false (fun h => h1 h.1)] at hf
  subst hf
  have i1 : ¬ (n : Int) ≤ 480 := by omega
  clear h1
  go_wp2_with (first | go_skip | ((go_at_call 225); (with_reducible refine fr_call F (g1 _) ?_); (clear F; intro W F); (try dsimp only)) | ((go_at_call 225); (with_reducible refine fr_call F (g2 _) ?_); (clear F; intro W F); (try dsimp only)) | refine aY2 ?_ | (refine aT2 ?_; clear F; intro W F) | refine aN2 ?_)
  go_ret
  exact ⟨rfl, F.below⟩
theorem intC_0 (x : Bool) (a : Nat) : (intC x a)[0]? = some (.bool x) := intC_neg x a
set_option maxRecDepth 100000 in
theorem canonical_any {x : Bool} {a : Nat} (ha : a < bp 32) {f : Bool} (hf : (!x || !decide (a = 0)) = f) (w : World) : Calls Tryz.prog 188 #[.agg (intC x a)] w (RetB (.bool f) w) := by
 have F := Fr.start w
 obtain ⟨v, hv⟩ : ∃ v, sgN x a = v := ⟨_, rfl⟩
 have g1 := fun w => sign_any (neg := x) ha hv w
 go_enter Tryz.func188, Tryz.ntmps188
 go_wp2_with (first | go_skip | refine aY2 ?_ | (refine aT2 ?_; clear F; intro W F) | refine aN2 ?_)
 (clear F; intro b1 W F; try simp only [Act.put, z6, z1, z2])
 have c0 := (F.get Lies.here).cell (intC_0 x a)
 cases x
 ·simp only [Bool.not_false, Bool.true_or] at hf
  subst hf
  clear hv g1
  go_wp2_with (first | go_skip | refine aY2 ?_ | (refine aT2 ?_; clear F; intro W F) | refine aN2 ?_)
  go_ret
  exact ⟨rfl, F.below⟩
 ·simp only [Bool.not_true, Bool.false_or] at hf
  by_cases h : a = 0
  ·subst h
   have h1 : ¬ v < 0 := by rw [← hv]; decide
   subst hf
   clear hv
   go_wp2_with (first | go_skip | ((go_at_call 93); (with_reducible refine fr_call F (g1 _) ?_); (clear F; intro W F); (try dsimp only)) | refine aY2 ?_ | (refine aT2 ?_; clear F; intro W F) | refine aN2 ?_)
   go_ret
   exact ⟨rfl, F.below⟩
  ·have h1 : v < 0 := by rw [← hv]; unfold sgN; rw [if_neg h, if_pos rfl]; decide
   rw [decide_eq_false h] at hf
   subst hf
   clear hv h
   go_wp2_with (first | go_skip | ((go_at_call 93); (with_reducible refine fr_call F (g1 _) ?_); (clear F; intro W F); (try dsimp only)) | refine aY2 ?_ | (refine aT2 ?_; clear F; intro W F) | refine aN2 ?_)
   go_ret
   exact ⟨rfl, F.below⟩
def okR (x : Bool) (a : Nat) (y : Bool) (b : Nat) : Prop := (bl a ≤ 480 ∧ bl b ≤ 480) ∧ (!x || !decide (a = 0)) = true ∧ (!y || !decide (b = 0)) = true ∧ 0 < sgN y b ∧ Nat.gcd a b = 1
instance (x : Bool) (a : Nat) (y : Bool) (b : Nat) : Decidable (okR x a y b) := by unfold okR; infer_instance
theorem lt_bp_of {a k : Nat} (h : bl a ≤ 32 * k) : a < bp k := by
 rw [bp_two]
 exact bl_le.1 h
theorem okR_bound {x : Bool} {a : Nat} {y : Bool} {b : Nat} (h : okR x a y b) : a < bp 15 ∧ b < bp 15 ∧ y = false ∧ b ≠ 0 ∧ (x = true → a ≠ 0) ∧ Nat.gcd a b = 1 := by
 obtain ⟨⟨h1, h2⟩, h3, h4, h5, h6⟩ := h
 refine ⟨lt_bp_of (k := 15) h1, lt_bp_of (k := 15) h2, ?_, ?_, ?_, h6⟩
 ·cases y
  ·rfl
  ·unfold sgN at h5
   split at h5 <;> simp at h5
 ·rintro rfl
  simp [sgN] at h5
 ·rintro rfl rfl
  simp at h3
set_option maxRecDepth 100000 in
theorem valid_any {x : Bool} {a : Nat} {y : Bool} {b : Nat} (ha : a < bp 32) (hb : b < bp 32) {f : Bool} (hf : decide (okR x a y b) = f) (w : World) : Calls Tryz.prog 129 #[.agg (ratC x a y b)] w (RetB (.bool f) w) := by
 have F := Fr.start w
 obtain ⟨f1, h1⟩ : ∃ v, decide (bl a ≤ 480 ∧ bl b ≤ 480) = v := ⟨_, rfl⟩
 obtain ⟨f2, h2⟩ : ∃ v, (!x || !decide (a = 0)) = v := ⟨_, rfl⟩
 obtain ⟨f3, h3⟩ : ∃ v, (!y || !decide (b = 0)) = v := ⟨_, rfl⟩
 obtain ⟨v, hv⟩ : ∃ v, sgN y b = v := ⟨_, rfl⟩
 have g1 := fun w => fits_any (x := x) (y := y) ha hb h1 w
 have g2 := fun w => canonical_any ha h2 w
 have g3 := fun w => canonical_any hb h3 w
 have g4 := fun w => sign_any (neg := y) hb hv w
 have g5 := fun w => gcd_any (x := x) (y := y) ha hb w
 have hg : Nat.gcd a b < bp 32 := by
  rcases Nat.eq_zero_or_pos a with h | h
  ·rw [h, Nat.gcd_zero_left]
   exact hb
  ·exact Nat.lt_of_le_of_lt (Nat.gcd_le_left b h) ha
 obtain ⟨g, hgg⟩ : ∃ g, Nat.gcd a b = g := ⟨_, rfl⟩
 have e : decide (okR x a y b) = (f1 && (f2 && (f3 && (decide (0 < v) && decide (g = 1))))) := by
  rw [Bool.eq_iff_iff, decide_eq_true_eq]
  simp only [Bool.and_eq_true, decide_eq_true_eq]
  rw [← h1, ← h2, ← h3, ← hv, ← hgg, decide_eq_true_eq]
  exact Iff.rfl
 rw [e] at hf
 rw [hgg] at g5 hg
 have eq1 := fun w => eq_IC 9997 (x := (g : Int)) (y := 1) (by omega) (by decide) w
 have q1 : (∃ q, decide ((g : Int) = 1) = q ∧ decide (g = 1) = q) := ⟨_, rfl, by rw [decide_eq_decide]; omega⟩
 obtain ⟨q, hq1, hq2⟩ := q1
 rw [hq1] at eq1
 rw [hq2] at hf
 have fi := fun w => fromZ (n := 1) (by decide) (by decide) w
 clear h1 h2 h3 hv e hgg hq1 hq2 hg
 have HF := Lib.hid hf
 clear hf
 go_enter Tryz.func129, Tryz.ntmps129
 go_wp2_with (first | go_skip | refine aY2 ?_ | (refine aT2 ?_; clear F; intro W F) | refine aN2 ?_)
 (clear F; intro b1 W F; try simp only [Act.put, z6, z1, z2])
 cases f1
 ·have hf := HF.out
  simp only [Bool.false_and] at hf
  subst hf
  go_wp2_with (first | go_skip | ((go_at_call 184); (with_reducible refine fr_call F (g1 _) ?_); (clear F; intro W F); (try dsimp only)) | refine aY2 ?_ | (refine aT2 ?_; clear F; intro W F) | refine aN2 ?_)
  go_ret
  exact ⟨rfl, F.below⟩
 cases f2
 ·have hf := HF.out
  simp only [Bool.false_and, Bool.true_and] at hf
  subst hf
  go_wp2_with (first | go_skip | ((go_at_call 184); (with_reducible refine fr_call F (g1 _) ?_); (clear F; intro W F); (try dsimp only)) | ((go_at_call 188); (with_reducible refine fr_call F (g2 _) ?_); (clear F; intro W F); (try dsimp only)) | refine aY2 ?_ | (refine aT2 ?_; clear F; intro W F) | refine aN2 ?_)
  go_ret
  exact ⟨rfl, F.below⟩
 cases f3
 ·have hf := HF.out
  simp only [Bool.false_and, Bool.true_and] at hf
  subst hf
  go_wp2_with (first | go_skip | ((go_at_call 184); (with_reducible refine fr_call F (g1 _) ?_); (clear F; intro W F); (try dsimp only)) | ((go_at_call 188); (with_reducible refine fr_call F (g2 _) ?_); (clear F; intro W F); (try dsimp only)) | ((go_at_call 188); (with_reducible refine fr_call F (g3 _) ?_); (clear F; intro W F); (try dsimp only)) | refine aY2 ?_ | (refine aT2 ?_; clear F; intro W F) | refine aN2 ?_)
  go_ret
  exact ⟨rfl, F.below⟩
 by_cases hv : 0 < v
 ·have hf := HF.out
  rw [decide_eq_true hv] at hf
  simp only [Bool.true_and] at hf
  subst hf
  go_wp2_with (first | go_skip | ((go_at_call 184); (with_reducible refine fr_call F (g1 _) ?_); (clear F; intro W F); (try dsimp only)) | ((go_at_call 188); (with_reducible refine fr_call F (g2 _) ?_); (clear F; intro W F); (try dsimp only)) | ((go_at_call 188); (with_reducible refine fr_call F (g3 _) ?_); (clear F; intro W F); (try dsimp only)) | ((go_at_call 93); (with_reducible refine fr_call F (g4 _) ?_); (clear F; intro W F); (try dsimp only)) | ((go_at_call 182); (with_reducible refine fr_call F (g5 _) ?_); (clear F; intro W F); (try dsimp only)) | ((go_at_call 126); (with_reducible refine fr_call F (fi _) ?_); (clear F; intro W F); (try dsimp only)) | refine aY2 ?_ | (refine aT2 ?_; clear F; intro W F) | refine aN2 ?_)
  go_ret
  exact ⟨rfl, F.below⟩
 ·have hf := HF.out
  rw [decide_eq_false hv] at hf
  simp only [Bool.false_and, Bool.true_and] at hf
  subst hf
  go_wp2_with (first | go_skip | ((go_at_call 184); (with_reducible refine fr_call F (g1 _) ?_); (clear F; intro W F); (try dsimp only)) | ((go_at_call 188); (with_reducible refine fr_call F (g2 _) ?_); (clear F; intro W F); (try dsimp only)) | ((go_at_call 188); (with_reducible refine fr_call F (g3 _) ?_); (clear F; intro W F); (try dsimp only)) | ((go_at_call 93); (with_reducible refine fr_call F (g4 _) ?_); (clear F; intro W F); (try dsimp only)) | refine aY2 ?_ | (refine aT2 ?_; clear F; intro W F) | refine aN2 ?_)
  go_ret
  exact ⟨rfl, F.below⟩
end
section
open Go.RowKit
set_option maxHeartbeats 2000000
section
variable {x y : Int}
set_option maxRecDepth 100000 in
theorem productZ (hx : x.natAbs < bp 32) (hy : y.natAbs < bp 32) (h : (x * y).natAbs < bp 32) (w : World) : Calls Tryz.prog 172 #[.agg (IC x), .agg (IC y)] w (RetB (.agg (IC (x * y))) w) := by
 have F := Fr.start w
 have g1 := fun w => mulZ hx hy h w
 clear hx hy h
 go_enter Tryz.func172, Tryz.ntmps172
 go_wp2_with (first | go_skip | refine aY2 ?_ | (refine aT2 ?_; clear F; intro W F) | refine aN2 ?_)
 (clear F; intro b2 W F; try simp only [Act.put, z6, z1, z2])
 go_wp2_with (first | go_skip | refine aY2 ?_ | (refine aT2 ?_; clear F; intro W F) | refine aN2 ?_)
 (clear F; intro b3 W F; try simp only [Act.put, z6, z1, z2])
 go_wp2_with (first | go_skip | refine aY2 ?_ | (refine aT2 ?_; clear F; intro W F) | refine aN2 ?_)
 (clear F; intro b4 W F; try simp only [Act.put, z6, z1, z2])
 go_wp2_with (first | go_skip | ((go_at_call 139); (with_reducible refine fr_call F (g1 _) ?_); (clear F; intro W F); (try dsimp only)) | refine aY2 ?_ | (refine aT2 ?_; clear F; intro W F) | refine aN2 ?_)
 (clear F; intro b5 W F; try simp only [Act.put, z6, z1, z2])
 go_wp2_with (first | go_skip | refine aY2 ?_ | (refine aT2 ?_; clear F; intro W F) | refine aN2 ?_)
 exact bodyPost_ret (res_c rfl rfl (Fr.get F tL) (rowIC _)) rfl ⟨rfl, F.below⟩
set_option maxRecDepth 100000 in
theorem wholeZ (hx : x.natAbs < bp 32) (hy : y.natAbs < bp 32) (h : y ≠ 0) (w : World) : Calls Tryz.prog 183 #[.agg (IC x), .agg (IC y)] w (RetB (.agg (IC (x / y))) w) := by
 have F := Fr.start w
 have g1 := fun w => divmodZ hx hy h w
 clear hx hy h
 go_enter Tryz.func183, Tryz.ntmps183
 go_wp2_with (first | go_skip | refine aY2 ?_ | (refine aT2 ?_; clear F; intro W F) | refine aN2 ?_)
 (clear F; intro b2 W F; try simp only [Act.put, z6, z1, z2])
 go_wp2_with (first | go_skip | refine aY2 ?_ | (refine aT2 ?_; clear F; intro W F) | refine aN2 ?_)
 (clear F; intro b3 W F; try simp only [Act.put, z6, z1, z2])
 go_wp2_with (first | go_skip | refine aY2 ?_ | (refine aT2 ?_; clear F; intro W F) | refine aN2 ?_)
 (clear F; intro b4 W F; try simp only [Act.put, z6, z1, z2])
 go_wp2_with (first | go_skip | ((go_at_call 140); (with_reducible refine fr_call F (g1 _) ?_); (clear F; intro W F); (try dsimp only)) | refine aY2 ?_ | (refine aT2 ?_; clear F; intro W F) | refine aN2 ?_)
 (clear F; intro b5 W F; try simp only [Act.put, z6, z1, z2])
 go_wp2_with (first | go_skip | refine aY2 ?_ | (refine aT2 ?_; clear F; intro W F) | refine aN2 ?_)
 (clear F; intro b6 W F; try simp only [Act.put, z6, z1, z2])
 go_wp2_with (first | go_skip | refine aY2 ?_ | (refine aT2 ?_; clear F; intro W F) | refine aN2 ?_)
 exact bodyPost_ret (res_c rfl rfl (Fr.get F tL) (rowIC _)) rfl ⟨rfl, F.below⟩
end
def mkR (n d : Int) : Int × Int × Int :=
 if d = 0 then (0, 0, 11)
 else
  let s : Int := if d < 0 then -(Int.gcd n d : Int) else (Int.gcd n d : Int)
  if bl (n / s).natAbs ≤ 480 ∧ bl (d / s).natAbs ≤ 480 then (n / s, d / s, 0) else (0, 0, 10)
theorem gcd_le {n d : Int} (hn : n.natAbs < bp 32) (hd : d.natAbs < bp 32) : Int.gcd n d < bp 32 := by
 unfold Int.gcd
 rcases Nat.eq_zero_or_pos n.natAbs with h | h
 ·rw [h, Nat.gcd_zero_left]
  exact hd
 ·exact Nat.lt_of_le_of_lt (Nat.gcd_le_left _ h) hn
theorem div_le_abs (n s : Int) : (n / s).natAbs ≤ n.natAbs := Int.natAbs_ediv_le_natAbs n s
set_option maxRecDepth 100000 in
theorem makeZ {n d : Int} (hn : n.natAbs < bp 32) (hd : d.natAbs < bp 32) {r : Int × Int × Int} (hr : mkR n d = r) (w : World) : Calls Tryz.prog 125 #[.agg (IC n), .agg (IC d)] w (RetB (.tuple #[.agg (RC r.1 r.2.1), .int .i64 r.2.2]) w) := by
 have F := Fr.start w
 have g1 := fun w => signZ hd w
 have g2 := fun w => gcdZ hn hd w
 have hg := gcd_le hn hd
 have hgp : d ≠ 0 → Int.gcd n d ≠ 0 := fun h0 h => h0 (Int.gcd_eq_zero_iff.1 h).2
 obtain ⟨g, hgg⟩ : ∃ g, Int.gcd n d = g := ⟨_, rfl⟩
 unfold mkR at hr
 rw [hgg] at g2 hg hgp hr
 have HR := Lib.hid hr
 obtain ⟨s, hs⟩ : ∃ s, d.sign = s := ⟨_, rfl⟩
 rw [hs] at g1
 have HS := Lib.hid hs
 clear hr hs hgg
 go_enter Tryz.func125, Tryz.ntmps125
 go_wp2_with (first | go_skip | refine aY2 ?_ | (refine aT2 ?_; clear F; intro W F) | refine aN2 ?_)
 (clear F; intro b2 W F; try simp only [Act.put, z6, z1, z2])
 go_wp2_with (first | go_skip | refine aY2 ?_ | (refine aT2 ?_; clear F; intro W F) | refine aN2 ?_)
 (clear F; intro b3 W F; try simp only [Act.put, z6, z1, z2])
 go_wp2_with (first | go_skip | refine aY2 ?_ | (refine aT2 ?_; clear F; intro W F) | refine aN2 ?_)
 (clear F; intro b4 W F; try simp only [Act.put, z6, z1, z2])
 by_cases h0 : d = 0
 ·have hs0 : s = 0 := by rw [← HS.out, h0, Int.sign_zero]
  have hr := HR.out
  rw [if_pos h0] at hr
  subst hr
  subst hs0
  clear h0 hd hn hg hgp g2 HR HS
  go_wp2_with (first | go_skip | ((go_at_call 93); (with_reducible refine fr_call F (g1 _) ?_); (clear F; intro W F); (try dsimp only)) | refine aY2 ?_ | (refine aT2 ?_; clear F; intro W F) | refine aN2 ?_)
  exact bodyPost_ret (res_cs rfl rfl rfl (Fr.get F tL) (rowRC _ _)) rfl ⟨rfl, F.below⟩
 ·have hs0 : ¬ s = 0 := by rw [← HS.out]; exact fun h => h0 (Int.sign_eq_zero_iff_zero.1 h)
  have hr := HR.out
  rw [if_neg h0] at hr
  have hs1 : s < 0 ↔ d < 0 := by rw [← HS.out]; exact Int.sign_neg_iff
  have hgz : (g : Int) ≠ 0 := by have := hgp h0; omega
  obtain ⟨q, hq⟩ : ∃ q : Int, (if d < 0 then -(g : Int) else (g : Int)) = q := ⟨_, rfl⟩
  simp only [hq] at hr
  have hq0 : q ≠ 0 := by rw [← hq]; split <;> omega
  have hqb : q.natAbs < bp 32 := by rw [← hq]; split <;> omega
  have g3 := fun w => negZ (x := (g : Int)) (by omega) w
  have g4 := fun w => wholeZ hn hqb hq0 w
  have g5 := fun w => wholeZ hd hqb hq0 w
  have hb1 : (n / q).natAbs < bp 32 := Nat.lt_of_le_of_lt (div_le_abs n q) hn
  have hb2 : (d / q).natAbs < bp 32 := Nat.lt_of_le_of_lt (div_le_abs d q) hd
  obtain ⟨u, hu⟩ : ∃ u, n / q = u := ⟨_, rfl⟩
  obtain ⟨v, hv⟩ : ∃ v, d / q = v := ⟨_, rfl⟩
  rw [hu] at g4 hr hb1
  rw [hv] at g5 hr hb2
  obtain ⟨f, hf⟩ : ∃ f, decide (bl u.natAbs ≤ 480 ∧ bl v.natAbs ≤ 480) = f := ⟨_, rfl⟩
  have g6 := fun w => fits_any (x := decide (u < 0)) (y := decide (v < 0)) hb1 hb2 hf w
  have g7 : ∀ w, Calls Tryz.prog 184 #[.agg (RC u v)] w (RetB (.bool f) w) := g6
  have HQ := Lib.hid hq
  have HR2 := Lib.hid (show r = if f = true then (u, v, 0) else (0, 0, 10) from by rw [← hr, ← hf]; simp only [decide_eq_true_eq])
  have hsd := HS.out
  clear hr hq hu hv hf hn hd hg hgp hb1 hb2 h0 HR g6 hgz hq0 hqb hsd HS
  by_cases hneg : d < 0
  ·have hsn : s < 0 := hs1.2 hneg
   have hq : -(g : Int) = q := by rw [← HQ.out, if_pos hneg]
   clear hs1 hneg HQ
   go_wp2_with (first | go_skip | ((go_at_call 93); (with_reducible refine fr_call F (g1 _) ?_); (clear F; intro W F); (try dsimp only)) | ((go_at_call 182); (with_reducible refine fr_call F (g2 _) ?_); (clear F; intro W F); (try dsimp only)) | refine aY2 ?_ | (refine aT2 ?_; clear F; intro W F) | refine aN2 ?_)
   (clear F; intro b6 W F; try simp only [Act.put, z6, z1, z2])
   go_wp2_with (first | go_skip | ((go_at_call 93); (with_reducible refine fr_call F (g1 _) ?_); (clear F; intro W F); (try dsimp only)) | ((go_at_call 130); (with_reducible refine fr_call F (g3 _) ?_); (clear F; intro W F); (try dsimp only)) | refine aY2 ?_ | (refine aT2 ?_; clear F; intro W F) | refine aN2 ?_)
   try rw [hq] at F
   clear hq
   try simp only [Act.put, z6, z1, z2]
   refine wp_region_slots mixP [7, 20, 21, 22, 23, 24, 25, 26] (fun l mm W => ∃ (s7 s20 s21 s22 s23 s24 s25 s26 : Value) (c_b7 : Array Value) (b7 : Nat), mm = [s7, s20, s21, s22, s23, s24, s25, s26] ∧ Fr w W ((b6, IC q, 29) :: (b4, RC 0 0, 31) :: (b3, IC d, 29) :: (b2, IC n, 29) :: (onl (l.getD 7 false) (b7, c_b7, 31))) ∧ On l 0 [s20 = .agg (IC n), s21 = .agg (IC q), s22 = .agg (IC u), s23 = .agg (IC d), s24 = .agg (IC q), s25 = .agg (IC v), s26 = .agg (RC u v), s7 = .pointer (some ⟨b7, 0, none⟩), c_b7 = RC u v] ∧ Wt l [(8, 7)] ∧ c_b7.size = (RC u v).size ∧ True) (by kernel_rfl) (putAll_self _ _) ?_ ?_ ?_
   ·exact ⟨_, _, _, _, _, _, _, _, (RC 0 0), 0, rfl, F.drew, On.none _ _ _, Wt.none _ _, dT⟩
   ·rintro listed mm W ii hi hsz hoff ⟨s7, s20, s21, s22, s23, s24, s25, s26, c_b7, b7, rfl, HF, hH, hw, hz0, -⟩ hd
    simp only [putAll, z1, z2]
    obtain rfl | rfl | rfl | rfl | rfl | rfl | rfl | rfl | rfl := dr_c9 hi
    ·exact oY2
    ·exact oY2
    ·obtain rfl : s20 = _ := dh 0 hH hd
     obtain rfl : s21 = _ := dh 1 hH hd
     refine ow rfl rfl fun K hK => ?_
     refine ⟨?_⟩
     go_simp
     with_reducible refine fr_call HF (g4 _) ?_
     exact oC
    ·exact oY2
    ·exact oY2
    ·obtain rfl : s23 = _ := dh 3 hH hd
     obtain rfl : s24 = _ := dh 4 hH hd
     refine ow rfl rfl fun K hK => ?_
     refine ⟨?_⟩
     go_simp
     with_reducible refine fr_call HF (g5 _) ?_
     exact oC
    ·obtain rfl : s22 = _ := dh 2 hH hd
     obtain rfl : s25 = _ := dh 5 hH hd
     exact oY2
    ·refine ow rfl rfl fun K hK => ?_
     rw [show listed.getD 7 false = false from hoff] at HF
     with_reducible apply gA_rat HF
     intro bN W HF
     go_simp
     exact hK _ _ ⟨_, dE, _, _, _, _, _, _, _, _, (RC 0 0), bN, rfl, by rw [getD_on (show 7 < listed.size by rw [hsz]; decide)]; exact Fr.mid (A := [(b6, IC q, 29), (b4, RC 0 0, 31), (b3, IC d, 29), (b2, IC n, 29)]) HF, onS (onV 8 hH (wtF hw hoff)) rfl rfl, dT⟩
    ·obtain rfl : s26 = _ := dh 6 hH hd
     obtain rfl : s7 = _ := dh 7 hH hd
     have HG := hd 7 (by kernel_rfl)
     rw [HG] at HF
     simp only [onl, if_true, z7, z8] at HF
     exact oT2
   rintro listed mm W ⟨s7, s20, s21, s22, s23, s24, s25, s26, c_b7, b7, rfl, HF, hH, hw, hz0, -⟩ hall
   obtain ⟨rfl, rfl, rfl, rfl, rfl, rfl, rfl, rfl, e8⟩ := onA hH hall
   rw [hall 7 (by decide)] at HF
   simp only [onl, if_true, z7, z8] at HF
   rw [e8] at HF
   clear hall hH e8 hw hz0 F
   have F := HF
   clear HF
   simp only [putAll, z1, z2]
   cases f
   ·have hr := HR2.out
    rw [if_neg (by decide)] at hr
    subst hr
    clear HR2
    go_wp2_with (first | go_skip | ((go_at_call 184); (with_reducible refine fr_call F (g7 _) ?_); (clear F; intro W F); (try dsimp only)) | refine aY2 ?_ | (refine aT2 ?_; clear F; intro W F) | refine aN2 ?_)
    exact bodyPost_ret (res_cs rfl rfl rfl (Fr.get F tL) (rowRC _ _)) rfl ⟨rfl, F.below⟩
   ·have hr := HR2.out
    rw [if_pos rfl] at hr
    subst hr
    clear HR2
    go_wp2_with (first | go_skip | ((go_at_call 184); (with_reducible refine fr_call F (g7 _) ?_); (clear F; intro W F); (try dsimp only)) | refine aY2 ?_ | (refine aT2 ?_; clear F; intro W F) | refine aN2 ?_)
    exact bodyPost_ret (res_cs rfl rfl rfl (Fr.get F tL) (rowRC _ _)) rfl ⟨rfl, F.below⟩
  ·have hsn : ¬ s < 0 := fun h => hneg (hs1.1 h)
   have hq : (g : Int) = q := by rw [← HQ.out, if_neg hneg]
   clear hs1 hneg HQ
   go_wp2_with (first | go_skip | ((go_at_call 93); (with_reducible refine fr_call F (g1 _) ?_); (clear F; intro W F); (try dsimp only)) | ((go_at_call 182); (with_reducible refine fr_call F (g2 _) ?_); (clear F; intro W F); (try dsimp only)) | refine aY2 ?_ | (refine aT2 ?_; clear F; intro W F) | refine aN2 ?_)
   (clear F; intro b6 W F; try simp only [Act.put, z6, z1, z2])
   go_wp2_with (first | go_skip | ((go_at_call 93); (with_reducible refine fr_call F (g1 _) ?_); (clear F; intro W F); (try dsimp only)) | refine aY2 ?_ | (refine aT2 ?_; clear F; intro W F) | refine aN2 ?_)
   try rw [hq] at F
   clear hq
   try simp only [Act.put, z6, z1, z2]
   refine wp_region_slots mixP [7, 20, 21, 22, 23, 24, 25, 26] (fun l mm W => ∃ (s7 s20 s21 s22 s23 s24 s25 s26 : Value) (c_b7 : Array Value) (b7 : Nat), mm = [s7, s20, s21, s22, s23, s24, s25, s26] ∧ Fr w W ((b6, IC q, 29) :: (b4, RC 0 0, 31) :: (b3, IC d, 29) :: (b2, IC n, 29) :: (onl (l.getD 7 false) (b7, c_b7, 31))) ∧ On l 0 [s20 = .agg (IC n), s21 = .agg (IC q), s22 = .agg (IC u), s23 = .agg (IC d), s24 = .agg (IC q), s25 = .agg (IC v), s26 = .agg (RC u v), s7 = .pointer (some ⟨b7, 0, none⟩), c_b7 = RC u v] ∧ Wt l [(8, 7)] ∧ c_b7.size = (RC u v).size ∧ True) (by kernel_rfl) (putAll_self _ _) ?_ ?_ ?_
   ·exact ⟨_, _, _, _, _, _, _, _, (RC 0 0), 0, rfl, F.drew, On.none _ _ _, Wt.none _ _, dT⟩
   ·rintro listed mm W ii hi hsz hoff ⟨s7, s20, s21, s22, s23, s24, s25, s26, c_b7, b7, rfl, HF, hH, hw, hz0, -⟩ hd
    simp only [putAll, z1, z2]
    obtain rfl | rfl | rfl | rfl | rfl | rfl | rfl | rfl | rfl := dr_c9 hi
    ·exact oY2
    ·exact oY2
    ·obtain rfl : s20 = _ := dh 0 hH hd
     obtain rfl : s21 = _ := dh 1 hH hd
     refine ow rfl rfl fun K hK => ?_
     refine ⟨?_⟩
     go_simp
     with_reducible refine fr_call HF (g4 _) ?_
     exact oC
    ·exact oY2
    ·exact oY2
    ·obtain rfl : s23 = _ := dh 3 hH hd
     obtain rfl : s24 = _ := dh 4 hH hd
     refine ow rfl rfl fun K hK => ?_
     refine ⟨?_⟩
     go_simp
     with_reducible refine fr_call HF (g5 _) ?_
     exact oC
    ·obtain rfl : s22 = _ := dh 2 hH hd
     obtain rfl : s25 = _ := dh 5 hH hd
     exact oY2
    ·refine ow rfl rfl fun K hK => ?_
     rw [show listed.getD 7 false = false from hoff] at HF
     with_reducible apply gA_rat HF
     intro bN W HF
     go_simp
     exact hK _ _ ⟨_, dE, _, _, _, _, _, _, _, _, (RC 0 0), bN, rfl, by rw [getD_on (show 7 < listed.size by rw [hsz]; decide)]; exact Fr.mid (A := [(b6, IC q, 29), (b4, RC 0 0, 31), (b3, IC d, 29), (b2, IC n, 29)]) HF, onS (onV 8 hH (wtF hw hoff)) rfl rfl, dT⟩
    ·obtain rfl : s26 = _ := dh 6 hH hd
     obtain rfl : s7 = _ := dh 7 hH hd
     have HG := hd 7 (by kernel_rfl)
     rw [HG] at HF
     simp only [onl, if_true, z7, z8] at HF
     exact oT2
   rintro listed mm W ⟨s7, s20, s21, s22, s23, s24, s25, s26, c_b7, b7, rfl, HF, hH, hw, hz0, -⟩ hall
   obtain ⟨rfl, rfl, rfl, rfl, rfl, rfl, rfl, rfl, e8⟩ := onA hH hall
   rw [hall 7 (by decide)] at HF
   simp only [onl, if_true, z7, z8] at HF
   rw [e8] at HF
   clear hall hH e8 hw hz0 F
   have F := HF
   clear HF
   simp only [putAll, z1, z2]
   cases f
   ·have hr := HR2.out
    rw [if_neg (by decide)] at hr
    subst hr
    clear HR2
    go_wp2_with (first | go_skip | ((go_at_call 184); (with_reducible refine fr_call F (g7 _) ?_); (clear F; intro W F); (try dsimp only)) | refine aY2 ?_ | (refine aT2 ?_; clear F; intro W F) | refine aN2 ?_)
    exact bodyPost_ret (res_cs rfl rfl rfl (Fr.get F tL) (rowRC _ _)) rfl ⟨rfl, F.below⟩
   ·have hr := HR2.out
    rw [if_pos rfl] at hr
    subst hr
    clear HR2
    go_wp2_with (first | go_skip | ((go_at_call 184); (with_reducible refine fr_call F (g7 _) ?_); (clear F; intro W F); (try dsimp only)) | refine aY2 ?_ | (refine aT2 ?_; clear F; intro W F) | refine aN2 ?_)
    exact bodyPost_ret (res_cs rfl rfl rfl (Fr.get F tL) (rowRC _ _)) rfl ⟨rfl, F.below⟩
end
section
open Go.RowKit
set_option maxHeartbeats 2000000
theorem b15 {x : Int} (h : x.natAbs < bp 15) : x.natAbs < bp 32 := Nat.lt_of_lt_of_le h (bp_le (by decide))
theorem b30 {x y : Int} (h : x.natAbs < bp 15) (k : y.natAbs < bp 15) : (x * y).natAbs < bp 32 := by
 rw [Int.natAbs_mul]
 have h1 := Nat.mul_lt_mul_of_lt_of_lt h k
 rw [← bp_add] at h1
 exact Nat.lt_of_lt_of_le h1 (bp_le (by decide))
theorem b30' {x y : Int} (h : x.natAbs < bp 15) (k : y.natAbs < bp 15) : (x * y).natAbs < bp 30 := by
 rw [Int.natAbs_mul]
 have h1 := Nat.mul_lt_mul_of_lt_of_lt h k
 rwa [← bp_add] at h1
theorem b31 {x y : Int} (h : x.natAbs < bp 30) (k : y.natAbs < bp 30) : (x + y).natAbs < bp 32 := by
 have h1 : bp 31 = bp 30 * 4294967296 := bp_succ 30
 have h2 := bp_le (show 31 ≤ 32 by decide)
 omega
def sZ (x : Bool) (a : Nat) : Int := if x = true then -(a : Int) else a
theorem intC_sZ {x : Bool} {a : Nat} (h : x = true → a ≠ 0) : intC x a = IC (sZ x a) := by
 unfold IC sZ
 cases x
 ·rw [if_neg (by decide), Int.natAbs_natCast, decide_eq_false (by omega)]
 ·have := h rfl
  rw [if_pos rfl, Int.natAbs_neg, Int.natAbs_natCast, decide_eq_true (by omega)]
theorem okR_ints {x : Bool} {a : Nat} {y : Bool} {b : Nat} (h : okR x a y b) : ∃ n d : Int, (ratC x a y b = RC n d ∧ sZ x a = n ∧ sZ y b = d) ∧ n.natAbs < bp 15 ∧ d.natAbs < bp 15 ∧ 0 < d := by
 obtain ⟨h1, h2, rfl, h4, h5, -⟩ := okR_bound h
 refine ⟨sZ x a, sZ false b, ⟨?_, rfl, rfl⟩, ?_, ?_, ?_⟩
 ·unfold ratC RC
  rw [intC_sZ h5, intC_sZ (by simp)]
 ·unfold sZ
  split <;> omega
 ·unfold sZ
  rw [if_neg (by decide)]
  omega
 ·unfold sZ
  rw [if_neg (by decide)]
  omega
set_option maxRecDepth 100000 in
theorem wholeR {n : Int} (h1 : -9223372036854775808 ≤ n) (h2 : n < 9223372036854775808) (w : World) : Calls Tryz.prog 84 #[.int .i64 n] w (RetB (.agg (RC n 1)) w) := by
 have F := Fr.start w
 have g1 := fun w => fromZ h1 h2 w
 have g2 := fun w => fromZ (n := 1) (by decide) (by decide) w
 go_enter Tryz.func84, Tryz.ntmps84
 go_wp2_with (first | go_skip | refine aY2 ?_ | (refine aT2 ?_; clear F; intro W F) | refine aN2 ?_)
 (clear F; intro b2 W F; try simp only [Act.put, z6, z1, z2])
 go_wp2_with (first | go_skip | ((go_at_call 126); (with_reducible refine fr_call F (g1 _) ?_); (clear F; intro W F); (try dsimp only)) | ((go_at_call 126); (with_reducible refine fr_call F (g2 _) ?_); (clear F; intro W F); (try dsimp only)) | refine aY2 ?_ | (refine aT2 ?_; clear F; intro W F) | refine aN2 ?_)
 exact bodyPost_ret (res_c rfl rfl (Fr.get F tL) (rowRC _ _)) rfl ⟨rfl, F.below⟩
set_option maxRecDepth 100000 in
theorem ofR {n d : Int} (h1 : -9223372036854775808 ≤ n) (h2 : n < 9223372036854775808) (h3 : -9223372036854775808 ≤ d) (h4 : d < 9223372036854775808) {r : Int × Int × Int} (hr : mkR n d = r) (w : World) : Calls Tryz.prog 81 #[.int .i64 n, .int .i64 d] w (RetB (.tuple #[.agg (RC r.1 r.2.1), .int .i64 r.2.2]) w) := by
 have F := Fr.start w
 have g1 := fun w => fromZ h1 h2 w
 have g2 := fun w => fromZ h3 h4 w
 have hb : ∀ {z : Int}, -9223372036854775808 ≤ z → z < 9223372036854775808 → z.natAbs < bp 32 := fun {z} k1 k2 => Nat.lt_of_lt_of_le (show z.natAbs < bp 2 by unfold bp; omega) (bp_le (by decide))
 have g3 := fun w => makeZ (hb h1 h2) (hb h3 h4) hr w
 clear hr hb
 go_enter Tryz.func81, Tryz.ntmps81
 go_wp2_with (first | go_skip | refine aY2 ?_ | (refine aT2 ?_; clear F; intro W F) | refine aN2 ?_)
 (clear F; intro b4 W F; try simp only [Act.put, z6, z1, z2])
 go_wp2_with (first | go_skip | ((go_at_call 126); (with_reducible refine fr_call F (g1 _) ?_); (clear F; intro W F); (try dsimp only)) | ((go_at_call 126); (with_reducible refine fr_call F (g2 _) ?_); (clear F; intro W F); (try dsimp only)) | ((go_at_call 125); (with_reducible refine fr_call F (g3 _) ?_); (clear F; intro W F); (try dsimp only)) | refine aY2 ?_ | (refine aT2 ?_; clear F; intro W F) | refine aN2 ?_)
 exact bodyPost_ret (res_cs rfl rfl rfl (Fr.get F tL) (rowRC _ _)) rfl ⟨rfl, F.below⟩
set_option maxRecDepth 100000 in
theorem negR {n d : Int} (hv : okR (decide (n < 0)) n.natAbs (decide (d < 0)) d.natAbs) (w : World) : Calls Tryz.prog 85 #[.agg (RC n d)] w (RetB (.tuple #[.agg (RC (-n) d), .int .i64 0]) w) := by
 have F := Fr.start w
 obtain ⟨h1, h2, -⟩ := okR_bound hv
 have g1 : ∀ w, Calls Tryz.prog 129 #[.agg (RC n d)] w (RetB (.bool true) w) := fun w => valid_any (b15 h1) (b15 h2) (decide_eq_true hv) w
 have g2 := fun w => negZ (b15 h1) w
 clear hv h1 h2
 go_enter Tryz.func85, Tryz.ntmps85
 go_wp2_with (first | go_skip | refine aY2 ?_ | (refine aT2 ?_; clear F; intro W F) | refine aN2 ?_)
 (clear F; intro b1 W F; try simp only [Act.put, z6, z1, z2])
 go_wp2_with (first | go_skip | refine aY2 ?_ | (refine aT2 ?_; clear F; intro W F) | refine aN2 ?_)
 (clear F; intro b2 W F; try simp only [Act.put, z6, z1, z2])
 go_wp2_with (first | go_skip | ((go_at_call 129); (with_reducible refine fr_call F (g1 _) ?_); (clear F; intro W F); (try dsimp only)) | refine aY2 ?_ | (refine aT2 ?_; clear F; intro W F) | refine aN2 ?_)
 try simp only [Act.put, z6, z1, z2]
 refine wp_region_slots mixP [3, 8, 9, 10, 11, 12, 13] (fun l mm W => ∃ (s3 s8 s9 s10 s11 s12 s13 : Value) (c_b2 : Array Value), mm = [s3, s8, s9, s10, s11, s12, s13] ∧ Fr w W [(b2, c_b2, 31), (b1, RC n d, 31)] ∧ On l 0 [s8 = .pointer (some ⟨b1, 0, none⟩), s9 = .agg (IC n), s10 = .agg (IC (-n)), s11 = .pointer (some ⟨b1, 33, none⟩), s12 = .agg (IC d), s13 = .agg (RC (-n) d), c_b2 = RC (-n) d, s3 = .int .i64 0] ∧ c_b2.size = (RC (-n) d).size ∧ True) (by kernel_rfl) (putAll_self _ _) ?_ ?_ ?_
 ·exact ⟨_, _, _, _, _, _, _, (RC 0 0), rfl, F.drew, On.none _ _ _, dT⟩
 ·rintro listed mm W ii hi hsz hoff ⟨s3, s8, s9, s10, s11, s12, s13, c_b2, rfl, HF, hH, hz0, -⟩ hd
  simp only [putAll, z1, z2]
  obtain rfl | rfl | rfl | rfl | rfl | rfl | rfl | rfl := dr_c8 hi
  ·exact oP
  ·obtain rfl : s8 = _ := dh 0 hH hd
   exact oY2
  ·obtain rfl : s9 = _ := dh 1 hH hd
   refine ow rfl rfl fun K hK => ?_
   refine ⟨?_⟩
   go_simp
   with_reducible refine fr_call HF (g2 _) ?_
   exact oC
  ·exact oP
  ·obtain rfl : s11 = _ := dh 3 hH hd
   exact oY2
  ·obtain rfl : s10 = _ := dh 2 hH hd
   obtain rfl : s12 = _ := dh 4 hH hd
   exact oY2
  ·obtain rfl : s13 = _ := dh 5 hH hd
   exact oT2
  ·exact oP
 rintro listed mm W ⟨s3, s8, s9, s10, s11, s12, s13, c_b2, rfl, HF, hH, hz0, -⟩ hall
 obtain ⟨rfl, rfl, rfl, rfl, rfl, rfl, e6, rfl⟩ := onA hH hall
 rw [e6] at HF
 clear hall hH e6 hz0 F
 have F := HF
 clear HF
 simp only [putAll, z1, z2]
 go_wp2_with (first | go_skip | refine aY2 ?_ | (refine aT2 ?_; clear F; intro W F) | refine aN2 ?_)
 exact bodyPost_ret (res_cs rfl rfl rfl (Fr.get F tL) (rowRC _ _)) rfl ⟨rfl, F.below⟩
theorem Fr.push {w W W' : World} {L : List Ent} {b : Nat} {cs : Array Value} {t : TypeId} (h : Fr w W L) (hb : Below W.heap.size W W') (hB : W.heap.size ≤ b) (hk : BlkAt W' b cs t) : Fr w W' ((b, cs, t) :: L) := by
 have h2 := h.next hb
 refine ⟨h2.below, fun x hx => ?_, fun x hx => ?_, ?_⟩
 ·rcases List.mem_cons.1 hx with rfl | hx
  ·exact hk
  ·exact h2.blk x hx
 ·rcases List.mem_cons.1 hx with rfl | hx
  ·exact Nat.le_trans h.below.size hB
  ·exact h.own x hx
 ·rw [List.map_cons, List.nodup_cons]
  refine ⟨fun hm => ?_, h.dis⟩
  obtain ⟨y, hy, he⟩ := List.mem_map.1 hm
  have := (h.blk y hy).lt
  omega
set_option maxRecDepth 100000 in
theorem combine_any (m : Bool) (w : World) : Calls Tryz.prog 128 #[.bool m] w (fun e w' => ∃ b, e = .returned (.func (.func 186) #[] #[.pointer (some ⟨b, 0, none⟩)]) ∧ Below w.heap.size w w' ∧ w.heap.size ≤ b ∧ BlkAt w' b #[.bool m] 4) := by
 go_enter Tryz.func128, Tryz.ntmps128
 go_wp2_with fail
 go_ret
 exact ⟨_, rfl, bal0 _ _, Nat.le_refl _, BlkAt.new _ _ _⟩
set_option maxRecDepth 100000 in
theorem addF {n d m e : Int} (hn : n.natAbs < bp 15) (hd : d.natAbs < bp 15) (hm : m.natAbs < bp 15) (he : e.natAbs < bp 15) {k : Nat} {w : World} (hk : BlkAt w k #[.bool false] 4) : Calls Tryz.prog 186 #[.agg (RC n d), .agg (RC m e), .pointer (some ⟨k, 0, none⟩)] w (RetB (.tuple #[.agg (IC (n * e + m * d)), .agg (IC (d * e))]) w) := by
 have F := Fr.start w
 have g1 := fun w => productZ (b15 hm) (b15 hd) (b30 hm hd) w
 have g2 := fun w => productZ (b15 hn) (b15 he) (b30 hn he) w
 have g3 := fun w => addZ (b30 hn he) (b30 hm hd) (b31 (b30' hn he) (b30' hm hd)) w
 have g4 := fun w => productZ (b15 hd) (b15 he) (b30 hd he) w
 have HB : Hid (∀ {W : World} {L : List Ent}, Fr w W L → W.cell? ⟨k, 0, none⟩ = some (.bool false)) := Lib.hid (fun F => (hk.under F.below hk.lt).cell rfl)
 clear hn hd hm he hk
 go_enter Tryz.func186, Tryz.ntmps186
 go_wp2_with (first | go_skip | refine aY2 ?_ | (refine aT2 ?_; clear F; intro W F) | refine aN2 ?_)
 (clear F; intro b3 W F; try simp only [Act.put, z6, z1, z2])
 go_wp2_with (first | go_skip | refine aY2 ?_ | (refine aT2 ?_; clear F; intro W F) | refine aN2 ?_)
 (clear F; intro b4 W F; try simp only [Act.put, z6, z1, z2])
 go_wp2_with (first | go_skip | refine aY2 ?_ | (refine aT2 ?_; clear F; intro W F) | refine aN2 ?_)
 (clear F; intro b5 W F; try simp only [Act.put, z6, z1, z2])
 go_wp2_with (first | go_skip | refine aY2 ?_ | (refine aT2 ?_; clear F; intro W F) | refine aN2 ?_)
 (clear F; intro b6 W F; try simp only [Act.put, z6, z1, z2])
 go_wp2_with (first | go_skip | ((go_at_call 172); (with_reducible refine fr_call F (g1 _) ?_); (clear F; intro W F); (try dsimp only)) | refine aY2 ?_ | (refine aT2 ?_; clear F; intro W F) | refine aN2 ?_)
 (clear F; intro b7 W F; try simp only [Act.put, z6, z1, z2])
 go_upto_region 2 with (first | go_skip | refine aY2 ?_ | (refine aT2 ?_; clear F; intro W F) | refine aN2 ?_)
 have c2 := HB.out F
 go_wp2_with (first | go_skip | refine aY2 ?_ | (refine aT2 ?_; clear F; intro W F) | refine aN2 ?_)
 clear c2
 try simp only [Act.put, z6, z1, z2]
 refine wp_region_slots mixP [16, 17, 18, 19, 20, 21, 22, 23, 24, 25] (fun l mm W => ∃ (s16 s17 s18 s19 s20 s21 s22 s23 s24 s25 : Value) (c_b5 : Array Value), mm = [s16, s17, s18, s19, s20, s21, s22, s23, s24, s25] ∧ Fr w W [(b7, IC (m * d), 29), (b6, intC false 0, 29), (b5, c_b5, 29), (b4, RC m e, 31), (b3, RC n d, 31)] ∧ On l 0 [s17 = .pointer (some ⟨b3, 0, none⟩), s18 = .agg (IC n), s19 = .pointer (some ⟨b4, 33, none⟩), s20 = .agg (IC e), s21 = .agg (IC (n * e)), s22 = .agg (IC (m * d)), s23 = .tuple #[.agg (IC (n * e + m * d)), .int .i64 0], s16 = .tuple #[.agg (IC (n * e + m * d)), .int .i64 0], s24 = .agg (IC (n * e + m * d)), s25 = .int .i64 0, c_b5 = IC (n * e + m * d)] ∧ c_b5.size = (IC (n * e + m * d)).size ∧ True) (by kernel_rfl) (putAll_self _ _) ?_ ?_ ?_
 ·exact ⟨_, _, _, _, _, _, _, _, _, _, (intC false 0), rfl, F.drew, On.none _ _ _, dT⟩
 ·rintro listed mm W ii hi hsz hoff ⟨s16, s17, s18, s19, s20, s21, s22, s23, s24, s25, c_b5, rfl, HF, hH, hz0, -⟩ hd
  simp only [putAll, z1, z2]
  obtain rfl | rfl | rfl | rfl | rfl | rfl | rfl | rfl | rfl | rfl | rfl := dr_c11 hi
  ·exact oP
  ·obtain rfl : s17 = _ := dh 0 hH hd
   exact oY2
  ·exact oP
  ·obtain rfl : s19 = _ := dh 2 hH hd
   exact oY2
  ·obtain rfl : s18 = _ := dh 1 hH hd
   obtain rfl : s20 = _ := dh 3 hH hd
   refine ow rfl rfl fun K hK => ?_
   refine ⟨?_⟩
   go_simp
   with_reducible refine fr_call HF (g2 _) ?_
   exact oC
  ·exact oY2
  ·obtain rfl : s21 = _ := dh 4 hH hd
   obtain rfl : s22 = _ := dh 5 hH hd
   refine ow rfl rfl fun K hK => ?_
   refine ⟨?_⟩
   go_simp
   with_reducible refine fr_call HF (g3 _) ?_
   exact oC
  ·obtain rfl : s23 = _ := dh 6 hH hd
   exact oP
  ·obtain rfl : s16 = _ := dh 7 hH hd
   exact oP
  ·obtain rfl : s16 = _ := dh 7 hH hd
   exact oP
  ·obtain rfl : s24 = _ := dh 8 hH hd
   exact oT2
 rintro listed mm W ⟨s16, s17, s18, s19, s20, s21, s22, s23, s24, s25, c_b5, rfl, HF, hH, hz0, -⟩ hall
 obtain ⟨rfl, rfl, rfl, rfl, rfl, rfl, rfl, rfl, rfl, rfl, e10⟩ := onA hH hall
 rw [e10] at HF
 clear hall hH e10 hz0 F
 have F := HF
 clear HF
 simp only [putAll, z1, z2]
 go_wp2_with (first | go_skip | refine aY2 ?_ | (refine aT2 ?_; clear F; intro W F) | refine aN2 ?_)
 try simp only [Act.put, z6, z1, z2]
 refine wp_region_slots mixP [26, 27, 28, 29, 30, 31] (fun l mm W => ∃ (s26 s27 s28 s29 s30 s31 : Value) (c_b5 c_b6 : Array Value), mm = [s26, s27, s28, s29, s30, s31] ∧ Fr w W [(b7, IC (m * d), 29), (b6, c_b6, 29), (b5, c_b5, 29), (b4, RC m e, 31), (b3, RC n d, 31)] ∧ On l 0 [s26 = .agg (IC (n * e + m * d)), s27 = .pointer (some ⟨b3, 33, none⟩), s28 = .agg (IC d), s29 = .pointer (some ⟨b4, 33, none⟩), s30 = .agg (IC e), s31 = .agg (IC (d * e)), c_b5 = IC (n * e + m * d), c_b6 = IC (d * e)] ∧ Wt l [(6, 0)] ∧ (l.getD 6 false = false → c_b5 = IC (n * e + m * d)) ∧ c_b5.size = (IC (n * e + m * d)).size ∧ c_b6.size = (IC (d * e)).size ∧ True) (by kernel_rfl) (putAll_self _ _) ?_ ?_ ?_
 ·exact ⟨_, _, _, _, _, _, (IC (n * e + m * d)), (intC false 0), rfl, F.drew, On.none _ _ _, Wt.none _ _, fun _ => rfl, dT⟩
 ·rintro listed mm W ii hi hsz hoff ⟨s26, s27, s28, s29, s30, s31, c_b5, c_b6, rfl, HF, hH, hw, hO_b5, hz0, hz1, -⟩ hd
  simp only [putAll, z1, z2]
  obtain rfl | rfl | rfl | rfl | rfl | rfl | rfl | rfl := dr_c8 hi
  ·have hold := oldG hO_b5 hw hoff
   rw [hold] at HF
   exact oY2o
  ·exact oP
  ·obtain rfl : s27 = _ := dh 1 hH hd
   exact oY2
  ·exact oP
  ·obtain rfl : s29 = _ := dh 3 hH hd
   exact oY2
  ·obtain rfl : s28 = _ := dh 2 hH hd
   obtain rfl : s30 = _ := dh 4 hH hd
   refine ow rfl rfl fun K hK => ?_
   refine ⟨?_⟩
   go_simp
   with_reducible refine fr_call HF (g4 _) ?_
   exact oC
  ·obtain rfl : s26 = _ := dh 0 hH hd
   exact oT2
  ·obtain rfl : s31 = _ := dh 5 hH hd
   exact oT2
 rintro listed mm W ⟨s26, s27, s28, s29, s30, s31, c_b5, c_b6, rfl, HF, hH, hw, hO_b5, hz0, hz1, -⟩ hall
 obtain ⟨rfl, rfl, rfl, rfl, rfl, rfl, e6, e7⟩ := onA hH hall
 rw [e6] at HF
 rw [e7] at HF
 clear hall hH e6 e7 hw hO_b5 hz0 hz1 F
 have F := HF
 clear HF
 simp only [putAll, z1, z2]
 go_wp2_with (first | go_skip | refine aY2 ?_ | (refine aT2 ?_; clear F; intro W F) | refine aN2 ?_)
 exact bodyPost_ret (res_cc rfl rfl rfl (Fr.get F tL) (rowIC _) (Fr.get F tL) (rowIC _)) rfl ⟨rfl, F.below⟩
set_option maxRecDepth 100000 in
theorem calcAdd {x : Bool} {a : Nat} {y : Bool} {b : Nat} {x' : Bool} {a' : Nat} {y' : Bool} {b' : Nat} (ha : a < bp 32) (hb : b < bp 32) (ha' : a' < bp 32) (hb' : b' < bp 32) {k : Nat} {w : World} (hk : BlkAt w k #[.bool false] 4) {r : Int × Int × Int}
  (hr : (if okR x a y b ∧ okR x' a' y' b' then mkR (sZ x a * sZ y' b' + sZ x' a' * sZ y b) (sZ y b * sZ y' b') else (0, 0, 20)) = r) : Calls Tryz.prog 127 #[.agg (ratC x a y b), .agg (ratC x' a' y' b'), .func (.func 186) #[] #[.pointer (some ⟨k, 0, none⟩)]] w (RetB (.tuple #[.agg (RC r.1 r.2.1), .int .i64 r.2.2]) w) := by
 have F := Fr.start w
 obtain ⟨f, hf⟩ : ∃ f, decide (okR x a y b) = f := ⟨_, rfl⟩
 obtain ⟨f', hf'⟩ : ∃ f, decide (okR x' a' y' b') = f := ⟨_, rfl⟩
 have g1 := fun w => valid_any ha hb hf w
 have g2 := fun w => valid_any ha' hb' hf' w
 have HR := Lib.hid hr
 clear hr ha hb ha' hb'
 go_enter Tryz.func127, Tryz.ntmps127
 go_wp2_with (first | go_skip | refine aY2 ?_ | (refine aT2 ?_; clear F; intro W F) | refine aN2 ?_)
 (clear F; intro b3 W F; try simp only [Act.put, z6, z1, z2])
 go_wp2_with (first | go_skip | refine aY2 ?_ | (refine aT2 ?_; clear F; intro W F) | refine aN2 ?_)
 (clear F; intro b4 W F; try simp only [Act.put, z6, z1, z2])
 go_wp2_with (first | go_skip | refine aY2 ?_ | (refine aT2 ?_; clear F; intro W F) | refine aN2 ?_)
 (clear F; intro b6 W F; try simp only [Act.put, z6, z1, z2])
 cases f
 ·have hr := HR.out
  rw [if_neg (fun h => of_decide_eq_false hf h.1)] at hr
  subst hr
  clear HR hf hf'
  go_wp2_with (first | go_skip | ((go_at_call 129); (with_reducible refine fr_call F (g1 _) ?_); (clear F; intro W F); (try dsimp only)) | refine aY2 ?_ | (refine aT2 ?_; clear F; intro W F) | refine aN2 ?_)
  exact bodyPost_ret (res_cs rfl rfl rfl (Fr.get F tL) (rowRC _ _)) rfl ⟨rfl, F.below⟩
 cases f'
 ·have hr := HR.out
  rw [if_neg (fun h => of_decide_eq_false hf' h.2)] at hr
  subst hr
  clear HR hf hf'
  go_wp2_with (first | go_skip | ((go_at_call 129); (with_reducible refine fr_call F (g1 _) ?_); (clear F; intro W F); (try dsimp only)) | ((go_at_call 129); (with_reducible refine fr_call F (g2 _) ?_); (clear F; intro W F); (try dsimp only)) | refine aY2 ?_ | (refine aT2 ?_; clear F; intro W F) | refine aN2 ?_)
  exact bodyPost_ret (res_cs rfl rfl rfl (Fr.get F tL) (rowRC _ _)) rfl ⟨rfl, F.below⟩
 have o1 := of_decide_eq_true hf
 have o2 := of_decide_eq_true hf'
 have hr := HR.out
 rw [if_pos ⟨o1, o2⟩] at hr
 obtain ⟨n, d, he1, h1, h2, hd1⟩ := okR_ints o1
 obtain ⟨m, e, he2, h3, h4, hd2⟩ := okR_ints o2
 rw [he1.2.1, he1.2.2, he2.2.1, he2.2.2] at hr
 have g3 := fun {W : World} {L : List Ent} (F : Fr w W L) => addF h1 h2 h3 h4 (hk.under F.below hk.lt)
 rw [← he1.1, ← he2.1] at g3
 have g4 := fun w => makeZ (n := n * e + m * d) (d := d * e) (b31 (b30' h1 h4) (b30' h3 h2)) (b30 h2 h4) hr w
 clear HR hf hf' hr o1 o2 he1 he2 h1 h2 h3 h4 hd1 hd2
 go_wp2_with (first | go_skip | ((go_at_call 129); (with_reducible refine fr_call F (g1 _) ?_); (clear F; intro W F); (try dsimp only)) | ((go_at_call 129); (with_reducible refine fr_call F (g2 _) ?_); (clear F; intro W F); (try dsimp only)) | ((go_at_call 186); (with_reducible refine fr_call F (g3 F) ?_); (clear F; intro W F); (try dsimp only)) | ((go_at_call 125); (with_reducible refine fr_call F (g4 _) ?_); (clear F; intro W F); (try dsimp only)) | refine aY2 ?_ | (refine aT2 ?_; clear F; intro W F) | refine aN2 ?_)
 exact bodyPost_ret (res_cs rfl rfl rfl (Fr.get F tL) (rowRC _ _)) rfl ⟨rfl, F.below⟩
set_option maxRecDepth 100000 in
theorem addR {x : Bool} {a : Nat} {y : Bool} {b : Nat} {x' : Bool} {a' : Nat} {y' : Bool} {b' : Nat} (ha : a < bp 32) (hb : b < bp 32) (ha' : a' < bp 32) (hb' : b' < bp 32) (w : World) {r : Int × Int × Int}
  (hr : (if okR x a y b ∧ okR x' a' y' b' then mkR (sZ x a * sZ y' b' + sZ x' a' * sZ y b) (sZ y b * sZ y' b') else (0, 0, 20)) = r) : Calls Tryz.prog 83 #[.agg (ratC x a y b), .agg (ratC x' a' y' b')] w (RetB (.tuple #[.agg (RC r.1 r.2.1), .int .i64 r.2.2]) w) := by
 have F := Fr.start w
 have g1 := fun {W : World} {k : Nat} (hk : BlkAt W k #[.bool false] 4) => calcAdd ha hb ha' hb' hk hr
 clear hr
 go_enter Tryz.func83, Tryz.ntmps83
 go_wp2_with (first | go_skip | refine aY2 ?_ | (refine aT2 ?_; clear F; intro W F) | refine aN2 ?_)
 (clear F; intro b2 W F; try simp only [Act.put, z6, z1, z2])
 go_wp2_with (first | go_skip | refine aY2 ?_ | (refine aT2 ?_; clear F; intro W F) | refine aN2 ?_)
 (clear F; intro b3 W F; try simp only [Act.put, z6, z1, z2])
 go_wp2_with (first | go_skip | refine aY2 ?_ | (refine aT2 ?_; clear F; intro W F) | refine aN2 ?_)
 (clear F; intro b4 W F; try simp only [Act.put, z6, z1, z2])
 go_wp2_with (first | go_skip | refine aY2 ?_ | (refine aT2 ?_; clear F; intro W F) | refine aN2 ?_)
 try simp only [Act.put, z6, z1, z2]
 refine wp_region_slots mixP [5, 6, 7, 8, 9, 10, 11] (fun l mm W => ∃ (s5 s6 s7 s8 s9 s10 s11 : Value) (c_b4 : Array Value) (bk : Nat), mm = [s5, s6, s7, s8, s9, s10, s11] ∧ Fr w W ((b4, c_b4, 31) :: (b3, ratC x' a' y' b', 31) :: (b2, ratC x a y b, 31) :: (onl (l.getD 2 false) (bk, #[.bool false], 4))) ∧ On l 0 [s6 = .agg (ratC x a y b), s7 = .agg (ratC x' a' y' b'), s8 = .func (.func 186) #[] #[.pointer (some ⟨bk, 0, none⟩)], s9 = .tuple #[.agg (RC r.1 r.2.1), .int .i64 r.2.2], s10 = .agg (RC r.1 r.2.1), s11 = .int .i64 r.2.2, c_b4 = RC r.1 r.2.1, s5 = .int .i64 r.2.2] ∧ c_b4.size = (RC r.1 r.2.1).size ∧ True) (by kernel_rfl) (putAll_self _ _) ?_ ?_ ?_
 ·exact ⟨_, _, _, _, _, _, _, (RC 0 0), 0, rfl, F.drew, On.none _ _ _, dT⟩
 ·rintro listed mm W ii hi hsz hoff ⟨s5, s6, s7, s8, s9, s10, s11, c_b4, bk, rfl, HF, hH, hz0, -⟩ hd
  simp only [putAll, z1, z2]
  obtain rfl | rfl | rfl | rfl | rfl | rfl | rfl | rfl := dr_c8 hi
  ·exact oY2
  ·exact oY2
  ·refine ow rfl rfl fun K hK => ?_
   rw [show listed.getD 2 false = false from hoff] at HF
   refine ⟨?_⟩
   go_simp
   refine (combine_any false _).mono ?_
   rintro e W2 ⟨bN, rfl, hb1, hb2, hb3⟩
   replace HF := Fr.push HF hb1 hb2 hb3
   (try dsimp only)
   exact hK _ _ ⟨_, dE, _, _, _, _, _, _, _, c_b4, bN, rfl, by rw [getD_on (show 2 < listed.size by rw [hsz]; decide)]; exact Fr.mid (A := [(b4, c_b4, 31), (b3, ratC x' a' y' b', 31), (b2, ratC x a y b, 31)]) HF, onS hH rfl rfl, dT⟩
  ·obtain rfl : s6 = _ := dh 0 hH hd
   obtain rfl : s7 = _ := dh 1 hH hd
   obtain rfl : s8 = _ := dh 2 hH hd
   refine ow rfl rfl fun K hK => ?_
   have hbk : BlkAt W bk #[.bool false] 4 := Fr.get (by have h := HF; rw [hd 2 (by kernel_rfl)] at h; exact h) (by repeat (first | exact Lies.here | apply Lies.tl))
   refine ⟨?_⟩
   go_simp
   with_reducible refine fr_call HF (g1 hbk) ?_
   exact oC
  ·obtain rfl : s9 = _ := dh 3 hH hd
   exact oP
  ·obtain rfl : s9 = _ := dh 3 hH hd
   exact oP
  ·obtain rfl : s10 = _ := dh 4 hH hd
   exact oT2
  ·obtain rfl : s11 = _ := dh 5 hH hd
   exact oP
 rintro listed mm W ⟨s5, s6, s7, s8, s9, s10, s11, c_b4, bk, rfl, HF, hH, hz0, -⟩ hall
 obtain ⟨rfl, rfl, rfl, rfl, rfl, rfl, e6, rfl⟩ := onA hH hall
 rw [hall 2 (by decide)] at HF
 simp only [onl, if_true, z7, z8] at HF
 rw [e6] at HF
 clear hall hH e6 hz0 F
 have F := HF
 clear HF
 simp only [putAll, z1, z2]
 go_wp2_with (first | go_skip | refine aY2 ?_ | (refine aT2 ?_; clear F; intro W F) | refine aN2 ?_)
 exact bodyPost_ret (res_cs rfl rfl rfl (Fr.get F tL) (rowRC _ _)) rfl ⟨rfl, F.below⟩
theorem ten_le {n : Nat} (h : n ≤ 9) : 10 ^ n ≤ 1000000000 := by
 have : 10 ^ n ≤ 10 ^ 9 := Nat.pow_le_pow_right (by decide) h
 omega
set_option maxRecDepth 100000 in
theorem power_any {n : Nat} (hn : n ≤ 9) (w : World) : Calls Tryz.prog 82 #[.int .i64 n] w (RetB (.int .i64 (10 ^ n : Nat)) w) := by
 go_enter Tryz.func82, Tryz.ntmps82
 go_wp2_with fail
 go_loopw [3, 5] (fun pv iv wr => ∃ i p : Nat, i ≤ n ∧ p = 10 ^ i ∧ pv = .int .i64 p ∧ iv = .int .i64 i ∧ Below w.heap.size w wr) (fun _ iv _ => n - (intOf iv).toNat)
 case atStart => exact ⟨0, 1, by omega, rfl, rfl, rfl, Below.refl _ _⟩
 case round =>
  obtain ⟨i, p, hi, hp, rfl, rfl, hb⟩ := hrel
  have HB := Lib.hid hb
  clear hb
  by_cases hin : i < n
  ·have hp1 : p ≤ 1000000000 := by rw [hp]; exact ten_le (by omega)
   obtain ⟨q, hq⟩ : ∃ q, p * 10 = q := ⟨_, rfl⟩
   have HP := Lib.hid (show q = 10 ^ (i + 1) from by rw [← hq, hp, Nat.pow_succ])
   have m1 : IntKind.i64.wrap ((p : Int) * 10) = (q : Int) := by
    rw [show (p : Int) * 10 = (q : Int) by omega]
    exact IntWalk.i64_in _ (by omega)
   clear hp hq
   go_wp2_with fail
   go_roundw
   case rel => exact ⟨i + 1, q, by omega, HP.out, rfl, by go_num, HB.out⟩
   case measure => simp [intOf]; omega
  ·obtain rfl : n = i := by omega
   have HP := Lib.hid hp
   clear hp
   go_wp2_with fail
   go_ret
   exact ⟨by rw [HP.out]; rfl, HB.out⟩
def chkE (v : Prop) [Decidable v] (p : Int) : Int := if ¬ v then 20 else if p < 0 ∨ 9 < p then 30 else 0
set_option maxRecDepth 100000 in
theorem check_any {x : Bool} {a : Nat} {y : Bool} {b : Nat} (ha : a < bp 32) (hb : b < bp 32) {p e : Int} (he : chkE (okR x a y b) p = e) (w : World) : Calls Tryz.prog 91 #[.agg (ratC x a y b), .int .i64 p] w (RetB (.int .i64 e) w) := by
 have F := Fr.start w
 obtain ⟨f, hf⟩ : ∃ f, decide (okR x a y b) = f := ⟨_, rfl⟩
 have g1 := fun w => valid_any ha hb hf w
 unfold chkE at he
 have HE := Lib.hid he
 clear he ha hb
 go_enter Tryz.func91, Tryz.ntmps91
 go_wp2_with (first | go_skip | refine aY2 ?_ | (refine aT2 ?_; clear F; intro W F) | refine aN2 ?_)
 (clear F; intro b2 W F; try simp only [Act.put, z6, z1, z2])
 cases f
 ·have he := HE.out
  rw [if_pos (of_decide_eq_false hf)] at he
  subst he
  clear HE hf
  go_wp2_with (first | go_skip | ((go_at_call 129); (with_reducible refine fr_call F (g1 _) ?_); (clear F; intro W F); (try dsimp only)) | refine aY2 ?_ | (refine aT2 ?_; clear F; intro W F) | refine aN2 ?_)
  go_ret
  exact ⟨rfl, F.below⟩
 have he := HE.out
 rw [if_neg (by rw [Classical.not_not]; exact of_decide_eq_true hf)] at he
 clear HE hf
 by_cases h1 : p < 0
 ·rw [if_pos (.inl h1)] at he
  subst he
  go_wp2_with (first | go_skip | ((go_at_call 129); (with_reducible refine fr_call F (g1 _) ?_); (clear F; intro W F); (try dsimp only)) | refine aY2 ?_ | (refine aT2 ?_; clear F; intro W F) | refine aN2 ?_)
  go_ret
  exact ⟨rfl, F.below⟩
 have d1 : decide (p < 0) = false := decide_eq_false h1
 by_cases h2 : 9 < p
 ·rw [if_pos (.inr h2)] at he
  subst he
  clear h1
  go_wp2_with (first | go_skip | ((go_at_call 129); (with_reducible refine fr_call F (g1 _) ?_); (clear F; intro W F); (try dsimp only)) | refine aY2 ?_ | (refine aT2 ?_; clear F; intro W F) | refine aN2 ?_)
  go_ret
  exact ⟨rfl, F.below⟩
 ·rw [if_neg (by omega)] at he
  subst he
  have d2 : decide (9 < p) = false := decide_eq_false h2
  clear h1 h2
  go_wp2_with (first | go_skip | ((go_at_call 129); (with_reducible refine fr_call F (g1 _) ?_); (clear F; intro W F); (try dsimp only)) | refine aY2 ?_ | (refine aT2 ?_; clear F; intro W F) | refine aN2 ?_)
  go_ret
  exact ⟨rfl, F.below⟩
theorem b_ten {n : Int} {p : Nat} (hn : n.natAbs < bp 15) (hp : p ≤ 9) : (n * ((10 ^ p : Nat) : Int)).natAbs < bp 17 := by
 rw [Int.natAbs_mul, Int.natAbs_natCast]
 have h1 := ten_le hp
 have h2 : bp 17 = bp 15 * 4294967296 * 4294967296 := by rw [← bp_succ, ← bp_succ]
 have h3 := Nat.mul_le_mul_left n.natAbs h1
 have h4 := Nat.mul_lt_mul_of_pos_right hn (show 0 < 1000000000 by decide)
 omega
set_option maxRecDepth 100000 in
theorem scaledZ {n d : Int} (hn : n.natAbs < bp 15) (hd : d.natAbs < bp 15) (h0 : d ≠ 0) {p : Nat} (hp : p ≤ 9) (w : World) : Calls Tryz.prog 92 #[.agg (RC n d), .int .i64 p] w (RetB (.tuple #[.agg (IC (n * ((10 ^ p : Nat) : Int) / d)), .agg (IC (n * ((10 ^ p : Nat) : Int) % d))]) w) := by
 have F := Fr.start w
 have hb := b_ten hn hp
 have hb2 : (n * ((10 ^ p : Nat) : Int)).natAbs < bp 32 := Nat.lt_of_lt_of_le hb (bp_le (by decide))
 have ht := ten_le hp
 have g1 := fun w => power_any hp w
 obtain ⟨q, hq⟩ : ∃ q : Nat, 10 ^ p = q := ⟨_, rfl⟩
 rw [hq] at g1 ht hb2
 rw [hq]
 have g2 := fun w => fromZ (n := (q : Int)) (by omega) (by omega) w
 have hq2 : (q : Int).natAbs < bp 32 := Nat.lt_of_lt_of_le (show (q : Int).natAbs < bp 2 by unfold bp; omega) (bp_le (by decide))
 have g3 := fun w => mulZ (b15 hn) hq2 hb2 w
 have g4 := fun w => divmodZ hb2 (b15 hd) h0 w
 obtain ⟨m, hm⟩ : ∃ m, n * (q : Int) = m := ⟨_, rfl⟩
 rw [hm] at g3 g4
 rw [hm]
 obtain ⟨u, hu⟩ : ∃ u, m / d = u := ⟨_, rfl⟩
 obtain ⟨v, hv⟩ : ∃ v, m % d = v := ⟨_, rfl⟩
 rw [hu, hv] at g4
 rw [hu, hv]
 clear hb hb2 ht hq hq2 hm hu hv hn hd h0 hp
 go_enter Tryz.func92, Tryz.ntmps92
 go_wp2_with (first | go_skip | refine aY2 ?_ | (refine aT2 ?_; clear F; intro W F) | refine aN2 ?_)
 (clear F; intro b2 W F; try simp only [Act.put, z6, z1, z2])
 go_wp2_with (first | go_skip | refine aY2 ?_ | (refine aT2 ?_; clear F; intro W F) | refine aN2 ?_)
 (clear F; intro b4 W F; try simp only [Act.put, z6, z1, z2])
 go_wp2_with (first | go_skip | refine aY2 ?_ | (refine aT2 ?_; clear F; intro W F) | refine aN2 ?_)
 (clear F; intro b5 W F; try simp only [Act.put, z6, z1, z2])
 go_wp2_with (first | go_skip | refine aY2 ?_ | (refine aT2 ?_; clear F; intro W F) | refine aN2 ?_)
 try simp only [Act.put, z6, z1, z2]
 refine wp_region_slots mixP [6, 7, 8, 9, 10, 11, 12, 13, 14, 15, 16] (fun l mm W => ∃ (s6 s7 s8 s9 s10 s11 s12 s13 s14 s15 s16 : Value) (c_b6 : Array Value) (b6 : Nat), mm = [s6, s7, s8, s9, s10, s11, s12, s13, s14, s15, s16] ∧ Fr w W ((b5, intC false 0, 29) :: (b4, intC false 0, 29) :: (b2, RC n d, 31) :: (onl (l.getD 9 false) (b6, c_b6, 29))) ∧ On l 0 [s9 = .pointer (some ⟨b2, 0, none⟩), s10 = .agg (IC n), s11 = .int .i64 (p : Int), s12 = .int .i64 (q : Int), s13 = .agg (IC (q : Int)), s14 = .tuple #[.agg (IC m), .int .i64 0], s8 = .tuple #[.agg (IC m), .int .i64 0], s15 = .agg (IC m), s16 = .int .i64 0, s6 = .pointer (some ⟨b6, 0, none⟩), c_b6 = IC m, s7 = .int .i64 0] ∧ Wt l [(10, 9)] ∧ c_b6.size = (IC m).size ∧ True) (by kernel_rfl) (putAll_self _ _) ?_ ?_ ?_
 ·exact ⟨_, _, _, _, _, _, _, _, _, _, _, (intC false 0), 0, rfl, F.drew, On.none _ _ _, Wt.none _ _, dT⟩
 ·rintro listed mm W ii hi hsz hoff ⟨s6, s7, s8, s9, s10, s11, s12, s13, s14, s15, s16, c_b6, b6, rfl, HF, hH, hw, hz0, -⟩ hd
  simp only [putAll, z1, z2]
  obtain rfl | rfl | rfl | rfl | rfl | rfl | rfl | rfl | rfl | rfl | rfl | rfl := dr_c12 hi
  ·exact oP
  ·obtain rfl : s9 = _ := dh 0 hH hd
   exact oY2
  ·exact oP
  ·obtain rfl : s11 = _ := dh 2 hH hd
   refine ow rfl rfl fun K hK => ?_
   refine ⟨?_⟩
   go_simp
   with_reducible refine fr_call HF (g1 _) ?_
   exact oC
  ·obtain rfl : s12 = _ := dh 3 hH hd
   refine ow rfl rfl fun K hK => ?_
   refine ⟨?_⟩
   go_simp
   with_reducible refine fr_call HF (g2 _) ?_
   exact oC
  ·obtain rfl : s10 = _ := dh 1 hH hd
   obtain rfl : s13 = _ := dh 4 hH hd
   refine ow rfl rfl fun K hK => ?_
   refine ⟨?_⟩
   go_simp
   with_reducible refine fr_call HF (g3 _) ?_
   exact oC
  ·obtain rfl : s14 = _ := dh 5 hH hd
   exact oP
  ·obtain rfl : s8 = _ := dh 6 hH hd
   exact oP
  ·obtain rfl : s8 = _ := dh 6 hH hd
   exact oP
  ·refine ow rfl rfl fun K hK => ?_
   rw [show listed.getD 9 false = false from hoff] at HF
   with_reducible apply gA_int HF
   intro bN W HF
   go_simp
   exact hK _ _ ⟨_, dE, _, _, _, _, _, _, _, _, _, _, _, (intC false 0), bN, rfl, by rw [getD_on (show 9 < listed.size by rw [hsz]; decide)]; exact Fr.mid (A := [(b5, intC false 0, 29), (b4, intC false 0, 29), (b2, RC n d, 31)]) HF, onS (onV 10 hH (wtF hw hoff)) rfl rfl, dT⟩
  ·obtain rfl : s15 = _ := dh 7 hH hd
   obtain rfl : s6 = _ := dh 9 hH hd
   have HG := hd 9 (by kernel_rfl)
   rw [HG] at HF
   simp only [onl, if_true, z7, z8] at HF
   exact oT2
  ·obtain rfl : s16 = _ := dh 8 hH hd
   exact oP
 rintro listed mm W ⟨s6, s7, s8, s9, s10, s11, s12, s13, s14, s15, s16, c_b6, b6, rfl, HF, hH, hw, hz0, -⟩ hall
 obtain ⟨rfl, rfl, rfl, rfl, rfl, rfl, rfl, rfl, rfl, rfl, e10, rfl⟩ := onA hH hall
 rw [hall 9 (by decide)] at HF
 simp only [onl, if_true, z7, z8] at HF
 rw [e10] at HF
 clear hall hH e10 hw hz0 F
 have F := HF
 clear HF
 simp only [putAll, z1, z2]
 go_wp2_with (first | go_skip | ((go_at_call 140); (with_reducible refine fr_call F (g4 _) ?_); (clear F; intro W F); (try dsimp only)) | refine aY2 ?_ | (refine aT2 ?_; clear F; intro W F) | refine aN2 ?_)
 try simp only [Act.put, z6, z1, z2]
 refine wp_region_slots mixP [25, 26] (fun l mm W => ∃ (s25 s26 : Value) (c_b4 c_b5 : Array Value), mm = [s25, s26] ∧ Fr w W [(b5, c_b5, 29), (b4, c_b4, 29), (b2, RC n d, 31), (b6, IC m, 29)] ∧ On l 0 [s25 = .agg (IC u), s26 = .agg (IC v), c_b4 = IC u, c_b5 = IC v] ∧ Wt l [(2, 0), (3, 1)] ∧ (l.getD 2 false = false → c_b4 = IC u) ∧ (l.getD 3 false = false → c_b5 = IC v) ∧ c_b4.size = (IC u).size ∧ c_b5.size = (IC v).size ∧ True) (by kernel_rfl) (putAll_self _ _) ?_ ?_ ?_
 ·exact ⟨_, _, (IC u), (IC v), rfl, F.drew, On.none _ _ _, Wt.none _ _, fun _ => rfl, fun _ => rfl, dT⟩
 ·rintro listed mm W ii hi hsz hoff ⟨s25, s26, c_b4, c_b5, rfl, HF, hH, hw, hO_b4, hO_b5, hz0, hz1, -⟩ hd
  simp only [putAll, z1, z2]
  obtain rfl | rfl | rfl | rfl := dr_c4 hi
  ·have hold := oldG hO_b4 hw hoff
   rw [hold] at HF
   exact oY2o
  ·have hold := oldG hO_b5 hw hoff
   rw [hold] at HF
   exact oY2o
  ·obtain rfl : s25 = _ := dh 0 hH hd
   exact oT2
  ·obtain rfl : s26 = _ := dh 1 hH hd
   exact oT2
 rintro listed mm W ⟨s25, s26, c_b4, c_b5, rfl, HF, hH, hw, hO_b4, hO_b5, hz0, hz1, -⟩ hall
 obtain ⟨rfl, rfl, e2, e3⟩ := onA hH hall
 rw [e2] at HF
 rw [e3] at HF
 clear hall hH e2 e3 hw hO_b4 hO_b5 hz0 hz1 F
 have F := HF
 clear HF
 simp only [putAll, z1, z2]
 go_wp2_with (first | go_skip | refine aY2 ?_ | (refine aT2 ?_; clear F; intro W F) | refine aN2 ?_)
 exact bodyPost_ret (res_cc rfl rfl rfl (Fr.get F tL) (rowIC _) (Fr.get F tL) (rowIC _)) rfl ⟨rfl, F.below⟩
def upB (m z h : Int) (g : Bool) : Bool :=
 if m = 1 then g else if m = 2 then !g else if m = 3 then false else if m = 4 then true else if m = 5 then (if h = 0 then !g else decide (0 < h)) else (if h = 0 then decide (z % 2 = 1) else decide (0 < h))
def rndR (v : Prop) [Decidable v] (n d p m : Int) : Int × Int :=
 if ¬ v then (0, 20) else if p < 0 ∨ 9 < p then (0, 30) else if m < 1 ∨ 6 < m then (0, 31)
 else
  let N := n * ((10 ^ p.toNat : Nat) : Int)
  if N % d = 0 then (N / d, 0) else if upB m (N / d) (cmpZ (2 * (N % d)) d) (decide (n < 0)) = true then (N / d + 1, 0) else (N / d, 0)
theorem b17 {x y : Int} (h : x.natAbs < bp 15) (k : y.natAbs < bp 15) : (x + y).natAbs < bp 32 := by
 have k1 : bp 16 = bp 15 * 4294967296 := bp_succ 15
 have k2 := bp_le (show 16 ≤ 32 by decide)
 omega
theorem two_lims {m : Nat} (h : m < 18446744073709551616) : m = lim m 1 * 4294967296 + lim m 0 := by
 unfold lim
 rw [bp_zero, bp_one]
 omega
theorem rnd_lt {x : Bool} {a : Nat} {y : Bool} {b : Nat} {p m : Int} : (rndR (okR x a y b) (sZ x a) (sZ y b) p m).1.natAbs < bp 18 := by
 unfold rndR
 have k0 := bp_pos 18
 split
 ·simpa using k0
 rename_i hv
 rw [Classical.not_not] at hv
 split
 ·simpa using k0
 rename_i hp
 split
 ·simpa using k0
 obtain ⟨n, d, ⟨h1, h2, h3⟩, hn, hd, hd0⟩ := okR_ints hv
 rw [h2, h3]
 have hN := b_ten hn (show p.toNat ≤ 9 by omega)
 have hu := Nat.lt_of_le_of_lt (div_le_abs (n * ((10 ^ p.toNat : Nat) : Int)) d) hN
 have k1 : bp 18 = bp 17 * 4294967296 := bp_succ 17
 dsimp only
 split
 ·dsimp only
  omega
 ·split <;> dsimp only <;> omega
def exR (v : Prop) [Decidable v] (n d p : Int) : Bool × Int := if chkE v p ≠ 0 then (false, chkE v p) else (decide (n * ((10 ^ p.toNat : Nat) : Int) % d = 0), 0)
theorem chkE_ok {v : Prop} [Decidable v] {p : Int} (h : chkE v p = 0) : v ∧ 0 ≤ p ∧ p ≤ 9 := by
 unfold chkE at h
 split at h
 ·exact absurd h (by decide)
 ·rename_i hv
  split at h
  ·exact absurd h (by decide)
  ·exact ⟨by rwa [Classical.not_not] at hv, by omega, by omega⟩
end
end Go.Proofs.YteaahhokaffmdaaGreatDoor
