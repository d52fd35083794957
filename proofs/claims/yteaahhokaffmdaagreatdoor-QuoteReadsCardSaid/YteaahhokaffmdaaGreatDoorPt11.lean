/- What the laws lean on. -/
import Derived.Test.YteaahhokaffmdaaGreatDoorPt10
namespace Go.Proofs.YteaahhokaffmdaaGreatDoor
set_option linter.unusedVariables false
set_option linter.unusedSimpArgs false
section
open Go.RowKit
set_option maxHeartbeats 4000000
theorem IC_ng (z : Int) : (IC z)[0]? = some (.bool (decide (z < 0))) := intC_neg _ _
set_option maxRecDepth 100000 in
theorem rdivmodZ {x y : Int} (hx : x.natAbs < bp 32) (hy : y.natAbs < bp 32) (h0 : y ≠ 0) (w : World) : Calls Tryz.prog 152 #[.agg (IC x), .agg (IC y)] w (RetB (.tuple #[.agg (IC (x / y)), .agg (IC (x % y)), .int .i64 0]) w) := by
 have F := Fr.start w
 have hy0 : y.natAbs ≠ 0 := by omega
 have hdm : x.natAbs / y.natAbs ≤ x.natAbs := Nat.div_le_self _ _
 have hmm : x.natAbs % y.natAbs < y.natAbs := Nat.mod_lt _ (by omega)
 have hS := divS (x := x) h0
 have hN := divN (x := x) h0
 have hC := divC (x := x) h0
 have hD : x.natAbs % y.natAbs ≠ 0 → x.natAbs / y.natAbs + 1 ≤ x.natAbs := fun h => by
  have h1 : 1 < y.natAbs := by
   rcases Nat.lt_or_ge 1 y.natAbs with h1 | h1
   ·exact h1
   ·have : y.natAbs = 1 := by omega
    rw [this, Nat.mod_one] at h
    exact absurd rfl h
  have h2 : 0 < x.natAbs := by
   rcases Nat.eq_zero_or_pos x.natAbs with h2 | h2
   ·rw [h2, Nat.zero_mod] at h
    exact absurd rfl h
   ·exact h2
  exact Nat.div_lt_self h2 h1
 have cx := IC_ng x
 have cy := IC_ng y
 obtain ⟨c, hc⟩ : ∃ c, x.natAbs / y.natAbs = c := ⟨_, rfl⟩
 obtain ⟨d, hd⟩ : ∃ d, x.natAbs % y.natAbs = d := ⟨_, rfl⟩
 have gd := fun w => rdivide_any hx hy hy0 hc hd w
 have gz := fun w => rzero_any hy (z := false) (decide_eq_false hy0) w
 rw [hc, hd] at hD hN hC
 rw [hc] at hdm
 rw [hd] at hmm
 have ld : d < bp 32 := by omega
 have lc : c < bp 32 := by omega
 have gn := fun w => rzero_any ld (z := decide (d = 0)) rfl w
 obtain ⟨p, hp⟩ : ∃ p, decide (x < 0) = p := ⟨_, rfl⟩
 obtain ⟨q, hq⟩ : ∃ q, decide (y < 0) = q := ⟨_, rfl⟩
 rw [hp] at cx hS
 rw [hq] at cy hS
 have hcs : ∃ c' d' : Nat, c' < bp 32 ∧ d' < bp 32 ∧ c' = (x / y).natAbs ∧ (d' : Int) = x % y ∧ (if p = true ∧ d ≠ 0 then c' = c + 1 ∧ d' = y.natAbs - d ∧ c + 1 < bp 32 else c' = c ∧ d' = d) := by
  by_cases h : p = true ∧ d ≠ 0
  ·have h1 : x < 0 := by simpa [h.1] using hp
   obtain ⟨e1, e2⟩ := hC ⟨h1, h.2⟩
   have := hD h.2
   exact ⟨c + 1, y.natAbs - d, by omega, by omega, e1, e2, by rw [if_pos h]; exact ⟨rfl, rfl, by omega⟩⟩
  ·have h1 : ¬ (x < 0 ∧ d ≠ 0) := fun h1 => h ⟨by simpa [h1.1] using hp.symm, h1.2⟩
   obtain ⟨e1, e2⟩ := hN h1
   exact ⟨c, d, lc, ld, e1, e2, by rw [if_neg h]; exact ⟨rfl, rfl⟩⟩
 obtain ⟨c', d', lc', ld', hcc, hdd, hif⟩ := hcs
 have m1 := fun w => rcanonZ (n := p != q) lc' hcc hS.1 hS.2 w
 have m2 := fun w => rcanonZ (n := false) (x := x % y) ld' (by omega) (by omega) (fun _ => rfl) w
 have HI := Lib.hid hif
 have HX := Lib.hid (And.intro hx (And.intro hy hmm))
 clear hc hd hS hN hC hD hp hq hif hcc hdd hx hy h0 hmm hdm
 go_enter Tryz.func152, Tryz.ntmps152
 go_wp2_with (first | go_skip | refine aY3 ?_ | (refine aT3 ?_; clear F; intro W F) | refine aN3 ?_)
 (clear F; intro b2 W F; try simp only [Act.put, z6, z1, z2])
 go_wp2_with (first | go_skip | refine aY3 ?_ | (refine aT3 ?_; clear F; intro W F) | refine aN3 ?_)
 (clear F; intro b3 W F; try simp only [Act.put, z6, z1, z2])
 go_wp2_with (first | go_skip | refine aY3 ?_ | (refine aT3 ?_; clear F; intro W F) | refine aN3 ?_)
 (clear F; intro b4 W F; try simp only [Act.put, z6, z1, z2])
 go_wp2_with (first | go_skip | refine aY3 ?_ | (refine aT3 ?_; clear F; intro W F) | refine aN3 ?_)
 (clear F; intro b5 W F; try simp only [Act.put, z6, z1, z2])
 go_wp2_with (first | go_skip | ((go_at_call 194); (with_reducible refine fr_call F (gz _) ?_); (clear F; intro W F); (try dsimp only)) | ((go_at_call 209); (with_reducible refine fr_call F (gd _) ?_); (clear F; intro W F); (try dsimp only)) | refine aY3 ?_ | (refine aT3 ?_; clear F; intro W F) | refine aN3 ?_)
 (clear F; intro b7 W F; try simp only [Act.put, z6, z1, z2])
 go_wp2_with (first | go_skip | refine aY3 ?_ | (refine aT3 ?_; clear F; intro W F) | refine aN3 ?_)
 (clear F; intro b8 W F; try simp only [Act.put, z6, z1, z2])
 go_upto_region 4 with (first | go_skip | refine aY3 ?_ | (refine aT3 ?_; clear F; intro W F) | refine aN3 ?_)
 have c0 := (F.get (b := b2) tL).cell cx
 by_cases hcase : p = true ∧ d ≠ 0
 ·obtain ⟨rfl, hdne⟩ := hcase
  have hi := HI.out
  rw [if_pos ⟨rfl, hdne⟩] at hi
  obtain ⟨rfl, rfl, hl⟩ := hi
  rw [decide_eq_false hdne] at gn
  have mi := fun w => rdiff_le HX.out.2.1 ld (Nat.le_of_lt HX.out.2.2) w
  have pl := fun w => rsum_any lc (show 1 < bp 32 by decide) (Nat.mod_eq_of_lt hl) (decide_eq_true hl) w
  have mo : (true != q) = !q := by cases q <;> rfl
  rw [mo] at m1
  clear HI hl hdne mo
  go_wp2_with (first | go_skip | ((go_at_call 194); (with_reducible refine fr_call F (gn _) ?_); (clear F; intro W F); (try dsimp only)) | ((go_at_call 193); (with_reducible refine fr_call F (mi _) ?_); (clear F; intro W F); (try dsimp only)) | refine aY3 ?_ | (refine aT3 ?_; clear F; intro W F) | refine aN3 ?_)
  (clear F; intro b9 W F; try simp only [Act.put, z6, z1, z2])
  clear c0
  have c1 := (F.get (b := b9) Lies.here).cell (limA_at (n := 32) (m := 0) (j := 0) (by decide))
  have f1 := BlkAt.fz (F.get (b := b9) Lies.here) 0
  have FN := Lib.hid ((F.cellA (A := []) 0 (.int .u32 1)).is (limA_set (by decide)))
  go_upto_region 8 with fail
  clear F c1 f1
  have F := FN.out
  rw [show setM 0 0 1 = 1 by simp [setM, bp]] at F
  clear FN
  generalize World.setCell _ _ _ = W9 at *
  go_wp2_with (first | go_skip | ((go_at_call 191); (with_reducible refine fr_call F (pl _) ?_); (clear F; intro W F); (try dsimp only)) | refine aY3 ?_ | (refine aT3 ?_; clear F; intro W F) | refine aN3 ?_)
  try simp only [Act.put, z6, z1, z2]
  refine wp_region_slots mixP [6, 41, 42, 43, 44, 45, 46, 47, 48, 49] (fun l mm W => ∃ (s6 s41 s42 s43 s44 s45 s46 s47 s48 s49 : Value) (c_b4 c_b5 : Array Value), mm = [s6, s41, s42, s43, s44, s45, s46, s47, s48, s49] ∧ Fr w W [(b9, limA 32 1, 27), (b8, limA 32 (y.natAbs - d), 27), (b7, limA 32 (c + 1), 27), (b5, c_b5, 29), (b4, c_b4, 29), (b3, IC y, 29), (b2, IC x, 29)] ∧ On l 0 [s41 = .pointer (some ⟨b2, 0, none⟩), s42 = .bool true, s43 = .pointer (some ⟨b3, 0, none⟩), s44 = .bool q, s45 = .bool (!q), s46 = .agg (limA 32 (c + 1)), s47 = .agg (IC (x / y)), s48 = .agg (limA 32 (y.natAbs - d)), s49 = .agg (IC (x % y)), c_b4 = IC (x / y), c_b5 = IC (x % y), s6 = .int .i64 0] ∧ c_b4.size = (IC (x / y)).size ∧ c_b5.size = (IC (x % y)).size ∧ True) (by kernel_rfl) (putAll_self _ _) ?_ ?_ ?_
  ·exact ⟨_, _, _, _, _, _, _, _, _, _, (intC false 0), (intC false 0), rfl, F.drew, On.none _ _ _, dT⟩
  ·rintro listed mm W ii hi hsz hoff ⟨s6, s41, s42, s43, s44, s45, s46, s47, s48, s49, c_b4, c_b5, rfl, HF, hH, hz0, hz1, -⟩ hd
   simp only [putAll, z1, z2]
   obtain rfl | rfl | rfl | rfl | rfl | rfl | rfl | rfl | rfl | rfl | rfl | rfl := dr_c12 hi
   ·exact oP
   ·obtain rfl : s41 = _ := dh 0 hH hd
    have cF := BlkAt.cell (Fr.get HF (b := b2) (cs := IC x) (by (exact tL))) (cx)
    exact oP
   ·exact oP
   ·obtain rfl : s43 = _ := dh 2 hH hd
    have cF := BlkAt.cell (Fr.get HF (b := b3) (cs := IC y) (by (exact tL))) (cy)
    exact oP
   ·obtain rfl : s42 = _ := dh 1 hH hd
    obtain rfl : s44 = _ := dh 3 hH hd
    exact oP
   ·exact oY3
   ·obtain rfl : s45 = _ := dh 4 hH hd
    obtain rfl : s46 = _ := dh 5 hH hd
    refine ow rfl rfl fun K hK => ?_
    refine ⟨?_⟩
    go_simp
    with_reducible refine fr_call HF (m1 _) ?_
    exact oC
   ·exact oY3
   ·obtain rfl : s48 = _ := dh 7 hH hd
    refine ow rfl rfl fun K hK => ?_
    refine ⟨?_⟩
    go_simp
    with_reducible refine fr_call HF (m2 _) ?_
    exact oC
   ·obtain rfl : s47 = _ := dh 6 hH hd
    exact oT3
   ·obtain rfl : s49 = _ := dh 8 hH hd
    exact oT3
   ·exact oP
  rintro listed mm W ⟨s6, s41, s42, s43, s44, s45, s46, s47, s48, s49, c_b4, c_b5, rfl, HF, hH, hz0, hz1, -⟩ hall
  obtain ⟨rfl, rfl, rfl, rfl, rfl, rfl, rfl, rfl, rfl, e9, e10, rfl⟩ := onA hH hall
  rw [e9] at HF
  rw [e10] at HF
  clear hall hH e9 e10 hz0 hz1 F
  have F := HF
  clear HF
  simp only [putAll, z1, z2]
  go_wp2_with (first | go_skip | refine aY3 ?_ | (refine aT3 ?_; clear F; intro W F) | refine aN3 ?_)
  exact bodyPost_ret (res_ccs rfl rfl rfl rfl (Fr.get F tL) (rowInt _ _) (Fr.get F tL) (rowInt _ _)) rfl ⟨rfl, F.below⟩
 ·have hi := HI.out
  rw [if_neg hcase] at hi
  obtain ⟨rfl, rfl⟩ := hi
  cases p
  ·have mo : (false != q) = q := by cases q <;> rfl
   rw [mo] at m1
   go_wp2_with (first | go_skip | refine aY3 ?_ | (refine aT3 ?_; clear F; intro W F) | refine aN3 ?_)
   clear c0
   try simp only [Act.put, z6, z1, z2]
   refine wp_region_slots mixP [6, 41, 42, 43, 44, 45, 46, 47, 48, 49] (fun l mm W => ∃ (s6 s41 s42 s43 s44 s45 s46 s47 s48 s49 : Value) (c_b4 c_b5 : Array Value), mm = [s6, s41, s42, s43, s44, s45, s46, s47, s48, s49] ∧ Fr w W [(b8, limA 32 d', 27), (b7, limA 32 c', 27), (b5, c_b5, 29), (b4, c_b4, 29), (b3, IC y, 29), (b2, IC x, 29)] ∧ On l 0 [s41 = .pointer (some ⟨b2, 0, none⟩), s42 = .bool false, s43 = .pointer (some ⟨b3, 0, none⟩), s44 = .bool q, s45 = .bool q, s46 = .agg (limA 32 c'), s47 = .agg (IC (x / y)), s48 = .agg (limA 32 d'), s49 = .agg (IC (x % y)), c_b4 = IC (x / y), c_b5 = IC (x % y), s6 = .int .i64 0] ∧ c_b4.size = (IC (x / y)).size ∧ c_b5.size = (IC (x % y)).size ∧ True) (by kernel_rfl) (putAll_self _ _) ?_ ?_ ?_
   ·exact ⟨_, _, _, _, _, _, _, _, _, _, (intC false 0), (intC false 0), rfl, F.drew, On.none _ _ _, dT⟩
   ·rintro listed mm W ii hi hsz hoff ⟨s6, s41, s42, s43, s44, s45, s46, s47, s48, s49, c_b4, c_b5, rfl, HF, hH, hz0, hz1, -⟩ hd
    simp only [putAll, z1, z2]
    obtain rfl | rfl | rfl | rfl | rfl | rfl | rfl | rfl | rfl | rfl | rfl | rfl := dr_c12 hi
    ·exact oP
    ·obtain rfl : s41 = _ := dh 0 hH hd
     have cF := BlkAt.cell (Fr.get HF (b := b2) (cs := IC x) (by (exact tL))) (cx)
     exact oP
    ·exact oP
    ·obtain rfl : s43 = _ := dh 2 hH hd
     have cF := BlkAt.cell (Fr.get HF (b := b3) (cs := IC y) (by (exact tL))) (cy)
     exact oP
    ·obtain rfl : s42 = _ := dh 1 hH hd
     obtain rfl : s44 = _ := dh 3 hH hd
     exact oP
    ·exact oY3
    ·obtain rfl : s45 = _ := dh 4 hH hd
     obtain rfl : s46 = _ := dh 5 hH hd
     refine ow rfl rfl fun K hK => ?_
     refine ⟨?_⟩
     go_simp
     with_reducible refine fr_call HF (m1 _) ?_
     exact oC
    ·exact oY3
    ·obtain rfl : s48 = _ := dh 7 hH hd
     refine ow rfl rfl fun K hK => ?_
     refine ⟨?_⟩
     go_simp
     with_reducible refine fr_call HF (m2 _) ?_
     exact oC
    ·obtain rfl : s47 = _ := dh 6 hH hd
     exact oT3
    ·obtain rfl : s49 = _ := dh 8 hH hd
     exact oT3
    ·exact oP
   rintro listed mm W ⟨s6, s41, s42, s43, s44, s45, s46, s47, s48, s49, c_b4, c_b5, rfl, HF, hH, hz0, hz1, -⟩ hall
   obtain ⟨rfl, rfl, rfl, rfl, rfl, rfl, rfl, rfl, rfl, e9, e10, rfl⟩ := onA hH hall
   rw [e9] at HF
   rw [e10] at HF
   clear hall hH e9 e10 hz0 hz1 F
   have F := HF
   clear HF
   simp only [putAll, z1, z2]
   go_wp2_with (first | go_skip | refine aY3 ?_ | (refine aT3 ?_; clear F; intro W F) | refine aN3 ?_)
   exact bodyPost_ret (res_ccs rfl rfl rfl rfl (Fr.get F tL) (rowInt _ _) (Fr.get F tL) (rowInt _ _)) rfl ⟨rfl, F.below⟩
  ·have mo : (true != q) = !q := by cases q <;> rfl
   rw [mo] at m1
   have hd0 : decide (d' = 0) = true := by
    rw [decide_eq_true_eq]
    refine Classical.byContradiction fun h => hcase ⟨rfl, h⟩
   rw [hd0] at gn
   clear hcase hd0
   go_wp2_with (first | go_skip | ((go_at_call 194); (with_reducible refine fr_call F (gn _) ?_); (clear F; intro W F); (try dsimp only)) | refine aY3 ?_ | (refine aT3 ?_; clear F; intro W F) | refine aN3 ?_)
   clear c0
   try simp only [Act.put, z6, z1, z2]
   refine wp_region_slots mixP [6, 41, 42, 43, 44, 45, 46, 47, 48, 49] (fun l mm W => ∃ (s6 s41 s42 s43 s44 s45 s46 s47 s48 s49 : Value) (c_b4 c_b5 : Array Value), mm = [s6, s41, s42, s43, s44, s45, s46, s47, s48, s49] ∧ Fr w W [(b8, limA 32 d', 27), (b7, limA 32 c', 27), (b5, c_b5, 29), (b4, c_b4, 29), (b3, IC y, 29), (b2, IC x, 29)] ∧ On l 0 [s41 = .pointer (some ⟨b2, 0, none⟩), s42 = .bool true, s43 = .pointer (some ⟨b3, 0, none⟩), s44 = .bool q, s45 = .bool (!q), s46 = .agg (limA 32 c'), s47 = .agg (IC (x / y)), s48 = .agg (limA 32 d'), s49 = .agg (IC (x % y)), c_b4 = IC (x / y), c_b5 = IC (x % y), s6 = .int .i64 0] ∧ c_b4.size = (IC (x / y)).size ∧ c_b5.size = (IC (x % y)).size ∧ True) (by kernel_rfl) (putAll_self _ _) ?_ ?_ ?_
   ·exact ⟨_, _, _, _, _, _, _, _, _, _, (intC false 0), (intC false 0), rfl, F.drew, On.none _ _ _, dT⟩
   ·rintro listed mm W ii hi hsz hoff ⟨s6, s41, s42, s43, s44, s45, s46, s47, s48, s49, c_b4, c_b5, rfl, HF, hH, hz0, hz1, -⟩ hd
    simp only [putAll, z1, z2]
    obtain rfl | rfl | rfl | rfl | rfl | rfl | rfl | rfl | rfl | rfl | rfl | rfl := dr_c12 hi
    ·exact oP
    ·obtain rfl : s41 = _ := dh 0 hH hd
     have cF := BlkAt.cell (Fr.get HF (b := b2) (cs := IC x) (by (exact tL))) (cx)
     exact oP
    ·exact oP
    ·obtain rfl : s43 = _ := dh 2 hH hd
     have cF := BlkAt.cell (Fr.get HF (b := b3) (cs := IC y) (by (exact tL))) (cy)
     exact oP
    ·obtain rfl : s42 = _ := dh 1 hH hd
     obtain rfl : s44 = _ := dh 3 hH hd
     exact oP
    ·exact oY3
    ·obtain rfl : s45 = _ := dh 4 hH hd
     obtain rfl : s46 = _ := dh 5 hH hd
     refine ow rfl rfl fun K hK => ?_
     refine ⟨?_⟩
     go_simp
     with_reducible refine fr_call HF (m1 _) ?_
     exact oC
    ·exact oY3
    ·obtain rfl : s48 = _ := dh 7 hH hd
     refine ow rfl rfl fun K hK => ?_
     refine ⟨?_⟩
     go_simp
     with_reducible refine fr_call HF (m2 _) ?_
     exact oC
    ·obtain rfl : s47 = _ := dh 6 hH hd
     exact oT3
    ·obtain rfl : s49 = _ := dh 8 hH hd
     exact oT3
    ·exact oP
   rintro listed mm W ⟨s6, s41, s42, s43, s44, s45, s46, s47, s48, s49, c_b4, c_b5, rfl, HF, hH, hz0, hz1, -⟩ hall
   obtain ⟨rfl, rfl, rfl, rfl, rfl, rfl, rfl, rfl, rfl, e9, e10, rfl⟩ := onA hH hall
   rw [e9] at HF
   rw [e10] at HF
   clear hall hH e9 e10 hz0 hz1 F
   have F := HF
   clear HF
   simp only [putAll, z1, z2]
   go_wp2_with (first | go_skip | refine aY3 ?_ | (refine aT3 ?_; clear F; intro W F) | refine aN3 ?_)
   exact bodyPost_ret (res_ccs rfl rfl rfl rfl (Fr.get F tL) (rowInt _ _) (Fr.get F tL) (rowInt _ _)) rfl ⟨rfl, F.below⟩
noncomputable def arrOf (W : World) (b : Nat) : Nat := open Classical in if h : ∃ m, m < bp 32 ∧ BlkAt W b (limA 32 m) 27 then Classical.choose h else 0
theorem arrOf_is {W : World} {b m : Nat} (hm : m < bp 32) (h : BlkAt W b (limA 32 m) 27) : arrOf W b = m := by
 have he : ∃ m, m < bp 32 ∧ BlkAt W b (limA 32 m) 27 := ⟨m, hm, h⟩
 unfold arrOf
 rw [dif_pos he]
 obtain ⟨h1, h2⟩ := Classical.choose_spec he
 have e := h2.blk.symm.trans h.blk
 injection e with e
 injection e with e1
 exact limA_inj h1 hm e1
set_option maxRecDepth 100000 in
theorem rgcd_any {x y : Bool} {a b : Nat} (hx : a < bp 32) (hy : b < bp 32) (w : World) : Calls Tryz.prog 158 #[.agg (intC x a), .agg (intC y b)] w (RetB (.agg (IC (Nat.gcd a b : Nat))) w) := by
 have F := Fr.start w
 obtain ⟨g, hg⟩ : ∃ g, Nat.gcd a b = g := ⟨_, rfl⟩
 rw [hg]
 have HG := Lib.hid hg
 have HX := Lib.hid (show a < bp 32 ∧ b < bp 32 from ⟨hx, hy⟩)
 clear hg hx hy
 go_enter Tryz.func158, Tryz.ntmps158
 go_wp2_with (first | go_skip | refine aY3 ?_ | (refine aT3 ?_; clear F; intro W F) | refine aN3 ?_)
 (clear F; intro b2 W F; try simp only [Act.put, z6, z1, z2])
 go_wp2_with (first | go_skip | refine aY3 ?_ | (refine aT3 ?_; clear F; intro W F) | refine aN3 ?_)
 (clear F; intro b3 W F; try simp only [Act.put, z6, z1, z2])
 go_wp2_with (first | go_skip | refine aY3 ?_ | (refine aT3 ?_; clear F; intro W F) | refine aN3 ?_)
 (clear F; intro b4 W F; try simp only [Act.put, z6, z1, z2])
 go_wp2_with (first | go_skip | refine aY3 ?_ | (refine aT3 ?_; clear F; intro W F) | refine aN3 ?_)
 try simp only [Act.put, z6, z1, z2]
 refine wp_region_slots mixP [5, 6, 9, 10, 11, 12] (fun l mm W => ∃ (s5 s6 s9 s10 s11 s12 : Value) (c_b5 c_b6 : Array Value) (b5 b6 : Nat), mm = [s5, s6, s9, s10, s11, s12] ∧ Fr w W ((b4, intC false 0, 29) :: (b3, intC y b, 29) :: (b2, intC x a, 29) :: (onl (l.getD 4 false) (b5, c_b5, 27) ++ onl (l.getD 5 false) (b6, c_b6, 27))) ∧ On l 0 [s9 = .pointer (some ⟨b2, 1, none⟩), s10 = .agg (limA 32 a), s11 = .pointer (some ⟨b3, 1, none⟩), s12 = .agg (limA 32 b), s5 = .pointer (some ⟨b5, 0, none⟩), s6 = .pointer (some ⟨b6, 0, none⟩), c_b5 = limA 32 a, c_b6 = limA 32 b] ∧ Wt l [(6, 4), (7, 5)] ∧ c_b5.size = (limA 32 a).size ∧ c_b6.size = (limA 32 b).size ∧ True) (by kernel_rfl) (putAll_self _ _) ?_ ?_ ?_
 ·exact ⟨_, _, _, _, _, _, (limA 32 0), (limA 32 0), 0, 0, rfl, F.drew, On.none _ _ _, Wt.none _ _, dT⟩
 ·rintro listed mm W ii hi hsz hoff ⟨s5, s6, s9, s10, s11, s12, c_b5, c_b6, b5, b6, rfl, HF, hH, hw, hz0, hz1, -⟩ hd
  simp only [putAll, z1, z2]
  obtain rfl | rfl | rfl | rfl | rfl | rfl | rfl | rfl := dr_c8 hi
  ·exact oP
  ·obtain rfl : s9 = _ := dh 0 hH hd
   exact oY3
  ·exact oP
  ·obtain rfl : s11 = _ := dh 2 hH hd
   exact oY3
  ·refine ow rfl rfl fun K hK => ?_
   rw [show listed.getD 4 false = false from hoff] at HF
   with_reducible apply gA_arr HF
   intro bN W HF
   go_simp
   exact hK _ _ ⟨_, dE, _, _, _, _, _, _, (limA 32 0), c_b6, bN, b6, rfl, by rw [getD_on (show 4 < listed.size by rw [hsz]; decide), getD_keep (show 4 ≠ 5 by decide)]; exact Fr.mid (A := [(b4, intC false 0, 29), (b3, intC y b, 29), (b2, intC x a, 29)]) HF, onS (onV 6 hH (wtF hw hoff)) rfl rfl, dT⟩
  ·refine ow rfl rfl fun K hK => ?_
   rw [show listed.getD 5 false = false from hoff] at HF
   with_reducible apply gA_arr HF
   intro bN W HF
   go_simp
   exact hK _ _ ⟨_, dE, _, _, _, _, _, _, c_b5, (limA 32 0), b5, bN, rfl, by rw [getD_on (show 5 < listed.size by rw [hsz]; decide), getD_keep (show 5 ≠ 4 by decide)]; exact Fr.mid (A := ((b4, intC false 0, 29) :: (b3, intC y b, 29) :: (b2, intC x a, 29) :: (onl (listed.getD 4 false) (b5, c_b5, 27)))) HF, onS (onV 7 hH (wtF hw hoff)) rfl rfl, dT⟩
  ·obtain rfl : s10 = _ := dh 1 hH hd
   obtain rfl : s5 = _ := dh 4 hH hd
   have HG := hd 4 (by kernel_rfl)
   rw [HG] at HF
   simp only [onl, if_true, z7, z8] at HF
   exact oT3
  ·obtain rfl : s12 = _ := dh 3 hH hd
   obtain rfl : s6 = _ := dh 5 hH hd
   have HG := hd 5 (by kernel_rfl)
   rw [HG] at HF
   simp only [onl, if_true, z7, z8] at HF
   exact oT3
 rintro listed mm W ⟨s5, s6, s9, s10, s11, s12, c_b5, c_b6, b5, b6, rfl, HF, hH, hw, hz0, hz1, -⟩ hall
 obtain ⟨rfl, rfl, rfl, rfl, rfl, rfl, e6, e7⟩ := onA hH hall
 rw [hall 4 (by decide)] at HF
 rw [hall 5 (by decide)] at HF
 simp only [onl, if_true, z7, z8] at HF
 rw [e6] at HF
 rw [e7] at HF
 clear hall hH e6 e7 hw hz0 hz1 F
 have F := HF
 clear HF
 simp only [putAll, z1, z2]
 replace F := F.sub (L' := [(b4, intC false 0, 29), (b5, limA 32 a, 27), (b6, limA 32 b, 27)]) (by repeat (first | exact List.Sublist.slnil | apply List.Sublist.cons_cons | apply List.Sublist.cons))
 go_wp2_with fail
 go_loopw [] (fun wr => ∃ m n : Nat, m < bp 32 ∧ n < bp 32 ∧ Nat.gcd m n = Nat.gcd a b ∧ Fr w wr [(b4, intC false 0, 29), (b5, limA 32 m, 27), (b6, limA 32 n, 27)]) (fun wr => arrOf wr b6)
 case atStart => exact ⟨a, b, HX.out.1, HX.out.2, rfl, F⟩
 case round =>
  obtain ⟨m, n, hm, hn, hg, F⟩ := hrel
  have HGG := Lib.hid hg
  have HF := Lib.hid (arrOf_is hn (F.get (b := b6) tL))
  clear hg
  by_cases h0 : n = 0
  ·have gz := fun w => rzero_any hn (z := true) (decide_eq_true h0) w
   have e := HGG.out
   rw [h0, Nat.gcd_zero_right] at e
   have m1 := fun w => rcanonZ (n := false) (x := (g : Int)) hm (by rw [e, HG.out, Int.natAbs_natCast]) (by omega) (fun _ => rfl) w
   clear e h0
   go_wp2_with (first | go_skip | ((go_at_call 194); (with_reducible refine fr_call F (gz _) ?_); (clear F; intro W F); (try dsimp only)) | ((go_at_call 190); (with_reducible refine fr_call F (m1 _) ?_); (clear F; intro W F); (try dsimp only)) | refine aY3 ?_ | (refine aT3 ?_; clear F; intro W F) | refine aN3 ?_)
   exact bodyPost_ret (res_c rfl rfl (Fr.get F tL) (rowInt _ _)) rfl ⟨rfl, F.below⟩
  ·have gz := fun w => rzero_any hn (z := false) (decide_eq_false h0) w
   obtain ⟨c, hc⟩ : ∃ c, m / n = c := ⟨_, rfl⟩
   obtain ⟨d, hd⟩ : ∃ d, m % n = d := ⟨_, rfl⟩
   have gd := fun w => rdivide_any hm hn h0 hc hd w
   have hdn : d < n := by rw [← hd]; exact Nat.mod_lt _ (by omega)
   have hg2 : Nat.gcd n d = Nat.gcd a b := by rw [← hd, ← HGG.out, Nat.gcd_comm m n, Nat.gcd_rec n m, Nat.gcd_comm]
   have HG2 := Lib.hid hg2
   clear hc hd hg2
   go_wp2_with (first | go_skip | ((go_at_call 194); (with_reducible refine fr_call F (gz _) ?_); (clear F; intro W F); (try dsimp only)) | ((go_at_call 209); (with_reducible refine fr_call F (gd _) ?_); (clear F; intro W F); (try dsimp only)) | refine aY3 ?_ | (refine aT3 ?_; clear F; intro W F) | refine aN3 ?_)
   (clear F; intro b7 W F; try simp only [Act.put, z6, z1, z2])
   go_wp2_with (first | go_skip | refine aY3 ?_ | (refine aT3 ?_; clear F; intro W F) | refine aN3 ?_)
   (clear F; intro b8 W F; try simp only [Act.put, z6, z1, z2])
   go_wp2_with (first | go_skip | refine aY3 ?_ | (refine aT3 ?_; clear F; intro W F) | refine aN3 ?_)
   try simp only [Act.put, z6, z1, z2]
   refine wp_region_slots mixP [22, 23] (fun l mm W => ∃ (s22 s23 : Value) (c_b5 c_b6 : Array Value), mm = [s22, s23] ∧ Fr w W [(b8, limA 32 d, 27), (b7, limA 32 c, 27), (b4, intC false 0, 29), (b5, c_b5, 27), (b6, c_b6, 27)] ∧ On l 0 [s22 = .agg (limA 32 n), s23 = .agg (limA 32 d), c_b5 = limA 32 n, c_b6 = limA 32 d] ∧ Wt l [(3, 0)] ∧ (l.getD 3 false = false → c_b6 = limA 32 n) ∧ c_b5.size = (limA 32 n).size ∧ c_b6.size = (limA 32 d).size ∧ True) (by kernel_rfl) (putAll_self _ _) ?_ ?_ ?_
   ·exact ⟨_, _, (limA 32 m), (limA 32 n), rfl, F.drew, On.none _ _ _, Wt.none _ _, fun _ => rfl, dT⟩
   ·rintro listed mm W ii hi hsz hoff ⟨s22, s23, c_b5, c_b6, rfl, HF, hH, hw, hO_b6, hz0, hz1, -⟩ hd
    simp only [putAll, z1, z2]
    obtain rfl | rfl | rfl | rfl := dr_c4 hi
    ·have hold := oldG hO_b6 hw hoff
     rw [hold] at HF
     exact oY3o
    ·exact oY3
    ·obtain rfl : s22 = _ := dh 0 hH hd
     exact oT3
    ·obtain rfl : s23 = _ := dh 1 hH hd
     exact oT3
   rintro listed mm W ⟨s22, s23, c_b5, c_b6, rfl, HF, hH, hw, hO_b6, hz0, hz1, -⟩ hall
   obtain ⟨rfl, rfl, e2, e3⟩ := onA hH hall
   rw [e2] at HF
   rw [e3] at HF
   clear hall hH e2 e3 hw hO_b6 hz0 hz1 F
   have F := HF
   clear HF
   simp only [putAll, z1, z2]
   replace F := F.sub (L' := [(b4, intC false 0, 29), (b5, limA 32 n, 27), (b6, limA 32 d, 27)]) (by repeat (first | exact List.Sublist.slnil | apply List.Sublist.cons_cons | apply List.Sublist.cons))
   go_wp2_with fail
   go_roundw
   case rel => exact ⟨n, d, hn, by omega, HG2.out, F⟩
   case measure =>
    rw [HF.out, arrOf_is (m := d) (Nat.lt_trans hdn hn) (F.get (b := b6) tL)]
    exact hdn
theorem rgcdZ {x y : Int} (hx : x.natAbs < bp 32) (hy : y.natAbs < bp 32) (w : World) : Calls Tryz.prog 158 #[.agg (IC x), .agg (IC y)] w (RetB (.agg (IC (Int.gcd x y))) w) := rgcd_any hx hy w
def strOf : Value → ByteArray
 | .string s => s
 | _ => ⟨#[]⟩
theorem digit_cut : ∀ d : Fin 10, (⟨#[48, 49, 50, 51, 52, 53, 54, 55, 56, 57]⟩ : ByteArray).extract d.val (d.val + 1) = bs [UInt8.ofNat (48 + d.val)] := by decide +kernel
theorem digit_cut' {d : Nat} (h : d < 10) : (⟨#[48, 49, 50, 51, 52, 53, 54, 55, 56, 57]⟩ : ByteArray).extract d (d + 1) = bs [UInt8.ofNat (48 + d)] := digit_cut ⟨d, h⟩
theorem op_slice {P : Program} {a : Act} {W : World} {K : Act → World → Prop} {Q : Exit → Act → World → Prop} {o : Oper} {T : TypeId} {x y z : Operand} {s r : ByteArray} {k k' : IntKind} {i j : Nat} (hu : P.underlying T = some .string) (ho : o.op = .slice T x (some y) (some z) none) (hx : a.eval x = .string s) (hy : a.eval y = .int k i) (hz : a.eval z = .int k' j) (h1 : i ≤ j) (h2 : j ≤ s.size) (hr : s.extract i j = r) (hk : K (a.put o.dst (.string r)) W) : OpW P o a W K Q := by
 have h := run_slice_string (P := P) (w := W) T s k k' (i : Int) (j : Int) hu (by omega) (by omega) (by omega)
 rw [Int.toNat_natCast, Int.toNat_natCast, hr] at h
 have hrun : (execOp a.eval o).run P W = .ok (.value (.string r)) W := by
  unfold execOp
  simp only [ho, hx, hy, hz, Option.map_some, Option.map_none, Sem.run_bind, run_sliceAt_string W T _ _ _ _ hu, h, Result.andThen_ok]
  rfl
 refine ⟨?_⟩
 unfold Oper.wp
 rw [hrun]
 exact hk
set_option maxRecDepth 100000 in
theorem fSl {a : Act} {W : World} {Q : Exit → Act → World → Prop} {x y z : Operand} {ops : Array Oper} {rest : List Oper} {dst : Option Tmp} {ty : TypeId} {pos : String} {af : Array Edge} {gd : Option (Nat × Bool)} {s r : ByteArray} {k k' : IntKind} {i j : Nat} (hw : Region.wanted ⟨dst, .slice 9 x (some y) (some z) none, ty, pos, af, gd⟩ (yielded ops a.tmps) = true) (hx : a.eval x = .string s) (hy : a.eval y = .int k i) (hz : a.eval z = .int k' j) (h1 : i ≤ j) (h2 : j ≤ s.size) (hr : s.extract i j = r) (hk : wpList Tryz.prog ops Q rest (a.put dst (.string r)) W) : wpList Tryz.prog ops Q (⟨dst, .slice 9 x (some y) (some z) none, ty, pos, af, gd⟩ :: rest) a W :=
 wpList_want hw fun K hK => (op_slice Tryz.underlying9 rfl hx hy hz h1 h2 hr (hK _ _ hk)).out
theorem itoa_leD {z : Int} (h0 : z ≠ 0) : Lib.itoa z = if z < 0 then 45 :: (leD z.natAbs).reverse else (leD z.natAbs).reverse := by
 unfold Lib.itoa
 by_cases h : z < 0
 ·rw [if_pos h, if_pos h, dec_leD _ (by omega)]
 ·rw [if_neg h, if_neg h, show z.toNat = z.natAbs by omega, dec_leD _ (by omega)]
set_option maxRecDepth 100000 in
theorem rformat_any {z : Int} (hz : z.natAbs < bp 32) (w : World) : Calls Tryz.prog 155 #[.agg (IC z)] w (RetB (.string (bs (Lib.itoa z))) w) := by
 have F := Fr.start w
 obtain ⟨r, hr⟩ : ∃ r, Lib.itoa z = r := ⟨_, rfl⟩
 rw [hr]
 by_cases h0 : z = 0
 ·subst h0
  have hr2 : bs [48] = bs r := by rw [← hr]; decide +kernel
  have e0 : bs [48] = ⟨#[48]⟩ := rfl
  rw [e0] at hr2
  have gz := fun w => rzero_any (m := 0) (z := true) (by decide) rfl w
  clear hr
  go_enter Tryz.func155, Tryz.ntmps155
  go_wp2_with (first | go_skip | refine aY3 ?_ | (refine aT3 ?_; clear F; intro W F) | refine aN3 ?_)
  (clear F; intro b1 W F; try simp only [Act.put, z6, z1, z2])
  go_wp2_with (first | go_skip | ((go_at_call 194); (with_reducible refine fr_call F (gz _) ?_); (clear F; intro W F); (try dsimp only)) | refine aY3 ?_ | (refine aT3 ?_; clear F; intro W F) | refine aN3 ?_)
  go_ret
  exact ⟨by rw [← hr2]; rfl, F.below⟩
 have hA := leD_len 32 z.natAbs hz
 have hr2 := itoa_leD h0
 rw [hr] at hr2
 have gz := fun w => rzero_any (z := false) hz (decide_eq_false (by omega)) w
 have ga := fun w => rabs_any hz w
 have gf := fun w => rfromZ (n := 10) (by decide) (by decide) w
 obtain ⟨E, hE⟩ : ∃ E, (leD z.natAbs).reverse = E := ⟨_, rfl⟩
 obtain ⟨A, hAA⟩ : ∃ A, z.natAbs = A := ⟨_, rfl⟩
 rw [hE] at hr2
 have hEL : E.length ≤ 320 := by rw [← hE, List.length_reverse]; exact hA
 rw [hAA] at hz ga hE
 have HS := Lib.hid (And.intro hz (And.intro hE (And.intro hr2 hEL)))
 have cx := IC_ng z
 clear hA hr hE hr2 hz hAA h0 hEL
 go_enter Tryz.func155, Tryz.ntmps155
 go_wp2_with (first | go_skip | refine aY3 ?_ | (refine aT3 ?_; clear F; intro W F) | refine aN3 ?_)
 (clear F; intro b1 W F; try simp only [Act.put, z6, z1, z2])
 go_wp2_with (first | go_skip | ((go_at_call 194); (with_reducible refine fr_call F (gz _) ?_); (clear F; intro W F); (try dsimp only)) | ((go_at_call 156); (with_reducible refine fr_call F (ga _) ?_); (clear F; intro W F); (try dsimp only)) | refine aY3 ?_ | (refine aT3 ?_; clear F; intro W F) | refine aN3 ?_)
 (clear F; intro b4 W F; try simp only [Act.put, z6, z1, z2])
 go_wp2_with (first | go_skip | refine aY3 ?_ | (refine aT3 ?_; clear F; intro W F) | refine aN3 ?_)
 clear gz ga
 go_loopw [3, 4] (fun sv pv wr => ∃ (b m : Nat) (L : List UInt8), m < bp 32 ∧ sv = .string (bs L) ∧ pv = .pointer (some ⟨b, 0, none⟩) ∧ (leD m).reverse ++ L = E ∧ Fr w wr [(b, IC (m : Nat), 29), (b1, IC z, 29)]) (fun sv _ _ => E.length - (strOf sv).size)
 case atStart => exact ⟨b4, A, [], HS.out.1, rfl, rfl, by rw [List.append_nil]; exact HS.out.2.1, F⟩
 case round =>
  clear F
  obtain ⟨b, m, L, hm, rfl, rfl, hL, F⟩ := hrel
  by_cases h0 : m = 0
  ·subst h0
   have hr := HS.out.2.2.1
   rw [leD_zero, List.reverse_nil, List.nil_append] at hL
   subst hL
   have gz := fun w => rzero_any (m := 0) (z := true) (by decide) rfl w
   have hLL := HS.out.2.2.2
   have e3 : bs [45] ++ bs L = bs (45 :: L) := bs_append [45] L
   have e5 : bs [45] = ⟨#[45]⟩ := rfl
   rw [e5] at e3
   have sL := bs_size L
   obtain ⟨k, hk⟩ : ∃ k, L.length = k := ⟨_, rfl⟩
   rw [hk] at sL hLL
   have k1 : (9223372036854775807 < 1 + k) = False := by rw [eq_iff_iff, iff_false]; omega
   have c1 : ∀ W LL, Fr w W ((b, IC ((0 : Nat) : Int), 29) :: (b1, IC z, 29) :: LL) → W.cell? ⟨b1, 0, none⟩ = some (.bool (decide (z < 0))) := fun W LL h => (h.get (b := b1) tL).cell cx
   clear HS hk hLL
   go_upto_region 11 with (first | go_skip | ((go_at_call 194); (with_reducible refine fr_call F (gz _) ?_); (clear F; intro W F); (try dsimp only)) | refine aY3 ?_ | (refine aT3 ?_; clear F; intro W F) | refine aN3 ?_)
   have c2 := c1 _ _ F
   clear c1
   by_cases hn : z < 0
   ·rw [if_pos hn] at hr
    subst hr
    rw [decide_eq_true hn] at c2
    clear hn cx
    go_wp2_with fail
    go_ret
    exact ⟨rfl, F.below⟩
   ·rw [if_neg hn] at hr
    subst hr
    rw [decide_eq_false hn] at c2
    clear hn cx
    go_wp2_with fail
    go_ret
    exact ⟨rfl, F.below⟩
  ·have gz := fun w => rzero_any (m := m) (z := false) hm (decide_eq_false h0) w
   obtain ⟨c, hc⟩ : ∃ c, m / 10 = c := ⟨_, rfl⟩
   obtain ⟨d, hd⟩ : ∃ d, m % 10 = d := ⟨_, rfl⟩
   have hd10 : d < 10 := by omega
   have gd : ∀ w, Calls Tryz.prog 152 #[.agg (IC (m : Int)), .agg (IC 10)] w (RetB (.tuple #[.agg (IC (c : Int)), .agg (IC (d : Int)), .int .i64 0]) w) := fun w => by
    have h := rdivmodZ (x := (m : Int)) (y := 10) hm (by decide) (by decide) w
    rwa [show (m : Int) / 10 = (c : Int) by omega, show (m : Int) % 10 = (d : Int) by omega] at h
   have hc32 : c < bp 32 := by omega
   have hL2 : (leD c).reverse ++ (UInt8.ofNat (48 + d) :: L) = E := by
    rw [← hL, leD_pos h0, hc, hd, List.reverse_cons, List.append_assoc, List.singleton_append]
   have hlen : L.length < E.length := by rw [← hL2, List.length_append, List.length_cons]; omega
   have hEL := HS.out.2.2.2
   have cd : (IC (d : Int))[1]? = some (.int .u32 d) := by
    have h := intC_limb (n := decide ((d : Int) < 0)) (m := d) (i := 0) (by decide)
    rwa [show lim d 0 = d by unfold lim; rw [bp_zero, Nat.div_one]; exact Nat.mod_eq_of_lt (by omega)] at h
   have ex := digit_cut' hd10
   have e1 : bs [UInt8.ofNat (48 + d)] ++ bs L = bs (UInt8.ofNat (48 + d) :: L) := bs_append _ _
   have sL := bs_size L
   have s1 : (bs [UInt8.ofNat (48 + d)]).size = 1 := bs_size _
   obtain ⟨ch, hch⟩ : ∃ ch, UInt8.ofNat (48 + d) = ch := ⟨_, rfl⟩
   rw [hch] at hL2 ex e1 s1
   obtain ⟨S1, hS1⟩ : ∃ S1, bs [ch] = S1 := ⟨_, rfl⟩
   obtain ⟨S2, hS2⟩ : ∃ S2, bs L = S2 := ⟨_, rfl⟩
   rw [hS1] at ex e1 s1
   rw [hS2] at e1 sL
   obtain ⟨S3, hS3⟩ : ∃ S3, bs (ch :: L) = S3 := ⟨_, rfl⟩
   rw [hS3] at e1
   obtain ⟨l, hl⟩ : ∃ l, L.length = l := ⟨_, rfl⟩
   obtain ⟨N, hN⟩ : ∃ N, E.length = N := ⟨_, rfl⟩
   rw [hl] at sL hlen
   rw [hN] at hlen hEL
   have k1 : (9223372036854775807 < 1 + l) = False := by rw [eq_iff_iff, iff_false]; omega
   have hs3 : S3.size = l + 1 := by rw [← hS3, bs_size, List.length_cons, hl]
   have HN := Lib.hid (And.intro hc32 (And.intro hL2 (And.intro hS3 (show E.length - S3.size < E.length - S2.size by rw [hN, hs3, sL]; omega))))
   have HD := Lib.hid (And.intro ex (And.intro e1 (And.intro sL (And.intro s1 k1))))
   clear hc hd hc32 hL2 hlen hL hEL hl hN ex e1 sL s1 k1 h0 hm hch hS1 hS3 hs3
   rw [hS2]
   clear hS2
   go_wp2_with (first | go_skip | ((go_at_call 194); (with_reducible refine fr_call F (gz _) ?_); (clear F; intro W F); (try dsimp only)) | refine aY3 ?_ | (refine aT3 ?_; clear F; intro W F) | refine aN3 ?_)
   try simp only [Act.put, z6, z1, z2]
   refine wp_region_slots mixP [5, 6, 7, 17, 18, 19, 20, 21, 22, 23] (fun l mm W => ∃ (s5 s6 s7 s17 s18 s19 s20 s21 s22 s23 : Value) (c_b5 c_b6 : Array Value) (b5 b6 : Nat), mm = [s5, s6, s7, s17, s18, s19, s20, s21, s22, s23] ∧ Fr w W ((b, IC (m : Int), 29) :: (b1, IC z, 29) :: (onl (l.getD 7 false) (b5, c_b5, 29) ++ onl (l.getD 8 false) (b6, c_b6, 29))) ∧ On l 0 [s18 = .agg (IC (m : Int)), s19 = .agg (IC 10), s20 = .tuple #[.agg (IC (c : Int)), .agg (IC (d : Int)), .int .i64 0], s17 = .tuple #[.agg (IC (c : Int)), .agg (IC (d : Int)), .int .i64 0], s21 = .agg (IC (c : Int)), s22 = .agg (IC (d : Int)), s23 = .int .i64 0, s5 = .pointer (some ⟨b5, 0, none⟩), s6 = .pointer (some ⟨b6, 0, none⟩), c_b5 = IC (c : Int), c_b6 = IC (d : Int), s7 = .int .i64 0] ∧ Wt l [(9, 7), (10, 8)] ∧ c_b5.size = (IC (c : Int)).size ∧ c_b6.size = (IC (d : Int)).size ∧ True) (by kernel_rfl) (putAll_self _ _) ?_ ?_ ?_
   ·exact ⟨_, _, _, _, _, _, _, _, _, _, (intC false 0), (intC false 0), 0, 0, rfl, F.drew, On.none _ _ _, Wt.none _ _, dT⟩
   ·rintro listed mm W ii hi hsz hoff ⟨s5, s6, s7, s17, s18, s19, s20, s21, s22, s23, c_b5, c_b6, b5, b6, rfl, HF, hH, hw, hz0, hz1, -⟩ hd
    simp only [putAll, z1, z2]
    obtain rfl | rfl | rfl | rfl | rfl | rfl | rfl | rfl | rfl | rfl | rfl | rfl := dr_c12 hi
    ·exact oY3
    ·refine ow rfl rfl fun K hK => ?_
     refine ⟨?_⟩
     go_simp
     with_reducible refine fr_call HF (gf _) ?_
     exact oC
    ·obtain rfl : s18 = _ := dh 0 hH hd
     obtain rfl : s19 = _ := dh 1 hH hd
     refine ow rfl rfl fun K hK => ?_
     refine ⟨?_⟩
     go_simp
     with_reducible refine fr_call HF (gd _) ?_
     exact oC
    ·obtain rfl : s20 = _ := dh 2 hH hd
     exact oP
    ·obtain rfl : s17 = _ := dh 3 hH hd
     exact oP
    ·obtain rfl : s17 = _ := dh 3 hH hd
     exact oP
    ·obtain rfl : s17 = _ := dh 3 hH hd
     exact oP
    ·refine ow rfl rfl fun K hK => ?_
     rw [show listed.getD 7 false = false from hoff] at HF
     with_reducible apply gA_int HF
     intro bN W HF
     go_simp
     exact hK _ _ ⟨_, dE, _, _, _, _, _, _, _, _, _, _, (intC false 0), c_b6, bN, b6, rfl, by rw [getD_on (show 7 < listed.size by rw [hsz]; decide), getD_keep (show 7 ≠ 8 by decide)]; exact Fr.mid (A := [(b, IC (m : Int), 29), (b1, IC z, 29)]) HF, onS (onV 9 hH (wtF hw hoff)) rfl rfl, dT⟩
    ·refine ow rfl rfl fun K hK => ?_
     rw [show listed.getD 8 false = false from hoff] at HF
     with_reducible apply gA_int HF
     intro bN W HF
     go_simp
     exact hK _ _ ⟨_, dE, _, _, _, _, _, _, _, _, _, _, c_b5, (intC false 0), b5, bN, rfl, by rw [getD_on (show 8 < listed.size by rw [hsz]; decide), getD_keep (show 8 ≠ 7 by decide)]; exact Fr.mid (A := ((b, IC (m : Int), 29) :: (b1, IC z, 29) :: (onl (listed.getD 7 false) (b5, c_b5, 29)))) HF, onS (onV 10 hH (wtF hw hoff)) rfl rfl, dT⟩
    ·obtain rfl : s21 = _ := dh 4 hH hd
     obtain rfl : s5 = _ := dh 7 hH hd
     have HG := hd 7 (by kernel_rfl)
     rw [HG] at HF
     simp only [onl, if_true, z7, z8] at HF
     exact oT3
    ·obtain rfl : s22 = _ := dh 5 hH hd
     obtain rfl : s6 = _ := dh 8 hH hd
     have HG := hd 8 (by kernel_rfl)
     rw [HG] at HF
     simp only [onl, if_true, z7, z8] at HF
     exact oT3
    ·obtain rfl : s23 = _ := dh 6 hH hd
     exact oP
   rintro listed mm W ⟨s5, s6, s7, s17, s18, s19, s20, s21, s22, s23, c_b5, c_b6, b5, b6, rfl, HF, hH, hw, hz0, hz1, -⟩ hall
   obtain ⟨rfl, rfl, rfl, rfl, rfl, rfl, rfl, rfl, rfl, e9, e10, rfl⟩ := onA hH hall
   rw [hall 7 (by decide)] at HF
   rw [hall 8 (by decide)] at HF
   simp only [onl, if_true, z7, z8] at HF
   rw [e9] at HF
   rw [e10] at HF
   clear hall hH e9 e10 hw hz0 hz1 F
   have F := HF
   clear HF
   simp only [putAll, z1, z2]
   clear gz gd
   have c6 := (F.get (b := b6) tL).cell cd
   obtain ⟨ex, e1, sL, s1, k1⟩ := HD.out
   have d1 : (0 : Int) ≤ (d : Int) := by omega
   have d2 : (d : Int) ≤ 9 := by omega
   have m1 : IntKind.u32.wrap ((d : Int) + 1) = ((d + 1 : Nat) : Int) := by rw [IntKind.wrap_u32]; omega
   have m2 : ((d : Int) + 1) % 4294967296 = ((d + 1 : Nat) : Int) := by omega
   have d3 : (d : Int) ≤ ((d + 1 : Nat) : Int) := by omega
   have d4 : ((d + 1 : Nat) : Int) ≤ 10 := by omega
   have d5 : d ≤ 9 := by omega
   have s10 : (⟨#[48, 49, 50, 51, 52, 53, 54, 55, 56, 57]⟩ : ByteArray).size = 10 := rfl
   obtain ⟨D1, hD1⟩ : ∃ D1, d + 1 = D1 := ⟨_, rfl⟩
   rw [hD1] at m1 m2 d3 d4 ex
   have d6 : d ≤ D1 := by omega
   have d7 : D1 ≤ 10 := by omega
   clear hD1
   go_upto_region 8 with (first | ((with_reducible apply fSl); exact rfl; exact rfl; exact rfl; exact rfl; exact d6; exact d7; exact ex))
   clear c6 ex e1 sL s1 k1 HD d1 d2 d3 d4 d5 d6 d7 m1 m2 s10 cd hd10
   go_wp2_with (first | go_skip | refine aY3 ?_ | (refine aT3 ?_; clear F; intro W F) | refine aN3 ?_)
   (clear F; intro b7 W F; try simp only [Act.put, z6, z1, z2])
   go_wp2_with (first | go_skip | refine aY3 ?_ | (refine aT3 ?_; clear F; intro W F) | refine aN3 ?_)
   replace F := F.sub (L' := [(b7, IC (c : Int), 29), (b1, IC z, 29)]) (by repeat (first | exact List.Sublist.slnil | apply List.Sublist.cons_cons | apply List.Sublist.cons))
   go_roundw
   case rel => exact ⟨b7, c, ch :: L, HN.out.1, congrArg Value.string HN.out.2.2.1.symm, rfl, HN.out.2.1, F⟩
   case measure => exact HN.out.2.2.2
theorem sgN_eq0 {x : Bool} {a : Nat} : (sgN x a == 0) = decide (a = 0) := by
 obtain ⟨h1, h2⟩ := sgN_0 (neg := x) (m := a) rfl
 by_cases h : a = 0
 ·rw [h1 h, decide_eq_true h]; rfl
 ·rw [h2 h, decide_eq_false h]
  cases x <;> rfl
theorem okR_eq {x : Bool} {a : Nat} {y : Bool} {b : Nat} : decide (okR x a y b) = ((!(x && decide (a = 0))) && (decide (0 < sgN y b) && (decide (bl a ≤ 480) && (decide (bl b ≤ 480) && (Nat.gcd a b == 1))))) := by
 rw [Bool.eq_iff_iff, decide_eq_true_eq]
 simp only [Bool.and_eq_true, decide_eq_true_eq, beq_iff_eq, Bool.not_eq_true', Bool.and_eq_false_iff]
 unfold okR
 have hy : 0 < sgN y b → (!y || !decide (b = 0)) = true := fun h => by
  obtain ⟨h1, h2⟩ := sgN_0 (neg := y) (m := b) rfl
  by_cases hb : b = 0
  ·rw [h1 hb] at h
   omega
  ·simp [hb]
 constructor
 ·rintro ⟨⟨h1, h2⟩, h3, h4, h5, h6⟩
  refine ⟨?_, h5, h1, h2, h6⟩
  cases x
  ·exact .inl rfl
  ·exact .inr (by simpa using h3)
 ·rintro ⟨h3, h5, h1, h2, h6⟩
  refine ⟨⟨h1, h2⟩, ?_, hy h5, h5, h6⟩
  rcases h3 with h3 | h3
  ·rw [h3]; rfl
  ·rw [h3]; cases x <;> rfl
set_option maxRecDepth 100000 in
theorem rvalid_any {x : Bool} {a : Nat} {y : Bool} {b : Nat} (ha : a < bp 32) (hb : b < bp 32) {f : Bool} (hf : decide (okR x a y b) = f) (w : World) : Calls Tryz.prog 150 #[.agg (ratC x a y b)] w (RetB (.bool f) w) := by
 have F := Fr.start w
 have e0 := sgN_eq0 (x := x) (a := a)
 rw [okR_eq] at hf
 obtain ⟨s, hs⟩ : ∃ v, sgN x a = v := ⟨_, rfl⟩
 obtain ⟨v, hv⟩ : ∃ v, sgN y b = v := ⟨_, rfl⟩
 have g1 := fun w => rsign_any (neg := x) ha hs w
 have g2 := fun w => rsign_any (neg := y) hb hv w
 have g3 := fun w => rbits_any (neg := x) ha w
 have g4 := fun w => rbits_any (neg := y) hb w
 have g5 := fun w => rgcd_any (x := x) (y := y) ha hb w
 have hg : Nat.gcd a b < bp 32 := by
  rcases Nat.eq_zero_or_pos a with h | h
  ·rw [h, Nat.gcd_zero_left]
   exact hb
  ·exact Nat.lt_of_le_of_lt (Nat.gcd_le_left b h) ha
 obtain ⟨g, hgg⟩ : ∃ g, Nat.gcd a b = g := ⟨_, rfl⟩
 obtain ⟨A, hA⟩ : ∃ A, bl a = A := ⟨_, rfl⟩
 obtain ⟨B, hB⟩ : ∃ B, bl b = B := ⟨_, rfl⟩
 rw [hs] at e0
 rw [hv, hA, hB, hgg] at hf
 rw [hA] at g3
 rw [hB] at g4
 rw [hgg] at g5 hg
 have eq1 := fun w => eq_IC 9997 (x := (g : Int)) (y := 1) (by omega) (by decide) w
 obtain ⟨q, hq1, hq2⟩ : (∃ q, decide ((g : Int) = 1) = q ∧ (g == 1) = q) := ⟨_, rfl, by rw [Bool.eq_iff_iff, beq_iff_eq, decide_eq_true_eq]; omega⟩
 rw [hq1] at eq1
 rw [hq2] at hf
 have fi := fun w => rfromZ (n := 1) (by decide) (by decide) w
 have cx : (ratC x a y b)[0]? = some (.bool x) := by
  unfold ratC
  rw [Array.getElem?_append_left (by rw [intC_size]; decide)]
  exact intC_neg x a
 obtain ⟨z, hz⟩ : ∃ z, decide (a = 0) = z := ⟨_, rfl⟩
 rw [hz] at e0 hf
 have HF := Lib.hid hf
 clear hf hs hv hgg hA hB hq1 hq2 hg hz ha hb
 go_enter Tryz.func150, Tryz.ntmps150
 go_wp2_with (first | go_skip | refine aY3 ?_ | (refine aT3 ?_; clear F; intro W F) | refine aN3 ?_)
 (clear F; intro b1 W F; try simp only [Act.put, z6, z1, z2])
 go_upto_region 1 with (first | go_skip | refine aY3 ?_ | (refine aT3 ?_; clear F; intro W F) | refine aN3 ?_)
 have c0 := (F.get (b := b1) tL).cell cx
 go_cut [17] from 3 to 17 (fun k wr => k = .bool ((x && z) || !decide (0 < v)) ∧ Fr w wr [(b1, ratC x a y b, 31)])
 case first =>
  by_cases hv : 0 < v
  all_goals
   first
   | (have t1 : decide (v ≤ 0) = false := decide_eq_false (by omega))
   | (have t1 : decide (v ≤ 0) = true := decide_eq_true (by omega))
   first
   | (have t2 : decide (0 < v) = true := decide_eq_true (by omega))
   | (have t2 : decide (0 < v) = false := decide_eq_false (by omega))
   clear hv
   cases x <;> cases z
   all_goals
    go_wp2_with (first | go_skip | ((go_at_call 135); (with_reducible refine fr_call F (g1 _) ?_); (clear F; intro W F); (try dsimp only)) | ((go_at_call 135); (with_reducible refine fr_call F (g2 _) ?_); (clear F; intro W F); (try dsimp only)) | refine aY3 ?_ | (refine aT3 ?_; clear F; intro W F) | refine aN3 ?_)
    go_meet
    exact ⟨by first | rfl | (rw [t2]; rfl), F⟩
 case rest =>
 clear F c0
 obtain ⟨rfl, F⟩ := hcut
 obtain ⟨k, hk⟩ : ∃ k, ((x && z) || !decide (0 < v)) = k := ⟨_, rfl⟩
 rw [hk]
 cases k
 ·have hf : (decide (A ≤ 480) && (decide (B ≤ 480) && q)) = f := by
   rw [← HF.out]
   rw [Bool.or_eq_false_iff] at hk
   rw [hk.1, (by simpa using hk.2 : decide (0 < v) = true)]
   rfl
  have HF2 := Lib.hid hf
  clear hf HF hk
  by_cases h1 : A ≤ 480
  ·have t1 : decide ((A : Int) ≤ 480) = true := decide_eq_true (by omega)
   by_cases h2 : B ≤ 480
   ·have t2 : decide ((B : Int) ≤ 480) = true := decide_eq_true (by omega)
    have hf := HF2.out
    rw [decide_eq_true h1, decide_eq_true h2] at hf
    simp only [Bool.true_and] at hf
    subst hf
    clear HF2
    go_wp2_with (first | go_skip | ((go_at_call 159); (with_reducible refine fr_call F (g3 _) ?_); (clear F; intro W F); (try dsimp only)) | ((go_at_call 159); (with_reducible refine fr_call F (g4 _) ?_); (clear F; intro W F); (try dsimp only)) | ((go_at_call 158); (with_reducible refine fr_call F (g5 _) ?_); (clear F; intro W F); (try dsimp only)) | ((go_at_call 107); (with_reducible refine fr_call F (fi _) ?_); (clear F; intro W F); (try dsimp only)) | refine aY3 ?_ | (refine aT3 ?_; clear F; intro W F) | refine aN3 ?_)
    go_ret
    exact ⟨rfl, F.below⟩
   ·have t2 : decide ((B : Int) ≤ 480) = false := decide_eq_false (by omega)
    have hf := HF2.out
    rw [decide_eq_true h1, decide_eq_false h2] at hf
    simp only [Bool.true_and, Bool.false_and] at hf
    subst hf
    clear HF2
    go_wp2_with (first | go_skip | ((go_at_call 159); (with_reducible refine fr_call F (g3 _) ?_); (clear F; intro W F); (try dsimp only)) | ((go_at_call 159); (with_reducible refine fr_call F (g4 _) ?_); (clear F; intro W F); (try dsimp only)) | refine aY3 ?_ | (refine aT3 ?_; clear F; intro W F) | refine aN3 ?_)
    go_ret
    exact ⟨rfl, F.below⟩
  ·have t1 : decide ((A : Int) ≤ 480) = false := decide_eq_false (by omega)
   have hf := HF2.out
   rw [decide_eq_false h1] at hf
   simp only [Bool.false_and] at hf
   subst hf
   clear HF2
   go_wp2_with (first | go_skip | ((go_at_call 159); (with_reducible refine fr_call F (g3 _) ?_); (clear F; intro W F); (try dsimp only)) | refine aY3 ?_ | (refine aT3 ?_; clear F; intro W F) | refine aN3 ?_)
   go_ret
   exact ⟨rfl, F.below⟩
 ·have hf : f = false := by
   rw [← HF.out]
   rw [Bool.or_eq_true] at hk
   rcases hk with h | h
   ·rw [h]; rfl
   ·rw [Bool.not_eq_true'] at h
    rw [h]
    simp
  subst hf
  clear HF hk
  go_wp2_with (first | go_skip | refine aY3 ?_ | (refine aT3 ?_; clear F; intro W F) | refine aN3 ?_)
  go_ret
  exact ⟨rfl, F.below⟩
theorem ediv_sign {g d : Int} (hg : 0 < g) (hd : g ∣ d) : (d / g < 0 ↔ d < 0) := by
 have h := Int.ediv_mul_cancel hd
 generalize d / g = k at *
 subst h
 constructor
 ·intro h
  exact Int.mul_neg_of_neg_of_pos h hg
 ·intro h
  rcases Int.lt_or_le k 0 with h2 | h2
  ·exact h2
  ·have := Int.mul_nonneg h2 (Int.le_of_lt hg)
   omega
set_option maxRecDepth 100000 in
theorem rmakeZ {n d : Int} (hn : n.natAbs < bp 32) (hd : d.natAbs < bp 32) {r : Int × Int × Int} (hr : mkR n d = r) (w : World) : Calls Tryz.prog 106 #[.agg (IC n), .agg (IC d)] w (RetB (.tuple #[.agg (RC r.1 r.2.1), .int .i64 r.2.2]) w) := by
 have F := Fr.start w
 have g1 := fun w => rsignZ hd w
 have g2 := fun w => rgcdZ hn hd w
 have hg := gcd_le hn hd
 have hgp : d ≠ 0 → Int.gcd n d ≠ 0 := fun h0 h => h0 (Int.gcd_eq_zero_iff.1 h).2
 have hdv : ((Int.gcd n d : Nat) : Int) ∣ d := Int.gcd_dvd_right ..
 obtain ⟨g, hgg⟩ : ∃ g, Int.gcd n d = g := ⟨_, rfl⟩
 unfold mkR at hr
 rw [hgg] at g2 hg hgp hr hdv
 have HR := Lib.hid hr
 obtain ⟨s, hs⟩ : ∃ s, d.sign = s := ⟨_, rfl⟩
 rw [hs] at g1
 have HS := Lib.hid hs
 clear hr hs hgg
 go_enter Tryz.func106, Tryz.ntmps106
 go_wp2_with (first | go_skip | refine aY3 ?_ | (refine aT3 ?_; clear F; intro W F) | refine aN3 ?_)
 (clear F; intro b2 W F; try simp only [Act.put, z6, z1, z2])
 go_wp2_with (first | go_skip | refine aY3 ?_ | (refine aT3 ?_; clear F; intro W F) | refine aN3 ?_)
 (clear F; intro b3 W F; try simp only [Act.put, z6, z1, z2])
 go_wp2_with (first | go_skip | refine aY3 ?_ | (refine aT3 ?_; clear F; intro W F) | refine aN3 ?_)
 (clear F; intro b4 W F; try simp only [Act.put, z6, z1, z2])
 by_cases h0 : d = 0
 ·have hs0 : s = 0 := by rw [← HS.out, h0, Int.sign_zero]
  have hr := HR.out
  rw [if_pos h0] at hr
  subst hr
  subst hs0
  clear h0 hd hn hg hgp g2 HR HS hdv
  go_wp2_with (first | go_skip | ((go_at_call 135); (with_reducible refine fr_call F (g1 _) ?_); (clear F; intro W F); (try dsimp only)) | refine aY3 ?_ | (refine aT3 ?_; clear F; intro W F) | refine aN3 ?_)
  exact bodyPost_ret (res_cs rfl rfl rfl (Fr.get F tL) (rowRC _ _)) rfl ⟨rfl, F.below⟩
 have hs0 : (s == 0) = false := by rw [beq_eq_false_iff_ne, ← HS.out]; exact fun h => h0 (Int.sign_eq_zero_iff_zero.1 h)
 have hr := HR.out
 rw [if_neg h0] at hr
 have hgz : (g : Int) ≠ 0 := by have := hgp h0; omega
 have g3 := fun w => rdivmodZ (y := (g : Int)) hn hg hgz w
 have g4 := fun w => rdivmodZ (y := (g : Int)) hd hg hgz w
 have hb1 : (n / (g : Int)).natAbs < bp 32 := Nat.lt_of_le_of_lt (div_le_abs n g) hn
 have hb2 : (d / (g : Int)).natAbs < bp 32 := Nat.lt_of_le_of_lt (div_le_abs d g) hd
 have hsg := ediv_sign (by omega : 0 < (g : Int)) hdv
 simp only [apply_ite (fun s : Int => n / s), apply_ite (fun s : Int => d / s), Int.ediv_neg] at hr
 obtain ⟨N, hN⟩ : ∃ N, n / (g : Int) = N := ⟨_, rfl⟩
 obtain ⟨D, hD⟩ : ∃ D, d / (g : Int) = D := ⟨_, rfl⟩
 obtain ⟨M1, hM1⟩ : ∃ M1, n % (g : Int) = M1 := ⟨_, rfl⟩
 obtain ⟨M2, hM2⟩ : ∃ M2, d % (g : Int) = M2 := ⟨_, rfl⟩
 rw [hN] at g3 hr hb1
 rw [hM1] at g3
 rw [hD] at g4 hr hb2 hsg
 rw [hM2] at g4
 have g5 := fun w => rsignZ hb2 w
 have gn1 := fun w => rneg_any hb1 w
 have gn2 := fun w => rneg_any hb2 w
 obtain ⟨e, he⟩ : ∃ e, D.sign = e := ⟨_, rfl⟩
 rw [he] at g5
 have HE := Lib.hid he
 have HRR := Lib.hid hr
 have HB := Lib.hid (And.intro hb1 hb2)
 clear hr hN hD hM1 hM2 he hn hd hg hgp h0 HR hgz HS hdv hb1 hb2
 go_wp2_with (first | go_skip | ((go_at_call 135); (with_reducible refine fr_call F (g1 _) ?_); (clear F; intro W F); (try dsimp only)) | ((go_at_call 158); (with_reducible refine fr_call F (g2 _) ?_); (clear F; intro W F); (try dsimp only)) | refine aY3 ?_ | (refine aT3 ?_; clear F; intro W F) | refine aN3 ?_)
 (clear F; intro b6 W F; try simp only [Act.put, z6, z1, z2])
 go_wp2_with (first | go_skip | ((go_at_call 152); (with_reducible refine fr_call F (g3 _) ?_); (clear F; intro W F); (try dsimp only)) | refine aY3 ?_ | (refine aT3 ?_; clear F; intro W F) | refine aN3 ?_)
 (clear F; intro b7 W F; try simp only [Act.put, z6, z1, z2])
 go_wp2_with (first | go_skip | refine aY3 ?_ | (refine aT3 ?_; clear F; intro W F) | refine aN3 ?_)
 (clear F; intro b8 W F; try simp only [Act.put, z6, z1, z2])
 go_wp2_with (first | go_skip | ((go_at_call 152); (with_reducible refine fr_call F (g4 _) ?_); (clear F; intro W F); (try dsimp only)) | refine aY3 ?_ | (refine aT3 ?_; clear F; intro W F) | refine aN3 ?_)
 (clear F; intro b10 W F; try simp only [Act.put, z6, z1, z2])
 go_wp2_with (first | go_skip | refine aY3 ?_ | (refine aT3 ?_; clear F; intro W F) | refine aN3 ?_)
 (clear F; intro b11 W F; try simp only [Act.put, z6, z1, z2])
 by_cases hneg : d < 0
 ·have t0 : decide (e < 0) = true := decide_eq_true (by rw [← HE.out]; exact Int.sign_neg_iff.2 (hsg.2 hneg))
  have hr := HRR.out
  simp only [if_pos hneg] at hr
  have g6 := fun w => rbits_any (neg := decide (-N < 0)) (m := (-N).natAbs) (by have := HB.out.1; omega) w
  have g7 := fun w => rbits_any (neg := decide (-D < 0)) (m := (-D).natAbs) (by have := HB.out.2; omega) w
  obtain ⟨u, hu⟩ : ∃ u, -N = u := ⟨_, rfl⟩
  obtain ⟨v, hv⟩ : ∃ v, -D = v := ⟨_, rfl⟩
  rw [hu] at g6 hr gn1
  rw [hv] at g7 hr gn2
  obtain ⟨A, hA⟩ : ∃ A, bl u.natAbs = A := ⟨_, rfl⟩
  obtain ⟨B, hB⟩ : ∃ B, bl v.natAbs = B := ⟨_, rfl⟩
  rw [hA] at g6 hr
  rw [hB] at g7 hr
  have g6 : ∀ w, Calls Tryz.prog 159 #[.agg (IC u)] w (RetB (.int .i64 A) w) := g6
  have g7 : ∀ w, Calls Tryz.prog 159 #[.agg (IC v)] w (RetB (.int .i64 B) w) := g7
  have HR2 := Lib.hid hr.symm
  clear hu hv hA hB hr HRR HE HB hsg hneg
  go_wp2_with (first | go_skip | ((go_at_call 135); (with_reducible refine fr_call F (g5 _) ?_); (clear F; intro W F); (try dsimp only)) | refine aY3 ?_ | (refine aT3 ?_; clear F; intro W F) | refine aN3 ?_)
  try simp only [Act.put, z6, z1, z2]
  refine wp_region_slots mixP [37, 38, 39, 40] (fun l mm W => ∃ (s37 s38 s39 s40 : Value) (c_b7 c_b10 : Array Value), mm = [s37, s38, s39, s40] ∧ Fr w W [(b11, IC M2, 29), (b10, c_b10, 29), (b8, IC M1, 29), (b7, c_b7, 29), (b6, IC (g : Int), 29), (b4, RC 0 0, 31), (b3, IC d, 29), (b2, IC n, 29)] ∧ On l 0 [s37 = .agg (IC N), s38 = .agg (IC u), s39 = .agg (IC D), s40 = .agg (IC v), c_b7 = IC u, c_b10 = IC v] ∧ Wt l [(4, 0), (5, 2)] ∧ (l.getD 4 false = false → c_b7 = IC N) ∧ (l.getD 5 false = false → c_b10 = IC D) ∧ c_b7.size = (IC u).size ∧ c_b10.size = (IC v).size ∧ True) (by kernel_rfl) (putAll_self _ _) ?_ ?_ ?_
  ·exact ⟨_, _, _, _, (IC N), (IC D), rfl, F.drew, On.none _ _ _, Wt.none _ _, fun _ => rfl, fun _ => rfl, dT⟩
  ·rintro listed mm W ii hi hsz hoff ⟨s37, s38, s39, s40, c_b7, c_b10, rfl, HF, hH, hw, hO_b7, hO_b10, hz0, hz1, -⟩ hd
   simp only [putAll, z1, z2]
   obtain rfl | rfl | rfl | rfl | rfl | rfl := dr_c6 hi
   ·have hold := oldG hO_b7 hw hoff
    rw [hold] at HF
    exact oY3o
   ·obtain rfl : s37 = _ := dh 0 hH hd
    refine ow rfl rfl fun K hK => ?_
    refine ⟨?_⟩
    go_simp
    with_reducible refine fr_call HF (gn1 _) ?_
    exact oC
   ·have hold := oldG hO_b10 hw hoff
    rw [hold] at HF
    exact oY3o
   ·obtain rfl : s39 = _ := dh 2 hH hd
    refine ow rfl rfl fun K hK => ?_
    refine ⟨?_⟩
    go_simp
    with_reducible refine fr_call HF (gn2 _) ?_
    exact oC
   ·obtain rfl : s38 = _ := dh 1 hH hd
    exact oT3
   ·obtain rfl : s40 = _ := dh 3 hH hd
    exact oT3
  rintro listed mm W ⟨s37, s38, s39, s40, c_b7, c_b10, rfl, HF, hH, hw, hO_b7, hO_b10, hz0, hz1, -⟩ hall
  obtain ⟨rfl, rfl, rfl, rfl, e4, e5⟩ := onA hH hall
  rw [e4] at HF
  rw [e5] at HF
  clear hall hH e4 e5 hw hO_b7 hO_b10 hz0 hz1 F
  have F := HF
  clear HF
  simp only [putAll, z1, z2]
  cases hA : decide (A ≤ 480)
  ·have hr : (0, 0, 10) = r := by
    rw [HR2.out, if_neg]
    intro h
    rw [decide_eq_true h.1] at hA
    exact absurd hA (by decide)
   subst hr
   have t1 : decide (480 < (A : Int)) = true := decide_eq_true (by have := of_decide_eq_false hA; omega)
   clear HR2 hA
   go_wp2_with (first | go_skip | ((go_at_call 159); (with_reducible refine fr_call F (g6 _) ?_); (clear F; intro W F); (try dsimp only)) | refine aY3 ?_ | (refine aT3 ?_; clear F; intro W F) | refine aN3 ?_)
   exact bodyPost_ret (res_cs rfl rfl rfl (Fr.get F tL) (rowRC _ _)) rfl ⟨rfl, F.below⟩
  ·have t1 : decide (480 < (A : Int)) = false := decide_eq_false (by have := of_decide_eq_true hA; omega)
   cases hB : decide (B ≤ 480)
   ·have hr : (0, 0, 10) = r := by
     rw [HR2.out, if_neg]
     intro h
     rw [decide_eq_true h.2] at hB
     exact absurd hB (by decide)
    subst hr
    have t2 : decide (480 < (B : Int)) = true := decide_eq_true (by have := of_decide_eq_false hB; omega)
    clear HR2 hA hB
    go_wp2_with (first | go_skip | ((go_at_call 159); (with_reducible refine fr_call F (g6 _) ?_); (clear F; intro W F); (try dsimp only)) | ((go_at_call 159); (with_reducible refine fr_call F (g7 _) ?_); (clear F; intro W F); (try dsimp only)) | refine aY3 ?_ | (refine aT3 ?_; clear F; intro W F) | refine aN3 ?_)
    exact bodyPost_ret (res_cs rfl rfl rfl (Fr.get F tL) (rowRC _ _)) rfl ⟨rfl, F.below⟩
   ·have hr : (u, v, 0) = r := by
     rw [HR2.out, if_pos ⟨of_decide_eq_true hA, of_decide_eq_true hB⟩]
    subst hr
    have t2 : decide (480 < (B : Int)) = false := decide_eq_false (by have := of_decide_eq_true hB; omega)
    clear HR2 hA hB
    go_wp2_with (first | go_skip | ((go_at_call 159); (with_reducible refine fr_call F (g6 _) ?_); (clear F; intro W F); (try dsimp only)) | ((go_at_call 159); (with_reducible refine fr_call F (g7 _) ?_); (clear F; intro W F); (try dsimp only)) | refine aY3 ?_ | (refine aT3 ?_; clear F; intro W F) | refine aN3 ?_)
    exact bodyPost_ret (res_cs rfl rfl rfl (Fr.get F tL) (rowRC _ _)) rfl ⟨rfl, F.below⟩
 ·have t0 : decide (e < 0) = false := decide_eq_false (by rw [← HE.out]; exact fun h => hneg (hsg.1 (Int.sign_neg_iff.1 h)))
  have hr := HRR.out
  simp only [if_neg hneg] at hr
  have g6 := fun w => rbits_any (neg := decide (N < 0)) (m := N.natAbs) HB.out.1 w
  have g7 := fun w => rbits_any (neg := decide (D < 0)) (m := D.natAbs) HB.out.2 w
  obtain ⟨u, hu⟩ : ∃ u, N = u := ⟨_, rfl⟩
  obtain ⟨v, hv⟩ : ∃ v, D = v := ⟨_, rfl⟩
  obtain ⟨A, hA⟩ : ∃ A, bl N.natAbs = A := ⟨_, rfl⟩
  obtain ⟨B, hB⟩ : ∃ B, bl D.natAbs = B := ⟨_, rfl⟩
  rw [hA] at g6 hr
  rw [hB] at g7 hr
  have g6 : ∀ w, Calls Tryz.prog 159 #[.agg (IC N)] w (RetB (.int .i64 A) w) := g6
  have g7 : ∀ w, Calls Tryz.prog 159 #[.agg (IC D)] w (RetB (.int .i64 B) w) := g7
  have HR2 := Lib.hid hr.symm
  subst hu
  subst hv
  clear hA hB hr HRR HE HB hsg hneg
  go_wp2_with (first | go_skip | ((go_at_call 135); (with_reducible refine fr_call F (g5 _) ?_); (clear F; intro W F); (try dsimp only)) | refine aY3 ?_ | (refine aT3 ?_; clear F; intro W F) | refine aN3 ?_)
  cases hA : decide (A ≤ 480)
  ·have hr : (0, 0, 10) = r := by
    rw [HR2.out, if_neg]
    intro h
    rw [decide_eq_true h.1] at hA
    exact absurd hA (by decide)
   subst hr
   have t1 : decide (480 < (A : Int)) = true := decide_eq_true (by have := of_decide_eq_false hA; omega)
   clear HR2 hA
   go_wp2_with (first | go_skip | ((go_at_call 159); (with_reducible refine fr_call F (g6 _) ?_); (clear F; intro W F); (try dsimp only)) | refine aY3 ?_ | (refine aT3 ?_; clear F; intro W F) | refine aN3 ?_)
   exact bodyPost_ret (res_cs rfl rfl rfl (Fr.get F tL) (rowRC _ _)) rfl ⟨rfl, F.below⟩
  ·have t1 : decide (480 < (A : Int)) = false := decide_eq_false (by have := of_decide_eq_true hA; omega)
   cases hB : decide (B ≤ 480)
   ·have hr : (0, 0, 10) = r := by
     rw [HR2.out, if_neg]
     intro h
     rw [decide_eq_true h.2] at hB
     exact absurd hB (by decide)
    subst hr
    have t2 : decide (480 < (B : Int)) = true := decide_eq_true (by have := of_decide_eq_false hB; omega)
    clear HR2 hA hB
    go_wp2_with (first | go_skip | ((go_at_call 159); (with_reducible refine fr_call F (g6 _) ?_); (clear F; intro W F); (try dsimp only)) | ((go_at_call 159); (with_reducible refine fr_call F (g7 _) ?_); (clear F; intro W F); (try dsimp only)) | refine aY3 ?_ | (refine aT3 ?_; clear F; intro W F) | refine aN3 ?_)
    exact bodyPost_ret (res_cs rfl rfl rfl (Fr.get F tL) (rowRC _ _)) rfl ⟨rfl, F.below⟩
   ·have hr : (N, D, 0) = r := by
     rw [HR2.out, if_pos ⟨of_decide_eq_true hA, of_decide_eq_true hB⟩]
    subst hr
    have t2 : decide (480 < (B : Int)) = false := decide_eq_false (by have := of_decide_eq_true hB; omega)
    clear HR2 hA hB
    go_wp2_with (first | go_skip | ((go_at_call 159); (with_reducible refine fr_call F (g6 _) ?_); (clear F; intro W F); (try dsimp only)) | ((go_at_call 159); (with_reducible refine fr_call F (g7 _) ?_); (clear F; intro W F); (try dsimp only)) | refine aY3 ?_ | (refine aT3 ?_; clear F; intro W F) | refine aN3 ?_)
    exact bodyPost_ret (res_cs rfl rfl rfl (Fr.get F tL) (rowRC _ _)) rfl ⟨rfl, F.below⟩
end
section
open Go.RowKit
set_option maxHeartbeats 4000000
section
variable {n d m e : Int} {r : Int × Int × Int}
theorem rofR (h1 : -9223372036854775808 ≤ n) (h2 : n < 9223372036854775808) (h3 : -9223372036854775808 ≤ d) (h4 : d < 9223372036854775808) (hr : mkR n d = r) (w : World) : Calls Tryz.prog 60 #[.int .i64 n, .int .i64 d] w (RetB (.tuple #[.agg (RC r.1 r.2.1), .int .i64 r.2.2]) w) := by
 have F := Fr.start w
 have g1 := fun w => rfromZ h1 h2 w
 have g2 := fun w => rfromZ h3 h4 w
 have b0 : ∀ k : Int, -9223372036854775808 ≤ k → k < 9223372036854775808 → k.natAbs < bp 32 := fun k h5 h6 => by
  have : 9223372036854775808 < bp 32 := by unfold bp; decide
  omega
 have g3 := fun w => rmakeZ (b0 n h1 h2) (b0 d h3 h4) hr w
 clear h1 h2 h3 h4 hr b0
 go_enter Tryz.func60, Tryz.ntmps60
 go_wp2_with (first | go_skip | refine aY3 ?_ | (refine aT3 ?_; clear F; intro W F) | refine aN3 ?_)
 (clear F; intro b4 W F; try simp only [Act.put, z6, z1, z2])
 go_wp2_with (first | go_skip | ((go_at_call 107); (with_reducible refine fr_call F (g1 _) ?_); (clear F; intro W F); (try dsimp only)) | ((go_at_call 107); (with_reducible refine fr_call F (g2 _) ?_); (clear F; intro W F); (try dsimp only)) | ((go_at_call 106); (with_reducible refine fr_call F (g3 _) ?_); (clear F; intro W F); (try dsimp only)) | refine aY3 ?_ | (refine aT3 ?_; clear F; intro W F) | refine aN3 ?_)
 exact bodyPost_ret (res_cs rfl rfl rfl (Fr.get F tL) (rowRC _ _)) rfl ⟨rfl, F.below⟩
theorem rwholeR (h1 : -9223372036854775808 ≤ n) (h2 : n < 9223372036854775808) (w : World) : Calls Tryz.prog 105 #[.int .i64 n] w (RetB (.agg (RC n 1)) w) := by
 have F := Fr.start w
 have g1 := fun w => rfromZ h1 h2 w
 have g2 := fun w => rfromZ (n := 1) (by decide) (by decide) w
 clear h1 h2
 go_enter Tryz.func105, Tryz.ntmps105
 go_wp2_with (first | go_skip | refine aY3 ?_ | (refine aT3 ?_; clear F; intro W F) | refine aN3 ?_)
 (clear F; intro b2 W F; try simp only [Act.put, z6, z1, z2])
 go_wp2_with (first | go_skip | ((go_at_call 107); (with_reducible refine fr_call F (g1 _) ?_); (clear F; intro W F); (try dsimp only)) | ((go_at_call 107); (with_reducible refine fr_call F (g2 _) ?_); (clear F; intro W F); (try dsimp only)) | refine aY3 ?_ | (refine aT3 ?_; clear F; intro W F) | refine aN3 ?_)
 exact bodyPost_ret (res_c rfl rfl (Fr.get F tL) (rowRC _ _)) rfl ⟨rfl, F.below⟩
theorem rzeroR (w : World) : Calls Tryz.prog 59 #[] w (RetB (.agg (RC 0 1)) w) := by
 have F := Fr.start w
 have g1 := fun w => rwholeR (n := 0) (by decide) (by decide) w
 go_enter Tryz.func59, Tryz.ntmps59
 go_wp2_with (first | go_skip | refine aY3 ?_ | (refine aT3 ?_; clear F; intro W F) | refine aN3 ?_)
 (clear F; intro b0 W F; try simp only [Act.put, z6, z1, z2])
 go_wp2_with (first | go_skip | ((go_at_call 105); (with_reducible refine fr_call F (g1 _) ?_); (clear F; intro W F); (try dsimp only)) | refine aY3 ?_ | (refine aT3 ?_; clear F; intro W F) | refine aN3 ?_)
 exact bodyPost_ret (res_c rfl rfl (Fr.get F tL) (rowRC _ _)) rfl ⟨rfl, F.below⟩
theorem rproductZ {x y : Int} (hx : x.natAbs < bp 32) (hy : y.natAbs < bp 32) (h : (x * y).natAbs < bp 32) (w : World) : Calls Tryz.prog 217 #[.agg (IC x), .agg (IC y)] w (RetB (.agg (IC (x * y))) w) := by
 have F := Fr.start w
 have g1 := fun w => rmulZ hx hy h w
 clear hx hy h
 go_enter Tryz.func217, Tryz.ntmps217
 go_wp2_with (first | go_skip | refine aY3 ?_ | (refine aT3 ?_; clear F; intro W F) | refine aN3 ?_)
 (clear F; intro b2 W F; try simp only [Act.put, z6, z1, z2])
 go_wp2_with (first | go_skip | refine aY3 ?_ | (refine aT3 ?_; clear F; intro W F) | refine aN3 ?_)
 (clear F; intro b3 W F; try simp only [Act.put, z6, z1, z2])
 go_wp2_with (first | go_skip | refine aY3 ?_ | (refine aT3 ?_; clear F; intro W F) | refine aN3 ?_)
 (clear F; intro b4 W F; try simp only [Act.put, z6, z1, z2])
 go_wp2_with (first | go_skip | ((go_at_call 133); (with_reducible refine fr_call F (g1 _) ?_); (clear F; intro W F); (try dsimp only)) | refine aY3 ?_ | (refine aT3 ?_; clear F; intro W F) | refine aN3 ?_)
 (clear F; intro b5 W F; try simp only [Act.put, z6, z1, z2])
 go_wp2_with (first | go_skip | refine aY3 ?_ | (refine aT3 ?_; clear F; intro W F) | refine aN3 ?_)
 exact bodyPost_ret (res_c rfl rfl (Fr.get F tL) (rowIC _)) rfl ⟨rfl, F.below⟩
set_option maxRecDepth 100000 in
theorem rcompareR (h : okZ n d) (k : okZ m e) {c : Int} (hc : cmpZ (n * e) (m * d) = c) (w : World) : Calls Tryz.prog 173 #[.agg (RC n d), .agg (RC m e)] w (RetB (.int .i64 c) w) := by
 have F := Fr.start w
 obtain ⟨⟨hn, hd⟩, -⟩ := okZ_iff.1 h
 obtain ⟨⟨hm, he⟩, -⟩ := okZ_iff.1 k
 have g1 := fun w => rproductZ (b15 hn) (b15 he) (b30 hn he) w
 have g2 := fun w => rproductZ (b15 hm) (b15 hd) (b30 hm hd) w
 have g3 := fun w => rcmp_any (b30 hn he) (b30 hm hd) w
 obtain ⟨x, hx⟩ : ∃ x, n * e = x := ⟨_, rfl⟩
 obtain ⟨y, hy⟩ : ∃ y, m * d = y := ⟨_, rfl⟩
 rw [hx] at g1 g3 hc
 rw [hy] at g2 g3 hc
 rw [hc] at g3
 clear h k hn hd hm he hx hy hc
 go_enter Tryz.func173, Tryz.ntmps173
 go_wp2_with (first | go_skip | refine aY3 ?_ | (refine aT3 ?_; clear F; intro W F) | refine aN3 ?_)
 (clear F; intro b2 W F; try simp only [Act.put, z6, z1, z2])
 go_wp2_with (first | go_skip | refine aY3 ?_ | (refine aT3 ?_; clear F; intro W F) | refine aN3 ?_)
 (clear F; intro b3 W F; try simp only [Act.put, z6, z1, z2])
 go_wp2_with (first | go_skip | refine aY3 ?_ | (refine aT3 ?_; clear F; intro W F) | refine aN3 ?_)
 try simp only [Act.put, z6, z1, z2]
 refine wp_region_slots mixP [4, 5, 6, 7, 8, 9, 10, 11, 12, 13, 14, 15] (fun l mm W => ∃ (s4 s5 s6 s7 s8 s9 s10 s11 s12 s13 s14 s15 : Value), mm = [s4, s5, s6, s7, s8, s9, s10, s11, s12, s13, s14, s15] ∧ Fr w W [(b3, RC m e, 31), (b2, RC n d, 31)] ∧ On l 0 [s5 = .pointer (some ⟨b2, 0, none⟩), s6 = .agg (IC n), s7 = .pointer (some ⟨b3, 33, none⟩), s8 = .agg (IC e), s9 = .agg (IC x), s10 = .pointer (some ⟨b3, 0, none⟩), s11 = .agg (IC m), s12 = .pointer (some ⟨b2, 33, none⟩), s13 = .agg (IC d), s14 = .agg (IC y), s15 = .int .i64 c, s4 = .int .i64 c] ∧ True) (by kernel_rfl) (putAll_self _ _) ?_ ?_ ?_
 ·exact ⟨_, _, _, _, _, _, _, _, _, _, _, _, rfl, F.drew, On.none _ _ _, dT⟩
 ·rintro listed mm W ii hi hsz hoff ⟨s4, s5, s6, s7, s8, s9, s10, s11, s12, s13, s14, s15, rfl, HF, hH, -⟩ hd
  simp only [putAll, z1, z2]
  obtain rfl | rfl | rfl | rfl | rfl | rfl | rfl | rfl | rfl | rfl | rfl | rfl := dr_c12 hi
  ·exact oP
  ·obtain rfl : s5 = _ := dh 0 hH hd
   exact oY3
  ·exact oP
  ·obtain rfl : s7 = _ := dh 2 hH hd
   exact oY3
  ·obtain rfl : s6 = _ := dh 1 hH hd
   obtain rfl : s8 = _ := dh 3 hH hd
   refine ow rfl rfl fun K hK => ?_
   refine ⟨?_⟩
   go_simp
   with_reducible refine fr_call HF (g1 _) ?_
   exact oC
  ·exact oP
  ·obtain rfl : s10 = _ := dh 5 hH hd
   exact oY3
  ·exact oP
  ·obtain rfl : s12 = _ := dh 7 hH hd
   exact oY3
  ·obtain rfl : s11 = _ := dh 6 hH hd
   obtain rfl : s13 = _ := dh 8 hH hd
   refine ow rfl rfl fun K hK => ?_
   refine ⟨?_⟩
   go_simp
   with_reducible refine fr_call HF (g2 _) ?_
   exact oC
  ·obtain rfl : s9 = _ := dh 4 hH hd
   obtain rfl : s14 = _ := dh 9 hH hd
   refine ow rfl rfl fun K hK => ?_
   refine ⟨?_⟩
   go_simp
   with_reducible refine fr_call HF (g3 _) ?_
   exact oC
  ·obtain rfl : s15 = _ := dh 10 hH hd
   exact oP
 rintro listed mm W ⟨s4, s5, s6, s7, s8, s9, s10, s11, s12, s13, s14, s15, rfl, HF, hH, -⟩ hall
 obtain ⟨rfl, rfl, rfl, rfl, rfl, rfl, rfl, rfl, rfl, rfl, rfl, rfl⟩ := onA hH hall
 clear hall hH  F
 have F := HF
 clear HF
 simp only [putAll, z1, z2]
 go_wp2_with (first | go_skip | refine aY3 ?_ | (refine aT3 ?_; clear F; intro W F) | refine aN3 ?_)
 go_ret
 exact ⟨rfl, F.below⟩
end
end
section
open Go.RowKit
set_option maxHeartbeats 4000000
theorem RC_ext0 (n d : Int) : (RC n d).extract 0 33 = IC n := by
 unfold RC
 rw [Array.extract_append, IC_size, show (IC d).extract (0 - 33) (33 - 33) = #[] by simp, Array.append_empty]
 have h : (IC n).extract 0 (IC n).size = IC n := Array.extract_size
 rwa [IC_size] at h
theorem field_num {o : Oper} {a : Act} {W : World} {x : Operand} {n d : Int} (ho : o.op = .field 31 x 0) (hx : a.eval x = .agg (RC n d)) : (execOp a.eval o).run Tryz.prog W = .ok (.value (.agg (IC n))) W := by
 obtain ⟨dst, op, pos, af, g, z⟩ := o
 subst ho
 unfold execOp
 simp only [hx]
 go_simp
 rw [← RC_ext0 n d]
 kernel_rfl
theorem gF_num {a : Act} {W : World} {K : Act → World → Prop} {Q : Exit → Act → World → Prop} {x : Operand} {dst : Option Tmp} {ty : TypeId} {pos : String} {af : Array Edge} {gd : Option (Nat × Bool)} {n d : Int} (hx : a.eval x = .agg (RC n d)) (hk : K (a.put dst (.agg (IC n))) W) : OpW Tryz.prog ⟨dst, .field 31 x 0, ty, pos, af, gd⟩ a W K Q := by
 refine ⟨?_⟩
 unfold Oper.wp
 rw [field_num (o := ⟨dst, .field 31 x 0, ty, pos, af, gd⟩) rfl hx]
 exact hk
set_option maxRecDepth 100000 in
theorem rpower_any {n : Nat} (hn : n ≤ 9) (w : World) : Calls Tryz.prog 137 #[.int .i64 n] w (RetB (.agg (RC ((10 ^ n : Nat) : Int) 1)) w) := by
 have F := Fr.start w
 have h9 := ten_le hn
 obtain ⟨T, hT⟩ : ∃ T, 10 ^ n = T := ⟨_, rfl⟩
 rw [hT] at h9 ⊢
 have g1 := fun w => rwholeR (n := (T : Int)) (by omega) (by omega) w
 have HT := Lib.hid hT
 clear h9 hT
 go_enter Tryz.func137, Tryz.ntmps137
 go_wp2_with (first | go_skip | refine aY3 ?_ | (refine aT3 ?_; clear F; intro W F) | refine aN3 ?_)
 (clear F; intro b2 W F; try simp only [Act.put, z6, z1, z2])
 go_wp2_with fail
 go_loopw [3, 4] (fun pv iv wr => ∃ i p : Nat, i ≤ n ∧ p = 10 ^ i ∧ pv = .int .i64 p ∧ iv = .int .i64 i ∧ Fr w wr [(b2, RC 0 0, 31)]) (fun _ iv _ => n - (intOf iv).toNat)
 case atStart => exact ⟨0, 1, by omega, rfl, rfl, rfl, F⟩
 case round =>
  clear F
  obtain ⟨i, p, hi, hp, rfl, rfl, F⟩ := hrel
  by_cases hin : i < n
  ·have hp1 : p ≤ 1000000000 := by rw [hp]; exact ten_le (by omega)
   obtain ⟨q, hq⟩ : ∃ q, p * 10 = q := ⟨_, rfl⟩
   have HP := Lib.hid (show q = 10 ^ (i + 1) from by rw [← hq, hp, Nat.pow_succ])
   have m1 : IntKind.i64.wrap ((p : Int) * 10) = (q : Int) := by
    rw [show (p : Int) * 10 = (q : Int) by omega]
    exact IntWalk.i64_in _ (by omega)
   clear hp hq
   go_wp2_with fail
   go_roundw
   case rel => exact ⟨i + 1, q, by omega, HP.out, rfl, by go_num, F⟩
   case measure => simp [intOf]; omega
  ·obtain rfl : n = i := by omega
   rw [HT.out] at hp
   subst hp
   go_wp2_with (first | go_skip | ((go_at_call 105); (with_reducible refine fr_call F (g1 _) ?_); (clear F; intro W F); (try dsimp only)) | refine aY3 ?_ | (refine aT3 ?_; clear F; intro W F) | refine aN3 ?_)
   exact bodyPost_ret (res_c rfl rfl (Fr.get F tL) (rowRC _ _)) rfl ⟨rfl, F.below⟩
theorem rplaces_any {p : Int} {f : Bool} (hf : decide (0 ≤ p ∧ p ≤ 9) = f) (w : World) : Calls Tryz.prog 88 #[.int .i64 p] w (RetB (.bool f) w) := by
 have F := Fr.start w
 by_cases h1 : 0 ≤ p
 ·have t1 : decide (0 ≤ p) = true := decide_eq_true h1
  by_cases h2 : p ≤ 9
  ·have t2 : decide (p ≤ 9) = true := decide_eq_true h2
   obtain rfl : true = f := by rw [← hf, decide_eq_true ⟨h1, h2⟩]
   clear hf h1 h2
   go_enter Tryz.func88, Tryz.ntmps88
   go_wp2_with fail
   go_ret
   exact ⟨rfl, F.below⟩
  ·have t2 : decide (p ≤ 9) = false := decide_eq_false h2
   obtain rfl : false = f := by rw [← hf, decide_eq_false (fun h => h2 h.2)]
   clear hf h1 h2
   go_enter Tryz.func88, Tryz.ntmps88
   go_wp2_with fail
   go_ret
   exact ⟨rfl, F.below⟩
 ·have t1 : decide (0 ≤ p) = false := decide_eq_false h1
  obtain rfl : false = f := by rw [← hf, decide_eq_false (fun h => h1 h.1)]
  clear hf h1
  go_enter Tryz.func88, Tryz.ntmps88
  go_wp2_with fail
  go_ret
  exact ⟨rfl, F.below⟩
def aboveB (m : Int) (g : Bool) (h : Int) (o : Bool) : Bool :=
 if m = 1 then g else if m = 2 then !g else if m = 3 then false else if m = 4 then true else if h ≠ 0 then decide (0 < h) else if m = 5 then !g else o
theorem above_up {m z h : Int} {g : Bool} : aboveB m g h (decide (z % 2 = 1)) = upB m z h g := by
 unfold aboveB upB
 by_cases h0 : h = 0
 ·simp only [h0, ne_eq, not_true_eq_false, if_false, if_true]
 ·simp only [h0, ne_eq, not_false_eq_true, if_false, if_true]
  (repeat' split) <;> rfl
theorem rabove_any {m h : Int} {g o : Bool} (h1 : 1 ≤ m) (h2 : m ≤ 6) {r : Bool} (hr : aboveB m g h o = r) (w : World) : Calls Tryz.prog 153 #[.int .i64 m, .bool g, .int .i64 h, .bool o] w (RetB (.bool r) w) := by
 have F := Fr.start w
 have hm : m = 1 ∨ m = 2 ∨ m = 3 ∨ m = 4 ∨ m = 5 ∨ m = 6 := by omega
 clear h1 h2
 by_cases h0 : h = 0
 ·subst h0
  rcases hm with rfl | rfl | rfl | rfl | rfl | rfl
  all_goals
   simp only [aboveB, ne_eq, not_true_eq_false, if_false, if_true, Int.reduceEq] at hr
   subst hr
   go_enter Tryz.func153, Tryz.ntmps153
   go_wp2_with fail
   go_ret
   exact ⟨rfl, F.below⟩
 ·have t1 : (h == 0) = false := by rw [beq_eq_false_iff_ne]; exact h0
  rcases hm with rfl | rfl | rfl | rfl | rfl | rfl
  all_goals
   simp only [aboveB, h0, ne_eq, not_false_eq_true, if_false, if_true, Int.reduceEq] at hr
   subst hr
   go_enter Tryz.func153, Tryz.ntmps153
   go_wp2_with fail
   go_ret
   exact ⟨rfl, F.below⟩
set_option maxRecDepth 100000 in
theorem rscaledZ {n d : Int} (hn : n.natAbs < bp 15) (hd : d.natAbs < bp 15) {p : Nat} (hp : p ≤ 9) {N : Int} (hN : n * ((10 ^ p : Nat) : Int) = N) (w : World) : Calls Tryz.prog 151 #[.agg (RC n d), .int .i64 p] w (RetB (.tuple #[.agg (IC N), .agg (IC d)]) w) := by
 have F := Fr.start w
 have g1 := fun w => rpower_any hp w
 have hb := Nat.lt_of_lt_of_le (b_ten hn hp) (bp_le (show 17 ≤ 32 by decide))
 have ht : ((10 ^ p : Nat) : Int).natAbs < bp 32 := by
  have h1 := ten_le hp
  have h2 : 4294967296 ≤ bp 32 := by unfold bp; decide
  obtain ⟨T, hT⟩ : ∃ T, 10 ^ p = T := ⟨_, rfl⟩
  rw [hT] at h1 ⊢
  omega
 have g2 := fun w => rmulZ (b15 hn) ht hb w
 rw [hN] at g2
 obtain ⟨P, hP⟩ : ∃ P : Int, ((10 ^ p : Nat) : Int) = P := ⟨_, rfl⟩
 rw [hP] at g1 g2
 clear hn hd hp hN hb ht hP
 go_enter Tryz.func151, Tryz.ntmps151
 go_wp2_with (first | go_skip | refine aY3 ?_ | (refine aT3 ?_; clear F; intro W F) | refine aN3 ?_)
 (clear F; intro b2 W F; try simp only [Act.put, z6, z1, z2])
 go_wp2_with (first | go_skip | refine aY3 ?_ | (refine aT3 ?_; clear F; intro W F) | refine aN3 ?_)
 (clear F; intro b4 W F; try simp only [Act.put, z6, z1, z2])
 go_wp2_with (first | go_skip | refine aY3 ?_ | (refine aT3 ?_; clear F; intro W F) | refine aN3 ?_)
 (clear F; intro b5 W F; try simp only [Act.put, z6, z1, z2])
 go_wp2_with (first | go_skip | refine aY3 ?_ | (refine aT3 ?_; clear F; intro W F) | refine aN3 ?_)
 try simp only [Act.put, z6, z1, z2]
 refine wp_region_slots mixP [6, 7, 8, 9, 10, 11, 12, 13, 14, 15, 16] (fun l mm W => ∃ (s6 s7 s8 s9 s10 s11 s12 s13 s14 s15 s16 : Value) (c_b6 : Array Value) (b6 : Nat), mm = [s6, s7, s8, s9, s10, s11, s12, s13, s14, s15, s16] ∧ Fr w W ((b5, intC false 0, 29) :: (b4, intC false 0, 29) :: (b2, RC n d, 31) :: (onl (l.getD 9 false) (b6, c_b6, 29))) ∧ On l 0 [s9 = .pointer (some ⟨b2, 0, none⟩), s10 = .agg (IC n), s11 = .int .i64 p, s12 = .agg (RC P 1), s13 = .agg (IC P), s14 = .tuple #[.agg (IC N), .int .i64 0], s8 = .tuple #[.agg (IC N), .int .i64 0], s15 = .agg (IC N), s16 = .int .i64 0, s6 = .pointer (some ⟨b6, 0, none⟩), c_b6 = IC N, s7 = .int .i64 0] ∧ Wt l [(10, 9)] ∧ c_b6.size = (IC N).size ∧ True) (by kernel_rfl) (putAll_self _ _) ?_ ?_ ?_
 ·exact ⟨_, _, _, _, _, _, _, _, _, _, _, (intC false 0), 0, rfl, F.drew, On.none _ _ _, Wt.none _ _, dT⟩
 ·rintro listed mm W ii hi hsz hoff ⟨s6, s7, s8, s9, s10, s11, s12, s13, s14, s15, s16, c_b6, b6, rfl, HF, hH, hw, hz0, -⟩ hd
  simp only [putAll, z1, z2]
  obtain rfl | rfl | rfl | rfl | rfl | rfl | rfl | rfl | rfl | rfl | rfl | rfl := dr_c12 hi
  ·exact oP
  ·obtain rfl : s9 = _ := dh 0 hH hd
   exact oY3
  ·exact oP
  ·obtain rfl : s11 = _ := dh 2 hH hd
   refine ow rfl rfl fun K hK => ?_
   refine ⟨?_⟩
   go_simp
   with_reducible refine fr_call HF (g1 _) ?_
   exact oC
  ·obtain rfl : s12 = _ := dh 3 hH hd
   refine ow rfl rfl fun K hK => ?_
   with_reducible apply gF_num
   ·exact rfl
   exact oR
  ·obtain rfl : s10 = _ := dh 1 hH hd
   obtain rfl : s13 = _ := dh 4 hH hd
   refine ow rfl rfl fun K hK => ?_
   refine ⟨?_⟩
   go_simp
   with_reducible refine fr_call HF (g2 _) ?_
   exact oC
  ·obtain rfl : s14 = _ := dh 5 hH hd
   exact oP
  ·obtain rfl : s8 = _ := dh 6 hH hd
   exact oP
  ·obtain rfl : s8 = _ := dh 6 hH hd
   exact oP
  ·refine ow rfl rfl fun K hK => ?_
   rw [show listed.getD 9 false = false from hoff] at HF
   with_reducible apply gA_int HF
   intro bN W HF
   go_simp
   exact hK _ _ ⟨_, dE, _, _, _, _, _, _, _, _, _, _, _, (intC false 0), bN, rfl, by rw [getD_on (show 9 < listed.size by rw [hsz]; decide)]; exact Fr.mid (A := [(b5, intC false 0, 29), (b4, intC false 0, 29), (b2, RC n d, 31)]) HF, onS (onV 10 hH (wtF hw hoff)) rfl rfl, dT⟩
  ·obtain rfl : s15 = _ := dh 7 hH hd
   obtain rfl : s6 = _ := dh 9 hH hd
   have HG := hd 9 (by kernel_rfl)
   rw [HG] at HF
   simp only [onl, if_true, z7, z8] at HF
   exact oT3
  ·obtain rfl : s16 = _ := dh 8 hH hd
   exact oP
 rintro listed mm W ⟨s6, s7, s8, s9, s10, s11, s12, s13, s14, s15, s16, c_b6, b6, rfl, HF, hH, hw, hz0, -⟩ hall
 obtain ⟨rfl, rfl, rfl, rfl, rfl, rfl, rfl, rfl, rfl, rfl, e10, rfl⟩ := onA hH hall
 rw [hall 9 (by decide)] at HF
 simp only [onl, if_true, z7, z8] at HF
 rw [e10] at HF
 clear hall hH e10 hw hz0 F
 have F := HF
 clear HF
 simp only [putAll, z1, z2]
 go_wp2_with (first | go_skip | refine aY3 ?_ | (refine aT3 ?_; clear F; intro W F) | refine aN3 ?_)
 try simp only [Act.put, z6, z1, z2]
 refine wp_region_slots mixP [17, 18, 19] (fun l mm W => ∃ (s17 s18 s19 : Value) (c_b4 c_b5 : Array Value), mm = [s17, s18, s19] ∧ Fr w W [(b5, c_b5, 29), (b4, c_b4, 29), (b2, RC n d, 31), (b6, IC N, 29)] ∧ On l 0 [s17 = .agg (IC N), s18 = .pointer (some ⟨b2, 33, none⟩), s19 = .agg (IC d), c_b4 = IC N, c_b5 = IC d] ∧ c_b4.size = (IC N).size ∧ c_b5.size = (IC d).size ∧ True) (by kernel_rfl) (putAll_self _ _) ?_ ?_ ?_
 ·exact ⟨_, _, _, (intC false 0), (intC false 0), rfl, F.drew, On.none _ _ _, dT⟩
 ·rintro listed mm W ii hi hsz hoff ⟨s17, s18, s19, c_b4, c_b5, rfl, HF, hH, hz0, hz1, -⟩ hd
  simp only [putAll, z1, z2]
  obtain rfl | rfl | rfl | rfl | rfl := dr_c5 hi
  ·exact oY3
  ·exact oP
  ·obtain rfl : s18 = _ := dh 1 hH hd
   exact oY3
  ·obtain rfl : s17 = _ := dh 0 hH hd
   exact oT3
  ·obtain rfl : s19 = _ := dh 2 hH hd
   exact oT3
 rintro listed mm W ⟨s17, s18, s19, c_b4, c_b5, rfl, HF, hH, hz0, hz1, -⟩ hall
 obtain ⟨rfl, rfl, rfl, e3, e4⟩ := onA hH hall
 rw [e3] at HF
 rw [e4] at HF
 clear hall hH e3 e4 hz0 hz1 F
 have F := HF
 clear HF
 simp only [putAll, z1, z2]
 go_wp2_with (first | go_skip | refine aY3 ?_ | (refine aT3 ?_; clear F; intro W F) | refine aN3 ?_)
 exact bodyPost_ret (res_cc rfl rfl rfl (Fr.get F tL) (rowIC _) (Fr.get F tL) (rowIC _)) rfl ⟨rfl, F.below⟩
theorem odd_lim (z : Int) : (lim z.natAbs 0 % 2 = 1) ↔ z % 2 = 1 := by
 unfold lim
 rw [bp_zero, Nat.div_one]
 omega
theorem sign_mul_pos {n t : Int} (ht : 0 < t) : ((n * t).sign < 0) ↔ n < 0 := by
 rw [Int.sign_neg_iff]
 constructor
 ·intro h
  rcases Int.lt_or_le n 0 with h2 | h2
  ·exact h2
  ·have := Int.mul_nonneg h2 (Int.le_of_lt ht)
   omega
 ·intro h
  exact Int.mul_neg_of_neg_of_pos h ht
set_option maxRecDepth 100000 in
theorem rround_any {x : Bool} {a : Nat} {y : Bool} {b : Nat} (ha : a < bp 32) (hb : b < bp 32) {p m : Int} {r : Int × Int} (hr : rndR (okR x a y b) (sZ x a) (sZ y b) p m = r) (w : World) : Calls Tryz.prog 101 #[.agg (ratC x a y b), .int .i64 p, .int .i64 m] w (RetB (.tuple #[.agg (IC r.1), .int .i64 r.2]) w) := by
 have F := Fr.start w
 obtain ⟨f, hf⟩ : ∃ f, decide (okR x a y b) = f := ⟨_, rfl⟩
 have g1 := fun w => rvalid_any ha hb hf w
 obtain ⟨f2, hf2⟩ : ∃ f, decide (0 ≤ p ∧ p ≤ 9) = f := ⟨_, rfl⟩
 have gp := fun w => rplaces_any hf2 w
 have HR := Lib.hid hr
 clear hr
 go_enter Tryz.func101, Tryz.ntmps101
 go_wp2_with (first | go_skip | refine aY3 ?_ | (refine aT3 ?_; clear F; intro W F) | refine aN3 ?_)
 (clear F; intro b3 W F; try simp only [Act.put, z6, z1, z2])
 go_wp2_with (first | go_skip | refine aY3 ?_ | (refine aT3 ?_; clear F; intro W F) | refine aN3 ?_)
 (clear F; intro b6 W F; try simp only [Act.put, z6, z1, z2])
 by_cases hv : ¬ okR x a y b
 ·have he : f = false := by rw [← hf]; exact decide_eq_false hv
  have hr : (0, 20) = r := by have := HR.out; rwa [rndR, if_pos hv] at this
  subst he
  subst hr
  clear HR hv hf hf2
  go_wp2_with (first | go_skip | ((go_at_call 150); (with_reducible refine fr_call F (g1 _) ?_); (clear F; intro W F); (try dsimp only)) | refine aY3 ?_ | (refine aT3 ?_; clear F; intro W F) | refine aN3 ?_)
  exact bodyPost_ret (res_cs rfl rfl rfl (Fr.get F tL) (rowIC 0)) rfl ⟨rfl, F.below⟩
 rw [Classical.not_not] at hv
 obtain rfl : true = f := by rw [← hf]; exact (decide_eq_true hv).symm
 by_cases hp : p < 0 ∨ 9 < p
 ·have he : f2 = false := by rw [← hf2]; exact decide_eq_false (by omega)
  have hr : (0, 30) = r := by have := HR.out; rwa [rndR, if_neg (by rw [Classical.not_not]; exact hv), if_pos hp] at this
  subst he
  subst hr
  clear HR hv hp hf hf2
  go_wp2_with (first | go_skip | ((go_at_call 150); (with_reducible refine fr_call F (g1 _) ?_); (clear F; intro W F); (try dsimp only)) | ((go_at_call 88); (with_reducible refine fr_call F (gp _) ?_); (clear F; intro W F); (try dsimp only)) | refine aY3 ?_ | (refine aT3 ?_; clear F; intro W F) | refine aN3 ?_)
  exact bodyPost_ret (res_cs rfl rfl rfl (Fr.get F tL) (rowIC 0)) rfl ⟨rfl, F.below⟩
 obtain rfl : true = f2 := by rw [← hf2]; exact (decide_eq_true (by omega)).symm
 have hr := HR.out
 rw [rndR, if_neg (by rw [Classical.not_not]; exact hv), if_neg hp] at hr
 by_cases hm : m < 1 ∨ 6 < m
 ·rw [if_pos hm] at hr
  subst hr
  by_cases hm1 : m < 1
  ·have t1 : decide (m < 1) = true := decide_eq_true hm1
   clear HR hv hp hf hf2 hm hm1
   go_wp2_with (first | go_skip | ((go_at_call 150); (with_reducible refine fr_call F (g1 _) ?_); (clear F; intro W F); (try dsimp only)) | ((go_at_call 88); (with_reducible refine fr_call F (gp _) ?_); (clear F; intro W F); (try dsimp only)) | refine aY3 ?_ | (refine aT3 ?_; clear F; intro W F) | refine aN3 ?_)
   exact bodyPost_ret (res_cs rfl rfl rfl (Fr.get F tL) (rowIC 0)) rfl ⟨rfl, F.below⟩
  ·have t1 : decide (m < 1) = false := decide_eq_false hm1
   have t2 : decide (6 < m) = true := decide_eq_true (by omega)
   clear HR hv hp hf hf2 hm hm1
   go_wp2_with (first | go_skip | ((go_at_call 150); (with_reducible refine fr_call F (g1 _) ?_); (clear F; intro W F); (try dsimp only)) | ((go_at_call 88); (with_reducible refine fr_call F (gp _) ?_); (clear F; intro W F); (try dsimp only)) | refine aY3 ?_ | (refine aT3 ?_; clear F; intro W F) | refine aN3 ?_)
   exact bodyPost_ret (res_cs rfl rfl rfl (Fr.get F tL) (rowIC 0)) rfl ⟨rfl, F.below⟩
 rw [if_neg hm] at hr
 have t1 : decide (m < 1) = false := decide_eq_false (by omega)
 have t2 : decide (6 < m) = false := decide_eq_false (by omega)
 obtain ⟨n, d, ⟨h1, h2, h3⟩, hn, hd, hd0⟩ := okR_ints hv
 rw [h2, h3] at hr
 obtain ⟨q, rfl⟩ : ∃ q : Nat, p = (q : Int) := ⟨p.toNat, by omega⟩
 have hq : q ≤ 9 := by omega
 rw [Int.toNat_natCast] at hr
 have hN := b_ten hn hq
 have hsg := sign_mul_pos (n := n) (t := ((10 ^ q : Nat) : Int)) (by have := Nat.pow_pos (n := q) (show 0 < 10 by decide); omega)
 obtain ⟨N, hNN⟩ : ∃ N, n * ((10 ^ q : Nat) : Int) = N := ⟨_, rfl⟩
 have g2 := fun w => rscaledZ hn hd hq hNN w
 rw [hNN] at hsg hN
 simp only [hNN] at hr
 have hN32 : N.natAbs < bp 32 := Nat.lt_of_lt_of_le hN (bp_le (by decide))
 have gq := fun w => rdivmodZ hN32 (b15 hd) (show d ≠ 0 by omega) w
 have hu : (N / d).natAbs < bp 17 := Nat.lt_of_le_of_lt (div_le_abs N d) hN
 have hvv : (N % d).natAbs < bp 15 := by
  have k1 := Int.emod_nonneg N (show d ≠ 0 by omega)
  have k2 := Int.emod_lt_of_pos N hd0
  omega
 obtain ⟨u, huu⟩ : ∃ u, N / d = u := ⟨_, rfl⟩
 obtain ⟨v, hv2⟩ : ∃ v, N % d = v := ⟨_, rfl⟩
 rw [huu, hv2] at hr gq
 rw [huu] at hu
 rw [hv2] at hvv
 rw [h1] at g1 F
 have g3 := fun w => radd_any (b15 hvv) (b15 hvv) (b17 hvv hvv) w
 have g4 := fun w => rcmp_any (x := v + v) (y := d) (b17 hvv hvv) (b15 hd) w
 have g5 := fun w => rsignZ hN32 w
 have hs : decide (N.sign < 0) = decide (n < 0) := by rw [decide_eq_decide]; exact hsg
 rw [← hs] at hr
 obtain ⟨s, hss⟩ : ∃ s, N.sign = s := ⟨_, rfl⟩
 rw [hss] at g5 hr
 obtain ⟨g, hg⟩ : ∃ g, decide (s < 0) = g := ⟨_, rfl⟩
 rw [hg] at hr
 have HS := Lib.hid hg
 rw [show 2 * v = v + v by omega] at hr
 obtain ⟨c, hc⟩ : ∃ c, cmpZ (v + v) d = c := ⟨_, rfl⟩
 rw [hc] at g4 hr
 obtain ⟨o, ho⟩ : ∃ o, decide (u % 2 = 1) = o := ⟨_, rfl⟩
 obtain ⟨ub, hub⟩ : ∃ ub, upB m u c g = ub := ⟨_, rfl⟩
 have g6 := fun w => rabove_any (m := m) (h := c) (g := g) (o := o) (r := ub) (by omega) (by omega) (by rw [← ho, above_up]; exact hub) w
 rw [hub] at hr
 have g8 := fun w => rsignZ (b15 hvv) w
 have hv0 : v.sign = 0 ↔ v = 0 := Int.sign_eq_zero_iff_zero
 obtain ⟨t, ht⟩ : ∃ t, v.sign = t := ⟨_, rfl⟩
 rw [ht] at g8 hv0
 have hu1 : u.natAbs < bp 32 ∧ (u + 1).natAbs < bp 32 := by
  have k1 : bp 18 = bp 17 * 4294967296 := bp_succ 17
  have k2 := bp_le (show 18 ≤ 32 by decide)
  omega
 have g9 := fun w => rfromZ (n := 1) (by decide) (by decide) w
 have g10 := fun w => radd_any (x := u) (y := 1) hu1.1 (by decide) hu1.2 w
 have hl1 := lim_lt u.natAbs 0
 have hod := odd_lim u
 have cu : (IC u)[1]? = some (.int .u32 (lim u.natAbs 0)) := intC_limb (n := decide (u < 0)) (m := u.natAbs) (i := 0) (by decide)
 obtain ⟨li, hl⟩ : ∃ li, lim u.natAbs 0 = li := ⟨_, rfl⟩
 rw [hl] at hl1 hod cu
 obtain ⟨l2, hl2⟩ : ∃ l2, li % 2 = l2 := ⟨_, rfl⟩
 rw [hl2] at hod
 have ml1 : (li : Int).tmod 2 = (l2 : Int) := by rw [← hl2]; exact Int.ofNat_tmod li 2
 have ml2 : (li : Int) % 2 = (l2 : Int) := by omega
 have ml3 : ((l2 : Int) == 1) = o := by
  rw [← ho, Bool.eq_iff_iff, beq_iff_eq, decide_eq_true_eq, ← hod]
  omega
 have ml4 : (l2 == 1) = o := by
  rw [← ho, Bool.eq_iff_iff, beq_iff_eq, decide_eq_true_eq, ← hod]
 have HR2 := Lib.hid hr
 have HV0 := Lib.hid hv0
 obtain ⟨w2, hw2⟩ : ∃ z, v + v = z := ⟨_, rfl⟩
 rw [hw2] at g3 g4
 clear HR hp hq hNN hN hN32 hu huu hvv hr hv2 hn hd hd0 h1 h2 h3 hv hss hc ht hu1 hv0 hw2 hf hf2 hm hsg hs hg ho hub hl hl1 hl2 hod
 go_wp2_with (first | go_skip | ((go_at_call 150); (with_reducible refine fr_call F (g1 _) ?_); (clear F; intro W F); (try dsimp only)) | ((go_at_call 88); (with_reducible refine fr_call F (gp _) ?_); (clear F; intro W F); (try dsimp only)) | ((go_at_call 151); (with_reducible refine fr_call F (g2 _) ?_); (clear F; intro W F); (try dsimp only)) | refine aY3 ?_ | (refine aT3 ?_; clear F; intro W F) | refine aN3 ?_)
 (clear F; intro b8 W F; try simp only [Act.put, z6, z1, z2])
 go_wp2_with (first | go_skip | refine aY3 ?_ | (refine aT3 ?_; clear F; intro W F) | refine aN3 ?_)
 (clear F; intro b9 W F; try simp only [Act.put, z6, z1, z2])
 go_wp2_with (first | go_skip | ((go_at_call 152); (with_reducible refine fr_call F (gq _) ?_); (clear F; intro W F); (try dsimp only)) | refine aY3 ?_ | (refine aT3 ?_; clear F; intro W F) | refine aN3 ?_)
 (clear F; intro b10 W F; try simp only [Act.put, z6, z1, z2])
 go_wp2_with (first | go_skip | refine aY3 ?_ | (refine aT3 ?_; clear F; intro W F) | refine aN3 ?_)
 (clear F; intro b11 W F; try simp only [Act.put, z6, z1, z2])
 clear g1 gp g2 gq
 have hr := HR2.out
 by_cases hv0 : v = 0
 ·rw [if_pos hv0] at hr
  have ht0 := HV0.out.2 hv0
  subst hr
  subst ht0
  clear HV0 hv0 HR2
  go_wp2_with (first | go_skip | ((go_at_call 135); (with_reducible refine fr_call F (g8 _) ?_); (clear F; intro W F); (try dsimp only)) | refine aY3 ?_ | (refine aT3 ?_; clear F; intro W F) | refine aN3 ?_)
  exact bodyPost_ret (res_cs rfl rfl rfl (Fr.get F tL) (rowIC _)) rfl ⟨rfl, F.below⟩
 rw [if_neg hv0] at hr
 have ht0 : (t == 0) = false := by rw [beq_eq_false_iff_ne]; exact fun h => hv0 (HV0.out.1 h)
 have HRR := Lib.hid hr
 clear HV0 hv0 HR2 hr
 go_wp2_with (first | go_skip | ((go_at_call 135); (with_reducible refine fr_call F (g8 _) ?_); (clear F; intro W F); (try dsimp only)) | ((go_at_call 134); (with_reducible refine fr_call F (g3 _) ?_); (clear F; intro W F); (try dsimp only)) | refine aY3 ?_ | (refine aT3 ?_; clear F; intro W F) | refine aN3 ?_)
 (clear F; intro b13 W F; try simp only [Act.put, z6, z1, z2])
 go_wp2_with (first | go_skip | refine aY3 ?_ | (refine aT3 ?_; clear F; intro W F) | refine aN3 ?_)
 clear g8 g3
 try simp only [Act.put, z6, z1, z2]
 refine wp_region_slots mixP [56, 57, 58, 59, 60, 61, 62, 63, 64, 65, 66, 67, 68] (fun l mm W => ∃ (s56 s57 s58 s59 s60 s61 s62 s63 s64 s65 s66 s67 s68 : Value), mm = [s56, s57, s58, s59, s60, s61, s62, s63, s64, s65, s66, s67, s68] ∧ Fr w W [(b13, IC w2, 29), (b11, IC v, 29), (b10, IC u, 29), (b9, IC d, 29), (b8, IC N, 29), (b6, intC false 0, 29), (b3, RC n d, 31)] ∧ On l 0 [s56 = .int .i64 m, s57 = .agg (IC N), s58 = .int .i64 s, s59 = .bool g, s60 = .agg (IC w2), s61 = .agg (IC d), s62 = .int .i64 c, s63 = .pointer (some ⟨b10, 1, none⟩), s64 = .pointer (some ⟨b10, 1, none⟩), s65 = .int .u32 (li : Int), s66 = .int .u32 (l2 : Int), s67 = .bool o, s68 = .bool ub] ∧ True) (by kernel_rfl) (putAll_self _ _) ?_ ?_ ?_
 ·exact ⟨_, _, _, _, _, _, _, _, _, _, _, _, _, rfl, F.drew, On.none _ _ _, dT⟩
 ·rintro listed mm W ii hi hsz hoff ⟨s56, s57, s58, s59, s60, s61, s62, s63, s64, s65, s66, s67, s68, rfl, HF, hH, -⟩ hd
  simp only [putAll, z1, z2]
  obtain rfl | rfl | rfl | rfl | rfl | rfl | rfl | rfl | rfl | rfl | rfl | rfl | rfl := dr_c13 hi
  ·exact oP
  ·exact oY3
  ·obtain rfl : s57 = _ := dh 1 hH hd
   refine ow rfl rfl fun K hK => ?_
   refine ⟨?_⟩
   go_simp
   with_reducible refine fr_call HF (g5 _) ?_
   exact oC
  ·obtain rfl : s58 = _ := dh 2 hH hd
   refine ow rfl rfl fun K hK => ?_
   refine ⟨?_⟩
   go_simp
   rw [HS.out]
   exact hK _ _ dK
  ·exact oY3
  ·exact oY3
  ·obtain rfl : s60 = _ := dh 4 hH hd
   obtain rfl : s61 = _ := dh 5 hH hd
   refine ow rfl rfl fun K hK => ?_
   refine ⟨?_⟩
   go_simp
   with_reducible refine fr_call HF (g4 _) ?_
   exact oC
  ·exact oP
  ·obtain rfl : s63 = _ := dh 7 hH hd
   exact oP
  ·obtain rfl : s64 = _ := dh 8 hH hd
   have cF := BlkAt.cell (Fr.get HF (b := b10) (cs := IC u) (by (exact tL))) (cu)
   exact oP
  ·obtain rfl : s65 = _ := dh 9 hH hd
   exact oP
  ·obtain rfl : s66 = _ := dh 10 hH hd
   exact oP
  ·obtain rfl : s56 = _ := dh 0 hH hd
   obtain rfl : s59 = _ := dh 3 hH hd
   obtain rfl : s62 = _ := dh 6 hH hd
   obtain rfl : s67 = _ := dh 11 hH hd
   refine ow rfl rfl fun K hK => ?_
   refine ⟨?_⟩
   go_simp
   with_reducible refine fr_call HF (g6 _) ?_
   exact oC
 rintro listed mm W ⟨s56, s57, s58, s59, s60, s61, s62, s63, s64, s65, s66, s67, s68, rfl, HF, hH, -⟩ hall
 obtain ⟨rfl, rfl, rfl, rfl, rfl, rfl, rfl, rfl, rfl, rfl, rfl, rfl, rfl⟩ := onA hH hall
 clear hall hH  F
 have F := HF
 clear HF
 simp only [putAll, z1, z2]
 clear g5 g4 g6 ml1 ml2 ml3 ml4 cu
 have hr := HRR.out
 cases ub
 ·rw [if_neg (by decide)] at hr
  subst hr
  clear HRR
  go_wp2_with (first | go_skip | refine aY3 ?_ | (refine aT3 ?_; clear F; intro W F) | refine aN3 ?_)
  exact bodyPost_ret (res_cs rfl rfl rfl (Fr.get F tL) (rowIC _)) rfl ⟨rfl, F.below⟩
 ·rw [if_pos rfl] at hr
  subst hr
  clear HRR
  go_wp2_with (first | go_skip | refine aY3 ?_ | (refine aT3 ?_; clear F; intro W F) | refine aN3 ?_)
  try simp only [Act.put, z6, z1, z2]
  refine wp_region_slots mixP [69, 70, 71, 72, 73, 74] (fun l mm W => ∃ (s69 s70 s71 s72 s73 s74 : Value) (c_b10 : Array Value), mm = [s69, s70, s71, s72, s73, s74] ∧ Fr w W [(b13, IC w2, 29), (b11, IC v, 29), (b10, c_b10, 29), (b9, IC d, 29), (b8, IC N, 29), (b6, intC false 0, 29), (b3, RC n d, 31)] ∧ On l 0 [s70 = .agg (IC u), s71 = .agg (IC 1), s72 = .tuple #[.agg (IC (u + 1)), .int .i64 0], s69 = .tuple #[.agg (IC (u + 1)), .int .i64 0], s73 = .agg (IC (u + 1)), s74 = .int .i64 0, c_b10 = IC (u + 1)] ∧ Wt l [(6, 0)] ∧ (l.getD 6 false = false → c_b10 = IC u) ∧ c_b10.size = (IC (u + 1)).size ∧ True) (by kernel_rfl) (putAll_self _ _) ?_ ?_ ?_
  ·exact ⟨_, _, _, _, _, _, (IC u), rfl, F.drew, On.none _ _ _, Wt.none _ _, fun _ => rfl, dT⟩
  ·rintro listed mm W ii hi hsz hoff ⟨s69, s70, s71, s72, s73, s74, c_b10, rfl, HF, hH, hw, hO_b10, hz0, -⟩ hd
   simp only [putAll, z1, z2]
   obtain rfl | rfl | rfl | rfl | rfl | rfl | rfl := dr_c7 hi
   ·have hold := oldG hO_b10 hw hoff
    rw [hold] at HF
    exact oY3o
   ·refine ow rfl rfl fun K hK => ?_
    refine ⟨?_⟩
    go_simp
    with_reducible refine fr_call HF (g9 _) ?_
    exact oC
   ·obtain rfl : s70 = _ := dh 0 hH hd
    obtain rfl : s71 = _ := dh 1 hH hd
    refine ow rfl rfl fun K hK => ?_
    refine ⟨?_⟩
    go_simp
    with_reducible refine fr_call HF (g10 _) ?_
    exact oC
   ·obtain rfl : s72 = _ := dh 2 hH hd
    exact oP
   ·obtain rfl : s69 = _ := dh 3 hH hd
    exact oP
   ·obtain rfl : s69 = _ := dh 3 hH hd
    exact oP
   ·obtain rfl : s73 = _ := dh 4 hH hd
    exact oT3
  rintro listed mm W ⟨s69, s70, s71, s72, s73, s74, c_b10, rfl, HF, hH, hw, hO_b10, hz0, -⟩ hall
  obtain ⟨rfl, rfl, rfl, rfl, rfl, rfl, e6⟩ := onA hH hall
  rw [e6] at HF
  clear hall hH e6 hw hO_b10 hz0 F
  have F := HF
  clear HF
  simp only [putAll, z1, z2]
  go_wp2_with (first | go_skip | refine aY3 ?_ | (refine aT3 ?_; clear F; intro W F) | refine aN3 ?_)
  exact bodyPost_ret (res_cs rfl rfl rfl (Fr.get F tL) (rowIC _)) rfl ⟨rfl, F.below⟩
end
section
open Go.RowKit
set_option maxHeartbeats 4000000
set_option maxRecDepth 100000 in
theorem rexact_any {x : Bool} {a : Nat} {y : Bool} {b : Nat} (ha : a < bp 32) (hb : b < bp 32) {p : Int} {r : Bool × Int} (hr : exR (okR x a y b) (sZ x a) (sZ y b) p = r) (w : World) : Calls Tryz.prog 100 #[.agg (ratC x a y b), .int .i64 p] w (RetB (.tuple #[.bool r.1, .int .i64 r.2]) w) := by
 have F := Fr.start w
 obtain ⟨f, hf⟩ : ∃ f, decide (okR x a y b) = f := ⟨_, rfl⟩
 have g1 := fun w => rvalid_any ha hb hf w
 obtain ⟨f2, hf2⟩ : ∃ f, decide (0 ≤ p ∧ p ≤ 9) = f := ⟨_, rfl⟩
 have gp := fun w => rplaces_any hf2 w
 unfold exR chkE at hr
 have HR := Lib.hid hr
 clear hr ha hb
 go_enter Tryz.func100, Tryz.ntmps100
 go_wp2_with (first | go_skip | refine aY3 ?_ | (refine aT3 ?_; clear F; intro W F) | refine aN3 ?_)
 (clear F; intro b2 W F; try simp only [Act.put, z6, z1, z2])
 by_cases hv : ¬ okR x a y b
 ·have he : f = false := by rw [← hf]; exact decide_eq_false hv
  have hr : (false, 20) = r := by have := HR.out; rwa [if_pos hv, if_pos (by decide)] at this
  subst he
  subst hr
  clear HR hv hf hf2
  go_wp2_with (first | go_skip | ((go_at_call 150); (with_reducible refine fr_call F (g1 _) ?_); (clear F; intro W F); (try dsimp only)) | refine aY3 ?_ | (refine aT3 ?_; clear F; intro W F) | refine aN3 ?_)
  go_ret2
  exact ⟨rfl, F.below⟩
 have hr := HR.out
 rw [if_neg hv] at hr
 rw [Classical.not_not] at hv
 obtain rfl : true = f := by rw [← hf]; exact (decide_eq_true hv).symm
 by_cases hp : p < 0 ∨ 9 < p
 ·have he : f2 = false := by rw [← hf2]; exact decide_eq_false (by omega)
  rw [if_pos hp, if_pos (by decide)] at hr
  subst he
  subst hr
  clear HR hv hp hf hf2
  go_wp2_with (first | go_skip | ((go_at_call 150); (with_reducible refine fr_call F (g1 _) ?_); (clear F; intro W F); (try dsimp only)) | ((go_at_call 88); (with_reducible refine fr_call F (gp _) ?_); (clear F; intro W F); (try dsimp only)) | refine aY3 ?_ | (refine aT3 ?_; clear F; intro W F) | refine aN3 ?_)
  go_ret2
  exact ⟨rfl, F.below⟩
 obtain rfl : true = f2 := by rw [← hf2]; exact (decide_eq_true (by omega)).symm
 rw [if_neg hp, if_neg (by decide)] at hr
 clear HR hf hf2
 obtain ⟨n, d, ⟨h1, h2, h3⟩, hn, hd, hd0⟩ := okR_ints hv
 rw [h2, h3] at hr
 obtain ⟨q, rfl⟩ : ∃ q : Nat, p = (q : Int) := ⟨p.toNat, by omega⟩
 have hq : q ≤ 9 := by omega
 rw [Int.toNat_natCast] at hr
 have hN := b_ten hn hq
 obtain ⟨N, hNN⟩ : ∃ N, n * ((10 ^ q : Nat) : Int) = N := ⟨_, rfl⟩
 have g2 := fun w => rscaledZ hn hd hq hNN w
 simp only [hNN] at hr hN
 have gq := fun w => rdivmodZ (Nat.lt_of_lt_of_le hN (bp_le (by decide))) (b15 hd) (show d ≠ 0 by omega) w
 have hvv : (N % d).natAbs < bp 15 := by
  have k1 := Int.emod_nonneg N (show d ≠ 0 by omega)
  have k2 := Int.emod_lt_of_pos N hd0
  omega
 obtain ⟨u, huu⟩ : ∃ u, N / d = u := ⟨_, rfl⟩
 obtain ⟨v, hv2⟩ : ∃ v, N % d = v := ⟨_, rfl⟩
 rw [huu, hv2] at gq
 rw [hv2] at hr hvv
 rw [h1] at g1 F
 have g3 := fun w => rsignZ (b15 hvv) w
 have hv0 : decide (v = 0) = (v.sign == 0) := by
  rw [Bool.eq_iff_iff, decide_eq_true_eq, beq_iff_eq]
  exact Int.sign_eq_zero_iff_zero.symm
 rw [hv0] at hr
 obtain ⟨t, ht⟩ : ∃ t, v.sign = t := ⟨_, rfl⟩
 rw [ht] at g3 hr
 subst hr
 clear hv0 ht hvv hv2 huu hN hNN hn hd hd0 h1 h2 h3 hv hq hp
 go_wp2_with (first | go_skip | ((go_at_call 150); (with_reducible refine fr_call F (g1 _) ?_); (clear F; intro W F); (try dsimp only)) | ((go_at_call 88); (with_reducible refine fr_call F (gp _) ?_); (clear F; intro W F); (try dsimp only)) | ((go_at_call 151); (with_reducible refine fr_call F (g2 _) ?_); (clear F; intro W F); (try dsimp only)) | refine aY3 ?_ | (refine aT3 ?_; clear F; intro W F) | refine aN3 ?_)
 (clear F; intro b6 W F; try simp only [Act.put, z6, z1, z2])
 go_wp2_with (first | go_skip | refine aY3 ?_ | (refine aT3 ?_; clear F; intro W F) | refine aN3 ?_)
 (clear F; intro b7 W F; try simp only [Act.put, z6, z1, z2])
 go_wp2_with (first | go_skip | ((go_at_call 152); (with_reducible refine fr_call F (gq _) ?_); (clear F; intro W F); (try dsimp only)) | refine aY3 ?_ | (refine aT3 ?_; clear F; intro W F) | refine aN3 ?_)
 (clear F; intro b8 W F; try simp only [Act.put, z6, z1, z2])
 go_wp2_with (first | go_skip | refine aY3 ?_ | (refine aT3 ?_; clear F; intro W F) | refine aN3 ?_)
 (clear F; intro b9 W F; try simp only [Act.put, z6, z1, z2])
 go_wp2_with (first | go_skip | ((go_at_call 135); (with_reducible refine fr_call F (g3 _) ?_); (clear F; intro W F); (try dsimp only)) | refine aY3 ?_ | (refine aT3 ?_; clear F; intro W F) | refine aN3 ?_)
 go_ret2
 exact ⟨rfl, F.below⟩
end
section
open Go.RowKit
set_option maxHeartbeats 4000000
def dcnt : List UInt8 → Nat
 | [] => 0
 | b :: l => if isD b = true then dcnt l + 1 else 0
theorem dcnt_le (l : List UInt8) : dcnt l ≤ l.length := by
 induction l with
 | nil => exact Nat.le_refl _
 | cons b l ih =>
  unfold dcnt
  rw [List.length_cons]
  split <;> omega
theorem dcnt_all {l : List UInt8} (h : l.all isD = true) : dcnt l = l.length := by
 induction l with
 | nil => rfl
 | cons b l ih =>
  rw [List.all_cons, Bool.and_eq_true] at h
  unfold dcnt
  rw [if_pos h.1, ih h.2, List.length_cons]
theorem dcnt_at {l : List UInt8} {i : Nat} (h : i < l.length) (ha : (l.take i).all isD = true) (hb : isD l[i] = false) : dcnt l = i := by
 induction l generalizing i with
 | nil => exact absurd h (by simp)
 | cons b l ih =>
  unfold dcnt
  cases i with
  | zero =>
   rw [List.getElem_cons_zero] at hb
   rw [hb, if_neg (by decide)]
  | succ i =>
   rw [List.take_succ_cons, List.all_cons, Bool.and_eq_true] at ha
   rw [if_pos ha.1, ih (by simpa using h) ha.2 (by simpa using hb)]
theorem dcnt_take (l : List UInt8) : (l.take (dcnt l)).all isD = true := by
 induction l with
 | nil => rfl
 | cons b l ih =>
  unfold dcnt
  split
  ·rename_i h
   rw [List.take_succ_cons, List.all_cons, h, ih]
   rfl
  ·rfl
theorem rdigits_any (l : List UInt8) (hl : l.length ≤ 9223372036854775807) {r : Nat} (hr : dcnt l = r) (w : World) : Calls Tryz.prog 132 #[.string (bs l)] w (RetB (.int .i64 r) w) := by
 have HR := Lib.hid hr
 have hs := bs_size l
 clear hr
 go_enter Tryz.func132, Tryz.ntmps132
 go_wp2_with fail
 go_loopw [3] (fun iv wr => ∃ i : Nat, i ≤ l.length ∧ iv = .int .i64 i ∧ (l.take i).all isD = true ∧ Below w.heap.size w wr) (fun iv _ => l.length - (intOf iv).toNat)
 case atStart => exact ⟨0, by omega, rfl, by simp, Below.refl _ _⟩
 case round =>
  obtain ⟨i, hi2, rfl, ha, hbl⟩ := hrel
  have HA := Lib.hid ha
  clear ha
  by_cases hlt : i < l.length
  ·obtain ⟨b, hb⟩ : ∃ b, l[i] = b := ⟨_, rfl⟩
   have e0 := bs_at (l := l) (i := i) (by rw [bs_size]; exact hlt) hlt
   obtain ⟨x, hx⟩ : ∃ x : Nat, b.toNat = x := ⟨_, rfl⟩
   have e1 : ((bs l)[i]'(by rw [bs_size]; exact hlt)).toNat = x := (congrArg UInt8.toNat (e0.trans hb)).trans hx
   have HB := Lib.hid (And.intro hb hx)
   clear hb hx e0
   by_cases c1 : (x : Int) < 48
   ·have hr : i = r := by
     rw [← HR.out, dcnt_at hlt HA.out (by rw [HB.out.1, isD, HB.out.2, decide_eq_false (by omega), Bool.false_and])]
    subst hr
    have t1 : decide (48 ≤ x) = false := decide_eq_false (by omega)
    have t2 : decide ((48 : Int) ≤ (x : Int)) = false := decide_eq_false (by omega)
    clear hl
    go_wp2_with fail
    go_ret
    exact ⟨rfl, hbl⟩
   have t1 : decide (48 ≤ x) = true := decide_eq_true (by omega)
   have t2 : decide ((48 : Int) ≤ (x : Int)) = true := decide_eq_true (by omega)
   by_cases c2 : (57 : Int) < (x : Int)
   ·have hr : i = r := by
     rw [← HR.out, dcnt_at hlt HA.out (by rw [HB.out.1, isD, HB.out.2, decide_eq_false (p := x ≤ 57) (by omega), Bool.and_false])]
    subst hr
    have t3 : decide (x ≤ 57) = false := decide_eq_false (by omega)
    have t4 : decide ((x : Int) ≤ 57) = false := decide_eq_false (by omega)
    clear hl
    go_wp2_with fail
    go_ret
    exact ⟨rfl, hbl⟩
   have t3 : decide (x ≤ 57) = true := decide_eq_true (by omega)
   have t4 : decide ((x : Int) ≤ 57) = true := decide_eq_true (by omega)
   have HN := Lib.hid (show (l.take (i + 1)).all isD = true by
    rw [List.take_succ_eq_append_getElem hlt, List.all_append, HA.out, HB.out.1]
    simp only [List.all_cons, List.all_nil, Bool.and_true, Bool.true_and, isD, HB.out.2]
    rw [decide_eq_true (by omega), decide_eq_true (by omega)]
    rfl)
   go_wp2_with fail
   go_roundw
   case rel => exact ⟨i + 1, by omega, by go_num, HN.out, hbl⟩
   case measure => simp [intOf]; omega
  ·obtain rfl : i = l.length := by omega
   have hr : l.length = r := by
    have h := HA.out
    rw [List.take_length] at h
    rw [← HR.out, dcnt_all h]
   subst hr
   go_wp2_with fail
   go_ret
   exact ⟨rfl, hbl⟩
def rdF (t : List UInt8) (k : Nat) (neg : Bool) : Int × Int × Bool :=
 if neg = true ∧ numL t = 0 then (0, 0, false)
 else
  let z : Int := if neg = true then -(numL t : Int) else numL t
  (lowN z ((10 ^ k : Nat) : Int), lowD z ((10 ^ k : Nat) : Int), true)
def rdB (s : List UInt8) : Bool := decide (dcnt s = 0 ∨ 15 < dcnt s ∨ (1 < dcnt s ∧ s.head? = some 48))
def rdC (r : List UInt8) (p : Int) : Bool := decide (dcnt r = 0 ∨ dcnt r ≠ r.length ∨ p < dcnt r)
def rdG (s : List UInt8) (p : Int) (neg : Bool) : Int × Int × Bool :=
 if rdB s = true then (0, 0, false)
 else
  let rest := s.drop (dcnt s)
  if rest = [] then rdF (s.take (dcnt s)) 0 neg
  else if rest.head? ≠ some 46 ∨ rdC rest.tail p = true then (0, 0, false)
  else rdF (s.take (dcnt s) ++ rest.tail) rest.tail.length neg
def rdR (s : List UInt8) (p : Int) (minus : Bool) : Int × Int × Bool :=
 if minus = true ∧ s.head? = some 45 then rdG s.tail p true else rdG s p false
theorem idx0 {b : UInt8} {l : List UInt8} (h : 0 < (bs (b :: l)).size) : (bs (b :: l))[0] = b := bs_at (l := b :: l) (i := 0) h (by simp)
set_option maxRecDepth 100000 in
theorem rread_any (s : List UInt8) (p : Int) (minus : Bool) (hp9 : p ≤ 9) (hs : s.length ≤ 9223372036854775807) {r : Int × Int × Bool} (hr : rdR s p minus = r) (w : World) : Calls Tryz.prog 89 #[.string (bs s), .int .i64 p, .bool minus] w (RetB (.tuple #[.agg (RC r.1 r.2.1), .bool r.2.2]) w) := by
 have F := Fr.start w
 have hst : ∃ s1 neg, (rdG s1 p neg = r ∧ s1.length ≤ 9223372036854775807) ∧ ((minus = true ∧ neg = true ∧ s = 45 :: s1) ∨ (neg = false ∧ s1 = s ∧ (minus = true → s.head? ≠ some 45))) := by
  unfold rdR at hr
  by_cases h : minus = true ∧ s.head? = some 45
  ·rw [if_pos h] at hr
   refine ⟨s.tail, true, ⟨hr, by rw [List.length_tail]; omega⟩, .inl ⟨h.1, rfl, ?_⟩⟩
   cases s with
   | nil => exact absurd h.2 (by simp)
   | cons c t => rw [List.head?_cons, Option.some.injEq] at h; rw [h.2, List.tail_cons]
  ·rw [if_neg h] at hr
   exact ⟨s, false, ⟨hr, hs⟩, .inr ⟨rfl, rfl, fun h1 h2 => h ⟨h1, h2⟩⟩⟩
 obtain ⟨s1, neg, ⟨hr, hs1⟩, hcase⟩ := hst
 have HR := Lib.hid hr
 have HS := Lib.hid (And.intro hs hs1)
 have HC := Lib.hid hcase
 clear hr hs hs1 hcase
 go_enter Tryz.func89, Tryz.ntmps89
 go_wp2_with (first | go_skip | refine aY3 ?_ | (refine aT3 ?_; clear F; intro W F) | refine aN3 ?_)
 (clear F; intro b6 W F; try simp only [Act.put, z6, z1, z2])
 go_upto_region 1 with fail
 go_cut [8] from 20 to 30 (fun nv wr => nv = .bool neg ∧ Fr w wr [(b6, RC 0 0, 31)])
 case first =>
  rcases HC.out with ⟨rfl, rfl, hh⟩ | ⟨rfl, rfl, hh⟩
  ·subst hh
   have hz := bs_size (45 :: s1)
   have h0 : 0 < (bs (45 :: s1)).size := by rw [hz]; simp
   have e1 := idx0 h0
   clear HC HR HS
   go_wp2_with fail
   go_meet
   exact ⟨rfl, F⟩
  ·cases minus with
   | false =>
    clear HC HR HS
    go_wp2_with fail
    go_meet
    exact ⟨rfl, F⟩
   | true =>
    cases s1 with
    | nil =>
     have hz := bs_size []
     clear HC HR HS
     go_wp2_with fail
     go_meet
     exact ⟨rfl, F⟩
    | cons c t =>
     have hz := bs_size (c :: t)
     have h0 : 0 < (bs (c :: t)).size := by rw [hz]; simp
     have e1 := idx0 h0
     have hc : c.toNat ≠ 45 := fun h => hh rfl (by rw [List.head?_cons, show c = 45 from UInt8.toNat_inj.1 h])
     have t1 : ((c.toNat : Int) == 45) = false := by rw [beq_eq_false_iff_ne]; omega
     clear HC HR HS hh
     go_wp2_with fail
     go_meet
     exact ⟨rfl, F⟩
 case rest =>
 clear F
 obtain ⟨rfl, F⟩ := hcut
 go_upto_if 31 with fail
 go_cut [0] from 31 to 33 (fun sv wr => sv = .string (bs s1) ∧ Fr w wr [(b6, RC 0 0, 31)])
 case first =>
  rcases HC.out with ⟨rfl, rfl, hh⟩ | ⟨rfl, rfl, hh⟩
  ·subst hh
   have hz := bs_size (45 :: s1)
   rw [List.length_cons] at hz
   have e2 : (bs (45 :: s1)).extract 1 (s1.length + 1) = bs s1 := by
    rw [bs_extract, List.drop_succ_cons, List.drop_zero, Nat.add_sub_cancel, List.take_length]
   clear HC HR HS
   go_wp2_with fail
   go_meet
   exact ⟨by first | rfl | rw [e2], F⟩
  ·clear HC HR HS
   go_wp2_with fail
   go_meet
   exact ⟨rfl, F⟩
 case rest =>
 clear F HC
 obtain ⟨rfl, F⟩ := hcut
 obtain ⟨n, hn⟩ : ∃ n, dcnt s1 = n := ⟨_, rfl⟩
 have hnl := dcnt_le s1
 rw [hn] at hnl
 have g1 := fun w => rdigits_any s1 HS.out.2 hn w
 go_upto_region 5 with (first | ((go_at_call 132); (with_reducible refine fr_call F (g1 _) ?_); (clear F; intro W F); (try dsimp only)))
 obtain ⟨B, hB⟩ : ∃ B, rdB s1 = B := ⟨_, rfl⟩
 have hB2 := hB
 unfold rdB at hB2
 rw [hn] at hB2
 clear g1
 go_cut [50] from 36 to 50 (fun v wr => v = .bool B ∧ Fr w wr [(b6, RC 0 0, 31)])
 case first =>
  clear HR HS
  by_cases h0 : n = 0
  ·rw [decide_eq_true (.inl h0)] at hB2
   subst hB2
   subst h0
   clear hB hn hnl
   go_wp2_with fail
   go_meet
   exact ⟨rfl, F⟩
  have t0 : ((n : Int) == 0) = false := by rw [beq_eq_false_iff_ne]; omega
  by_cases h15 : 15 < n
  ·rw [decide_eq_true (.inr (.inl h15))] at hB2
   subst hB2
   have t1 : decide (15 < (n : Int)) = true := decide_eq_true (by omega)
   clear hB hn hnl h0 h15
   go_wp2_with fail
   go_meet
   exact ⟨rfl, F⟩
  have t1 : decide (15 < (n : Int)) = false := decide_eq_false (by omega)
  by_cases h1 : 1 < n
  ·have t2 : decide (1 < (n : Int)) = true := decide_eq_true (by omega)
   cases s1 with
   | nil => exact absurd hnl (by simp; omega)
   | cons c t =>
    have hz := bs_size (c :: t)
    have hz0 : 0 < (bs (c :: t)).size := by rw [hz]; simp
    have e1 := idx0 hz0
    have t3 : ((c.toNat : Int) == 48) = B := by
     rw [← hB2, Bool.eq_iff_iff, beq_iff_eq, decide_eq_true_eq, List.head?_cons, Option.some.injEq, ← UInt8.toNat_inj, show UInt8.toNat 48 = 48 from rfl]
     constructor
     ·intro h
      exact .inr (.inr ⟨h1, by omega⟩)
     ·rintro (h | h | h)
      ·omega
      ·omega
      ·have := h.2
       omega
    clear hB hB2 hn hnl h0 h15 h1
    go_wp2_with fail
    go_meet
    exact ⟨rfl, F⟩
  ·have t2 : decide (1 < (n : Int)) = false := decide_eq_false (by omega)
   rw [decide_eq_false (by rintro (h | h | h) <;> omega)] at hB2
   subst hB2
   clear hB hn hnl h0 h15 h1
   go_wp2_with fail
   go_meet
   exact ⟨rfl, F⟩
 case rest =>
 clear F hB2
 obtain ⟨rfl, F⟩ := hcut
 have hr := HR.out
 unfold rdG at hr
 rw [hB] at hr
 cases B
 ·rw [if_neg (by decide), hn] at hr
  dsimp only at hr
  obtain ⟨a, ha⟩ : ∃ a, s1.take n = a := ⟨_, rfl⟩
  obtain ⟨rest, hre⟩ : ∃ rest, s1.drop n = rest := ⟨_, rfl⟩
  rw [ha, hre] at hr
  have hz := bs_size s1
  have e1 : (bs s1).extract 0 n = bs a := by rw [bs_extract, List.drop_zero, Nat.sub_zero, ha]
  have e2 : (bs s1).extract n s1.length = bs rest := by rw [bs_extract, ← List.length_drop, List.take_length, hre]
  have n0 : (0 : Int) ≤ (n : Int) := by omega
  have n1 : (n : Int) ≤ (s1.length : Int) := by omega
  have hrl : s1.length - n = rest.length := by rw [← hre, List.length_drop]
  have HA := Lib.hid ha
  have HN := Lib.hid hn
  clear ha hre hn
  go_wp2_with fail
  go_quiet (fail)
  replace F := F.drewN nq
  generalize wc.drewN nq = wq at *
  clear e1 e2 n0 n1 hz
  have hgood : ((rest = [] ∨ ∃ t, rest = 46 :: t ∧ rdC t p = false) ∨ (∃ c t, rest = c :: t ∧ c ≠ 46 ∧ (0, 0, false) = r)) ∨ (∃ t, rest = 46 :: t ∧ rdC t p = true ∧ (0, 0, false) = r) := by
   cases rest with
   | nil => exact .inl (.inl (.inl rfl))
   | cons c t =>
    rw [if_neg (List.cons_ne_nil _ _), List.head?_cons, List.tail_cons] at hr
    by_cases hc : c = 46
    ·subst hc
     cases hC : rdC t p
     ·exact .inl (.inl (.inr ⟨t, rfl, hC⟩))
     ·rw [if_pos (.inr hC)] at hr
      exact .inr ⟨t, rfl, hC, hr⟩
    ·rw [if_pos (.inl (fun h => hc (Option.some.inj h)))] at hr
     exact .inl (.inr ⟨c, t, rfl, hc, hr⟩)
  have hls : rest.length ≤ s1.length := by rw [← hrl]; omega
  have HX := Lib.hid (And.intro hB (And.intro hr hls))
  clear hB hr hnl hls hrl
  rcases hgood with (hgood | ⟨c, t, rfl, hc, rfl⟩) | ⟨t, rfl, hC, rfl⟩
  rotate_left
  ·have hz := bs_size (c :: t)
   have hz0 : 0 < (bs (c :: t)).size := by rw [hz]; simp
   have e1 := idx0 hz0
   have t3 : ((c.toNat : Int) == 46) = false := by
    rw [beq_eq_false_iff_ne]
    intro h
    exact hc (UInt8.toNat_inj.1 (show c.toNat = (46 : UInt8).toNat by rw [show UInt8.toNat 46 = 46 from rfl]; omega))
   clear HX HR hc
   go_wp2_with (first | go_skip | refine aY3 ?_ | (refine aT3 ?_; clear F; intro W F) | refine aN3 ?_)
   exact bodyPost_ret (res_cs rfl rfl rfl (Fr.get F tL) (rowRC _ _)) rfl ⟨rfl, F.below⟩
  ·have hz := bs_size (46 :: t)
   rw [List.length_cons] at hz
   have hz0 : 0 < (bs (46 :: t)).size := by rw [hz]; omega
   have e1 := idx0 hz0
   have e2 : (bs (46 :: t)).extract 1 (t.length + 1) = bs t := by
    rw [bs_extract, List.drop_succ_cons, List.drop_zero, Nat.add_sub_cancel, List.take_length]
   have hz2 := bs_size t
   obtain ⟨k, hk⟩ : ∃ k, dcnt t = k := ⟨_, rfl⟩
   have hkl := dcnt_le t
   have hls := HX.out.2.2
   rw [List.length_cons] at hls
   have g1 := fun w => rdigits_any t (by have := HS.out.2; omega) hk w
   unfold rdC at hC
   rw [hk] at hC hkl
   have hC := of_decide_eq_true hC
   clear HX HR hk hls
   by_cases h0 : k = 0
   ·subst h0
    clear hC hkl
    go_wp2_with (first | go_skip | ((go_at_call 132); (with_reducible refine fr_call F (g1 _) ?_); (clear F; intro W F); (try dsimp only)) | refine aY3 ?_ | (refine aT3 ?_; clear F; intro W F) | refine aN3 ?_)
    exact bodyPost_ret (res_cs rfl rfl rfl (Fr.get F tL) (rowRC _ _)) rfl ⟨rfl, F.below⟩
   have t0 : ((k : Int) == 0) = false := by rw [beq_eq_false_iff_ne]; omega
   by_cases h1 : k = t.length
   ·have t2 : decide (p < (k : Int)) = true := decide_eq_true (by rcases hC with h | h | h; exact absurd h h0; exact absurd h1 h; exact h)
    rw [← h1] at hz hz2 e2
    clear h0 hC h1 hkl
    go_wp2_with (first | go_skip | ((go_at_call 132); (with_reducible refine fr_call F (g1 _) ?_); (clear F; intro W F); (try dsimp only)) | refine aY3 ?_ | (refine aT3 ?_; clear F; intro W F) | refine aN3 ?_)
    exact bodyPost_ret (res_cs rfl rfl rfl (Fr.get F tL) (rowRC _ _)) rfl ⟨rfl, F.below⟩
   ·obtain ⟨tl, htl⟩ : ∃ tl, t.length = tl := ⟨_, rfl⟩
    rw [htl] at hz hz2 e2 h1
    have t1 : ((k : Int) == (tl : Int)) = false := by rw [beq_eq_false_iff_ne]; omega
    have t2 : (k == tl) = false := by rw [beq_eq_false_iff_ne]; exact h1
    have t3 : decide (k = tl) = false := decide_eq_false h1
    have t4 : ((k : Int) != (tl : Int)) = true := by rw [bne, t1]; rfl
    clear h0 hC hkl htl
    go_wp2_with (first | go_skip | ((go_at_call 132); (with_reducible refine fr_call F (g1 _) ?_); (clear F; intro W F); (try dsimp only)) | refine aY3 ?_ | (refine aT3 ?_; clear F; intro W F) | refine aN3 ?_)
    exact bodyPost_ret (res_cs rfl rfl rfl (Fr.get F tL) (rowRC _ _)) rfl ⟨rfl, F.below⟩
  obtain ⟨fr, hfr⟩ : ∃ fr, rest.tail = fr := ⟨_, rfl⟩
  have hfa : fr.all isD = true ∧ (fr.length : Int) ≤ max p 0 ∧ rdF (a ++ fr) fr.length neg = r := by
   have hr := HX.out.2.1
   rcases hgood with rfl | ⟨t, rfl, hC⟩
   ·rw [List.tail_nil] at hfr
    subst hfr
    rw [if_pos rfl] at hr
    exact ⟨rfl, by simp; omega, by rw [List.append_nil]; exact hr⟩
   ·rw [List.tail_cons] at hfr
    subst hfr
    rw [if_neg (List.cons_ne_nil _ _), List.head?_cons, List.tail_cons, if_neg (by rw [hC]; simp)] at hr
    unfold rdC at hC
    have hC := of_decide_eq_false hC
    have h1 : dcnt t = t.length := Classical.byContradiction fun h => hC (.inr (.inl h))
    have h2 := dcnt_take t
    rw [h1, List.take_length] at h2
    exact ⟨h2, by omega, hr⟩
  have HFA := Lib.hid hfa
  clear hfa
  go_upto_if 60 with fail
  go_cut [11, 12] from 58 to 81 (fun rv kv wr => rv = .string (bs fr) ∧ kv = .int .i64 (fr.length : Nat) ∧ Fr w wr [(b6, RC 0 0, 31)])
  case first =>
   rcases hgood with rfl | ⟨t, rfl, hC⟩
   ·rw [List.tail_nil] at hfr
    subst hfr
    have hz := bs_size []
    clear HX HR HFA
    go_wp2_with fail
    go_meet
    exact ⟨rfl, rfl, F⟩
   ·rw [List.tail_cons] at hfr
    subst hfr
    have hz := bs_size (46 :: t)
    rw [List.length_cons] at hz
    have hz0 : 0 < (bs (46 :: t)).size := by rw [hz]; omega
    have e1 := idx0 hz0
    have e2 : (bs (46 :: t)).extract 1 (t.length + 1) = bs t := by
     rw [bs_extract, List.drop_succ_cons, List.drop_zero, Nat.add_sub_cancel, List.take_length]
    have hz2 := bs_size t
    unfold rdC at hC
    have hC := of_decide_eq_false hC
    have h1 : dcnt t = t.length := Classical.byContradiction fun h => hC (.inr (.inl h))
    have hls := HX.out.2.2
    rw [List.length_cons] at hls
    have g1 := fun w => rdigits_any t (by have := HS.out.2; omega) h1 w
    have t0 : ((t.length : Int) == 0) = false := by rw [beq_eq_false_iff_ne]; intro h; exact hC (.inl (by omega))
    have t2 : decide (p < (t.length : Int)) = false := decide_eq_false (fun h => hC (.inr (.inr (by omega))))
    obtain ⟨k, hk⟩ : ∃ k, t.length = k := ⟨_, rfl⟩
    rw [hk] at hz hz2 e2 g1 t0 t2
    have HK := Lib.hid hk
    clear HX HR HFA hC h1 hls hk
    go_wp2_with (first | ((go_at_call 132); (with_reducible refine fr_call F (g1 _) ?_); (clear F; intro W F); (try dsimp only)))
    go_meet
    exact ⟨rfl, by rw [HK.out], F⟩
  case rest =>
  clear F hgood hfr
  obtain ⟨rfl, rfl, F⟩ := hcut
  obtain ⟨hd, hfl, hrf⟩ := HFA.out
  have hB0 := HX.out.1
  unfold rdB at hB0
  rw [HN.out] at hB0
  have hB1 := of_decide_eq_false hB0
  have hn15 : n ≤ 15 := by
   refine Classical.byContradiction fun h => hB1 (.inr (.inl (by omega)))
  have had : a.all isD = true := by rw [← HA.out, ← HN.out]; exact dcnt_take s1
  have hal : a.length ≤ 15 := by rw [← HA.out, List.length_take]; omega
  have hfl9 : fr.length ≤ 9 := by omega
  obtain ⟨A, hA⟩ : ∃ A, a ++ fr = A := ⟨_, rfl⟩
  have hAd : A.all isD = true := by rw [← hA, List.all_append, had, hd]; rfl
  have hAl : A.length ≤ 24 := by rw [← hA, List.length_append]; omega
  have e1 := bs_append a fr
  rw [hA] at hrf e1
  have sa := bs_size a
  have sf := bs_size fr
  have sA := bs_size A
  obtain ⟨la, hla⟩ : ∃ la, a.length = la := ⟨_, rfl⟩
  rw [hla] at sa hal
  obtain ⟨lf, hlf⟩ : ∃ lf, fr.length = lf := ⟨_, rfl⟩
  rw [hlf] at sf hrf hfl9
  obtain ⟨T, hT⟩ : ∃ T, 10 ^ lf = T := ⟨_, rfl⟩
  have hT1 := ten_le hfl9
  have hT0 : 0 < 10 ^ lf := Nat.pow_pos (by decide)
  have gp := fun w => rpower_any hfl9 w
  unfold rdF at hrf
  rw [hT] at gp hT1 hT0 hrf
  have hTb : (T : Int).natAbs < bp 15 := by
   have : (1000000000 : Nat) < bp 15 := by unfold bp; decide
   omega
  have k1 : (9223372036854775807 < la + lf) = False := by rw [eq_iff_iff, iff_false]; omega
  rw [hlf]
  have HRF := Lib.hid (And.intro hrf (And.intro hT0 hTb))
  have HAD := Lib.hid (And.intro hAd hAl)
  clear hd hfl hrf hB0 hB1 hn15 had hal hfl9 hA hla hlf hT hT1 hT0 hTb HX HFA HS HR hAd hAl
  go_wp2_with (first | go_skip | refine aY3 ?_ | (refine aT3 ?_; clear F; intro W F) | refine aN3 ?_)
  (clear F; intro b13 W F; try simp only [Act.put, z6, z1, z2])
  go_wp2_with (first | go_skip | refine aY3 ?_ | (refine aT3 ?_; clear F; intro W F) | refine aN3 ?_)
  clear e1 sa sf k1
  go_loopw [15] (fun iv wr => ∃ i : Nat, i ≤ A.length ∧ iv = .int .i64 i ∧ Fr w wr [(b13, IC (numL (A.take i) : Int), 29), (b6, RC 0 0, 31)]) (fun iv _ => A.length - (intOf iv).toNat)
  case atStart => exact ⟨0, by omega, rfl, F⟩
  case round =>
   clear F
   obtain ⟨i, hi2, rfl, F⟩ := hrel
   by_cases hlt : i < A.length
   ·obtain ⟨b, hb⟩ : ∃ b, A[i] = b := ⟨_, rfl⟩
    have e0 := bs_at (l := A) (i := i) (by rw [bs_size]; exact hlt) hlt
    obtain ⟨ch, hx⟩ : ∃ x : Nat, b.toNat = x := ⟨_, rfl⟩
    have e1 : ((bs A)[i]'(by rw [bs_size]; exact hlt)).toNat = ch := (congrArg UInt8.toNat (e0.trans hb)).trans hx
    have hdig := isD_iff.1 (List.all_eq_true.1 HAD.out.1 _ (List.getElem_mem hlt))
    rw [hb, hx] at hdig
    obtain ⟨d, hd⟩ : ∃ d, ch - 48 = d := ⟨_, rfl⟩
    have hnum : numL (A.take (i + 1)) = numL (A.take i) * 10 + d := by
     unfold numL
     rw [List.take_succ_eq_append_getElem hlt, numF_append, numF_cons, hb, hx, hd]
     rfl
    have hX24 := numL_lt (A.take i) (List.all_eq_true.2 fun x hx => List.all_eq_true.1 HAD.out.1 x (List.mem_of_mem_take hx))
    have hXl : (10 : Nat) ^ (A.take i).length ≤ 10 ^ 24 := Nat.pow_le_pow_right (by decide) (by rw [List.length_take]; have := HAD.out.2; omega)
    obtain ⟨X, hX⟩ : ∃ X, numL (A.take i) = X := ⟨_, rfl⟩
    rw [hX] at hnum hX24 F
    obtain ⟨X', hX'⟩ : ∃ X', X * 10 + d = X' := ⟨_, rfl⟩
    have h26 : (100000000000000000000000000 : Nat) < bp 32 := by unfold bp; decide
    have hXs : X < 1000000000000000000000000 := Nat.lt_of_lt_of_le hX24 hXl
    have g10 := fun w => rfromZ (n := 10) (by decide) (by decide) w
    have gm := fun w => rmulZ (x := (X : Int)) (y := 10) (by omega) (by omega) (by omega) w
    have gd := fun w => rfromZ (n := (d : Int)) (by omega) (by omega) w
    have ga := fun w => radd_any (x := (X : Int) * 10) (y := (d : Int)) (by omega) (by omega) (by omega) w
    obtain ⟨Y, hY⟩ : ∃ Y : Int, (X : Int) * 10 = Y := ⟨_, rfl⟩
    rw [hY] at gm ga
    rw [show Y + (d : Int) = (X' : Int) by omega] at ga
    have m1 : IntKind.u8.wrap ((ch : Int) - 48) = (d : Int) := by rw [IntKind.wrap_u8]; omega
    have m2 : IntKind.i64.wrap (d : Int) = (d : Int) := IntWalk.i64_in _ (by omega)
    have i0 : (0 : Int) ≤ (i : Int) := by omega
    have i1 : (i : Int) < (A.length : Int) := by omega
    have HNN := Lib.hid (show numL (A.take (i + 1)) = X' by rw [hnum, hX'])
    clear hb hx e0 hdig hd hnum hX24 hXl hX hX' h26 hXs hY
    go_wp2_with fail
    try simp only [Act.put, z6, z1, z2]
    refine wp_region_slots mixP [16, 17, 93, 94, 95, 96, 97, 98] (fun l mm W => ∃ (s16 s17 s93 s94 s95 s96 s97 s98 : Value) (c_b16 : Array Value) (b16 : Nat), mm = [s16, s17, s93, s94, s95, s96, s97, s98] ∧ Fr w W ((b13, IC (X : Int), 29) :: (b6, RC 0 0, 31) :: (onl (l.getD 6 false) (b16, c_b16, 29))) ∧ On l 0 [s94 = .agg (IC (X : Int)), s95 = .agg (IC 10), s96 = .tuple #[.agg (IC Y), .int .i64 0], s93 = .tuple #[.agg (IC Y), .int .i64 0], s97 = .agg (IC Y), s98 = .int .i64 0, s16 = .pointer (some ⟨b16, 0, none⟩), c_b16 = IC Y, s17 = .int .i64 0] ∧ Wt l [(7, 6)] ∧ c_b16.size = (IC Y).size ∧ True) (by kernel_rfl) (putAll_self _ _) ?_ ?_ ?_
    ·exact ⟨_, _, _, _, _, _, _, _, (intC false 0), 0, rfl, F.drew, On.none _ _ _, Wt.none _ _, dT⟩
    ·rintro listed mm W ii hi hsz hoff ⟨s16, s17, s93, s94, s95, s96, s97, s98, c_b16, b16, rfl, HF, hH, hw, hz0, -⟩ hd
     simp only [putAll, z1, z2]
     obtain rfl | rfl | rfl | rfl | rfl | rfl | rfl | rfl | rfl := dr_c9 hi
     ·exact oY3
     ·refine ow rfl rfl fun K hK => ?_
      refine ⟨?_⟩
      go_simp
      with_reducible refine fr_call HF (g10 _) ?_
      exact oC
     ·obtain rfl : s94 = _ := dh 0 hH hd
      obtain rfl : s95 = _ := dh 1 hH hd
      refine ow rfl rfl fun K hK => ?_
      refine ⟨?_⟩
      go_simp
      with_reducible refine fr_call HF (gm _) ?_
      exact oC
     ·obtain rfl : s96 = _ := dh 2 hH hd
      exact oP
     ·obtain rfl : s93 = _ := dh 3 hH hd
      exact oP
     ·obtain rfl : s93 = _ := dh 3 hH hd
      exact oP
     ·refine ow rfl rfl fun K hK => ?_
      rw [show listed.getD 6 false = false from hoff] at HF
      with_reducible apply gA_int HF
      intro bN W HF
      go_simp
      exact hK _ _ ⟨_, dE, _, _, _, _, _, _, _, _, (intC false 0), bN, rfl, by rw [getD_on (show 6 < listed.size by rw [hsz]; decide)]; exact Fr.mid (A := [(b13, IC (X : Int), 29), (b6, RC 0 0, 31)]) HF, onS (onV 7 hH (wtF hw hoff)) rfl rfl, dT⟩
     ·obtain rfl : s97 = _ := dh 4 hH hd
      obtain rfl : s16 = _ := dh 6 hH hd
      have HG := hd 6 (by kernel_rfl)
      rw [HG] at HF
      simp only [onl, if_true, z7, z8] at HF
      exact oT3
     ·obtain rfl : s98 = _ := dh 5 hH hd
      exact oP
    rintro listed mm W ⟨s16, s17, s93, s94, s95, s96, s97, s98, c_b16, b16, rfl, HF, hH, hw, hz0, -⟩ hall
    obtain ⟨rfl, rfl, rfl, rfl, rfl, rfl, rfl, e7, rfl⟩ := onA hH hall
    rw [hall 6 (by decide)] at HF
    simp only [onl, if_true, z7, z8] at HF
    rw [e7] at HF
    clear hall hH e7 hw hz0 F
    have F := HF
    clear HF
    simp only [putAll, z1, z2]
    go_wp2_with fail
    try simp only [Act.put, z6, z1, z2]
    refine wp_region_slots mixP [99, 100, 101, 102, 103, 104, 105, 106, 107, 108, 109] (fun l mm W => ∃ (s99 s100 s101 s102 s103 s104 s105 s106 s107 s108 s109 : Value) (c_b13 : Array Value), mm = [s99, s100, s101, s102, s103, s104, s105, s106, s107, s108, s109] ∧ Fr w W [(b13, c_b13, 29), (b6, RC 0 0, 31), (b16, IC Y, 29)] ∧ On l 0 [s100 = .agg (IC Y), s101 = .string (bs A), s102 = .int .i64 (i : Int), s103 = .int .u8 (ch : Int), s104 = .int .u8 (d : Int), s105 = .int .i64 (d : Int), s106 = .agg (IC (d : Int)), s107 = .tuple #[.agg (IC (X' : Int)), .int .i64 0], s99 = .tuple #[.agg (IC (X' : Int)), .int .i64 0], s108 = .agg (IC (X' : Int)), s109 = .int .i64 0, c_b13 = IC (X' : Int)] ∧ c_b13.size = (IC (X' : Int)).size ∧ True) (by kernel_rfl) (putAll_self _ _) ?_ ?_ ?_
    ·exact ⟨_, _, _, _, _, _, _, _, _, _, _, (IC (X : Int)), rfl, F.drew, On.none _ _ _, dT⟩
    ·rintro listed mm W ii hi hsz hoff ⟨s99, s100, s101, s102, s103, s104, s105, s106, s107, s108, s109, c_b13, rfl, HF, hH, hz0, -⟩ hd
     simp only [putAll, z1, z2]
     obtain rfl | rfl | rfl | rfl | rfl | rfl | rfl | rfl | rfl | rfl | rfl | rfl := dr_c12 hi
     ·exact oY3
     ·exact oP
     ·exact oP
     ·obtain rfl : s101 = _ := dh 1 hH hd
      obtain rfl : s102 = _ := dh 2 hH hd
      exact oP
     ·obtain rfl : s103 = _ := dh 3 hH hd
      exact oP
     ·obtain rfl : s104 = _ := dh 4 hH hd
      exact oP
     ·obtain rfl : s105 = _ := dh 5 hH hd
      refine ow rfl rfl fun K hK => ?_
      refine ⟨?_⟩
      go_simp
      with_reducible refine fr_call HF (gd _) ?_
      exact oC
     ·obtain rfl : s100 = _ := dh 0 hH hd
      obtain rfl : s106 = _ := dh 6 hH hd
      refine ow rfl rfl fun K hK => ?_
      refine ⟨?_⟩
      go_simp
      with_reducible refine fr_call HF (ga _) ?_
      exact oC
     ·obtain rfl : s107 = _ := dh 7 hH hd
      exact oP
     ·obtain rfl : s99 = _ := dh 8 hH hd
      exact oP
     ·obtain rfl : s99 = _ := dh 8 hH hd
      exact oP
     ·obtain rfl : s108 = _ := dh 9 hH hd
      exact oT3
    rintro listed mm W ⟨s99, s100, s101, s102, s103, s104, s105, s106, s107, s108, s109, c_b13, rfl, HF, hH, hz0, -⟩ hall
    obtain ⟨rfl, rfl, rfl, rfl, rfl, rfl, rfl, rfl, rfl, rfl, rfl, e11⟩ := onA hH hall
    rw [e11] at HF
    clear hall hH e11 hz0 F
    have F := HF
    clear HF
    simp only [putAll, z1, z2]
    replace F := F.sub (L' := [(b13, IC (X' : Int), 29), (b6, RC 0 0, 31)]) (by repeat (first | exact List.Sublist.slnil | apply List.Sublist.cons_cons | apply List.Sublist.cons))
    clear g10 gm gd ga m1 m2 e1
    have hAl24 := HAD.out.2
    go_wp2_with fail
    go_roundw
    case rel => exact ⟨i + 1, by omega, by go_num, by rw [HNN.out]; exact F⟩
    case measure => simp [intOf]; omega
   ·obtain rfl : i = A.length := by omega
    rw [List.take_length] at F
    have hv24 := numL_lt A HAD.out.1
    have hvl : (10 : Nat) ^ A.length ≤ 10 ^ 24 := Nat.pow_le_pow_right (by decide) HAD.out.2
    obtain ⟨hrf, hT0, hTb⟩ := HRF.out
    obtain ⟨v, hv⟩ : ∃ v, numL A = v := ⟨_, rfl⟩
    rw [hv] at hrf F hv24
    have h24 : (1000000000000000000000000 : Nat) < bp 15 := by unfold bp; decide
    have hvs : v < 1000000000000000000000000 := Nat.lt_of_lt_of_le hv24 hvl
    have hvb : (v : Int).natAbs < bp 15 := by omega
    clear hv24 hvl h24 hvs hv HRF HAD hlt hi2 HN HA
    cases neg
    ·rw [if_neg (fun h => absurd h.1 (by decide)), if_neg (by decide)] at hrf
     try dsimp only at hrf
     have gm := fun w => rmakeZ (b15 hvb) (b15 hTb) (mkR_ok (n := (v : Int)) (d := (T : Int)) (by omega) hvb hTb).1 w
     obtain ⟨q1, hq1⟩ : ∃ q, lowN (v : Int) (T : Int) = q := ⟨_, rfl⟩
     obtain ⟨q2, hq2⟩ : ∃ q, lowD (v : Int) (T : Int) = q := ⟨_, rfl⟩
     rw [hq1, hq2] at gm hrf
     subst hrf
     obtain ⟨z, hz⟩ : ∃ z, (v : Int) = z := ⟨_, rfl⟩
     rw [hz] at gm F
     clear hq1 hq2 hT0 hTb hvb hz
     go_wp2_with (first | go_skip | refine aY3 ?_ | (refine aT3 ?_; clear F; intro W F) | refine aN3 ?_)
     try simp only [Act.put, z6, z1, z2]
     refine wp_region_slots mixP [18, 19, 117, 118, 119, 120, 121, 122, 123, 124] (fun l mm W => ∃ (s18 s19 s117 s118 s119 s120 s121 s122 s123 s124 : Value) (c_b18 : Array Value) (b18 : Nat), mm = [s18, s19, s117, s118, s119, s120, s121, s122, s123, s124] ∧ Fr w W ((b13, IC z, 29) :: (b6, RC 0 0, 31) :: (onl (l.getD 8 false) (b18, c_b18, 31))) ∧ On l 0 [s118 = .agg (IC z), s119 = .int .i64 (lf : Int), s120 = .agg (RC (T : Int) 1), s121 = .agg (IC (T : Int)), s122 = .tuple #[.agg (RC q1 q2), .int .i64 0], s117 = .tuple #[.agg (RC q1 q2), .int .i64 0], s123 = .agg (RC q1 q2), s124 = .int .i64 0, s18 = .pointer (some ⟨b18, 0, none⟩), c_b18 = RC q1 q2, s19 = .int .i64 0] ∧ Wt l [(9, 8)] ∧ c_b18.size = (RC q1 q2).size ∧ True) (by kernel_rfl) (putAll_self _ _) ?_ ?_ ?_
     ·exact ⟨_, _, _, _, _, _, _, _, _, _, (RC 0 0), 0, rfl, F.drew, On.none _ _ _, Wt.none _ _, dT⟩
     ·rintro listed mm W ii hi hsz hoff ⟨s18, s19, s117, s118, s119, s120, s121, s122, s123, s124, c_b18, b18, rfl, HF, hH, hw, hz0, -⟩ hd
      simp only [putAll, z1, z2]
      obtain rfl | rfl | rfl | rfl | rfl | rfl | rfl | rfl | rfl | rfl | rfl := dr_c11 hi
      ·exact oY3
      ·exact oP
      ·obtain rfl : s119 = _ := dh 1 hH hd
       refine ow rfl rfl fun K hK => ?_
       refine ⟨?_⟩
       go_simp
       with_reducible refine fr_call HF (gp _) ?_
       exact oC
      ·obtain rfl : s120 = _ := dh 2 hH hd
       refine ow rfl rfl fun K hK => ?_
       with_reducible apply gF_num
       ·exact rfl
       exact oR
      ·obtain rfl : s118 = _ := dh 0 hH hd
       obtain rfl : s121 = _ := dh 3 hH hd
       refine ow rfl rfl fun K hK => ?_
       refine ⟨?_⟩
       go_simp
       with_reducible refine fr_call HF (gm _) ?_
       exact oC
      ·obtain rfl : s122 = _ := dh 4 hH hd
       exact oP
      ·obtain rfl : s117 = _ := dh 5 hH hd
       exact oP
      ·obtain rfl : s117 = _ := dh 5 hH hd
       exact oP
      ·refine ow rfl rfl fun K hK => ?_
       rw [show listed.getD 8 false = false from hoff] at HF
       with_reducible apply gA_rat HF
       intro bN W HF
       go_simp
       exact hK _ _ ⟨_, dE, _, _, _, _, _, _, _, _, _, _, (RC 0 0), bN, rfl, by rw [getD_on (show 8 < listed.size by rw [hsz]; decide)]; exact Fr.mid (A := [(b13, IC z, 29), (b6, RC 0 0, 31)]) HF, onS (onV 9 hH (wtF hw hoff)) rfl rfl, dT⟩
      ·obtain rfl : s123 = _ := dh 6 hH hd
       obtain rfl : s18 = _ := dh 8 hH hd
       have HG := hd 8 (by kernel_rfl)
       rw [HG] at HF
       simp only [onl, if_true, z7, z8] at HF
       exact oT3
      ·obtain rfl : s124 = _ := dh 7 hH hd
       exact oP
     rintro listed mm W ⟨s18, s19, s117, s118, s119, s120, s121, s122, s123, s124, c_b18, b18, rfl, HF, hH, hw, hz0, -⟩ hall
     obtain ⟨rfl, rfl, rfl, rfl, rfl, rfl, rfl, rfl, rfl, e9, rfl⟩ := onA hH hall
     rw [hall 8 (by decide)] at HF
     simp only [onl, if_true, z7, z8] at HF
     rw [e9] at HF
     clear hall hH e9 hw hz0 F
     have F := HF
     clear HF
     simp only [putAll, z1, z2]
     go_wp2_with (first | go_skip | refine aY3 ?_ | (refine aT3 ?_; clear F; intro W F) | refine aN3 ?_)
     exact bodyPost_ret (res_cs rfl rfl rfl (Fr.get F tL) (rowRC _ _)) rfl ⟨rfl, F.below⟩
    ·by_cases hv0 : v = 0
     ·subst hv0
      rw [if_pos ⟨rfl, rfl⟩] at hrf
      subst hrf
      have gs := fun w => rsignZ (x := 0) (by decide) w
      clear hT0 hTb hvb
      go_wp2_with (first | go_skip | ((go_at_call 135); (with_reducible refine fr_call F (gs _) ?_); (clear F; intro W F); (try dsimp only)) | refine aY3 ?_ | (refine aT3 ?_; clear F; intro W F) | refine aN3 ?_)
      exact bodyPost_ret (res_cs rfl rfl rfl (Fr.get F tL) (rowRC _ _)) rfl ⟨rfl, F.below⟩
     ·rw [if_neg (fun h => hv0 h.2), if_pos rfl] at hrf
      try dsimp only at hrf
      have hnb : (-(v : Int)).natAbs < bp 15 := by rw [Int.natAbs_neg]; exact hvb
      have gm := fun w => rmakeZ (b15 hnb) (b15 hTb) (mkR_ok (n := -(v : Int)) (d := (T : Int)) (by omega) hnb hTb).1 w
      have gs := fun w => rsignZ (x := (v : Int)) (b15 hvb) w
      have gn := fun w => rneg_any (x := (v : Int)) (b15 hvb) w
      have hsv : (((v : Int).sign) == 0) = false := by
       rw [beq_eq_false_iff_ne]
       intro h
       have := Int.sign_eq_zero_iff_zero.1 h
       omega
      obtain ⟨sg, hsg⟩ : ∃ sg, (v : Int).sign = sg := ⟨_, rfl⟩
      rw [hsg] at gs hsv
      obtain ⟨q1, hq1⟩ : ∃ q, lowN (-(v : Int)) (T : Int) = q := ⟨_, rfl⟩
      obtain ⟨q2, hq2⟩ : ∃ q, lowD (-(v : Int)) (T : Int) = q := ⟨_, rfl⟩
      rw [hq1, hq2] at gm hrf
      subst hrf
      obtain ⟨z, hz⟩ : ∃ z, -(v : Int) = z := ⟨_, rfl⟩
      rw [hz] at gm gn
      clear hq1 hq2 hT0 hTb hvb hz hnb hsg hv0
      go_wp2_with (first | go_skip | ((go_at_call 135); (with_reducible refine fr_call F (gs _) ?_); (clear F; intro W F); (try dsimp only)) | ((go_at_call 136); (with_reducible refine fr_call F (gn _) ?_); (clear F; intro W F); (try dsimp only)) | refine aY3 ?_ | (refine aT3 ?_; clear F; intro W F) | refine aN3 ?_)
      try simp only [Act.put, z6, z1, z2]
      refine wp_region_slots mixP [18, 19, 117, 118, 119, 120, 121, 122, 123, 124] (fun l mm W => ∃ (s18 s19 s117 s118 s119 s120 s121 s122 s123 s124 : Value) (c_b18 : Array Value) (b18 : Nat), mm = [s18, s19, s117, s118, s119, s120, s121, s122, s123, s124] ∧ Fr w W ((b13, IC z, 29) :: (b6, RC 0 0, 31) :: (onl (l.getD 8 false) (b18, c_b18, 31))) ∧ On l 0 [s118 = .agg (IC z), s119 = .int .i64 (lf : Int), s120 = .agg (RC (T : Int) 1), s121 = .agg (IC (T : Int)), s122 = .tuple #[.agg (RC q1 q2), .int .i64 0], s117 = .tuple #[.agg (RC q1 q2), .int .i64 0], s123 = .agg (RC q1 q2), s124 = .int .i64 0, s18 = .pointer (some ⟨b18, 0, none⟩), c_b18 = RC q1 q2, s19 = .int .i64 0] ∧ Wt l [(9, 8)] ∧ c_b18.size = (RC q1 q2).size ∧ True) (by kernel_rfl) (putAll_self _ _) ?_ ?_ ?_
      ·exact ⟨_, _, _, _, _, _, _, _, _, _, (RC 0 0), 0, rfl, F.drew, On.none _ _ _, Wt.none _ _, dT⟩
      ·rintro listed mm W ii hi hsz hoff ⟨s18, s19, s117, s118, s119, s120, s121, s122, s123, s124, c_b18, b18, rfl, HF, hH, hw, hz0, -⟩ hd
       simp only [putAll, z1, z2]
       obtain rfl | rfl | rfl | rfl | rfl | rfl | rfl | rfl | rfl | rfl | rfl := dr_c11 hi
       ·exact oY3
       ·exact oP
       ·obtain rfl : s119 = _ := dh 1 hH hd
        refine ow rfl rfl fun K hK => ?_
        refine ⟨?_⟩
        go_simp
        with_reducible refine fr_call HF (gp _) ?_
        exact oC
       ·obtain rfl : s120 = _ := dh 2 hH hd
        refine ow rfl rfl fun K hK => ?_
        with_reducible apply gF_num
        ·exact rfl
        exact oR
       ·obtain rfl : s118 = _ := dh 0 hH hd
        obtain rfl : s121 = _ := dh 3 hH hd
        refine ow rfl rfl fun K hK => ?_
        refine ⟨?_⟩
        go_simp
        with_reducible refine fr_call HF (gm _) ?_
        exact oC
       ·obtain rfl : s122 = _ := dh 4 hH hd
        exact oP
       ·obtain rfl : s117 = _ := dh 5 hH hd
        exact oP
       ·obtain rfl : s117 = _ := dh 5 hH hd
        exact oP
       ·refine ow rfl rfl fun K hK => ?_
        rw [show listed.getD 8 false = false from hoff] at HF
        with_reducible apply gA_rat HF
        intro bN W HF
        go_simp
        exact hK _ _ ⟨_, dE, _, _, _, _, _, _, _, _, _, _, (RC 0 0), bN, rfl, by rw [getD_on (show 8 < listed.size by rw [hsz]; decide)]; exact Fr.mid (A := [(b13, IC z, 29), (b6, RC 0 0, 31)]) HF, onS (onV 9 hH (wtF hw hoff)) rfl rfl, dT⟩
       ·obtain rfl : s123 = _ := dh 6 hH hd
        obtain rfl : s18 = _ := dh 8 hH hd
        have HG := hd 8 (by kernel_rfl)
        rw [HG] at HF
        simp only [onl, if_true, z7, z8] at HF
        exact oT3
       ·obtain rfl : s124 = _ := dh 7 hH hd
        exact oP
      rintro listed mm W ⟨s18, s19, s117, s118, s119, s120, s121, s122, s123, s124, c_b18, b18, rfl, HF, hH, hw, hz0, -⟩ hall
      obtain ⟨rfl, rfl, rfl, rfl, rfl, rfl, rfl, rfl, rfl, e9, rfl⟩ := onA hH hall
      rw [hall 8 (by decide)] at HF
      simp only [onl, if_true, z7, z8] at HF
      rw [e9] at HF
      clear hall hH e9 hw hz0 F
      have F := HF
      clear HF
      simp only [putAll, z1, z2]
      go_wp2_with (first | go_skip | refine aY3 ?_ | (refine aT3 ?_; clear F; intro W F) | refine aN3 ?_)
      exact bodyPost_ret (res_cs rfl rfl rfl (Fr.get F tL) (rowRC _ _)) rfl ⟨rfl, F.below⟩
 ·rw [if_pos rfl] at hr
  subst hr
  clear HR hB hn hnl
  go_wp2_with (first | go_skip | refine aY3 ?_ | (refine aT3 ?_; clear F; intro W F) | refine aN3 ?_)
  exact bodyPost_ret (res_cs rfl rfl rfl (Fr.get F tL) (rowRC _ _)) rfl ⟨rfl, F.below⟩
end
section
open Go.RowKit
theorem cut1_spec (l : List UInt8) (c : UInt8) : (c ∉ l ∧ cut1 l c = (l, [], false)) ∨ ∃ u v, l = u ++ c :: v ∧ c ∉ u ∧ cut1 l c = (u, v, true) := by
 have hi : ∀ l : List UInt8, (c ∉ l ∧ Lib.indexByte l c = -1) ∨ ∃ u v, l = u ++ c :: v ∧ c ∉ u ∧ Lib.indexByte l c = (u.length : Int) := by
  intro l
  induction l with
  | nil => exact .inl ⟨by simp, rfl⟩
  | cons b l ih =>
   unfold Lib.indexByte
   by_cases hb : b = c
   ·subst hb
    rw [if_pos (by simp)]
    exact .inr ⟨[], l, rfl, by simp, rfl⟩
   ·rw [if_neg (by simpa using hb)]
    rcases ih with ⟨h1, h2⟩ | ⟨u, v, h1, h2, h3⟩
    ·rw [h2, if_pos (by decide)]
     exact .inl ⟨by simp [h1, Ne.symm hb], rfl⟩
    ·rw [h3, if_neg (by rw [beq_iff_eq]; omega)]
     refine .inr ⟨b :: u, v, by rw [h1]; rfl, by simp [h2, Ne.symm hb], by rw [List.length_cons]; omega⟩
 unfold cut1
 rcases hi l with ⟨h1, h2⟩ | ⟨u, v, h1, h2, h3⟩
 ·exact .inl ⟨h1, by rw [h2, if_neg (by decide)]⟩
 ·refine .inr ⟨u, v, h1, h2, ?_⟩
  rw [h3, if_pos (by omega), Int.toNat_natCast, h1]
  simp
theorem dgs_rd {t : List UInt8} {p : Int} : dgs t 1 p = false ↔ rdC t p = true := by
 unfold rdC
 rw [decide_eq_true_eq, ← Bool.not_eq_true, dgs_iff]
 constructor
 ·intro h
  by_cases h1 : dcnt t = t.length
  ·by_cases h0 : dcnt t = 0
   ·exact .inl h0
   ·refine .inr (.inr ?_)
    have h2 := dcnt_take t
    rw [h1, List.take_length] at h2
    refine Int.not_le.1 fun h3 => h ⟨by omega, by omega, h2⟩
  ·exact .inr (.inl h1)
 ·rintro h ⟨h1, h2, h3⟩
  have := dcnt_all h3
  rcases h with h | h | h
  ·omega
  ·exact h this
  ·omega
theorem rdB_iff {s : List UInt8} : rdB s = true ↔ (dcnt s = 0 ∨ 15 < dcnt s ∨ (1 < dcnt s ∧ s.head? = some 48)) := by
 unfold rdB
 rw [decide_eq_true_eq]
def prsO (r : Int × Int × Bool) : Int × Int × Int := if r.2.2 = true then (r.1, r.2.1, 0) else (0, 0, 32)
theorem prsO_no : prsO (0, 0, false) = (0, 0, 32) := rfl
theorem prsB_rd {a b : List UInt8} {neg : Bool} (hb : b.all isD = true) : prsB a b neg = prsO (rdF (a ++ b) b.length neg) := by
 have e : numL (a ++ b) = numL a * 10 ^ b.length + numL b := by
  unfold numL
  rw [numF_append, numF_acc]
 unfold prsB rdF prsO
 dsimp only
 rw [e]
 split
 ·rfl
 ·rfl
theorem isD_dot : isD 46 = false := by decide
theorem cut_rd {s : List UInt8} {p : Int} {neg : Bool} : (if dgs (cut1 s 46).1 1 15 = false ∨ (1 < (cut1 s 46).1.length ∧ (cut1 s 46).1.head? = some 48) ∨ ((cut1 s 46).2.2 = true ∧ dgs (cut1 s 46).2.1 1 p = false) then ((0 : Int), (0 : Int), (32 : Int)) else prsB (cut1 s 46).1 (cut1 s 46).2.1 neg) = prsO (rdG s p neg) := by
 have hfst : ∀ u : List UInt8, u.all isD = true → (dgs u 1 15 = false ↔ (u.length = 0 ∨ 15 < u.length)) := fun u hu => by
  rw [← Bool.not_eq_true, dgs_iff]
  constructor
  ·intro h
   refine Classical.byContradiction fun h2 => h ⟨by omega, by omega, hu⟩
  ·rintro h ⟨h1, h2, -⟩
   omega
 rcases cut1_spec s 46 with ⟨hn, hc⟩ | ⟨u, v, rfl, hn, hc⟩
 ·rw [hc]
  dsimp only
  by_cases ha : s.all isD = true
  ·have hd := dcnt_all ha
   unfold rdG
   have hcond : (dgs s 1 15 = false ∨ (1 < s.length ∧ s.head? = some 48) ∨ (false = true ∧ dgs [] 1 p = false)) ↔ rdB s = true := by
    rw [rdB_iff, hd, hfst s ha]
    constructor
    ·rintro ((h | h) | h | ⟨h, -⟩)
     ·exact .inl h
     ·exact .inr (.inl h)
     ·exact .inr (.inr h)
     ·exact absurd h (by decide)
    ·rintro (h | h | h)
     ·exact .inl (.inl h)
     ·exact .inl (.inr h)
     ·exact .inr (.inl h)
   by_cases hB : rdB s = true
   ·rw [if_pos (hcond.2 hB), if_pos hB, prsO_no]
   ·rw [if_neg (fun h => hB (hcond.1 h)), if_neg hB, hd, List.drop_length]
    dsimp only
    rw [if_pos rfl, List.take_length, prsB_rd (by rfl), List.append_nil]
    rfl
  ·have hL : dgs s 1 15 = false := by
    rw [← Bool.not_eq_true, dgs_iff]
    exact fun h => ha h.2.2
   rw [if_pos (.inl hL)]
   unfold rdG
   by_cases hB : rdB s = true
   ·rw [if_pos hB, prsO_no]
   ·rw [if_neg hB]
    dsimp only
    have hr : s.drop (dcnt s) ≠ [] := by
     intro h
     rw [List.drop_eq_nil_iff] at h
     have h2 := dcnt_take s
     rw [List.take_of_length_le h] at h2
     exact ha h2
    have hne : (s.drop (dcnt s)).head? ≠ some 46 := fun h => hn (List.mem_of_mem_drop (List.mem_of_mem_head? h))
    rw [if_neg hr, if_pos (.inl hne)]
    rfl
 ·rw [hc]
  dsimp only
  by_cases ha : u.all isD = true
  ·have hd : dcnt (u ++ 46 :: v) = u.length := by
    refine dcnt_at (i := u.length) (by simp) (by rw [List.take_left' rfl]; exact ha) ?_
    rw [List.getElem_append_right (Nat.le_refl _)]
    simp [isD_dot]
   have hh : u.length ≠ 0 → (u ++ 46 :: v).head? = u.head? := by
    intro h
    cases u with
    | nil => exact absurd rfl h
    | cons c t => rfl
   unfold rdG
   rw [hd, List.drop_left' rfl, List.take_left' rfl]
   ·dsimp only
    rw [if_neg (List.cons_ne_nil _ _), List.head?_cons, List.tail_cons]
    by_cases hB : rdB (u ++ 46 :: v) = true
    ·rw [if_pos hB, prsO_no]
     rw [rdB_iff, hd] at hB
     refine if_pos ?_
     rcases hB with h | h | h
     ·exact .inl ((hfst u ha).2 (.inl h))
     ·exact .inl ((hfst u ha).2 (.inr h))
     ·exact .inr (.inl ⟨h.1, by rw [← hh (by omega)]; exact h.2⟩)
    ·rw [if_neg hB]
     rw [rdB_iff, hd] at hB
     have h1 : ¬ dgs u 1 15 = false := by
      rw [hfst u ha]
      rintro (h | h)
      ·exact hB (.inl h)
      ·exact hB (.inr (.inl h))
     have h2 : ¬ (1 < u.length ∧ u.head? = some 48) := fun h => hB (.inr (.inr ⟨h.1, by rw [hh (by omega)]; exact h.2⟩))
     cases hC : rdC v p
     ·have h3 : ¬ dgs v 1 p = false := by rw [dgs_rd, hC]; decide
      have hv := (dgs_iff.1 (Bool.not_eq_false _ |>.mp h3)).2.2
      rw [if_neg (by rintro (h | h | h); exact h1 h; exact h2 h; exact h3 h.2), if_neg (by rintro (h | h); exact h rfl; exact absurd h (by decide)), prsB_rd hv]
     ·rw [if_pos (.inr (.inr ⟨rfl, dgs_rd.2 hC⟩)), if_pos (.inr rfl), prsO_no]
  ·have hL : dgs u 1 15 = false := by
    rw [← Bool.not_eq_true, dgs_iff]
    exact fun h => ha h.2.2
   rw [if_pos (.inl hL)]
   unfold rdG
   by_cases hB : rdB (u ++ 46 :: v) = true
   ·rw [if_pos hB, prsO_no]
   ·rw [if_neg hB]
    dsimp only
    have hlt : dcnt (u ++ 46 :: v) < u.length := by
     refine Nat.lt_of_not_le fun h => ha ?_
     have h2 := dcnt_take (u ++ 46 :: v)
     refine List.all_eq_true.2 fun x hx => List.all_eq_true.1 h2 x ?_
     rw [List.take_append]
     refine List.mem_append.2 (.inl ?_)
     rw [List.take_of_length_le h]
     exact hx
    have hr : (u ++ 46 :: v).drop (dcnt (u ++ 46 :: v)) = u.drop (dcnt (u ++ 46 :: v)) ++ 46 :: v := by
     rw [List.drop_append_of_le_length (Nat.le_of_lt hlt)]
    rw [hr]
    rw [if_neg (by simp)]
    obtain ⟨c, t, hct⟩ : ∃ c t, u.drop (dcnt (u ++ 46 :: v)) = c :: t := by
     cases h : u.drop (dcnt (u ++ 46 :: v)) with
     | nil => rw [List.drop_eq_nil_iff] at h; omega
     | cons c t => exact ⟨c, t, rfl⟩
    rw [hct]
    have hne : (c :: t ++ 46 :: v).head? ≠ some 46 := by
     intro h
     have hc : c = 46 := by rwa [List.cons_append, List.head?_cons, Option.some.injEq] at h
     refine hn ?_
     have : c ∈ u := List.mem_of_mem_drop (i := dcnt (u ++ 46 :: v)) (by rw [hct]; simp)
     rwa [hc] at this
    rw [if_pos (.inl hne)]
    rfl
theorem prefix_head {s : List UInt8} {c : UInt8} : Lib.hasPrefix s [c] = true ↔ s.head? = some c := by
 unfold Lib.hasPrefix
 cases s with
 | nil => simp [List.isPrefixOf]
 | cons b t =>
  rw [List.head?_cons, Option.some.injEq]
  simp only [List.isPrefixOf, Bool.and_true, beq_iff_eq]
  exact eq_comm
theorem prs_rd {s : List UInt8} {p : Int} (h0 : 0 ≤ p) (h9 : p ≤ 9) : prsR s p = prsO (rdR s p true) := by
 unfold prsR rdR
 rw [if_neg (by omega)]
 dsimp only
 cases hp : Lib.hasPrefix s [45]
 ·have ht : Lib.trimPrefix s [45] = s := by unfold Lib.trimPrefix; rw [hp, if_neg (by decide)]
  rw [ht, if_neg (c := true = true ∧ s.head? = some 45) (by rintro ⟨-, h⟩; rw [prefix_head.2 h] at hp; exact absurd hp (by decide))]
  exact cut_rd
 ·have ht : Lib.trimPrefix s [45] = s.tail := by unfold Lib.trimPrefix; rw [hp, if_pos rfl]; cases s <;> rfl
  rw [ht, if_pos (c := true = true ∧ s.head? = some 45) ⟨rfl, prefix_head.1 hp⟩]
  exact cut_rd
end
section
open Go.RowKit
set_option maxHeartbeats 4000000
theorem prs_valid {s : List UInt8} {p : Int} (h : (prsR s p).2.2 = 0) : okZ (prsR s p).1 (prsR s p).2.1 ∧ s ≠ [] := by
 unfold prsR at h ⊢
 by_cases hp : p < 0 ∨ 9 < p
 ·rw [if_pos hp] at h
  exact absurd h (by decide)
 rw [if_neg hp] at h ⊢
 dsimp only at h ⊢
 by_cases hb : dgs (cut1 (Lib.trimPrefix s [45]) 46).1 1 15 = false ∨ (1 < (cut1 (Lib.trimPrefix s [45]) 46).1.length ∧ (cut1 (Lib.trimPrefix s [45]) 46).1.head? = some 48) ∨ ((cut1 (Lib.trimPrefix s [45]) 46).2.2 = true ∧ dgs (cut1 (Lib.trimPrefix s [45]) 46).2.1 1 p = false)
 ·rw [if_pos hb] at h
  exact absurd h (by decide)
 rw [if_neg hb] at h ⊢
 have hno := cut1_no (l := Lib.trimPrefix s [45]) (c := 46)
 have hl := trim_len s [45]
 have hl2 := cut1_len (Lib.trimPrefix s [45]) 46
 obtain ⟨c, hc⟩ : ∃ c, cut1 (Lib.trimPrefix s [45]) 46 = c := ⟨_, rfl⟩
 rw [hc] at h hb hno hl2 ⊢
 obtain ⟨a, b, pt⟩ := c
 dsimp only at h hb hno hl2 ⊢
 have ha : dgs a 1 15 = true := by
  cases hd : dgs a 1 15
  ·exact absurd (.inl hd) hb
  ·rfl
 obtain ⟨a1, a2, a3⟩ := dgs_iff.1 ha
 have hbb : b.all isD = true ∧ b.length ≤ 9 := by
  cases pt
  ·rw [hno rfl]
   exact ⟨rfl, Nat.zero_le _⟩
  ·cases hd : dgs b 1 p
   ·exact absurd (.inr (.inr ⟨rfl, hd⟩)) hb
   ·obtain ⟨-, h2, h3⟩ := dgs_iff.1 hd
    exact ⟨h3, by omega⟩
 refine ⟨?_, fun h0 => by subst h0; rw [List.length_nil] at hl; omega⟩
 unfold prsB at h ⊢
 dsimp only at h ⊢
 by_cases hz : Lib.hasPrefix s [45] = true ∧ numL a * 10 ^ b.length + numL b = 0
 ·rw [if_pos hz] at h
  exact absurd h (by decide)
 rw [if_neg hz]
 have hn1 : numL a < 10 ^ 15 := by
  have h1 := numL_lt a a3
  have h2 : 10 ^ a.length ≤ 10 ^ 15 := Nat.pow_le_pow_right (by decide) (by omega)
  omega
 have hm1 := numL_lt b hbb.1
 have ht := ten_le hbb.2
 have ht0 : 0 < 10 ^ b.length := Nat.pow_pos (by decide)
 generalize 10 ^ b.length = T at *
 have hv : numL a * T + numL b < 10 ^ 25 := by
  have := Nat.mul_le_mul (show numL a ≤ 10 ^ 15 by omega) ht
  omega
 have hbig := bp15_big
 split
 ·exact (mkR_ok (by omega) (by omega) (by omega)).2
 ·exact (mkR_ok (by omega) (by omega) (by omega)).2
theorem txtR_len {v : Prop} [Decidable v] {n d p : Int} (hN : (n * ((10 ^ p.toNat : Nat) : Int) / d).natAbs < bp 17) (hp : p ≤ 9) : (txtR v n d p).1.length ≤ 2000 := by
 unfold txtR
 split
 ·simp
 ·dsimp only
  split
  ·simp
  ·unfold txtZ
   dsimp only
   split
   ·simp
   ·have h1 := dec_len_bp hN
    have h2 := point_len (s := Lib.decDigits (n * ((10 ^ p.toNat : Nat) : Int) / d).natAbs) (p := p.toNat) (by omega) (by omega)
    have h3 := trimRight_len (pointL (Lib.decDigits (n * ((10 ^ p.toNat : Nat) : Int) / d).natAbs) p.toNat).2 48
    rw [List.length_append]
    have h4 : (if n * ((10 ^ p.toNat : Nat) : Int) / d < 0 then [45] else ([] : List UInt8)).length ≤ 1 := by split <;> simp
    have h5 : (if Lib.trimRightB (pointL (Lib.decDigits (n * ((10 ^ p.toNat : Nat) : Int) / d).natAbs) p.toNat).2 48 = [] then (pointL (Lib.decDigits (n * ((10 ^ p.toNat : Nat) : Int) / d).natAbs) p.toNat).1 else (pointL (Lib.decDigits (n * ((10 ^ p.toNat : Nat) : Int) / d).natAbs) p.toNat).1 ++ 46 :: Lib.trimRightB (pointL (Lib.decDigits (n * ((10 ^ p.toNat : Nat) : Int) / d).natAbs) p.toNat).2 48).length ≤ 1001 := by
     split
     ·omega
     ·rw [List.length_append, List.length_cons]; omega
    omega
end
section
open Go.RowKit
set_option maxHeartbeats 4000000
set_option maxRecDepth 100000 in
theorem rparse_any (s : List UInt8) (p : Int) (hs : s.length ≤ 9223372036854775807) {r : Int × Int × Int} (hr : prsR s p = r) (w : World) : Calls Tryz.prog 51 #[.string (bs s), .int .i64 p] w (RetB (.tuple #[.agg (RC r.1 r.2.1), .int .i64 r.2.2]) w) := by
 have F := Fr.start w
 obtain ⟨f, hf⟩ : ∃ f, decide (0 ≤ p ∧ p ≤ 9) = f := ⟨_, rfl⟩
 have gp := fun w => rplaces_any hf w
 by_cases hp : p < 0 ∨ 9 < p
 ·unfold prsR at hr
  rw [if_pos hp] at hr
  subst hr
  obtain rfl : false = f := by rw [← hf]; exact (decide_eq_false (by omega)).symm
  clear hf hp hs
  go_enter Tryz.func51, Tryz.ntmps51
  go_wp2_with (first | go_skip | refine aY3 ?_ | (refine aT3 ?_; clear F; intro W F) | refine aN3 ?_)
  (clear F; intro b4 W F; try simp only [Act.put, z6, z1, z2])
  go_wp2_with (first | go_skip | ((go_at_call 88); (with_reducible refine fr_call F (gp _) ?_); (clear F; intro W F); (try dsimp only)) | refine aY3 ?_ | (refine aT3 ?_; clear F; intro W F) | refine aN3 ?_)
  exact bodyPost_ret (res_cs rfl rfl rfl (Fr.get F tL) (rowRC _ _)) rfl ⟨rfl, F.below⟩
 obtain rfl : true = f := by rw [← hf]; exact (decide_eq_true (by omega)).symm
 rw [prs_rd (by omega) (by omega)] at hr
 obtain ⟨q, hq⟩ : ∃ q, rdR s p true = q := ⟨_, rfl⟩
 have g1 := fun w => rread_any s p true (by omega) hs hq w
 rw [hq] at hr
 obtain ⟨n, d, k⟩ := q
 unfold prsO at hr
 dsimp only at hr g1
 clear hf hq hp hs
 go_enter Tryz.func51, Tryz.ntmps51
 go_wp2_with (first | go_skip | refine aY3 ?_ | (refine aT3 ?_; clear F; intro W F) | refine aN3 ?_)
 (clear F; intro b4 W F; try simp only [Act.put, z6, z1, z2])
 go_wp2_with (first | go_skip | ((go_at_call 88); (with_reducible refine fr_call F (gp _) ?_); (clear F; intro W F); (try dsimp only)) | ((go_at_call 89); (with_reducible refine fr_call F (g1 _) ?_); (clear F; intro W F); (try dsimp only)) | refine aY3 ?_ | (refine aT3 ?_; clear F; intro W F) | refine aN3 ?_)
 (clear F; intro b6 W F; try simp only [Act.put, z6, z1, z2])
 cases k
 ·rw [if_neg (by decide)] at hr
  subst hr
  go_wp2_with (first | go_skip | refine aY3 ?_ | (refine aT3 ?_; clear F; intro W F) | refine aN3 ?_)
  exact bodyPost_ret (res_cs rfl rfl rfl (Fr.get F tL) (rowRC _ _)) rfl ⟨rfl, F.below⟩
 ·rw [if_pos rfl] at hr
  subst hr
  go_wp2_with (first | go_skip | refine aY3 ?_ | (refine aT3 ?_; clear F; intro W F) | refine aN3 ?_)
  exact bodyPost_ret (res_cs rfl rfl rfl (Fr.get F tL) (rowRC _ _)) rfl ⟨rfl, F.below⟩
end
section
open Go.RowKit
set_option maxHeartbeats 4000000
theorem pad_t {D : List UInt8} {p j : Nat} (h1 : p < j + D.length) (h2 : j = 0 ∨ j + D.length ≤ p + 1) : List.replicate j 48 ++ D = (if D.length ≤ p then List.replicate (p + 1 - D.length) 48 ++ D else D) := by
 by_cases h : D.length ≤ p
 ·rw [if_pos h]
  have : j = p + 1 - D.length := by rcases h2 with h2 | h2 <;> omega
  rw [this]
 ·rw [if_neg h]
  have : j = 0 := by rcases h2 with h2 | h2 <;> omega
  rw [this]
  rfl
set_option maxRecDepth 100000 in
theorem rwritten_any {z : Int} {p : Nat} (hz : z.natAbs < bp 32) (hp : p ≤ 9) {r : List UInt8} (hr : fmtL z.natAbs (decide (z < 0)) p = r) (w : World) : Calls Tryz.prog 102 #[.agg (IC z), .int .i64 p] w (RetB (.string (bs r)) w) := by
 have F := Fr.start w
 have ga := fun w => rabs_any hz w
 have gf := fun w => rformat_any (z := ((z.natAbs : Nat) : Int)) (by rw [Int.natAbs_natCast]; exact hz) w
 rw [show Lib.itoa ((z.natAbs : Nat) : Int) = Lib.decDigits z.natAbs from by unfold Lib.itoa; rw [if_neg (by omega), Int.toNat_natCast]] at gf
 have gs := fun w => rsignZ hz w
 have hDl := dec_len_bp hz
 unfold fmtL pointL at hr
 obtain ⟨D, hD⟩ : ∃ D, Lib.decDigits z.natAbs = D := ⟨_, rfl⟩
 rw [hD] at gf hDl hr
 obtain ⟨A, hA⟩ : ∃ A : Int, ((z.natAbs : Nat) : Int) = A := ⟨_, rfl⟩
 rw [hA] at ga gf
 have hsg : decide (z < 0) = decide (z.sign < 0) := by rw [decide_eq_decide]; exact Int.sign_neg_iff.symm
 rw [hsg] at hr
 obtain ⟨s, hs⟩ : ∃ s, z.sign = s := ⟨_, rfl⟩
 rw [hs] at gs hr
 have HR := Lib.hid hr
 clear hr hs hsg hD hA hz
 go_enter Tryz.func102, Tryz.ntmps102
 go_wp2_with (first | go_skip | refine aY3 ?_ | (refine aT3 ?_; clear F; intro W F) | refine aN3 ?_)
 (clear F; intro b2 W F; try simp only [Act.put, z6, z1, z2])
 go_wp2_with (first | go_skip | ((go_at_call 156); (with_reducible refine fr_call F (ga _) ?_); (clear F; intro W F); (try dsimp only)) | ((go_at_call 155); (with_reducible refine fr_call F (gf _) ?_); (clear F; intro W F); (try dsimp only)) | refine aY3 ?_ | (refine aT3 ?_; clear F; intro W F) | refine aN3 ?_)
 clear ga gf
 go_loopw [5] (fun sv wr => ∃ j : Nat, sv = .string (bs (List.replicate j 48 ++ D)) ∧ (j = 0 ∨ j + D.length ≤ p + 1) ∧ Fr w wr [(b2, IC z, 29)]) (fun sv _ => p + 1 - (strOf sv).size)
 case atStart => exact ⟨0, rfl, .inl rfl, F⟩
 case round =>
  clear F
  obtain ⟨j, rfl, hj, F⟩ := hrel
  have hz := bs_size (List.replicate j 48 ++ D)
  rw [List.length_append, List.length_replicate] at hz
  obtain ⟨l, hl⟩ : ∃ l, j + D.length = l := ⟨_, rfl⟩
  rw [hl] at hz hj
  by_cases hlt : l ≤ p
  ·have t1 : decide ((l : Int) ≤ (p : Int)) = true := decide_eq_true (by omega)
   have t2 : decide (l ≤ p) = true := decide_eq_true hlt
   have e1 : bs [48] ++ bs (List.replicate j 48 ++ D) = bs (List.replicate (j + 1) 48 ++ D) := by
    rw [bs_append]
    rfl
   have e0 : bs [48] = ⟨#[48]⟩ := rfl
   rw [e0] at e1
   have k1 : (9223372036854775807 < 1 + l) = False := by rw [eq_iff_iff, iff_false]; omega
   obtain ⟨S1, hS1⟩ : ∃ S, bs (List.replicate j 48 ++ D) = S := ⟨_, rfl⟩
   obtain ⟨S2, hS2⟩ : ∃ S, bs (List.replicate (j + 1) 48 ++ D) = S := ⟨_, rfl⟩
   have hz2 : S2.size = l + 1 := by rw [← hS2, bs_size, List.length_append, List.length_replicate, ← hl]; omega
   rw [hS1] at hz e1 ⊢
   rw [hS2] at e1
   have HN := Lib.hid (And.intro hS2 (And.intro (show j + 1 = 0 ∨ j + 1 + D.length ≤ p + 1 by omega) (show p + 1 - S2.size < p + 1 - S1.size by omega)))
   clear hS1 hS2 hz2 hj hl hlt HR hDl
   go_wp2_with fail
   go_roundw
   case rel => exact ⟨j + 1, congrArg Value.string HN.out.1.symm, HN.out.2.1, F⟩
   case measure => exact HN.out.2.2
  ·have hr := HR.out
   rw [← pad_t (j := j) (by omega) (by rcases hj with h | h; exact .inl h; exact .inr (by omega))] at hr
   try dsimp only at hr
   rw [List.length_append, List.length_replicate, hl] at hr
   have hlb : l ≤ 400 := by
    rcases hj with h | h
    ·subst h; omega
    ·omega
   have t1 : decide ((l : Int) ≤ (p : Int)) = false := decide_eq_false (by omega)
   have t2 : decide (l ≤ p) = false := decide_eq_false hlt
   obtain ⟨T, hT⟩ : ∃ T, List.replicate j 48 ++ D = T := ⟨_, rfl⟩
   have hTl : T.length = l := by rw [← hT, List.length_append, List.length_replicate, hl]
   rw [hT] at hz hr ⊢
   clear hT hl hj HR hDl
   by_cases hp0 : p = 0
   ·have t4 : decide (0 < (p : Int)) = false := decide_eq_false (by omega)
    have t5 : decide (0 < p) = false := decide_eq_false (by omega)
    rw [hp0, Nat.sub_zero, ← hTl, List.drop_length, List.take_length, if_pos rfl] at hr
    clear hlt hTl hp0 hp
    have k1 : (9223372036854775807 < 1 + l) = False := by rw [eq_iff_iff, iff_false]; omega
    have e1 : bs [45] ++ bs T = bs (45 :: T) := bs_append [45] T
    rw [show bs [45] = ⟨#[45]⟩ from rfl] at e1
    by_cases hs : s < 0
    ·have t3 : decide (s < 0) = true := decide_eq_true hs
     rw [decide_eq_true hs, if_pos rfl] at hr
     subst hr
     clear hs
     go_wp2_with (first | go_skip | ((go_at_call 135); (with_reducible refine fr_call F (gs _) ?_); (clear F; intro W F); (try dsimp only)) | refine aY3 ?_ | (refine aT3 ?_; clear F; intro W F) | refine aN3 ?_)
     go_ret
     exact ⟨rfl, F.below⟩
    ·have t3 : decide (s < 0) = false := decide_eq_false hs
     rw [decide_eq_false hs, if_neg (by decide), List.nil_append] at hr
     subst hr
     clear hs
     go_wp2_with (first | go_skip | ((go_at_call 135); (with_reducible refine fr_call F (gs _) ?_); (clear F; intro W F); (try dsimp only)) | refine aY3 ?_ | (refine aT3 ?_; clear F; intro W F) | refine aN3 ?_)
     go_ret
     exact ⟨rfl, F.below⟩
   ·obtain ⟨m, hm⟩ : ∃ m, l - p = m := ⟨_, rfl⟩
    obtain ⟨a, ha⟩ : ∃ a, T.take m = a := ⟨_, rfl⟩
    obtain ⟨b, hb⟩ : ∃ b, T.drop m = b := ⟨_, rfl⟩
    have hal : a.length = m := by rw [← ha, List.length_take]; omega
    have hbl : b.length = p := by rw [← hb, List.length_drop]; omega
    have hbn : b ≠ [] := by rintro rfl; rw [List.length_nil] at hbl; omega
    rw [hm, ha, hb, if_neg hbn] at hr
    have e1 : (bs T).extract 0 m = bs a := by rw [bs_extract, List.drop_zero, Nat.sub_zero, ha]
    have e2 : (bs T).extract m l = bs b := by rw [bs_extract, ← hTl, ← List.length_drop, List.take_length, hb]
    have e3 : bs a ++ bs [46] = bs (a ++ [46]) := bs_append _ _
    have e4 : bs (a ++ [46]) ++ bs b = bs (a ++ 46 :: b) := by rw [bs_append, List.append_assoc]; rfl
    have e5 : bs [45] ++ bs (a ++ 46 :: b) = bs (45 :: (a ++ 46 :: b)) := bs_append _ _
    rw [show bs [46] = ⟨#[46]⟩ from rfl] at e3
    rw [show bs [45] = ⟨#[45]⟩ from rfl] at e5
    have z1 := bs_size a
    have z2 := bs_size b
    have z3 := bs_size (a ++ [46])
    have z4 := bs_size (a ++ 46 :: b)
    rw [hal] at z1
    rw [hbl] at z2
    rw [List.length_append, hal, List.length_singleton] at z3
    rw [List.length_append, List.length_cons, hal, hbl] at z4
    have m1 : (l : Int) - (p : Int) = (m : Int) := by omega
    have hm5 : m ≤ 100000 := by omega
    have t4 : decide (0 < (p : Int)) = true := decide_eq_true (by omega)
    have t5 : decide (0 < p) = true := decide_eq_true (by omega)
    have l0 : (0 : Int) ≤ (m : Int) := by omega
    have l1 : (m : Int) ≤ (l : Int) := by omega
    have l2 : m ≤ l := by omega
    have k1 : (9223372036854775807 < m + 1) = False := by rw [eq_iff_iff, iff_false]; omega
    have k2 : (9223372036854775807 < m + 1 + p) = False := by rw [eq_iff_iff, iff_false]; omega
    have k3 : (9223372036854775807 < 1 + (m + (p + 1))) = False := by rw [eq_iff_iff, iff_false]; omega
    have HSG := Lib.hid (And.intro e5 (And.intro z4 k3))
    obtain ⟨m2, m3, -⟩ := wraps hm5
    clear hm ha hb hal hbl hbn hTl hlt hp0 hp e5 z4 k3 hm5 hlb
    go_wp2_with fail
    go_quiet (fail)
    replace F := F.drewN nq
    generalize wr.drewN nq = wq at *
    clear m1 m2 m3 t4 t5 l0 l1 l2 k1 k2 e1 e2 e3 e4 z1 z2 z3 t1 t2
    obtain ⟨e5, z4, k3⟩ := HSG.out
    by_cases hs : s < 0
    ·have t3 : decide (s < 0) = true := decide_eq_true hs
     rw [decide_eq_true hs, if_pos rfl] at hr
     subst hr
     clear hs
     go_wp2_with (first | go_skip | ((go_at_call 135); (with_reducible refine fr_call F (gs _) ?_); (clear F; intro W F); (try dsimp only)) | refine aY3 ?_ | (refine aT3 ?_; clear F; intro W F) | refine aN3 ?_)
     go_ret
     exact ⟨rfl, F.below⟩
    ·have t3 : decide (s < 0) = false := decide_eq_false hs
     rw [decide_eq_false hs, if_neg (by decide), List.nil_append] at hr
     subst hr
     clear hs
     go_wp2_with (first | go_skip | ((go_at_call 135); (with_reducible refine fr_call F (gs _) ?_); (clear F; intro W F); (try dsimp only)) | refine aY3 ?_ | (refine aT3 ?_; clear F; intro W F) | refine aN3 ?_)
     go_ret
     exact ⟨rfl, F.below⟩
theorem rdF_ok {t : List UInt8} {k : Nat} {neg : Bool} : (rdF t k neg).2.2 = !(neg && decide (numL t = 0)) := by
 unfold rdF
 split
 ·rename_i h
  rw [h.1, decide_eq_true h.2]
  rfl
 ·rename_i h
  cases neg
  ·rfl
  ·rw [decide_eq_false (fun h2 => h ⟨rfl, h2⟩)]
   rfl
theorem rdG_ok {a b : List UInt8} {p : Int} {neg : Bool} (ha : a.all isD = true) (hb : b.all isD = true) (h0 : a ≠ []) (hz : 1 < a.length → a.head? ≠ some 48) (hbp : (b.length : Int) ≤ p) :
  rdG (if b = [] then a else a ++ 46 :: b) p neg = if 15 < a.length then (0, 0, false) else rdF (a ++ b) b.length neg := by
 have hal : 0 < a.length := List.length_pos_iff.2 h0
 by_cases hb0 : b = []
 ·subst hb0
  rw [if_pos rfl, List.append_nil]
  unfold rdG
  have hd := dcnt_all ha
  by_cases h15 : 15 < a.length
  ·rw [if_pos h15, if_pos (rdB_iff.2 (.inr (.inl (by rw [hd]; exact h15))))]
  ·rw [if_neg h15, if_neg]
   ·rw [hd, List.drop_length]
    dsimp only
    rw [if_pos rfl, List.take_length]
    rfl
   ·rw [rdB_iff, hd]
    rintro (h | h | h)
    ·omega
    ·exact h15 h
    ·exact hz h.1 h.2
 ·rw [if_neg hb0]
  have hd : dcnt (a ++ 46 :: b) = a.length := by
   refine dcnt_at (i := a.length) (by simp) (by rw [List.take_left' rfl]; exact ha) ?_
   rw [List.getElem_append_right (Nat.le_refl _)]
   simp [isD_dot]
  have hh : (a ++ 46 :: b).head? = a.head? := by
   cases a with
   | nil => exact absurd rfl h0
   | cons c t => rfl
  unfold rdG
  by_cases h15 : 15 < a.length
  ·rw [if_pos h15, if_pos (rdB_iff.2 (.inr (.inl (by rw [hd]; exact h15))))]
  ·rw [if_neg h15, if_neg]
   ·rw [hd, List.drop_left' rfl, List.take_left' rfl]
    dsimp only
    have hC : rdC b p = false := by
     unfold rdC
     rw [decide_eq_false_iff_not, dcnt_all hb]
     have := List.length_pos_iff.2 hb0
     rintro (h | h | h)
     ·omega
     ·exact h rfl
     ·omega
    rw [if_neg (List.cons_ne_nil _ _), List.head?_cons, List.tail_cons, hC, if_neg]
    rintro (h | h)
    ·exact h rfl
    ·exact absurd h (by decide)
   ·rw [rdB_iff, hd, hh]
    rintro (h | h | h)
    ·omega
    ·exact h15 h
    ·exact hz h.1 h.2
end
section
open Go.RowKit
theorem numL_snoc (l : List UInt8) (b : UInt8) : numL (l ++ [b]) = numL l * 10 + (b.toNat - 48) := by
 unfold numL
 rw [numF_append, numF_cons]
 rfl
theorem digit_val {d : Nat} (h : d < 10) : (UInt8.ofNat (48 + d)).toNat - 48 = d := by
 have : (UInt8.ofNat (48 + d)).toNat = 48 + d := by
  rw [UInt8.toNat_ofNat']
  omega
 omega
theorem dec_num (u : Nat) : numL (Lib.decDigits u) = u := by
 induction u using Nat.strongRecOn with
 | ind u ih =>
  rw [Lib.decDigits]
  split
  ·rename_i h
   have := digit_val h
   unfold numL
   rw [numF_cons]
   show 0 * 10 + _ = u
   omega
  ·rename_i h
   rw [numL_snoc, ih (u / 10) (by omega), digit_val (by omega)]
   omega
theorem dec_head (u : Nat) : 1 < (Lib.decDigits u).length → (Lib.decDigits u).head? ≠ some 48 := by
 have hd : ∀ u : Nat, 0 < u → (Lib.decDigits u).head? ≠ some 48 := by
  intro u
  induction u using Nat.strongRecOn with
  | ind u ih =>
   intro h0
   rw [Lib.decDigits]
   split
   ·rename_i h
    rw [List.head?_cons, ne_eq, Option.some.injEq, ← UInt8.toNat_inj]
    have := digit_val h
    rw [show (48 : UInt8).toNat = 48 from rfl]
    omega
   ·rename_i h
    have h1 := ih (u / 10) (by omega) (by omega)
    have h2 := dec_ne (u / 10)
    cases hq : Lib.decDigits (u / 10) with
    | nil => exact absurd hq h2
    | cons c t =>
     rw [hq] at h1
     exact h1
 intro h
 refine hd u (Nat.pos_of_ne_zero fun h0 => ?_)
 subst h0
 rw [Lib.decDigits, dif_pos (by decide)] at h
 exact absurd h (by decide)
theorem numL_zeros (j : Nat) (l : List UInt8) : numL (List.replicate j 48 ++ l) = numL l := by
 induction j with
 | zero => rfl
 | succ j ih =>
  rw [List.replicate_succ, List.cons_append]
  unfold numL at ih ⊢
  rw [numF_cons]
  exact ih
theorem numL_tail (l : List UInt8) (k : Nat) : numL (l ++ List.replicate k 48) = numL l * 10 ^ k := by
 induction k generalizing l with
 | zero => rw [List.replicate_zero, List.append_nil, Nat.pow_zero, Nat.mul_one]
 | succ k ih =>
  rw [List.replicate_succ, show l ++ 48 :: List.replicate k 48 = (l ++ [48]) ++ List.replicate k 48 by simp, ih, numL_snoc, Nat.pow_succ, Nat.mul_comm (10 ^ k) 10, ← Nat.mul_assoc]
  rfl
theorem point_facts (u : Nat) {p : Nat} {a b : List UInt8} (h : pointL (Lib.decDigits u) p = (a, b)) : a.all isD = true ∧ b.all isD = true ∧ a ≠ [] ∧ (1 < a.length → a.head? ≠ some 48) ∧ b.length = p ∧ numL (a ++ b) = u := by
 have hD := dec_digits u
 have hn := dec_num u
 have hh := dec_head u
 have h0 := dec_ne u
 generalize Lib.decDigits u = D at *
 unfold pointL at h
 have hl : 0 < D.length := List.length_pos_iff.2 h0
 obtain ⟨t, ht⟩ : ∃ t, (if D.length ≤ p then List.replicate (p + 1 - D.length) 48 ++ D else D) = t := ⟨_, rfl⟩
 rw [ht] at h
 dsimp only at h
 rw [Prod.mk.injEq] at h
 obtain ⟨ha, hb⟩ := h
 have htd : t.all isD = true ∧ numL t = u ∧ p < t.length ∧ (t.length = p + 1 ∨ t = D) := by
  rw [← ht]
  split
  ·refine ⟨?_, by rw [numL_zeros, hn], by rw [List.length_append, List.length_replicate]; omega, .inl (by rw [List.length_append, List.length_replicate]; omega)⟩
   rw [List.all_append, hD, Bool.and_true, List.all_eq_true]
   intro x hx
   rw [List.eq_of_mem_replicate hx]
   decide
  ·exact ⟨hD, hn, by omega, .inr rfl⟩
 obtain ⟨h1, h2, h3, h4⟩ := htd
 have hab : a ++ b = t := by rw [← ha, ← hb, List.take_append_drop]
 have hal : a.length = t.length - p := by rw [← ha, List.length_take]; omega
 refine ⟨?_, ?_, ?_, ?_, ?_, by rw [hab, h2]⟩
 ·rw [← hab, List.all_append, Bool.and_eq_true] at h1
  exact h1.1
 ·rw [← hab, List.all_append, Bool.and_eq_true] at h1
  exact h1.2
 ·rintro rfl
  rw [List.length_nil] at hal
  omega
 ·intro hlt
  rcases h4 with h4 | h4
  ·omega
  ·have hD1 : 1 < D.length := by rw [← h4]; omega
   have := hh hD1
   rw [← h4, ← hab] at this
   cases a with
   | nil => exact absurd hlt (by simp)
   | cons c t => exact this
 ·rw [← hb, List.length_drop]
  omega
theorem trim_zeros (b : List UInt8) : ∃ k, b = Lib.trimRightB b 48 ++ List.replicate k 48 := by
 unfold Lib.trimRightB
 refine ⟨(b.reverse.takeWhile (· == 48)).length, ?_⟩
 have h1 := List.takeWhile_append_dropWhile (p := (· == (48 : UInt8))) (l := b.reverse)
 have h2 : b.reverse.takeWhile (· == 48) = List.replicate (b.reverse.takeWhile (· == 48)).length 48 := by
  rw [List.eq_replicate_iff]
  refine ⟨rfl, fun x hx => ?_⟩
  have := List.all_eq_true.1 List.all_takeWhile x hx
  simpa using this
 have h3 := congrArg List.reverse h1
 rw [List.reverse_append, List.reverse_reverse] at h3
 rw [← List.reverse_replicate, ← h2]
 exact h3.symm
theorem trim_nil : Lib.trimRightB [] 48 = [] := rfl
theorem trim_snoc (c : List UInt8) (x : UInt8) : Lib.trimRightB (c ++ [x]) 48 = if x = 48 then Lib.trimRightB c 48 else c ++ [x] := by
 unfold Lib.trimRightB
 rw [List.reverse_append, List.reverse_singleton, List.singleton_append, List.dropWhile_cons]
 by_cases h : x = 48
 ·rw [if_pos (by simpa using h), if_pos h]
 ·rw [if_neg (by simpa using h), if_neg h, List.reverse_cons, List.reverse_reverse]
theorem last_at {Y : List UInt8} {x : UInt8} {L : Nat} (hL : Y.length = L) (h : L < (bs (Y ++ [x])).size) : (bs (Y ++ [x]))[L] = x :=
 (bs_at (l := Y ++ [x]) (i := L) h (by rw [List.length_append, hL, List.length_singleton]; omega)).trans (by subst hL; simp)
theorem last_cut {Y : List UInt8} {x : UInt8} {L : Nat} (hL : Y.length = L) : (bs (Y ++ [x])).extract 0 L = bs Y := by
 rw [bs_extract, List.drop_zero, Nat.sub_zero, ← hL, List.take_left' rfl]
def txtS (neg : Bool) (a t : List UInt8) : List UInt8 := (if neg = true then [45] else []) ++ (if t = [] then a else a ++ 46 :: t)
theorem txt_rd {z : Int} {p : Nat} {a b t : List UInt8} (h : pointL (Lib.decDigits z.natAbs) p = (a, b)) (ht : Lib.trimRightB b 48 = t) :
  rdR (txtS (decide (z < 0)) a t) p true = (if 15 < a.length then (0, 0, false) else rdF (a ++ t) t.length (decide (z < 0))) ∧ (rdF (a ++ t) t.length (decide (z < 0))).2.2 = true ∧ numL (a ++ t) * 10 ^ (p - t.length) = z.natAbs ∧ t.length ≤ p := by
 obtain ⟨h1, h2, h3, h4, h5, h6⟩ := point_facts _ h
 obtain ⟨k, hk⟩ := trim_zeros b
 rw [ht] at hk
 have htl : t.length + k = p := by rw [← h5, hk, List.length_append, List.length_replicate]
 have htd : t.all isD = true := by
  rw [hk, List.all_append, Bool.and_eq_true] at h2
  exact h2.1
 have hnum : numL (a ++ t) * 10 ^ k = z.natAbs := by rw [← h6, hk, ← List.append_assoc, numL_tail]
 have hG := fun neg : Bool => rdG_ok (a := a) (b := t) (p := p) (neg := neg) h1 htd h3 h4 (by omega)
 refine ⟨?_, ?_, by rw [show p - t.length = k by omega]; exact hnum, by omega⟩
 ·unfold rdR txtS
  by_cases hz : z < 0
  ·rw [decide_eq_true hz, if_pos rfl, List.singleton_append, List.head?_cons, List.tail_cons, if_pos ⟨rfl, rfl⟩]
   exact hG true
  ·rw [decide_eq_false hz, show (if false = true then [45] else ([] : List UInt8)) = [] from rfl, List.nil_append, if_neg]
   ·exact hG false
   ·rintro ⟨-, hh⟩
    have e : (if t = [] then a else a ++ 46 :: t).head? = a.head? := by
     split
     ·rfl
     ·cases a with
      | nil => exact absurd rfl h3
      | cons c l => rfl
    rw [e] at hh
    cases a with
    | nil => exact absurd rfl h3
    | cons c l =>
     rw [List.head?_cons, Option.some.injEq] at hh
     subst hh
     rw [List.all_cons] at h1
     exact absurd h1 (by simp [isD])
 ·rw [rdF_ok]
  by_cases hz : z < 0
  ·rw [decide_eq_false (p := numL (a ++ t) = 0)]
   ·simp
   ·intro h0
    rw [h0, Nat.zero_mul] at hnum
    omega
  ·rw [decide_eq_false hz]
   rfl
end
section
open Go.RowKit
set_option maxHeartbeats 4000000
theorem rnd_down {v : Prop} [Decidable v] {n d p : Int} (h : exR v n d p = ((exR v n d p).1, 0)) : ∃ z, rndR v n d p 1 = (z, 0) ∧ ((exR v n d p).1 = true → z = n * ((10 ^ p.toNat : Nat) : Int) / d) := by
 unfold exR at h ⊢
 by_cases he : chkE v p = 0
 ·obtain ⟨hv, h0, h9⟩ := chkE_ok he
  rw [if_neg (by rw [Classical.not_not]; exact he)]
  unfold rndR
  rw [if_neg (by rw [Classical.not_not]; exact hv), if_neg (by omega), if_neg (by decide)]
  dsimp only
  split
  ·exact ⟨_, rfl, fun _ => rfl⟩
  ·rename_i hne
   split
   ·exact ⟨_, rfl, fun h => absurd (by simpa using h) hne⟩
   ·exact ⟨_, rfl, fun h => absurd (by simpa using h) hne⟩
 ·rw [if_pos he] at h
  exact absurd (congrArg Prod.snd h) he
theorem pre_if (u a b : List UInt8) : u ++ (if b = [] then a else a ++ 46 :: b) = if b = [] then u ++ a else (u ++ a) ++ 46 :: b := by
 split
 ·rfl
 ·rw [List.append_assoc]
theorem txtR_ex {v : Prop} [Decidable v] {n d p : Int} : txtR v n d p = if (exR v n d p).2 ≠ 0 then ([], (exR v n d p).2) else if (exR v n d p).1 = true then txtZ (n * ((10 ^ p.toNat : Nat) : Int) / d) p.toNat else ([], 32) := by
 unfold txtR exR
 by_cases he : chkE v p = 0
 ·by_cases hm : n * ((10 ^ p.toNat : Nat) : Int) % d = 0
  ·simp [he, hm]
  ·simp [he, hm]
 ·simp [he]
set_option maxRecDepth 100000 in
theorem rtext_any {x : Bool} {a : Nat} {y : Bool} {b : Nat} (ha : a < bp 32) (hb : b < bp 32) {p : Int} {r : List UInt8 × Int} (hr : txtR (okR x a y b) (sZ x a) (sZ y b) p = r) (w : World) : Calls Tryz.prog 56 #[.agg (ratC x a y b), .int .i64 p] w (RetB (.tuple #[.string (bs r.1), .int .i64 r.2]) w) := by
 have F := Fr.start w
 rw [txtR_ex] at hr
 have hdn := rnd_down (v := okR x a y b) (n := sZ x a) (d := sZ y b) (p := p)
 have hp := chkE_ok (v := okR x a y b) (p := p)
 have hec : (exR (okR x a y b) (sZ x a) (sZ y b) p).2 = chkE (okR x a y b) p := by
  unfold exR
  split
  ·rfl
  ·rename_i h
   rw [Classical.not_not] at h
   exact h.symm
 have hl := rnd_lt (x := x) (a := a) (y := y) (b := b) (p := p) (m := 1)
 obtain ⟨q, hq⟩ : ∃ q, exR (okR x a y b) (sZ x a) (sZ y b) p = q := ⟨_, rfl⟩
 have g1 := fun w => rexact_any ha hb hq w
 rw [hq] at hr hdn hec
 obtain ⟨f, e⟩ := q
 dsimp only at hr hdn hec g1
 by_cases he : e ≠ 0
 ·rw [if_pos he] at hr
  subst hr
  have t0 : (e == 0) = false := by rw [beq_eq_false_iff_ne]; exact he
  clear hdn hp hec hl hq ha hb
  go_enter Tryz.func56, Tryz.ntmps56
  go_wp2_with (first | go_skip | refine aY3 ?_ | (refine aT3 ?_; clear F; intro W F) | refine aN3 ?_)
  (clear F; intro b2 W F; try simp only [Act.put, z6, z1, z2])
  go_wp2_with (first | go_skip | ((go_at_call 100); (with_reducible refine fr_call F (g1 _) ?_); (clear F; intro W F); (try dsimp only)) | refine aY3 ?_ | (refine aT3 ?_; clear F; intro W F) | refine aN3 ?_)
  go_ret2
  exact ⟨rfl, F.below⟩
 rw [Classical.not_not] at he
 subst he
 rw [if_neg (by decide)] at hr
 obtain ⟨hv, hp0, hp9⟩ := hp hec.symm
 obtain ⟨z, hz, hzq⟩ := hdn rfl
 have g2 := fun w => rround_any ha hb hz w
 rw [hz] at hl
 dsimp only at hl g2
 obtain ⟨n, rfl⟩ : ∃ n : Nat, p = (n : Int) := ⟨p.toNat, by omega⟩
 have hn9 : n ≤ 9 := by omega
 rw [Int.toNat_natCast] at hr hzq
 have hz32 : z.natAbs < bp 32 := Nat.lt_of_lt_of_le hl (bp_le (by decide))
 have g3 := fun w => rwritten_any hz32 hn9 rfl w
 obtain ⟨A, hA⟩ : ∃ A, pointL (Lib.decDigits z.natAbs) n = A := ⟨_, rfl⟩
 obtain ⟨a1, b1⟩ := A
 obtain ⟨t, ht⟩ : ∃ t, Lib.trimRightB b1 48 = t := ⟨_, rfl⟩
 obtain ⟨hrd, hrf, -, htl⟩ := txt_rd hA ht
 obtain ⟨ha1, hb1, han, -, hbl, -⟩ := point_facts _ hA
 have hal : a1.length ≤ 400 := by
  have h1 := point_len (s := Lib.decDigits z.natAbs) (p := n)
  have h2 := dec_len_bp hl
  have h3 : a1.length + b1.length ≤ 400 := by
   have h4 := hA
   unfold pointL at h4
   dsimp only at h4
   rw [Prod.mk.injEq] at h4
   rw [← h4.1, ← h4.2, List.length_take, List.length_drop]
   split
   ·rw [List.length_append, List.length_replicate]
    omega
   ·omega
  omega
 obtain ⟨neg, hneg⟩ : ∃ g, decide (z < 0) = g := ⟨_, rfl⟩
 unfold fmtL at g3
 rw [hA, hneg] at g3
 dsimp only at g3
 rw [hneg] at hrd hrf
 obtain ⟨X, hX⟩ : ∃ X, (if neg = true then [45] else []) ++ a1 = X := ⟨_, rfl⟩
 have hXl : X.length ≤ 401 := by
  rw [← hX, List.length_append]
  cases neg
  ·simp; omega
  ·simp; omega
 have hw : (if neg = true then [45] else []) ++ (if b1 = [] then a1 else a1 ++ 46 :: b1) = if b1 = [] then X else X ++ 46 :: b1 := by
  rw [← hX]
  exact pre_if _ _ _
 have hS : txtS neg a1 t = if t = [] then X else X ++ 46 :: t := by
  unfold txtS
  rw [← hX]
  exact pre_if _ _ _
 rw [hw] at g3
 obtain ⟨W0, hW0⟩ : ∃ W0, (if b1 = [] then X else X ++ 46 :: b1) = W0 := ⟨_, rfl⟩
 rw [hW0] at g3
 have HW := Lib.hid hW0
 clear hW0
 have hXlast : ∃ Y c, X = Y ++ [c] ∧ isD c = true := by
  rcases List.eq_nil_or_concat a1 with rfl | ⟨Y, c, rfl⟩
  ·exact absurd rfl han
  ·refine ⟨(if neg = true then [45] else []) ++ Y, c, by rw [← hX, List.concat_eq_append, List.append_assoc], ?_⟩
   rw [List.concat_eq_append, List.all_append, Bool.and_eq_true] at ha1
   simpa using ha1.2
 obtain ⟨Sx, hSx⟩ : ∃ s, txtS neg a1 t = s := ⟨_, rfl⟩
 rw [hSx] at hrd hS
 have hSl : Sx.length ≤ 9223372036854775807 := by
  rw [hS]
  split
  ·omega
  ·rw [List.length_append, List.length_cons]
   omega
 have g5 := fun w => rread_any Sx (n : Int) true (by omega) hSl hrd w
 obtain ⟨ok, hok⟩ : ∃ ok, decide (¬ 15 < a1.length) = ok := ⟨_, rfl⟩
 have hrr : r = if (f && ok) = true then (Sx, 0) else ([], 32) := by
  rw [← hr, ← hok]
  cases f
  ·rw [if_neg (by decide), Bool.false_and, if_neg (by decide)]
  ·rw [if_pos rfl, ← hzq rfl, Bool.true_and]
   unfold txtZ
   rw [hA]
   dsimp only
   rw [ht]
   by_cases h15 : 15 < a1.length
   ·rw [if_pos h15, if_neg (by rw [decide_eq_false (by omega)]; decide)]
   ·rw [if_neg h15, if_pos (decide_eq_true h15), ← hSx]
    unfold txtS
    rw [← hneg]
    by_cases hz0 : z < 0
    ·simp only [hz0, decide_true, if_true]
    ·simp only [hz0, decide_false, if_false, Bool.false_eq_true]
 obtain ⟨R1, hR1⟩ : ∃ R1 : Int × Int × Bool, (if 15 < a1.length then (0, 0, false) else rdF (a1 ++ t) t.length neg) = R1 := ⟨_, rfl⟩
 rw [hR1] at g5
 have hR2 : R1.2.2 = ok := by
  rw [← hR1, ← hok]
  by_cases h15 : 15 < a1.length
  ·rw [if_pos h15, decide_eq_false (by omega)]
  ·rw [if_neg h15, hrf, decide_eq_true h15]
 rw [hR2] at g5
 obtain ⟨r1, hr1⟩ : ∃ q, R1.1 = q := ⟨_, rfl⟩
 obtain ⟨r2, hr2⟩ : ∃ q, R1.2.1 = q := ⟨_, rfl⟩
 rw [hr1, hr2] at g5
 have HR := Lib.hid hrr.symm
 have HBD := Lib.hid hb1
 have HX := Lib.hid (And.intro hXl (And.intro hXlast (And.intro hS (And.intro hbl (And.intro ht htl)))))
 clear hr hdn hec hl hq ha hb hp hv hzq hz hz32 hA ht hrd hrf htl ha1 hb1 han hbl hal hneg hX hXl hw hS hXlast hSx hSl hok hrr hR1 hp0 hp9 hR2 hr1 hr2
 go_enter Tryz.func56, Tryz.ntmps56
 go_wp2_with (first | go_skip | refine aY3 ?_ | (refine aT3 ?_; clear F; intro W F) | refine aN3 ?_)
 (clear F; intro b2 W F; try simp only [Act.put, z6, z1, z2])
 go_wp2_with (first | go_skip | ((go_at_call 100); (with_reducible refine fr_call F (g1 _) ?_); (clear F; intro W F); (try dsimp only)) | ((go_at_call 101); (with_reducible refine fr_call F (g2 _) ?_); (clear F; intro W F); (try dsimp only)) | refine aY3 ?_ | (refine aT3 ?_; clear F; intro W F) | refine aN3 ?_)
 (clear F; intro b8 W F; try simp only [Act.put, z6, z1, z2])
 go_wp2_with (first | go_skip | ((go_at_call 102); (with_reducible refine fr_call F (g3 _) ?_); (clear F; intro W F); (try dsimp only)) | refine aY3 ?_ | (refine aT3 ?_; clear F; intro W F) | refine aN3 ?_)
 clear g1 g2 g3
 by_cases hn0 : n = 0
 ·have hb0 : b1 = [] := List.eq_nil_of_length_eq_zero (by rw [HX.out.2.2.2.1]; exact hn0)
  have hW := HW.out
  rw [if_pos hb0] at hW
  subst hW
  have t1 : decide (0 < (n : Int)) = false := decide_eq_false (by omega)
  have t2 : decide (0 < n) = false := decide_eq_false (by omega)
  obtain ⟨hXl, ⟨Y, c, hY, hc⟩, hS, hbl, ht, htl⟩ := HX.out
  have hSX : Sx = X := by
   rw [hS, ← ht, hb0, if_pos trim_nil]
  subst hSX
  subst hY
  go_loopw [10] (fun sv wr => sv = .string (bs (Y ++ [c])) ∧ Fr w wr [(b8, IC z, 29), (b2, ratC x a y b, 31)]) (fun _ _ => 0)
  case atStart => exact ⟨rfl, F⟩
  case round =>
   clear F
   obtain ⟨rfl, F⟩ := hrel
   obtain ⟨L, hL⟩ : ∃ L, Y.length = L := ⟨_, rfl⟩
   have hz := bs_size (Y ++ [c])
   rw [List.length_append, hL, List.length_singleton] at hz hXl
   obtain ⟨M, hM⟩ : ∃ M, L + 1 = M := ⟨_, rfl⟩
   rw [hM] at hz hXl
   have hlt : L < (bs (Y ++ [c])).size := by rw [hz]; omega
   have e1 := last_at hL hlt
   have t3 : ((c.toNat : Int) == 46) = false := by
    rw [beq_eq_false_iff_ne]
    intro h
    have := (isD_iff.1 hc).1
    omega
   have m2 : (M : Int) - 1 = (L : Int) := by omega
   have l0 : (0 : Int) ≤ (L : Int) := by omega
   have l1 : (L : Int) < (M : Int) := by omega
   have hL5 : L ≤ 100000 := by omega
   obtain ⟨w1, w2, -⟩ := wraps hL5
   clear hXl hL hM hc hS hbl ht htl HX hn0 hb0 hL5 hn9
   cases f
   ·have hr := HR.out
    rw [Bool.false_and, if_neg (by decide)] at hr
    subst hr
    go_wp2_with (first | go_skip | ((go_at_call 89); (with_reducible refine fr_call F (g5 _) ?_); (clear F; intro W F); (try dsimp only)) | refine aY3 ?_ | (refine aT3 ?_; clear F; intro W F) | refine aN3 ?_)
    (clear F; intro b11 W F; try simp only [Act.put, z6, z1, z2])
    go_wp2_with (first | go_skip | refine aY3 ?_ | (refine aT3 ?_; clear F; intro W F) | refine aN3 ?_)
    go_ret2
    exact ⟨rfl, F.below⟩
   ·cases ok
    ·have hr := HR.out
     rw [Bool.and_false, if_neg (by decide)] at hr
     subst hr
     go_wp2_with (first | go_skip | ((go_at_call 89); (with_reducible refine fr_call F (g5 _) ?_); (clear F; intro W F); (try dsimp only)) | refine aY3 ?_ | (refine aT3 ?_; clear F; intro W F) | refine aN3 ?_)
     (clear F; intro b11 W F; try simp only [Act.put, z6, z1, z2])
     go_wp2_with (first | go_skip | refine aY3 ?_ | (refine aT3 ?_; clear F; intro W F) | refine aN3 ?_)
     go_ret2
     exact ⟨rfl, F.below⟩
    ·have hr := HR.out
     rw [Bool.and_self, if_pos rfl] at hr
     subst hr
     go_wp2_with (first | go_skip | ((go_at_call 89); (with_reducible refine fr_call F (g5 _) ?_); (clear F; intro W F); (try dsimp only)) | refine aY3 ?_ | (refine aT3 ?_; clear F; intro W F) | refine aN3 ?_)
     (clear F; intro b11 W F; try simp only [Act.put, z6, z1, z2])
     go_wp2_with (first | go_skip | refine aY3 ?_ | (refine aT3 ?_; clear F; intro W F) | refine aN3 ?_)
     go_ret2
     exact ⟨rfl, F.below⟩
 ·have t1 : decide (0 < (n : Int)) = true := decide_eq_true (by omega)
  have t2 : decide (0 < n) = true := decide_eq_true (by omega)
  have hb0 : b1 ≠ [] := by
   intro h
   have := HX.out.2.2.2.1
   rw [h, List.length_nil] at this
   omega
  have hW := HW.out
  rw [if_neg hb0] at hW
  subst hW
  go_loopw [10] (fun sv wr => ∃ b' : List UInt8, sv = .string (bs (X ++ 46 :: b')) ∧ (b'.length ≤ 9 ∧ b'.all isD = true) ∧ Lib.trimRightB b' 48 = t ∧ Fr w wr [(b8, IC z, 29), (b2, ratC x a y b, 31)]) (fun sv _ => (strOf sv).size)
  case atStart => exact ⟨b1, rfl, ⟨by rw [HX.out.2.2.2.1]; exact hn9, HBD.out⟩, HX.out.2.2.2.2.1, F⟩
  case round =>
   clear F
   obtain ⟨b', rfl, ⟨hb9, hbd⟩, hbt, F⟩ := hrel
   obtain ⟨hXl, -, hS, -, -, -⟩ := HX.out
   have hYc : ∃ Y c, X ++ 46 :: b' = Y ++ [c] ∧ ((c = 46 ∧ t = [] ∧ Y = X) ∨ (c ≠ 46 ∧ c ≠ 48 ∧ t = b' ∧ t ≠ []) ∨ (c = 48 ∧ ∃ b2, Y = X ++ 46 :: b2 ∧ (b2.length ≤ 9 ∧ b2.all isD = true) ∧ Lib.trimRightB b2 48 = t)) := by
    rcases List.eq_nil_or_concat b' with rfl | ⟨b2, x, rfl⟩
    ·exact ⟨X, 46, rfl, .inl ⟨rfl, by rw [← hbt]; rfl, rfl⟩⟩
    ·rw [List.concat_eq_append] at hb9 hbd hbt ⊢
     rw [List.length_append, List.length_singleton] at hb9
     rw [List.all_append, Bool.and_eq_true] at hbd
     refine ⟨X ++ 46 :: b2, x, by rw [List.append_assoc]; rfl, ?_⟩
     rw [trim_snoc] at hbt
     by_cases hx : x = 48
     ·rw [if_pos hx] at hbt
      exact .inr (.inr ⟨hx, b2, rfl, ⟨by omega, hbd.1⟩, hbt⟩)
     ·rw [if_neg hx] at hbt
      refine .inr (.inl ⟨?_, hx, hbt.symm, by rw [← hbt]; simp⟩)
      rintro rfl
      exact absurd hbd.2 (by decide)
   obtain ⟨Y, c, hYY, hways⟩ := hYc
   have hYl : (Y ++ [c]).length ≤ 411 := by
    rw [← hYY, List.length_append, List.length_cons]
    omega
   rw [hYY]
   obtain ⟨L, hL⟩ : ∃ L, Y.length = L := ⟨_, rfl⟩
   have hz := bs_size (Y ++ [c])
   rw [List.length_append, hL, List.length_singleton] at hz hYl
   obtain ⟨M, hM⟩ : ∃ M, L + 1 = M := ⟨_, rfl⟩
   rw [hM] at hz hYl
   have hlt : L < (bs (Y ++ [c])).size := by rw [hz]; omega
   have e1 := last_at hL hlt
   have e2 := last_cut (x := c) hL
   have m2 : (M : Int) - 1 = (L : Int) := by omega
   have l0 : (0 : Int) ≤ (L : Int) := by omega
   have l1 : (L : Int) < (M : Int) := by omega
   have l2 : (L : Int) ≤ (M : Int) := by omega
   have hL5 : L ≤ 100000 := by omega
   rcases hways with ⟨hc, ht0, hYX⟩ | ⟨hc, hc2, htb, htn⟩ | ⟨hc, b2, hYX, hb2, hbt2⟩
   ·have t3 : ((c.toNat : Int) == 46) = true := by rw [hc]; rfl
    have t4 : ((c.toNat : Int) == 48) = false := by rw [hc]; rfl
    rw [if_pos ht0, ← hYX] at hS
    subst hS
    obtain ⟨w1, w2, -⟩ := wraps hL5
    clear hXl hL hM hc HX hb0 hL5 hn9 hYX ht0 hYl hb9 hbd hbt hYY hn0 HBD HW
    cases f
    ·have hr := HR.out
     rw [Bool.false_and, if_neg (by decide)] at hr
     subst hr
     go_wp2_with (first | go_skip | ((go_at_call 89); (with_reducible refine fr_call F (g5 _) ?_); (clear F; intro W F); (try dsimp only)) | refine aY3 ?_ | (refine aT3 ?_; clear F; intro W F) | refine aN3 ?_)
     (clear F; intro b11 W F; try simp only [Act.put, z6, z1, z2])
     go_wp2_with (first | go_skip | refine aY3 ?_ | (refine aT3 ?_; clear F; intro W F) | refine aN3 ?_)
     go_ret2
     exact ⟨rfl, F.below⟩
    ·cases ok
     ·have hr := HR.out
      rw [Bool.and_false, if_neg (by decide)] at hr
      subst hr
      go_wp2_with (first | go_skip | ((go_at_call 89); (with_reducible refine fr_call F (g5 _) ?_); (clear F; intro W F); (try dsimp only)) | refine aY3 ?_ | (refine aT3 ?_; clear F; intro W F) | refine aN3 ?_)
      (clear F; intro b11 W F; try simp only [Act.put, z6, z1, z2])
      go_wp2_with (first | go_skip | refine aY3 ?_ | (refine aT3 ?_; clear F; intro W F) | refine aN3 ?_)
      go_ret2
      exact ⟨rfl, F.below⟩
     ·have hr := HR.out
      rw [Bool.and_self, if_pos rfl] at hr
      subst hr
      go_wp2_with (first | go_skip | ((go_at_call 89); (with_reducible refine fr_call F (g5 _) ?_); (clear F; intro W F); (try dsimp only)) | refine aY3 ?_ | (refine aT3 ?_; clear F; intro W F) | refine aN3 ?_)
      (clear F; intro b11 W F; try simp only [Act.put, z6, z1, z2])
      go_wp2_with (first | go_skip | refine aY3 ?_ | (refine aT3 ?_; clear F; intro W F) | refine aN3 ?_)
      go_ret2
      exact ⟨rfl, F.below⟩
   ·have t3 : ((c.toNat : Int) == 46) = false := by
     rw [beq_eq_false_iff_ne]
     intro h
     exact hc (UInt8.toNat_inj.1 (show c.toNat = (46 : UInt8).toNat by rw [show UInt8.toNat 46 = 46 from rfl]; omega))
    have t4 : ((c.toNat : Int) == 48) = false := by
     rw [beq_eq_false_iff_ne]
     intro h
     exact hc2 (UInt8.toNat_inj.1 (show c.toNat = (48 : UInt8).toNat by rw [show UInt8.toNat 48 = 48 from rfl]; omega))
    rw [if_neg htn, htb, hYY] at hS
    subst hS
    obtain ⟨w1, w2, -⟩ := wraps hL5
    clear hXl hL hM hc hc2 HX hb0 hL5 hn9 htb htn hYl hb9 hbd hbt hYY hn0 HBD HW
    cases f
    ·have hr := HR.out
     rw [Bool.false_and, if_neg (by decide)] at hr
     subst hr
     go_wp2_with (first | go_skip | ((go_at_call 89); (with_reducible refine fr_call F (g5 _) ?_); (clear F; intro W F); (try dsimp only)) | refine aY3 ?_ | (refine aT3 ?_; clear F; intro W F) | refine aN3 ?_)
     (clear F; intro b11 W F; try simp only [Act.put, z6, z1, z2])
     go_wp2_with (first | go_skip | refine aY3 ?_ | (refine aT3 ?_; clear F; intro W F) | refine aN3 ?_)
     go_ret2
     exact ⟨rfl, F.below⟩
    ·cases ok
     ·have hr := HR.out
      rw [Bool.and_false, if_neg (by decide)] at hr
      subst hr
      go_wp2_with (first | go_skip | ((go_at_call 89); (with_reducible refine fr_call F (g5 _) ?_); (clear F; intro W F); (try dsimp only)) | refine aY3 ?_ | (refine aT3 ?_; clear F; intro W F) | refine aN3 ?_)
      (clear F; intro b11 W F; try simp only [Act.put, z6, z1, z2])
      go_wp2_with (first | go_skip | refine aY3 ?_ | (refine aT3 ?_; clear F; intro W F) | refine aN3 ?_)
      go_ret2
      exact ⟨rfl, F.below⟩
     ·have hr := HR.out
      rw [Bool.and_self, if_pos rfl] at hr
      subst hr
      go_wp2_with (first | go_skip | ((go_at_call 89); (with_reducible refine fr_call F (g5 _) ?_); (clear F; intro W F); (try dsimp only)) | refine aY3 ?_ | (refine aT3 ?_; clear F; intro W F) | refine aN3 ?_)
      (clear F; intro b11 W F; try simp only [Act.put, z6, z1, z2])
      go_wp2_with (first | go_skip | refine aY3 ?_ | (refine aT3 ?_; clear F; intro W F) | refine aN3 ?_)
      go_ret2
      exact ⟨rfl, F.below⟩
   ·have t4 : ((c.toNat : Int) == 48) = true := by rw [hc]; rfl
    have HN := Lib.hid (And.intro hYX (And.intro hb2 (And.intro hbt2 (show (bs Y).size < (bs (Y ++ [c])).size by rw [hz, bs_size, hL]; omega))))
    obtain ⟨w1, w2, -⟩ := wraps hL5
    clear hXl hL hM hc HX hb0 hL5 hn9 hYX hYl hb9 hbd hbt hYY hn0 HBD HW hS hb2 hbt2
    go_wp2_with fail
    go_roundw
    case rel => exact ⟨b2, by first | rw [HN.out.1] | rw [← HN.out.1], HN.out.2.1, HN.out.2.2.1, F⟩
    case measure => exact HN.out.2.2.2
end
end Go.Proofs.YteaahhokaffmdaaGreatDoor
