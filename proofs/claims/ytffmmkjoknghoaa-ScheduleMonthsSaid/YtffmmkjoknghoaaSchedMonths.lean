/-
  The laws of schedules over a tape: ScheduleMonths.
-/
import Derived.Test.YtffmmkjoknghoaaSchedMon
namespace Go.Proofs.Ytffmmkjoknghoaa
open Go.RowKit
set_option linter.unusedVariables false
set_option maxHeartbeats 8000000
theorem spl_cal (z : ZN) (A : Option Addr) (k : Nat) (c0 : CN) (A0 : Option Addr) (k0 : Nat) (c : CN) (Ac : Option Addr) (kc : Nat) : spl (pV z A k c0 A0 k0) 3 (cV c Ac kc).toList = pV z A k c Ac kc := by
  simp [spl, pV, cV]
set_option maxRecDepth 100000 in
theorem scheduleMonths_any (A0 : Option Addr) (L : List Int) (cap : Nat) (w : World) (hL : IntsAt w A0 L) :
    Calls Try.prog 3 #[.slice A0 L.length cap] w (RetB (.bool true) w) := by
  obtain ⟨i0, hi0, hz0, hz1, hz2⟩ := info_parts infoInt
  have ht0 := tape_start (cap := cap) hL
  have hw0 := bal0 w (.cells #[.slice A0 L.length cap, .int .i64 0] 25)
  go_enter Try.func3, Try.ntmps3
  go_wp2_with fail
  refine (plainV _).mono ?_
  rintro e w1 ⟨rfl, hb1⟩
  have ht1 := ht0.below hb1
  have hB1 := bnext hw0 hb1
  have hl1 := ht1.lt
  have hp1 := BlkAt.new w1 (pV zP none 0 cP none 0) 33
  have ht2 := ht1.alloc (.cells (pV zP none 0 cP none 0) 33)
  have hB2 := bal hB1 (.cells (pV zP none 0 cP none 0) 33)
  clear hw0 ht0 hL hb1 ht1 hB1
  go_wp2_with ((with_reducible refine wpl_store_new rfl 33 _ _ rfl (pV zP none 0 cP none 0) ?_ ?_ (rowP ..) ?_ ?_); exact rfl; exact rfl; exact rfl)
  refine (mkCal_any 9497 w.heap.size w.heap.size 90000 _ (ht2.less (by omega)) (by omega) (by omega)).mono ?_
  rintro e w2 ⟨c, Ac, kc, rfl, hc, hcA, hcok, hc20, ht3, ho3⟩
  have hp2 := hp1.only ho3 (by omega)
  have hB3 := lawOnly2 hB2 ho3
  have hs2 := ho3.size
  simp at hs2 hcA
  have hp3 : BlkAt (w2.setRow w1.heap.size (spl (pV zP none 0 cP none 0) 3 (cV c Ac kc).toList)) w1.heap.size (pV zP none 0 c Ac kc) 33 := (hp2.set _).is (spl_cal ..)
  have ht4 := ht3.setRow (g := w1.heap.size) (by omega) (by omega) (spl (pV zP none 0 cP none 0) 3 (cV c Ac kc).toList)
  have hc4 := hc.setRow (R := w1.heap.size) (fun ad e => by have := hcA ad e; omega) (spl (pV zP none 0 cP none 0) 3 (cV c Ac kc).toList)
  have hB4 := Below.setRow hB3 (g := w1.heap.size) (by omega) (spl (pV zP none 0 cP none 0) 3 (cV c Ac kc).toList)
  have hcf : ∀ ad, Ac = some ad → ad.block ≠ w.heap.size := fun ad e => by have := hcA ad e; omega
  have HCO := Lib.hid hcok
  have HCF := Lib.hid hcf
  have hPb : w1.heap.size ≠ w.heap.size := by omega
  clear hp1 ht2 hB2 hc hcA hcok ht3 ho3 hB3 hcf
  go_wp2_with ((with_reducible refine wpl_store_mid rfl 31 _ _ rfl _ 3 (cV c Ac kc) ?_ ?_ hp2 (rowC ..) ?_ ?_); exact rfl; exact rfl; exact (Nat.le_of_ble_eq_true rfl))
  clear hp2
  have hsz3 : (w2.setRow w1.heap.size (spl (pV zP none 0 cP none 0) 3 (cV c Ac kc).toList)).heap.size = w2.heap.size := setRow_size _ _ _
  generalize w2.setRow w1.heap.size _ = w3 at *
  have HSZ := Lib.hid hsz3
  clear hsz3
  refine (pick_new [1, 2, 5, 23, -1, -2, -23, 20, -20] rfl (N := 80000) (ht4.less (by omega)) (by decide) (by decide) rfl (by first | exact HSZ.out | rfl)).mono ?_
  rintro e w4 ⟨n, hn, rfl, ht5, ho5⟩
  have hn3 : n ≠ 0 ∧ -23 ≤ n ∧ n ≤ 23 := by simp at hn; omega
  obtain ⟨hna, hnb, hnc⟩ := hn3
  have hl5 := ht5.lt
  have hS : SPl w (w4.alloc (.cells (sV ⟨3, n, 0, 0, 0⟩) 38)) 80000 w4.heap.size w1.heap.size ⟨3, n, 0, 0, 0⟩ zP none 0 c Ac kc :=
    ⟨ht5.alloc _, BlkAt.new _ _ _, (hp3.only ho5 hPb).al _, zP_at _, (hc4.only HCF.out ho5).below (bal0 _ _), (fun ad e => by cases e), HCF.out, by omega, hPb, bal (lawOnly2 hB4 ho5) _⟩
  have HS := Lib.hid hS
  have HNA := Lib.hid hna
  clear hS ht4 hc4 hB4 hp3 ht5 ho5 hn hna
  go_wp2_with ((with_reducible refine wpl_store_new rfl 38 _ _ rfl (sV ⟨3, n, 0, 0, 0⟩) ?_ ?_ (rowS _) ?_ ?_); exact rfl; exact rfl; exact rfl)
  refine (near2_any 9497 200 w.heap.size w.heap.size 70000 _ (HS.out.tape.less (by omega)) (by omega) (by omega) (by omega) (by omega)).mono ?_
  rintro e w5 ⟨d0, hd1, hd2, hd3, hd4, rfl, ht6, ho6⟩
  have HP := Lib.hid (HS.out.only ht6 ho6)
  clear HS ht6 ho6
  obtain ⟨m1, m2, m3, m4, m5⟩ := mBounds hd3 hd4
  have MC := Lib.hid (civ_cv hd3 hd4)
  have MF := Lib.hid (mFrom_cv hd3 hd4)
  go_wp2_with fail
  refine (rcivil_is (.inl ⟨MC.out, rfl⟩) _).mono ?_
  rintro e w6 ⟨rfl, rfl⟩
  go_wp2_with fail
  refine (rfrom_is (.inl ⟨MF.out, rfl⟩) _).mono ?_
  rintro e w6 ⟨rfl, rfl⟩
  go_wp2_with fail
  refine (rend_is (v := mTo d0) (.inl ⟨_, _, _, MC.out, rfl, rfl⟩) _).mono ?_
  rintro e w6 ⟨rfl, rfl⟩
  obtain ⟨a, ha⟩ : ∃ a, a = mFrom d0 := ⟨_, rfl⟩
  obtain ⟨b, hb⟩ : ∃ b, b = mTo d0 := ⟨_, rfl⟩
  obtain ⟨i, hi⟩ : ∃ i, i = (monIdx n (cnt (biz c) (mFrom d0) (mTo d0 + 1))).toNat := ⟨_, rfl⟩
  have HM : Hid (∀ k : Nat, a + k ≤ b → ∃ v, DealsR ⟨3, n, 0, 0, 0⟩ zP c (a + k) v 0 ∧ (v = true → biz c (a + k) = true ∧ (ods (biz c) a k).length = i) ∧ (v = false → biz c (a + k) = true → (ods (biz c) a k).length ≠ i)) := Lib.hid (by
    subst ha hb hi
    exact fun k hk => month_round HCO.out HNA.out hnb hnc hd3 hd4 hk)
  have HE : Hid (∀ k : Nat, a + k = b + 1 → ((ods (biz c) a k).length = 0 → fnd (biz c) a i k = -1) ∧
    (0 < (ods (biz c) a k).length → 0 ≤ monIdx n (ods (biz c) a k).length ∧ (monIdx n (ods (biz c) a k).length).toNat < (ods (biz c) a k).length ∧ (ods (biz c) a k)[(monIdx n (ods (biz c) a k).length).toNat]? = some (fnd (biz c) a i k))) := Lib.hid (by
    subst ha hb hi
    exact fun k hk => month_end HNA.out hk)
  obtain ⟨q1, q2, q3, q4⟩ : 0 ≤ a ∧ a ≤ b ∧ b ≤ a + 30 ∧ b ≤ 73048 := by omega
  rw [← ha, ← hb]
  clear ha hb hi MC MF m1 m2 m3 m4 m5
  go_wp2_with fail
  go_loopw [16, 17, 18] (fun ov fv dv wr => ∃ k : Nat, a + k ≤ b + 1 ∧ dv = .int .i64 (a + k) ∧ fv = .int .i64 (fnd (biz c) a i k) ∧ OwnL w5 wr 3 1 ov (ods (biz c) a k).length ((ods (biz c) a k).map (.int .i64))) (fun _ _ dv _ => (b + 1 - intOf dv).toNat)
  case atStart => exact ⟨0, by omega, by go_num, rfl, OwnL.start ..⟩
  case round =>
    obtain ⟨k, hk, rfl, rfl, hO⟩ := hrel
    have HU := Lib.hid (HP.out.next hO.below)
    have HO := Lib.hid hO
    have hol : (ods (biz c) a k).length ≤ 100000 := by
      have := ods_le (biz c) a k
      omega
    clear hO
    by_cases hkb : a + k ≤ b
    · obtain ⟨v, r, hv1, hv2⟩ := HM.out k hkb
      have R := Lib.hid r
      clear r
      cases hbz : biz c (a + k)
      · have hvf : v = false := by
          cases v
          · rfl
          · have := (hv1 rfl).1
            rw [hbz] at this
            cases this
        subst hvf
        have hop := open_is hbz Ac kc
        have HN := Lib.hid hbz
        clear hv1 hv2 hbz
        go_wp2_with (first
          | ((with_reducible refine wpl_load rfl 38 _ rfl _ ?_ HU.out.sb (rowS _) ?_); exact rfl)
          | ((with_reducible refine wpl_load rfl 33 _ rfl _ ?_ HU.out.pb (rowP ..) ?_); exact rfl))
        refine (sDealsR 0 kc R.out HU.out.za HU.out.ca).mono ?_
        rintro e w7 ⟨rfl, hb7⟩
        have HW := Lib.hid (HU.out.next hb7)
        have HO7 := Lib.hid (HO.out.next hb7)
        clear HU HO hb7
        go_wp2_with ((with_reducible refine wpl_load_mid rfl 31 _ rfl _ 3 ?_ HW.out.pb ?_ (rowC c Ac kc) ?_); exact rfl; exact rfl)
        refine (hop _ HW.out.ca HCO.out (by omega) (by omega)).mono ?_
        rintro e w8 ⟨rfl, hb8⟩
        have HO8 := Lib.hid (HO7.out.next hb8)
        clear HW HO7 hb8
        go_wp2_with fail
        go_roundw
        case rel => exact ⟨k + 1, by omega, by go_num, by rw [fnd_no HN.out], HO8.out.eqv' (by rw [ods_no HN.out]) (by rw [ods_no HN.out])⟩
        case measure => simp [intOf]; omega
      · have hop := open_is hbz Ac kc
        have BZ := Lib.hid hbz
        cases v
        · have NE := Lib.hid (hv2 rfl hbz)
          clear hv1 hv2 hbz
          go_wp2_with (first
            | ((with_reducible refine wpl_load rfl 38 _ rfl _ ?_ HU.out.sb (rowS _) ?_); exact rfl)
            | ((with_reducible refine wpl_load rfl 33 _ rfl _ ?_ HU.out.pb (rowP ..) ?_); exact rfl))
          refine (sDealsR 0 kc R.out HU.out.za HU.out.ca).mono ?_
          rintro e w7 ⟨rfl, hb7⟩
          have HW := Lib.hid (HU.out.next hb7)
          have HO7 := Lib.hid (HO.out.next hb7)
          clear HU HO hb7
          go_wp2_with ((with_reducible refine wpl_load_mid rfl 31 _ rfl _ 3 ?_ HW.out.pb ?_ (rowC c Ac kc) ?_); exact rfl; exact rfl)
          refine (hop _ HW.out.ca HCO.out (by omega) (by omega)).mono ?_
          rintro e w8 ⟨rfl, hb8⟩
          have HO8 := Lib.hid (HO7.out.next hb8)
          clear HW HO7 hb8
          go_wp2_with (at_builtin; refine wpl_push elInt rfl _ _ rfl HO8.out rfl #[.int .i64 (a + k)] rfl rfl rfl (by omega) (by decide) ?_; intro v' w' hO' hg)
          have HO9 := Lib.hid hO'
          clear hO' hg
          go_wp2_with fail
          go_roundw
          case rel => exact ⟨k + 1, by omega, by go_num, by rw [fnd_other NE.out], HO9.out.eqv' (by rw [ods_yes BZ.out]; simp) (by rw [ods_yes BZ.out]; simp)⟩
          case measure => simp [intOf]; omega
        · have HI := Lib.hid (fnd_hit (hv1 rfl).2 hbz)
          clear hv1 hv2 hbz
          rw [HI.out.1]
          go_wp2_with (first
            | ((with_reducible refine wpl_load rfl 38 _ rfl _ ?_ HU.out.sb (rowS _) ?_); exact rfl)
            | ((with_reducible refine wpl_load rfl 33 _ rfl _ ?_ HU.out.pb (rowP ..) ?_); exact rfl))
          refine (sDealsR 0 kc R.out HU.out.za HU.out.ca).mono ?_
          rintro e w7 ⟨rfl, hb7⟩
          have HW := Lib.hid (HU.out.next hb7)
          have HO7 := Lib.hid (HO.out.next hb7)
          clear HU HO hb7
          go_wp2_with ((with_reducible refine wpl_load_mid rfl 31 _ rfl _ 3 ?_ HW.out.pb ?_ (rowC c Ac kc) ?_); exact rfl; exact rfl)
          refine (hop _ HW.out.ca HCO.out (by omega) (by omega)).mono ?_
          rintro e w8 ⟨rfl, hb8⟩
          have HO8 := Lib.hid (HO7.out.next hb8)
          clear HW HO7 hb8
          go_wp2_with (at_builtin; refine wpl_push elInt rfl _ _ rfl HO8.out rfl #[.int .i64 (a + k)] rfl rfl rfl (by omega) (by decide) ?_; intro v' w' hO' hg)
          have HO9 := Lib.hid hO'
          clear hO' hg
          go_wp2_with fail
          go_roundw
          case rel => exact ⟨k + 1, by omega, by go_num, by rw [HI.out.2], HO9.out.eqv' (by rw [ods_yes BZ.out]; simp) (by rw [ods_yes BZ.out]; simp)⟩
          case measure => simp [intOf]; omega
    · have hke : a + k = b + 1 := by omega
      obtain ⟨hE1, hE2⟩ := HE.out k hke
      have HB := Lib.hid HU.out.below
      clear HM HE HU
      obtain ⟨f, hf⟩ : ∃ f, fnd (biz c) a i k = f := ⟨_, rfl⟩
      obtain ⟨xs, hxs⟩ : ∃ xs, ods (biz c) a k = xs := ⟨_, rfl⟩
      have hol2 := hol
      rw [hxs] at hol2
      rw [hxs] at hE1 hE2 HO
      rw [hf] at hE1 hE2
      rw [hf]
      clear hf hxs
      obtain ⟨Ao, co, rfl, hrd⟩ := HO.out.read
      clear HO
      cases xs with
      | nil =>
        have e0 : f = -1 := hE1 rfl
        subst e0
        clear hE1 hE2 hrd
        go_wp2_with fail
        refine (known9_any _).mono ?_
        rintro e w11 ⟨rfl, hb11⟩
        have HB2 := Lib.hid (bnext HB.out hb11)
        clear hb11
        go_wp2_with fail
        go_ret
        exact ⟨rfl, HB2.out⟩
      | cons x0 xt =>
        obtain ⟨e1, e2, e3⟩ := hE2 (by simp)
        obtain ⟨T, hT⟩ : ∃ T, (x0 :: xt).length = T := ⟨_, rfl⟩
        have hTp : 0 < T := by rw [← hT]; simp
        rw [hT] at e1 e2 e3
        obtain ⟨j, hj⟩ : ∃ j : Nat, monIdx n T = (j : Int) := ⟨(monIdx n T).toNat, by omega⟩
        rw [hj] at e2 e3
        have hjT : j < T := by omega
        obtain ⟨g, rfl, hg, hcell⟩ := hrd j (.int .i64 f) (by rw [List.getElem?_map, show (x0 :: xt)[j]? = some f from e3]; rfl)
        have hT1 : T ≤ 100000 := by rw [← hT]; exact hol2
        rw [hT]
        have hT2 : ((T : Int) == 0) = false := beq_eq_false_iff_ne.2 (by omega)
        have HC := Lib.hid hcell
        have HG := Lib.hid hg
        clear hE1 hE2 hrd hT e1 e2 e3 hcell hg
        by_cases hn : n < 0
        · rw [monIdx_neg hn] at hj
          go_wp2_with fail
          refine (known9_any _).mono ?_
          rintro e w11 ⟨rfl, hb11⟩
          have HB2 := Lib.hid (bnext HB.out hb11)
          have hc11 := (hb11.cell (p := ⟨g, j, none⟩) HG.out).trans HC.out
          clear hb11 hj HC
          go_wp2_with fail
          go_ret
          exact ⟨rfl, HB2.out⟩
        · rw [monIdx_pos hn] at hj
          go_wp2_with fail
          refine (known9_any _).mono ?_
          rintro e w11 ⟨rfl, hb11⟩
          have HB2 := Lib.hid (bnext HB.out hb11)
          have hc11 := (hb11.cell (p := ⟨g, j, none⟩) HG.out).trans HC.out
          clear hb11 hj HC
          go_wp2_with fail
          go_ret
          exact ⟨rfl, HB2.out⟩
end Go.Proofs.Ytffmmkjoknghoaa
