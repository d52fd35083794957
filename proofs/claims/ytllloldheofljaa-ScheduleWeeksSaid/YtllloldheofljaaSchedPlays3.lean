/-
  The laws of schedules over a tape: ScheduleWeeks.
-/
import Derived.Test.YtllloldheofljaaSchedPlays
import Derived.Test.YtllloldheofljaaRowMid
namespace Go.Proofs.Ytllloldheofljaa
open Go.RowKit
set_option linter.unusedVariables false
set_option maxHeartbeats 8000000
theorem plainV (w : World) : Calls Try.prog 12 #[] w (RetB (.agg (pV zP none 0 cP none 0)) w) := plain_any w
theorem CAt.setRow_far {W : World} {c : CN} {A : Option Addr} (h : CAt W c A) {R : Nat} (hA : ∀ ad, A = some ad → ad.block ≠ R) (cs : Array Value) : CAt (W.setRow R cs) c A := h.setRow hA cs
/-- A weekly schedule at a day with its weekday. -/
theorem week_pack {c : CN} (hc : c.ok = true) (hl : c.hs.length ≤ 20) {n t : Int} (hn0 : 0 ≤ n) (hn1 : n ≤ 6) (h0 : 0 ≤ t) (h1 : t ≤ 20000) (ht : (t + 5) % 7 = n) :
    ∃ r, NextR ⟨2, n, 0, 0, 0⟩ zP c t r 0 ∧ fromP (biz c) t = some r ∧ NextR ⟨2, n, 0, 0, 0⟩ zP c r r 0 ∧ 0 ≤ r ∧ r ≤ 73048 := by
  have hs : SC.ok ⟨2, n, 0, 0, 0⟩ = true := mkOk (by simp [ruleOk]; omega) (by omega) (by omega) (by omega) (by omega) (by omega) (by omega)
  obtain ⟨y, y1, y2, y3⟩ := biz_near (CN.ok_all hc) hl (d := t) h0 (by omega)
  obtain ⟨r, hr, hr2⟩ := fromP_ex y1 (by omega) y3
  obtain ⟨r1, r2, r3, r4⟩ := fromP_spec hr
  have hd : dealB ⟨2, n, 0, 0, 0⟩ c r = true := dealB_of r3 (by simp [ruleB, week_deal ht h0 hr])
  have hf : fromP (dealB ⟨2, n, 0, 0, 0⟩ c) t = some r := fromP_is r1 r2 hd (fun e e1 e2 => dealB_no (r4 e e1 e2))
  exact ⟨r, next_ok hs zP_ok hc h0 (by omega) hf, hr, next_ok hs zP_ok hc (by omega) r2 (fromP_yes r2 hd), by omega, r2⟩
set_option maxRecDepth 100000 in
theorem scheduleWeeks_any (A0 : Option Addr) (L : List Int) (cap : Nat) (w : World) (hL : IntsAt w A0 L) :
    Calls Try.prog 5 #[.slice A0 L.length cap] w (RetB (.bool true) w) := by
  have ht0 := tape_start (cap := cap) hL
  have hw0 := bal0 w (.cells #[.slice A0 L.length cap, .int .i64 0] 25)
  go_enter Try.func5, Try.ntmps5
  go_wp2_with fail
  refine (plainV _).mono ?_
  rintro e w1 ⟨rfl, hb1⟩
  have ht1 := ht0.below hb1
  have hB1 := bnext hw0 hb1
  have hl1 := ht1.lt
  have hp1 := BlkAt.new w1 (pV zP none 0 cP none 0) 33
  have ht2 := ht1.alloc (.cells (pV zP none 0 cP none 0) 33)
  have hB2 := bal hB1 (.cells (pV zP none 0 cP none 0) 33)
  clear hw0 ht0 hL hb1 ht1 hB1
  go_wp2_with ((with_reducible refine wpl_store_new rfl 33 _ _ rfl (pV zP none 0 cP none 0) ?_ ?_ (rowP ..) ?_ ?_); exact rfl; exact rfl; exact rfl)
  refine (mkCal_any 9497 w.heap.size w.heap.size 90000 _ (ht2.less (by omega)) (by omega) (by omega)).mono ?_
  rintro e w2 ⟨c, Ac, kc, rfl, hc, hcA, hcok, hc20, ht3, ho3⟩
  have hp2 := hp1.only ho3 (by omega)
  have hB3 := lawOnly2 hB2 ho3
  have hs2 := ho3.size
  simp at hs2 hcA
  have hp3 : BlkAt (w2.setRow w1.heap.size (spl (pV zP none 0 cP none 0) 3 (cV c Ac kc).toList)) w1.heap.size (pV zP none 0 c Ac kc) 33 := (hp2.set _).is rfl
  have ht4 := ht3.setRow (g := w1.heap.size) (by omega) (by omega) (spl (pV zP none 0 cP none 0) 3 (cV c Ac kc).toList)
  have hc4 := hc.setRow (R := w1.heap.size) (fun ad e => by have := hcA ad e; omega) (spl (pV zP none 0 cP none 0) 3 (cV c Ac kc).toList)
  have hB4 := Below.setRow hB3 (g := w1.heap.size) (by omega) (spl (pV zP none 0 cP none 0) 3 (cV c Ac kc).toList)
  have hcf : ∀ ad, Ac = some ad → ad.block ≠ w.heap.size := fun ad e => by have := hcA ad e; omega
  have HCO := Lib.hid hcok
  have HCF := Lib.hid hcf
  have hPb : w1.heap.size ≠ w.heap.size := by omega
  clear hp1 ht2 hB2 hc hcA hcok ht3 ho3 hB3 hcf
  go_wp2_with ((with_reducible refine wpl_store_mid rfl 31 _ _ rfl _ 3 (cV c Ac kc) ?_ ?_ hp2 (rowC ..) ?_ ?_); exact rfl; exact rfl; exact (Nat.le_of_ble_eq_true rfl))
  clear hp2
  generalize w2.setRow w1.heap.size _ = w3 at *
  refine (next_in (n := 7) (N := 80000) (ht4.less (by omega)) (by omega) (by omega)).mono ?_
  rintro e w4 ⟨n, hn, rfl, ht5, ho5⟩
  have hl5 := ht5.lt
  have hS : SPl w (w4.alloc (.cells (sV ⟨2, n, 0, 0, 0⟩) 38)) 80000 w4.heap.size w1.heap.size ⟨2, n, 0, 0, 0⟩ zP none 0 c Ac kc :=
    ⟨ht5.alloc _, BlkAt.new _ _ _, (hp3.only ho5 hPb).al _, zP_at _, (hc4.only HCF.out ho5).below (bal0 _ _), (fun ad e => by cases e), HCF.out, by omega, hPb, bal (lawOnly2 hB4 ho5) _⟩
  have HS := Lib.hid hS
  clear hS ht4 hc4 hB4 hp3 ht5 ho5
  go_wp2_with ((with_reducible refine wpl_store_new rfl 38 _ _ rfl (sV ⟨2, (n : Int), 0, 0, 0⟩) ?_ ?_ (rowS _) ?_ ?_); exact rfl; exact rfl; exact rfl)
  refine (near2_any 9497 30 w.heap.size w.heap.size 70000 _ (HS.out.tape.less (by omega)) (by omega) (by omega) (by omega) (by omega)).mono ?_
  rintro e w5 ⟨d0, hd1, hd2, hd3, hd4, rfl, ht6, ho6⟩
  have HP := Lib.hid (HS.out.only ht6 ho6)
  have c1 : w5.cell? ⟨w4.heap.size, 1, none⟩ = some (.int .i64 (n : Int)) := HP.out.sb.cell rfl
  obtain ⟨tt, htt⟩ : ∃ tt, tt = d0 + ((n : Int) - (d0 + 5)) % 7 := ⟨_, rfl⟩
  have htt1 : d0 ≤ tt ∧ tt ≤ d0 + 6 ∧ (tt + 5) % 7 = n := by omega
  have hbef : ∀ x, d0 ≤ x → x < tt → (x + 5) % 7 ≠ n := fun x hx1 hx2 => by omega
  obtain ⟨r, r1, r2, r3, hr0, hr1⟩ := week_pack (t := tt) HCO.out hc20 (by omega) (by omega) (by omega) (by omega) htt1.2.2
  obtain ⟨hta, htb, htc⟩ := htt1
  have R1 := Lib.hid r1
  have R2 := Lib.hid r2
  have R3 := Lib.hid r3
  have HTC := Lib.hid htc
  have HBE := Lib.hid hbef
  clear HS ht6 ho6 r1 r2 r3 htt htc hbef
  go_wp2_with fail
  refine (rweek_is (.inl ⟨by omega, by omega, rfl, rfl⟩) _).mono ?_
  rintro e w6 ⟨rfl, rfl⟩
  go_wp2_with fail
  go_loop [6, 7] (fun dv wv => ∃ x : Int, d0 ≤ x ∧ x ≤ tt ∧ dv = .int .i64 x ∧ wv = .int .i64 ((x + 5) % 7)) (fun dv _ => (tt - intOf dv).toNat)
  case atStart => exact ⟨d0, by omega, by omega, rfl, rfl⟩
  case round =>
    obtain ⟨x, hx1, hx2, rfl, rfl⟩ := hrel
    by_cases hxt : x < tt
    · have hne : ((x + 5) % 7 != (n : Int)) = true := by rw [bne_iff_ne]; exact HBE.out x hx1 hxt
      go_wp2_with fail
      refine (rweek_is (n := x + 1) (.inl ⟨by omega, by omega, rfl, rfl⟩) _).mono ?_
      rintro e w7 ⟨rfl, rfl⟩
      go_wp2_with fail
      go_round
      case rel => exact ⟨x + 1, by omega, by omega, by go_num, rfl⟩
      case measure => simp [intOf]; omega
    · have hxe : x = tt := by omega
      subst hxe
      have hne : ((x + 5) % 7 != (n : Int)) = false := by rw [HTC.out]; simp
      go_wp2_with (first | ((with_reducible refine wpl_load rfl 38 _ rfl _ ?_ HP.out.sb (rowS _) ?_); exact rfl) | ((with_reducible refine wpl_load rfl 33 _ rfl _ ?_ HP.out.pb (rowP ..) ?_); exact rfl))
      refine (sNextR 0 kc R1.out HP.out.za HP.out.ca).mono ?_
      rintro e w8 ⟨rfl, hb8⟩
      have HQ := Lib.hid (HP.out.next hb8)
      clear HP hb8 R1 c1
      go_wp2_with ((with_reducible refine wpl_load_mid rfl 31 _ rfl _ 3 ?_ HQ.out.pb ?_ (rowC c Ac kc) ?_); exact rfl; exact rfl)
      refine (radd_zero R2.out Ac kc _ HQ.out.ca HCO.out (by omega) (by omega)).mono ?_
      rintro e w9 ⟨rfl, hb9⟩
      have HR := Lib.hid (HQ.out.next hb9)
      clear HQ hb9 R2
      go_wp2_with (first | ((with_reducible refine wpl_load rfl 38 _ rfl _ ?_ HR.out.sb (rowS _) ?_); exact rfl) | ((with_reducible refine wpl_load rfl 33 _ rfl _ ?_ HR.out.pb (rowP ..) ?_); exact rfl))
      refine (sNextR 0 kc R3.out HR.out.za HR.out.ca).mono ?_
      rintro e w10 ⟨rfl, hb10⟩
      have HU := Lib.hid (HR.out.next hb10)
      clear HR hb10 R3
      go_wp2_with fail
      refine (known9_any _).mono ?_
      rintro e w11 ⟨rfl, hb11⟩
      go_wp2_with fail
      go_ret
      exact ⟨rfl, bnext HU.out.below hb11⟩
end Go.Proofs.Ytllloldheofljaa
