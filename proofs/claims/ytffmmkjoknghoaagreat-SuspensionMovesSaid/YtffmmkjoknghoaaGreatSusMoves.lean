/-
  The law SuspensionMoves over a tape.
-/
import Derived.Test.YtffmmkjoknghoaaGreatSusLaws
namespace Go.Proofs.YtffmmkjoknghoaaGreat
open Go.RowKit
set_option linter.unusedVariables false
set_option maxHeartbeats 8000000
set_option maxRecDepth 100000 in
theorem suspensionMoves_any (A0 : Option Addr) (L0 : List Int) (cap : Nat) (k0 d0 : Int) (w : World) (hL : IntsAt w A0 L0) :
    Calls Tryz.prog 3 #[.slice A0 L0.length cap, .int .i64 k0, .int .i64 d0] w (RetB (.bool true) w) := by
  obtain ⟨k, hk, hk0, hk1⟩ := modI_lt k0 20 (by omega)
  obtain ⟨d, hd, hd0, hd1⟩ := modI_lt d0 70 (by omega)
  have HKE := Lib.hid hk
  have HDE := Lib.hid hd
  clear hk hd
  go_enter Tryz.func3, Tryz.ntmps3
  go_wp2_with fail
  refine (snew_any A0 L0 cap _ hL).mono ?_
  rintro e w1 ⟨rfl, ht1, hb1⟩
  go_wp2_with fail
  refine (ssched_any _ _ _ ht1).mono ?_
  rintro e w2 ⟨s, rfl, hsok, ht2, ho2⟩
  have hB2 := lawOnly2 hb1 ho2
  clear hb1 ho2 ht1 hL
  go_wp2_with fail
  refine (splace_any _ _ _ ht2).mono ?_
  rintro e w3 ⟨z, A, kz, c, Ac, kc, rfl, hz, hc, hzA, hcA, hzok, hcok, hcall, hc3, ht3, ho3⟩
  have hB3 := lawOnly2 hB2 ho3
  have hl2 := ht2.lt
  clear hB2 ho3 ht2
  go_wp2_with fail
  refine (ssus_any _ _ _ ht3).mono ?_
  rintro e w4 ⟨l, Al, cl, kn, rfl, hl6, hkn, hmade, hsu, hAl, ht4, ho4⟩
  have hB4 := lawOnly2 hB3 ho4
  have hz4 := hz.only (fun ad e => by have := hzA ad e; omega) ho4
  have hc4 := hc.only (fun ad e => by have := hcA ad e; omega) ho4
  have hS := LS.new s kz kc (o1 := #[.int .i64 0, .int .i64 0, .int .i64 0, .int .i64 0, .int .i64 0]) (o2 := #[.string ⟨#[]⟩, .int .i64 0, .slice none 0 0, .string ⟨#[]⟩, .bool false, .bool false, .bool false, .bool false, .bool false, .bool false, .bool false, .slice none 0 0]) hz4 hc4 hsu hB4
  have b1 : BlkAt ((w4.alloc (.cells #[.int .i64 0, .int .i64 0, .int .i64 0, .int .i64 0, .int .i64 0] 26)).alloc (.cells #[.string ⟨#[]⟩, .int .i64 0, .slice none 0 0, .string ⟨#[]⟩, .bool false, .bool false, .bool false, .bool false, .bool false, .bool false, .bool false, .slice none 0 0] 35)) w4.heap.size (sV ⟨0, 0, 0, 0, 0⟩) 26 := (BlkAt.new _ _ _).al _
  have b2 : BlkAt (((w4.alloc (.cells #[.int .i64 0, .int .i64 0, .int .i64 0, .int .i64 0, .int .i64 0] 26)).alloc (.cells #[.string ⟨#[]⟩, .int .i64 0, .slice none 0 0, .string ⟨#[]⟩, .bool false, .bool false, .bool false, .bool false, .bool false, .bool false, .bool false, .slice none 0 0] 35)).setRow w4.heap.size (sV s)) (w4.heap.size + 1) #[.string ⟨#[]⟩, .int .i64 0, .slice none 0 0, .string ⟨#[]⟩, .bool false, .bool false, .bool false, .bool false, .bool false, .bool false, .bool false, .slice none 0 0] 35 := (BlkAt.newAt _ _ _ (by simp)).setFar _ (by omega)
  obtain ⟨nx, hnx⟩ := nx_ex s z c
  obtain ⟨-, v, er, hmv, hMR, hP⟩ := made_mov hmade hl6 hsok hzok hcok hcall (by omega) hnx (k := 1 + k) (d := d) (by omega) (by omega) hd0 (by omega) alpha_nm
  have HS := Lib.hid hS
  have HN := Lib.hid hnx
  have HMR := Lib.hid hMR
  have HMD := Lib.hid hmade
  have HAE := Lib.hid (aErr_ok hsok hzok hcok)
  clear hS hz hc hzA hcA hB3 hB4 ho4 ht3 ht4 hsok hzok hcok hz4 hc4 hnx hMR hmv hmade hsu hAl hcall
  go_wp2_with (first | ((with_reducible refine wpl_store rfl 26 _ _ rfl _ (sV s) ?_ ?_ b1 (rowS _) ?_ ?_); exact rfl; exact rfl; exact rfl) | ((with_reducible refine wpl_store rfl 35 _ _ rfl _ (pV z A kz c Ac kc) ?_ ?_ b2 (rowP ..) ?_ ?_); exact rfl; exact rfl; exact rfl))
  clear b1 b2
  refine (smod_any k0 20 _ (by omega)).mono ?_
  rintro e w5 ⟨rfl, rfl⟩
  rw [HKE.out]
  go_wp2_with fail
  refine (smod_any d0 70 _ (by omega)).mono ?_
  rintro e w5 ⟨rfl, rfl⟩
  rw [HDE.out]
  generalize ((((w4.alloc _).alloc _).setRow _ _).setRow _ _) = w5 at *
  have hg1 : w4.heap.size < w5.heap.size := by have := HS.out.sb.lt; omega
  generalize w4.heap.size + 1 = gp at *
  generalize w4.heap.size = gs at *
  go_wp2_with (first | ((with_reducible refine wpl_load rfl 26 _ rfl _ ?_ HS.out.sb (rowS _) ?_); exact rfl) | ((with_reducible refine wpl_load rfl 35 _ rfl _ ?_ HS.out.pb (rowP ..) ?_); exact rfl))
  refine (sMoveR HN.out HMR.out alpha_sz A kz Ac kc Al cl _ HS.out.za HS.out.ca HS.out.su).mono ?_
  rintro e1 w6 ⟨rfl, hb⟩
  have HS6 := Lib.hid (HS.out.next hb)
  clear hb HS
  go_wp2_with (first | ((with_reducible refine wpl_load rfl 26 _ rfl _ ?_ HS6.out.sb (rowS _) ?_); exact rfl) | ((with_reducible refine wpl_load rfl 35 _ rfl _ ?_ HS6.out.pb (rowP ..) ?_); exact rfl))
  refine (rMoveR HN.out HMR.out alpha_sz A kz Ac kc Al cl _ HS6.out.za HS6.out.ca HS6.out.su).mono ?_
  rintro e2 w7 ⟨rfl, hb⟩
  have HS7 := Lib.hid (HS6.out.next hb)
  clear hb HS6
  have hA := act_made HMD.out hl6 (k := 1 + k) (d := d) (by omega) (by omega) hd0 (by omega) alpha_nm
  obtain ⟨ac, hac⟩ : ∃ b, actB (visS l (1 + k) alpha) d = b := ⟨_, rfl⟩
  rw [hac] at hA
  have HA := Lib.hid hA
  have hck1 := fun w h => sChk_any oname_is l Al cl w h
  rw [susErr_ok (HMD.out.susB hl6)] at hck1
  clear hA hac hP
  go_wp2_with fail
  refine (sAct_is HA.out alpha_sz Al cl _ HS7.out.su).mono ?_
  rintro e w8 ⟨rfl, hb⟩
  have HS8 := Lib.hid (HS7.out.next hb)
  clear hb HS7
  go_wp2_with fail
  refine (rAct_is HA.out alpha_sz Al cl _ HS8.out.su).mono ?_
  rintro e w9 ⟨rfl, hb⟩
  have HS9 := Lib.hid (HS8.out.next hb)
  clear hb HS8
  go_wp2_with fail
  refine (hck1 _ HS9.out.su).mono ?_
  rintro e w10 ⟨rfl, hb⟩
  have HS10 := Lib.hid (HS9.out.next hb)
  clear hb HS9
  go_wp2_with fail
  refine (awake28_any _).mono ?_
  rintro e3 w11 ⟨rfl, hb⟩
  have HB := Lib.hid (bnext HS10.out.below hb)
  clear hb
  go_wp2_with fail
  go_ret
  exact ⟨rfl, HB.out⟩
end Go.Proofs.YtffmmkjoknghoaaGreat
