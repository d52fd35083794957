/-
  The law SuspensionForgetsTheFuture over a tape.
-/
import Derived.Test.YtffmmkjoknghoaaSusLaws
import Derived.Test.YtffmmkjoknghoaaSchedMon
namespace Go.Proofs.Ytffmmkjoknghoaa
open Go.RowKit
set_option linter.unusedVariables false
set_option maxHeartbeats 8000000
theorem kept_yes {l : List SU} {i : Nat} {x : SU} {k : Int} (h : l[i]? = some x) (hk : x.known ≤ k) : kept (l.take (i + 1)) k = kept (l.take i) k ++ [x] := by
  rw [take_next h]
  simp [kept, hk]
theorem kept_no {l : List SU} {i : Nat} {x : SU} {k : Int} (h : l[i]? = some x) (hk : ¬x.known ≤ k) : kept (l.take (i + 1)) k = kept (l.take i) k := by
  rw [take_next h]
  simp [kept, hk]
theorem made_kept {L : List SU} {kn : Int} (hM : MadeS L kn) (hl : L.length ≤ 6) {s : SC} {z : ZN} {c : CN} (hs : s.ok = true) (hz : z.ok = true) (hc : c.ok = true) {nx : Int → Int × Int} {k d v e : Int} (hkn : kn ≤ 1000) (hd0 : 0 ≤ d) (hd1 : d ≤ 69)
    (hm : mov nx (visS L k alpha) d = (v, e)) : MovR (kept L k) 1000 alpha s z c nx d v e := by
  obtain ⟨n, h1, h2⟩ := visS_kept (hM.susB hl) k 1000 (fun x hx => by have := hM.known x hx; omega) alpha
  rw [h1]
  exact .inr (.inr (.inr (.inr ⟨.inr (.inr (.inr (.inr ⟨susB_take (hM.susB hl) n, (knB_iff _).2 (by omega), alpha_nm, (dayB_iff d).2 (by omega), rfl⟩))), hz, hc, hs, by rw [← h2]; exact hm⟩)))
theorem made_gamma {L : List SU} {kn : Int} (hM : MadeS L kn) (hl : L.length ≤ 6) {s : SC} {z : ZN} {c : CN} (hs : s.ok = true) (hz : z.ok = true) (hc : c.ok = true) {nx : Int → Int × Int} {k d : Int} (hk0 : 1 ≤ k) (hk1 : k ≤ 1000) (hd0 : 0 ≤ d) (hd1 : d ≤ 69)
    (hnz : (nx d).2 = 0) : MovR L k gammaB s z c nx d (nx d).1 0 := by
  refine .inr (.inr (.inr (.inr ⟨.inr (.inr (.inr (.inr ⟨hM.susB hl, (knB_iff _).2 (by omega), gamma_nm, (dayB_iff d).2 (by omega), rfl⟩))), hz, hc, hs, ?_⟩)))
  rw [visS_none (fun x hx => (hM.each x hx).fund) k]
  exact mov_nil (by omega) hnz
set_option maxRecDepth 100000 in
theorem suspensionForgetsTheFuture_any (A0 : Option Addr) (L0 : List Int) (cap : Nat) (k0 d0 : Int) (w : World) (hL : IntsAt w A0 L0) :
    Calls Try.prog 5 #[.slice A0 L0.length cap, .int .i64 k0, .int .i64 d0] w (RetB (.bool true) w) := by
  obtain ⟨k, hk, hk0, hk1⟩ := modI_lt k0 12 (by omega)
  obtain ⟨d, hd, hd0, hd1⟩ := modI_lt d0 70 (by omega)
  have HKE := Lib.hid hk
  have HDE := Lib.hid hd
  clear hk hd
  go_enter Try.func5, Try.ntmps5
  go_wp2_with fail
  refine (snew_any A0 L0 cap _ hL).mono ?_
  rintro e w1 ⟨rfl, ht1, hb1⟩
  go_wp2_with fail
  refine (ssched_any _ _ _ ht1).mono ?_
  rintro e w2 ⟨s, rfl, hsok, ht2, ho2⟩
  have hB2 := lawOnly2 hb1 ho2
  clear hb1 ho2 ht1 hL
  go_wp2_with fail
  refine (splace_any _ _ _ ht2).mono ?_
  rintro e w3 ⟨z, A, kz, c, Ac, kc, rfl, hz, hc, hzA, hcA, hzok, hcok, hcall, hc3, ht3, ho3⟩
  have hB3 := lawOnly2 hB2 ho3
  have hl2 := ht2.lt
  clear hB2 ho3 ht2
  go_wp2_with fail
  refine (ssus_any _ _ _ ht3).mono ?_
  rintro e w4 ⟨l, Al, cl, kn, rfl, hl6, hkn, hmade, hsu, hAl, ht4, ho4⟩
  have hB4 := lawOnly2 hB3 ho4
  have hz4 := hz.only (fun ad e => by have := hzA ad e; omega) ho4
  have hc4 := hc.only (fun ad e => by have := hcA ad e; omega) ho4
  have hS := LS.new s kz kc (o1 := #[.int .i64 0, .int .i64 0, .int .i64 0, .int .i64 0, .int .i64 0]) (o2 := #[.string ⟨#[]⟩, .int .i64 0, .slice none 0 0, .string ⟨#[]⟩, .bool false, .bool false, .bool false, .bool false, .bool false, .bool false, .bool false, .slice none 0 0]) hz4 hc4 hsu hB4
  have b1 : BlkAt ((w4.alloc (.cells #[.int .i64 0, .int .i64 0, .int .i64 0, .int .i64 0, .int .i64 0] 38)).alloc (.cells #[.string ⟨#[]⟩, .int .i64 0, .slice none 0 0, .string ⟨#[]⟩, .bool false, .bool false, .bool false, .bool false, .bool false, .bool false, .bool false, .slice none 0 0] 33)) w4.heap.size (sV ⟨0, 0, 0, 0, 0⟩) 38 := (BlkAt.new _ _ _).al _
  have b2 : BlkAt (((w4.alloc (.cells #[.int .i64 0, .int .i64 0, .int .i64 0, .int .i64 0, .int .i64 0] 38)).alloc (.cells #[.string ⟨#[]⟩, .int .i64 0, .slice none 0 0, .string ⟨#[]⟩, .bool false, .bool false, .bool false, .bool false, .bool false, .bool false, .bool false, .slice none 0 0] 33)).setRow w4.heap.size (sV s)) (w4.heap.size + 1) #[.string ⟨#[]⟩, .int .i64 0, .slice none 0 0, .string ⟨#[]⟩, .bool false, .bool false, .bool false, .bool false, .bool false, .bool false, .bool false, .slice none 0 0] 33 := (BlkAt.newAt _ _ _ (by simp)).setFar _ (by omega)
  obtain ⟨nx, hnx⟩ := nx_ex s z c
  obtain ⟨hnz, v, er, hmv, hMR, -⟩ := made_mov hmade hl6 hsok hzok hcok hcall (by omega) hnx (k := 1 + k) (d := d) (by omega) (by omega) hd0 (by omega) alpha_nm
  have HMK := Lib.hid (made_kept hmade hl6 hsok hzok hcok (nx := nx) (k := 1 + k) (d := d) (by omega) hd0 (by omega) hmv)
  have HMG := Lib.hid (made_gamma hmade hl6 hsok hzok hcok (nx := nx) (k := 1 + k) (d := d) (by omega) (by omega) hd0 (by omega) hnz)
  have HNZ := Lib.hid hnz
  have HS := Lib.hid hS
  have HN := Lib.hid hnx
  have HMR := Lib.hid hMR
  have HMD := Lib.hid hmade
  have HAE := Lib.hid (aErr_ok hsok hzok hcok)
  clear hS hz hc hzA hcA hB3 hB4 ho4 ht3 ht4 hsok hzok hcok hz4 hc4 hnx hMR hmv hnz hmade hsu hAl hcall
  go_wp2_with (first | ((with_reducible refine wpl_store rfl 38 _ _ rfl _ (sV s) ?_ ?_ b1 (rowS _) ?_ ?_); exact rfl; exact rfl; exact rfl) | ((with_reducible refine wpl_store rfl 33 _ _ rfl _ (pV z A kz c Ac kc) ?_ ?_ b2 (rowP ..) ?_ ?_); exact rfl; exact rfl; exact rfl))
  clear b1 b2
  refine (smod_any k0 12 _ (by omega)).mono ?_
  rintro e w5 ⟨rfl, rfl⟩
  rw [HKE.out]
  go_wp2_with fail
  refine (smod_any d0 70 _ (by omega)).mono ?_
  rintro e w5 ⟨rfl, rfl⟩
  rw [HDE.out]
  generalize ((((w4.alloc _).alloc _).setRow _ _).setRow _ _) = w5 at *
  have hg1 : w4.heap.size < w5.heap.size := by have := HS.out.sb.lt; omega
  generalize w4.heap.size + 1 = gp at *
  generalize w4.heap.size = gs at *
  go_wp2_with fail
  go_loopw [11, 12] (fun kv iv wr => ∃ i : Nat, i ≤ l.length ∧ iv = .int .i64 i ∧ OwnL w5 wr 61 6 kv (kept (l.take i) (1 + k)).length (suL (kept (l.take i) (1 + k))).flatten) (fun _ iv _ => l.length - (intOf iv).toNat)
  case atStart => exact ⟨0, by omega, rfl, OwnL.start ..⟩
  case round =>
    obtain ⟨i, hi, rfl, hO⟩ := hrel
    have HO := Lib.hid hO
    have HL := Lib.hid (HS.out.next hO.below)
    clear hO
    by_cases hil : i < l.length
    · obtain ⟨b, o, x, rfl, hx, hb, hsm, q0, q1, q2, q3, q4, q5⟩ := HL.out.su.get hil
      have HX := Lib.hid hx
      clear hx hb hsm
      have hkl : (kept (l.take i) (1 + k)).length ≤ 100000 := by
        have := List.length_filter_le (fun x : SU => decide (x.known ≤ 1 + k)) (l.take i)
        unfold kept
        rw [List.length_take] at this
        omega
      by_cases hxk : x.known ≤ 1 + k
      · go_wp2_with (at_builtin; refine wpl_push elSus rfl _ _ rfl HO.out rfl #[.string x.key, .string x.fund, .int .i64 x.frm, .int .i64 x.til, .int .i64 x.known, .bool x.void] rfl rfl rfl hkl (by decide) ?_; intro v' w' hO' hg)
        have HO2 := Lib.hid hO'
        clear hO' hg q0 q1 q2 q3 q4 q5
        go_wp2_with fail
        go_roundw
        case rel => exact ⟨i + 1, by omega, by go_num, HO2.out.eqv' (by rw [kept_yes HX.out hxk, List.length_append]; rfl) (by rw [kept_yes HX.out hxk, ← suL_next]; rfl)⟩
        case measure => simp [intOf]; omega
      · go_wp2_with fail
        go_roundw
        case rel => exact ⟨i + 1, by omega, by go_num, HO.out.eqv' (by rw [kept_no HX.out hxk]) (by rw [kept_no HX.out hxk])⟩
        case measure => simp [intOf]; omega
    · have hie : l.take i = l := List.take_of_length_le (by omega)
      have HO2 := HO.out
      rw [hie] at HO2
      have hkl : (kept l (1 + k)).length ≤ 4096 := by
        have := List.length_filter_le (fun x : SU => decide (x.known ≤ 1 + k)) l
        unfold kept
        omega
      obtain ⟨A', cp', rfl, hSu'⟩ := HO2.sus (fun x hx => (HMD.out.each x ((List.mem_filter.1 hx).1)).small) hkl
      have HU' := Lib.hid hSu'
      clear hSu' HO2 hie HO HS
      go_wp2_with (first | ((with_reducible refine wpl_load rfl 38 _ rfl _ ?_ HL.out.sb (rowS _) ?_); exact rfl) | ((with_reducible refine wpl_load rfl 33 _ rfl _ ?_ HL.out.pb (rowP ..) ?_); exact rfl))
      refine (sMoveR HN.out HMR.out alpha_sz A kz Ac kc Al cl _ HL.out.za HL.out.ca HL.out.su).mono ?_
      rintro e1 w6 ⟨rfl, hb⟩
      have HS6 := Lib.hid (HL.out.next hb)
      have HU6 := Lib.hid (HU'.out.below hb)
      clear hb HL HU'
      go_wp2_with (first | ((with_reducible refine wpl_load rfl 38 _ rfl _ ?_ HS6.out.sb (rowS _) ?_); exact rfl) | ((with_reducible refine wpl_load rfl 33 _ rfl _ ?_ HS6.out.pb (rowP ..) ?_); exact rfl))
      refine (sMoveR HN.out HMK.out alpha_sz A kz Ac kc A' cp' _ HS6.out.za HS6.out.ca HU6.out).mono ?_
      rintro e2 w7 ⟨rfl, hb⟩
      have HS7 := Lib.hid (HS6.out.next hb)
      clear hb HS6 HU6
      go_wp2_with (first | ((with_reducible refine wpl_load rfl 38 _ rfl _ ?_ HS7.out.sb (rowS _) ?_); exact rfl) | ((with_reducible refine wpl_load rfl 33 _ rfl _ ?_ HS7.out.pb (rowP ..) ?_); exact rfl))
      refine (sMoveR HN.out HMG.out gamma_sz A kz Ac kc Al cl _ HS7.out.za HS7.out.ca HS7.out.su).mono ?_
      rintro e3 w8 ⟨rfl, hb⟩
      have HS8 := Lib.hid (HS7.out.next hb)
      clear hb HS7
      have HNR := HN.out d
      rw [HNZ.out] at HNR
      have HNR2 := Lib.hid HNR
      clear HNR
      go_wp2_with (first | ((with_reducible refine wpl_load rfl 38 _ rfl _ ?_ HS8.out.sb (rowS _) ?_); exact rfl) | ((with_reducible refine wpl_load rfl 33 _ rfl _ ?_ HS8.out.pb (rowP ..) ?_); exact rfl))
      refine (rNextR kz kc HNR2.out HS8.out.za HS8.out.ca).mono ?_
      rintro e4 w9 ⟨rfl, hb⟩
      have HS9 := Lib.hid (HS8.out.next hb)
      clear hb HS8
      go_wp2_with fail
      refine (awake28_any _).mono ?_
      rintro e5 w10 ⟨rfl, hb⟩
      have HB := Lib.hid (bnext HS9.out.below hb)
      clear hb
      go_wp2_with fail
      go_ret
      exact ⟨rfl, HB.out⟩
end Go.Proofs.Ytffmmkjoknghoaa
