/-
  The laws of suspensions over a tape.
-/
import Derived.Test.YtffmmkjoknghoaaScene3
import Derived.Test.YtffmmkjoknghoaaScene4
import Derived.Test.YtffmmkjoknghoaaSusPlain2
import Derived.Test.YtffmmkjoknghoaaSusAwake
import Derived.Test.YtffmmkjoknghoaaSchedPlays
namespace Go.Proofs.Ytffmmkjoknghoaa
open Go.RowKit
set_option linter.unusedVariables false
set_option maxHeartbeats 8000000
/-- A schedule, a place and suspensions, as a law holds them. -/
structure LS (w W : World) (gs gp : Nat) (s : SC) (z : ZN) (A : Option Addr) (kz : Nat) (c : CN) (Ac : Option Addr) (kc : Nat) (l : List SU) (Al : Option Addr) : Prop where
  sb : BlkAt W gs (sV s) 38
  pb : BlkAt W gp (pV z A kz c Ac kc) 33
  za : ZAt W z A
  ca : CAt W c Ac
  su : SuAt W Al l
  below : Below w.heap.size w W
section
variable {w W W' : World} {gs gp : Nat} {s : SC} {z : ZN} {A : Option Addr} {kz : Nat} {c : CN} {Ac : Option Addr} {kc : Nat} {l : List SU} {Al : Option Addr}
theorem LS.next (h : LS w W gs gp s z A kz c Ac kc l Al) (hb : Below W.heap.size W W') : LS w W' gs gp s z A kz c Ac kc l Al := ⟨h.sb.next hb, h.pb.next hb, h.za.below hb, h.ca.below hb, h.su.below hb, bnext h.below hb⟩
theorem LS.new (s : SC) (k kc : Nat) {o1 o2 : Array Value} (hz : ZAt W z A) (hc : CAt W c Ac) (hs : SuAt W Al l) (hb : Below w.heap.size w W) :
    LS w ((((W.alloc (.cells o1 38)).alloc (.cells o2 33)).setRow W.heap.size (sV s)).setRow (W.heap.size + 1) (pV z A k c Ac kc)) W.heap.size (W.heap.size + 1) s z A k c Ac kc l Al := by
  have hB : Below W.heap.size W ((((W.alloc (.cells o1 38)).alloc (.cells o2 33)).setRow W.heap.size (sV s)).setRow (W.heap.size + 1) (pV z A k c Ac kc)) :=
    Below.setRow (Below.setRow (bal (bal0 W _) _) (Nat.le_refl _) _) (by omega) _
  have b1 : BlkAt ((W.alloc (.cells o1 38)).alloc (.cells o2 33)) W.heap.size o1 38 := (BlkAt.new _ _ _).al _
  have b2 : BlkAt ((W.alloc (.cells o1 38)).alloc (.cells o2 33)) (W.heap.size + 1) o2 33 := BlkAt.newAt _ _ _ (by simp)
  exact ⟨(b1.set _).setFar _ (by omega), (b2.setFar _ (by omega)).set _, hz.below hB, hc.below hB, hs.below hB, bnext hb hB⟩
end
theorem alpha_nm : nmB alpha = true := by decide
theorem alpha_sz : alpha.size ≤ maxLen := by decide
theorem gamma_nm : nmB gammaB = true := by decide
theorem gamma_sz : gammaB.size ≤ maxLen := by decide
/-- What Move says of what has been made. -/
theorem made_mov {L : List SU} {kn : Int} (hM : MadeS L kn) (hl : L.length ≤ 6) {s : SC} {z : ZN} {c : CN} (hs : s.ok = true) (hz : z.ok = true) (hc : c.ok = true) (ha : c.all = false) (hh : c.hs.length ≤ 20) {nx : Int → Int × Int} (hnx : NxR s z c nx) {k d : Int} (hk0 : 1 ≤ k) (hk1 : k ≤ 1000) (hd0 : 0 ≤ d) (hd1 : d ≤ 69) {fund : ByteArray} (hf : nmB fund = true) :
    (nx d).2 = 0 ∧ ∃ v e, mov nx (visS L k fund) d = (v, e) ∧ MovR L k fund s z c nx d v e ∧ PassR (visS L k fund) (dealB s c) d v e := by
  have hsus := hM.susB hl
  have he := aErr_ok hs hz hc
  have hp : ∀ x : Int, 0 ≤ x → x ≤ 1001 → (nx x).2 = 0 ∧ fromP (dealB s c) x = some (nx x).1 := fun x x0 x1 => by
    obtain ⟨y, y1, y2⟩ := deal_ex hs ha hh (d := x) x0 (by omega)
    have := next_det (hnx x) he ((dayB_iff x).2 (by omega)) y1
    exact ⟨this.2, by rw [this.1]; exact y1⟩
  have ht : ∀ x ∈ visS L k fund, 0 ≤ x.til ∧ x.til ≤ 60 := fun x hx => (hM.each x (pickS_mem _ hx).1).til
  have hpass := mov_pass (l := visS L k fund) (p := dealB s c) (fun x hx => (ht x hx).1) (fun x hx => by have := ht x hx; omega) (fun d h => hnx.le d h) (fun d h => hnx.hi d h) hp (1001 - d).toNat d hd0 (by omega) (Nat.le_refl _)
  have hkn : knB k = true := (knB_iff k).2 (by omega)
  refine ⟨(hp d hd0 (by omega)).1, _, _, rfl, .inr (.inr (.inr (.inr ⟨.inr (.inr (.inr (.inr ⟨hsus, hkn, hf, (dayB_iff d).2 (by omega), rfl⟩))), hz, hc, hs, rfl⟩))), hpass⟩
theorem act_made {L : List SU} {kn : Int} (hM : MadeS L kn) (hl : L.length ≤ 6) {k d : Int} (hk0 : 1 ≤ k) (hk1 : k ≤ 1000) (hd0 : 0 ≤ d) (hd1 : d ≤ 73048) {fund : ByteArray} (hf : nmB fund = true) :
    ActR L k fund d (actB (visS L k fund) d) 0 :=
  .inr (.inr (.inr (.inr ⟨hM.susB hl, (knB_iff k).2 (by omega), hf, (dayB_iff d).2 (by omega), rfl, rfl⟩)))
theorem modI_lt (x n : Int) (h : 1 ≤ n) : ∃ k : Int, modI x n = k ∧ 0 ≤ k ∧ k < n := ⟨_, rfl, (modI_bd x n).1, by have := (modI_bd x n).2; omega⟩
set_option maxRecDepth 100000 in
theorem suspensionIsPassed_any (A0 : Option Addr) (L0 : List Int) (cap : Nat) (k0 d0 : Int) (w : World) (hL : IntsAt w A0 L0) :
    Calls Try.prog 4 #[.slice A0 L0.length cap, .int .i64 k0, .int .i64 d0] w (RetB (.bool true) w) := by
  obtain ⟨k, hk, hk0, hk1⟩ := modI_lt k0 20 (by omega)
  obtain ⟨d, hd, hd0, hd1⟩ := modI_lt d0 70 (by omega)
  have HKE := Lib.hid hk
  have HDE := Lib.hid hd
  clear hk hd
  go_enter Try.func4, Try.ntmps4
  go_wp2_with fail
  refine (snew_any A0 L0 cap _ hL).mono ?_
  rintro e w1 ⟨rfl, ht1, hb1⟩
  go_wp2_with fail
  refine (ssched_any _ _ _ ht1).mono ?_
  rintro e w2 ⟨s, rfl, hsok, ht2, ho2⟩
  have hB2 := lawOnly2 hb1 ho2
  clear hb1 ho2 ht1 hL
  go_wp2_with fail
  refine (splace_any _ _ _ ht2).mono ?_
  rintro e w3 ⟨z, A, kz, c, Ac, kc, rfl, hz, hc, hzA, hcA, hzok, hcok, hcall, hc3, ht3, ho3⟩
  have hB3 := lawOnly2 hB2 ho3
  have hl2 := ht2.lt
  clear hB2 ho3 ht2
  go_wp2_with fail
  refine (ssus_any _ _ _ ht3).mono ?_
  rintro e w4 ⟨l, Al, cl, kn, rfl, hl6, hkn, hmade, hsu, hAl, ht4, ho4⟩
  have hB4 := lawOnly2 hB3 ho4
  have hz4 := hz.only (fun ad e => by have := hzA ad e; omega) ho4
  have hc4 := hc.only (fun ad e => by have := hcA ad e; omega) ho4
  have hS := LS.new s kz kc (o1 := #[.int .i64 0, .int .i64 0, .int .i64 0, .int .i64 0, .int .i64 0]) (o2 := #[.string ⟨#[]⟩, .int .i64 0, .slice none 0 0, .string ⟨#[]⟩, .bool false, .bool false, .bool false, .bool false, .bool false, .bool false, .bool false, .slice none 0 0]) hz4 hc4 hsu hB4
  have b1 : BlkAt ((w4.alloc (.cells #[.int .i64 0, .int .i64 0, .int .i64 0, .int .i64 0, .int .i64 0] 38)).alloc (.cells #[.string ⟨#[]⟩, .int .i64 0, .slice none 0 0, .string ⟨#[]⟩, .bool false, .bool false, .bool false, .bool false, .bool false, .bool false, .bool false, .slice none 0 0] 33)) w4.heap.size (sV ⟨0, 0, 0, 0, 0⟩) 38 := (BlkAt.new _ _ _).al _
  have b2 : BlkAt (((w4.alloc (.cells #[.int .i64 0, .int .i64 0, .int .i64 0, .int .i64 0, .int .i64 0] 38)).alloc (.cells #[.string ⟨#[]⟩, .int .i64 0, .slice none 0 0, .string ⟨#[]⟩, .bool false, .bool false, .bool false, .bool false, .bool false, .bool false, .bool false, .slice none 0 0] 33)).setRow w4.heap.size (sV s)) (w4.heap.size + 1) #[.string ⟨#[]⟩, .int .i64 0, .slice none 0 0, .string ⟨#[]⟩, .bool false, .bool false, .bool false, .bool false, .bool false, .bool false, .bool false, .slice none 0 0] 33 := (BlkAt.newAt _ _ _ (by simp)).setFar _ (by omega)
  obtain ⟨nx, hnx⟩ := nx_ex s z c
  obtain ⟨-, v, er, hmv, hMR, hP⟩ := made_mov hmade hl6 hsok hzok hcok hcall (by omega) hnx (k := 1 + k) (d := d) (by omega) (by omega) hd0 (by omega) alpha_nm
  have HS := Lib.hid hS
  have HN := Lib.hid hnx
  have HMR := Lib.hid hMR
  have HMD := Lib.hid hmade
  have HAE := Lib.hid (aErr_ok hsok hzok hcok)
  clear hS hz hc hzA hcA hB3 hB4 ho4 ht3 ht4 hsok hzok hcok hz4 hc4 hnx hMR hmv hmade hsu hAl hcall
  go_wp2_with (first | ((with_reducible refine wpl_store rfl 38 _ _ rfl _ (sV s) ?_ ?_ b1 (rowS _) ?_ ?_); exact rfl; exact rfl; exact rfl) | ((with_reducible refine wpl_store rfl 33 _ _ rfl _ (pV z A kz c Ac kc) ?_ ?_ b2 (rowP ..) ?_ ?_); exact rfl; exact rfl; exact rfl))
  clear b1 b2
  refine (smod_any k0 20 _ (by omega)).mono ?_
  rintro e w5 ⟨rfl, rfl⟩
  rw [HKE.out]
  go_wp2_with fail
  refine (smod_any d0 70 _ (by omega)).mono ?_
  rintro e w5 ⟨rfl, rfl⟩
  rw [HDE.out]
  generalize ((((w4.alloc _).alloc _).setRow _ _).setRow _ _) = w5 at *
  have hg1 : w4.heap.size < w5.heap.size := by have := HS.out.sb.lt; omega
  generalize w4.heap.size + 1 = gp at *
  generalize w4.heap.size = gs at *
  go_wp2_with (first | ((with_reducible refine wpl_load rfl 38 _ rfl _ ?_ HS.out.sb (rowS _) ?_); exact rfl) | ((with_reducible refine wpl_load rfl 33 _ rfl _ ?_ HS.out.pb (rowP ..) ?_); exact rfl))
  refine (sMoveR HN.out HMR.out alpha_sz A kz Ac kc Al cl _ HS.out.za HS.out.ca HS.out.su).mono ?_
  rintro e1 w6 ⟨rfl, hb⟩
  have HS6 := Lib.hid (HS.out.next hb)
  clear hb HS
  rcases hP with ⟨rfl, rfl⟩ | ⟨rfl, hp1, hp2, hp3, hp4, hp5⟩
  · go_wp2_with fail
    refine (awake28_any _).mono ?_
    rintro e3 w7 ⟨rfl, hb⟩
    have HB := Lib.hid (bnext HS6.out.below hb)
    clear hb
    go_wp2_with fail
    go_ret
    exact ⟨rfl, HB.out⟩
  · have HP3 := Lib.hid hp3
    have HP4 := Lib.hid hp4
    have HP5 := Lib.hid hp5
    clear hp3 hp4 hp5
    go_wp2_with fail
    go_loopw [13] (fun dv wr => ∃ x : Int, d ≤ x ∧ x ≤ v + 1 ∧ x ≤ d + 200 ∧ dv = .int .i64 x ∧ LS w wr gs gp s z A kz c Ac kc l Al) (fun dv _ => (v + 1 - intOf dv).toNat)
    case atStart => exact ⟨d, by omega, by omega, by omega, rfl, HS6.out⟩
    case round =>
      obtain ⟨x, hx1, hx2, hx3, rfl, hS⟩ := hrel
      have HS7 := Lib.hid hS
      clear hS HS6
      by_cases hin : x ≤ v ∧ x < d + 200
      · obtain ⟨hxv, hxd⟩ := hin
        have hA := act_made HMD.out hl6 (k := 1 + k) (d := x) (by omega) (by omega) (by omega) (by omega) alpha_nm
        obtain ⟨dl, hdl⟩ : ∃ b, dealB s c x = b := ⟨_, rfl⟩
        obtain ⟨ac, hac⟩ : ∃ b, actB (visS l (1 + k) alpha) x = b := ⟨_, rfl⟩
        have hD : DealsR s z c x dl 0 := .inr (.inr ⟨HAE.out, (dayB_iff x).2 (by omega), hdl, rfl⟩)
        rw [hac] at hA
        have HD := Lib.hid hD
        have HA := Lib.hid hA
        have hcase : (x < v ∧ (dl = true → ac = true)) ∨ (x = v ∧ dl = true ∧ ac = false) := by
          rcases Int.lt_or_le x v with h | h
          · exact .inl ⟨h, fun e => by rw [← hac]; exact HP5.out x hx1 h (hdl.trans e)⟩
          · obtain rfl : x = v := by omega
            exact .inr ⟨rfl, by rw [← hdl, HP3.out], by rw [← hac, HP4.out]⟩
        clear hD hA hdl hac
        go_wp2_with (first | ((with_reducible refine wpl_load rfl 38 _ rfl _ ?_ HS7.out.sb (rowS _) ?_); exact rfl) | ((with_reducible refine wpl_load rfl 33 _ rfl _ ?_ HS7.out.pb (rowP ..) ?_); exact rfl))
        refine (rDealsR kz kc HD.out HS7.out.za HS7.out.ca).mono ?_
        rintro e w8 ⟨rfl, hb⟩
        have HS8 := Lib.hid (HS7.out.next hb)
        clear hb HS7
        go_wp2_with fail
        refine (sAct_is HA.out alpha_sz Al cl _ HS8.out.su).mono ?_
        rintro e w9 ⟨rfl, hb⟩
        have HS9 := Lib.hid (HS8.out.next hb)
        clear hb HS8
        rcases hcase with ⟨hlt, hi⟩ | ⟨rfl, rfl, rfl⟩
        · have hne : ((x : Int) == v) = false := beq_eq_false_iff_ne.2 (by omega)
          cases dl
          · go_wp2_with fail
            go_roundw
            case rel => exact ⟨x + 1, by omega, by omega, by omega, rfl, HS9.out⟩
            case measure => simp [intOf]; omega
          · obtain rfl := hi rfl
            go_wp2_with fail
            go_roundw
            case rel => exact ⟨x + 1, by omega, by omega, by omega, rfl, HS9.out⟩
            case measure => simp [intOf]; omega
        · go_wp2_with fail
          go_roundw
          case rel => exact ⟨x + 1, by omega, by omega, by omega, rfl, HS9.out⟩
          case measure => simp [intOf]; omega
      · have hout : v < x ∨ (x ≤ v ∧ d + 200 ≤ x) := by omega
        clear hin
        rcases hout with h | ⟨h, h2⟩
        all_goals
          go_wp2_with fail
          refine (awake28_any _).mono ?_
          rintro e3 w8 ⟨rfl, hb⟩
          have HB := Lib.hid (bnext HS7.out.below hb)
          clear hb
          go_wp2_with fail
          go_ret
          exact ⟨rfl, HB.out⟩
end Go.Proofs.Ytffmmkjoknghoaa
