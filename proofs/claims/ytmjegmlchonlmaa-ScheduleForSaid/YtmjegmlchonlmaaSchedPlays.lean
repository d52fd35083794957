/-
  The laws of schedules over a tape: SchedulePlays, ScheduleSpoilt.
-/
import Derived.Test.YtmjegmlchonlmaaSchedLaws
import Derived.Test.YtmjegmlchonlmaaMakeSched
import Derived.Test.YtmjegmlchonlmaaRow
import Derived.Test.YtmjegmlchonlmaaSchedPlain3
import Derived.Deep.CutBlock
import Derived.Deep.RegionHeld3
import Derived.Deep.DrawnRows
import Derived.Deep.DeepCutAuto
namespace Go.Proofs.Ytmjegmlchonlmaa
open Go.RowKit
set_option linter.unusedVariables false
set_option maxHeartbeats 8000000
/-- What a law over a tape, a schedule and a place carries: the tape with N draws left, the schedule and the place in their boxes, old memory. -/
structure SPl (w W : World) (N S P : Nat) (s : SC) (z : ZN) (A : Option Addr) (k : Nat) (c : CN) (Ac : Option Addr) (kc : Nat) : Prop where
  tape : TapeAt W w.heap.size w.heap.size N
  sb : BlkAt W S (sV s) 62
  pb : BlkAt W P (pV z A k c Ac kc) 68
  za : ZAt W z A
  ca : CAt W c Ac
  fz : ∀ ad, A = some ad → ad.block ≠ w.heap.size
  fc : ∀ ad, Ac = some ad → ad.block ≠ w.heap.size
  hS : S ≠ w.heap.size
  hP : P ≠ w.heap.size
  below : Below w.heap.size w W
theorem CAt.only {b : Nat} {W W' : World} {c : CN} {A : Option Addr} (h : CAt W c A) (hA : ∀ ad, A = some ad → ad.block ≠ b) (ho : Only b W W') : CAt W' c A :=
  ⟨h.nm, h.ints.1, fun k x hx => by
    obtain ⟨g, o, rfl, hlt, e1⟩ := h.ints.2 k x hx
    exact ⟨g, o, rfl, Nat.lt_of_lt_of_le hlt ho.size, only_cell ho hlt (hA _ rfl) e1⟩⟩
theorem lawOnly2 {w W W' : World} (h : Below w.heap.size w W) (ho : Only w.heap.size W W') : Below w.heap.size w W' := h.trans (only_to_below ho (Nat.le_refl _) h.size)
section
variable {w W W' : World} {N N' S P : Nat} {s : SC} {z : ZN} {A : Option Addr} {k : Nat} {c : CN} {Ac : Option Addr} {kc : Nat}
theorem SPl.only (h : SPl w W N S P s z A k c Ac kc) (ht : TapeAt W' w.heap.size w.heap.size N') (ho : Only w.heap.size W W') : SPl w W' N' S P s z A k c Ac kc :=
  ⟨ht, h.sb.only ho h.hS, h.pb.only ho h.hP, h.za.only h.fz ho, h.ca.only h.fc ho, h.fz, h.fc, h.hS, h.hP, lawOnly2 h.below ho⟩
theorem SPl.next (h : SPl w W N S P s z A k c Ac kc) (hb : Below W.heap.size W W') : SPl w W' N S P s z A k c Ac kc :=
  ⟨h.tape.below hb, h.sb.next hb, h.pb.next hb, h.za.below hb, h.ca.below hb, h.fz, h.fc, h.hS, h.hP, bnext h.below hb⟩
theorem SPl.less (h : SPl w W N S P s z A k c Ac kc) (hn : N' ≤ N) : SPl w W N' S P s z A k c Ac kc :=
  ⟨h.tape.less hn, h.sb, h.pb, h.za, h.ca, h.fz, h.fc, h.hS, h.hP, h.below⟩
theorem SPl.new (s : SC) (k kc : Nat) {o1 o2 : Array Value} (ht : TapeAt W w.heap.size w.heap.size N) (hz : ZAt W z A) (hc : CAt W c Ac) (fz : ∀ ad, A = some ad → ad.block ≠ w.heap.size) (fc : ∀ ad, Ac = some ad → ad.block ≠ w.heap.size) (hb : Below w.heap.size w W) :
    SPl w ((((W.alloc (.cells o1 62)).alloc (.cells o2 68)).setRow W.heap.size (sV s)).setRow (W.heap.size + 1) (pV z A k c Ac kc)) N W.heap.size (W.heap.size + 1) s z A k c Ac kc := by
  have hl := ht.lt
  have hB : Below W.heap.size W ((((W.alloc (.cells o1 62)).alloc (.cells o2 68)).setRow W.heap.size (sV s)).setRow (W.heap.size + 1) (pV z A k c Ac kc)) :=
    Below.setRow (Below.setRow (bal (bal0 W _) _) (Nat.le_refl _) _) (by omega) _
  have b1 : BlkAt ((W.alloc (.cells o1 62)).alloc (.cells o2 68)) W.heap.size o1 62 := (BlkAt.new _ _ _).al _
  have b2 : BlkAt ((W.alloc (.cells o1 62)).alloc (.cells o2 68)) (W.heap.size + 1) o2 68 := BlkAt.newAt _ _ _ (by simp)
  exact ⟨ht.below hB, (b1.set _).setFar _ (by omega), (b2.setFar _ (by omega)).set _, hz.below hB, hc.below hB, fz, fc, by omega, by omega, bnext hb hB⟩
end
/-- A day near another one. -/
def NearP (lo hi : Int) (B b N : Nat) (w : World) (e : Ending) (w' : World) : Prop :=
  ∃ v : Int, lo ≤ v ∧ v ≤ hi ∧ 0 ≤ v ∧ v ≤ 73048 ∧ e = .returned (.int .i64 v) ∧ TapeAt w' B b N ∧ Only b w w'
theorem near2_any (day far : Int) (B b N : Nat) (w : World) (h : TapeAt w B b (N + 1)) (h1 : 0 ≤ day) (h2 : day ≤ 73048) (h3 : 0 ≤ far) (h4 : far ≤ 1000) :
    Calls Try.prog 62 #[.pointer (some ⟨b, 0, none⟩), .int .i64 day, .int .i64 far] w (NearP (day - far) (day + far) B b N w) := by
  go_enter Try.func62, Try.ntmps62
  go_wp2_with fail
  refine (next_in (n := 2 * far + 1) (N := N) h (by omega) (by omega)).mono ?_
  rintro e w1 ⟨k, hk, rfl, ht, ho⟩
  go_wp2
  all_goals
    go_ret
    exact ⟨_, by omega, by omega, by omega, by omega, rfl, ht, ho⟩
theorem SPl.q {w W : World} {N S P : Nat} {s : SC} {z : ZN} {A : Option Addr} {k : Nat} {c : CN} {Ac : Option Addr} {kc : Nat} (h : SPl w W N S P s z A k c Ac kc) : (W.cell? ⟨S, 0, none⟩ = some (.int .i64 s.period) ∧ W.cell? ⟨S, 1, none⟩ = some (.int .i64 s.nth) ∧ W.cell? ⟨S, 2, none⟩ = some (.int .i64 s.notice) ∧ W.cell? ⟨S, 3, none⟩ = some (.int .i64 s.settle) ∧ W.cell? ⟨S, 4, none⟩ = some (.int .i64 s.cutoff)) ∧ (W.cell? ⟨P, 0, none⟩ = some (.string z.name) ∧ W.cell? ⟨P, 1, none⟩ = some (.int .i64 z.off) ∧ W.cell? ⟨P, 2, none⟩ = some (.slice A z.cs.length k) ∧ W.cell? ⟨P, 3, none⟩ = some (.string c.name) ∧ W.cell? ⟨P, 4, none⟩ = some (.bool c.w0) ∧ W.cell? ⟨P, 5, none⟩ = some (.bool c.w1) ∧ W.cell? ⟨P, 6, none⟩ = some (.bool c.w2) ∧ W.cell? ⟨P, 7, none⟩ = some (.bool c.w3) ∧ W.cell? ⟨P, 8, none⟩ = some (.bool c.w4) ∧ W.cell? ⟨P, 9, none⟩ = some (.bool c.w5) ∧ W.cell? ⟨P, 10, none⟩ = some (.bool c.w6) ∧ W.cell? ⟨P, 11, none⟩ = some (.slice Ac c.hs.length kc)) ∧ SPl w W N S P s z A k c Ac kc :=
  ⟨⟨h.sb.cell rfl, h.sb.cell rfl, h.sb.cell rfl, h.sb.cell rfl, h.sb.cell rfl⟩,
    ⟨h.pb.cell rfl, h.pb.cell rfl, h.pb.cell rfl, h.pb.cell rfl, h.pb.cell rfl, h.pb.cell rfl, h.pb.cell rfl, h.pb.cell rfl, h.pb.cell rfl, h.pb.cell rfl, h.pb.cell rfl, h.pb.cell rfl⟩, h⟩
theorem SPl.drew {w W : World} {N S P : Nat} {s : SC} {z : ZN} {A : Option Addr} {k : Nat} {c : CN} {Ac : Option Addr} {kc : Nat} (h : SPl w W N S P s z A k c Ac kc) : SPl w W.drew N S P s z A k c Ac kc := h.next ((Below.refl _ _).drew)
theorem next_bd {s : SC} {z : ZN} {c : CN} {d v e : Int} (h : NextR s z c d v e) (hd : 0 ≤ d) : e = 0 → 0 ≤ v ∧ v ≤ 73048 := by
  intro he
  rcases h with ⟨-, hn, -⟩ | ⟨-, -, -, hn⟩ | ⟨-, -, ⟨-, -, hn⟩ | ⟨hr, -⟩⟩
  · exact absurd he hn
  · omega
  · omega
  · have := fromP_spec hr
    omega
set_option maxRecDepth 100000 in
theorem schedulePlays_any (A0 : Option Addr) (L : List Int) (cap : Nat) (w : World) (hL : IntsAt w A0 L) :
    Calls Try.prog 20 #[.slice A0 L.length cap] w (RetB (.bool true) w) := by
  have ht0 := tape_start (cap := cap) hL
  have hw0 := bal0 w (.cells #[.slice A0 L.length cap, .int .i64 0] 37)
  go_enter Try.func20, Try.ntmps20
  go_wp2_with fail
  refine (day_any w.heap.size w.heap.size 100000 _ (ht0.less (by omega))).mono ?_
  rintro e w1 ⟨v, hv1, hv2, rfl, ht1, ho1⟩
  have hB1 := lawOnly2 hw0 ho1
  clear hw0 ho1 ht0 hL
  go_wp2_with fail
  refine (mkSched_any w.heap.size w.heap.size 90000 _ (ht1.less (by omega))).mono ?_
  rintro e w2 ⟨s, rfl, hsok, ht2, ho2⟩
  have hB2 := lawOnly2 hB1 ho2
  clear hB1 ho2 ht1
  go_wp2_with fail
  refine (mkPlace_any v w.heap.size w.heap.size 80000 _ (ht2.less (by omega)) hv1 hv2).mono ?_
  rintro e w3 ⟨z, A, k, c, Ac, kc, rfl, hz, hc, hzA, hcA, hzok, hcok, hc20, ht3, ho3⟩
  have hB3 := lawOnly2 hB2 ho3
  have hl2 := ht2.lt
  have hS := SPl.new s k kc (o1 := #[.int .i64 0, .int .i64 0, .int .i64 0, .int .i64 0, .int .i64 0]) (o2 := #[.string ⟨#[]⟩, .int .i64 0, .slice none 0 0, .string ⟨#[]⟩, .bool false, .bool false, .bool false, .bool false, .bool false, .bool false, .bool false, .slice none 0 0]) ht3 hz hc (fun ad e => by have := hzA ad e; omega) (fun ad e => by have := hcA ad e; omega) hB3
  have b1 : BlkAt ((w3.alloc (.cells #[.int .i64 0, .int .i64 0, .int .i64 0, .int .i64 0, .int .i64 0] 62)).alloc (.cells #[.string ⟨#[]⟩, .int .i64 0, .slice none 0 0, .string ⟨#[]⟩, .bool false, .bool false, .bool false, .bool false, .bool false, .bool false, .bool false, .slice none 0 0] 68)) w3.heap.size (sV ⟨0, 0, 0, 0, 0⟩) 62 := (BlkAt.new _ _ _).al _
  have b2 : BlkAt (((w3.alloc (.cells #[.int .i64 0, .int .i64 0, .int .i64 0, .int .i64 0, .int .i64 0] 62)).alloc (.cells #[.string ⟨#[]⟩, .int .i64 0, .slice none 0 0, .string ⟨#[]⟩, .bool false, .bool false, .bool false, .bool false, .bool false, .bool false, .bool false, .slice none 0 0] 68)).setRow w3.heap.size (sV s)) (w3.heap.size + 1) #[.string ⟨#[]⟩, .int .i64 0, .slice none 0 0, .string ⟨#[]⟩, .bool false, .bool false, .bool false, .bool false, .bool false, .bool false, .bool false, .slice none 0 0] 68 := (BlkAt.newAt _ _ _ (by simp)).setFar _ (by omega)
  have HS := Lib.hid hS
  have HSO := Lib.hid hsok
  have HZO := Lib.hid hzok
  have HCO := Lib.hid hcok
  clear hS hz hc hzA hcA hB2 hB3 ho3 ht2 ht3 hsok hzok hcok
  go_wp2_with (first | ((with_reducible refine wpl_store rfl 62 _ _ rfl _ (sV s) ?_ ?_ b1 (rowS _) ?_ ?_); exact rfl; exact rfl; exact rfl) | ((with_reducible refine wpl_store rfl 68 _ _ rfl _ (pV z A k c Ac kc) ?_ ?_ b2 (rowP ..) ?_ ?_); exact rfl; exact rfl; exact rfl))
  clear b1 b2
  go_loopw [7] (fun iv wr => ∃ i : Nat, i ≤ 3 ∧ iv = .int .i64 i ∧ SPl w wr (100 + 100 * (3 - i)) w3.heap.size (w3.heap.size + 1) s z A k c Ac kc) (fun iv _ => 3 - (intOf iv).toNat)
  case atStart => exact ⟨0, by omega, rfl, HS.out.less (by omega)⟩
  case round =>
    obtain ⟨i, hi, rfl, hP⟩ := hrel
    have HP := Lib.hid hP
    clear hP HS
    by_cases hi3 : i < 3
    · go_wp2_with fail
      refine (near2_any v 30 w.heap.size w.heap.size (90 + 100 * (3 - i)) _ (HP.out.tape.less (by omega)) (by omega) (by omega) (by omega) (by omega)).mono ?_
      rintro e w4 ⟨d0, hd1, hd2, hd3, hd4, rfl, ht4, ho4⟩
      have HP4 := Lib.hid (HP.out.only ht4 ho4)
      clear HP ht4 ho4 hd1 hd2
      obtain ⟨x1, e1, r1⟩ := next_ex s z c d0
      have HX1 : Hid (e1 = 0 → 0 ≤ x1 ∧ x1 ≤ 73048) := Lib.hid (next_bd r1 hd3)
      have R1 := Lib.hid r1
      clear r1
      go_wp2_with (first | ((with_reducible refine wpl_load rfl 62 _ rfl _ ?_ HP4.out.sb (rowS _) ?_); exact rfl) | ((with_reducible refine wpl_load rfl 68 _ rfl _ ?_ HP4.out.pb (rowP ..) ?_); exact rfl))
      refine (rNextR k kc R1.out HP4.out.za HP4.out.ca).mono ?_
      rintro e w5 ⟨rfl, hb5⟩
      have HP5 := Lib.hid (HP4.out.next hb5)
      clear HP4 hb5 R1
      go_upto_region 9 with (fail)
      go_cut [43] (fun qv wc => ∃ q : Bool, qv = .bool q ∧ (q = true → e1 = 0) ∧ SPl w wc (80 + 100 * (3 - i)) w3.heap.size (w3.heap.size + 1) s z A k c Ac kc)
      case first =>
        by_cases he : e1 = 0
        · have g1 : (e1 == 0) = true := by rw [he]; rfl
          have HE := Lib.hid he
          clear he
          go_wp2_with fail
          refine (chance_any 2 3 w.heap.size w.heap.size (80 + 100 * (3 - i)) _ (HP5.out.tape.less (by omega)) (by omega) (by omega)).mono ?_
          rintro e w6 ⟨q, rfl, ht6, ho6⟩
          go_wp2_with fail
          go_meet
          exact ⟨q, rfl, fun _ => HE.out, HP5.out.only ht6 ho6⟩
        · have g1 : (e1 == 0) = false := by rw [beq_eq_false_iff_ne]; exact he
          clear he
          go_wp2_with fail
          go_meet
          exact ⟨false, rfl, (fun h => Bool.noConfusion h), HP5.out.less (by omega)⟩
      case rest =>
      obtain ⟨q, rfl, hq, hP6⟩ := hcut
      have HP6 := Lib.hid hP6
      have HX : Hid (q = true → 0 ≤ x1 ∧ x1 ≤ 73048) := Lib.hid fun h => HX1.out (hq h)
      clear hP6 HP5 HX1 hq
      go_upto_if 43 with (fail)
      go_cut [8] (fun dv wc => ∃ d : Int, dv = .int .i64 d ∧ 0 ≤ d ∧ d ≤ 73048 ∧ SPl w wc (80 + 100 * (3 - i)) w3.heap.size (w3.heap.size + 1) s z A k c Ac kc)
      case first =>
        cases q
        · go_wp2_with fail
          go_meet
          exact ⟨d0, rfl, hd3, hd4, HP6.out⟩
        · obtain ⟨hx2, hx3⟩ := HX.out rfl
          go_wp2_with fail
          go_meet
          exact ⟨x1, rfl, hx2, hx3, HP6.out⟩
      case rest =>
      obtain ⟨d, rfl, hda, hdb, hP7⟩ := hcut
      have HP7 := Lib.hid hP7
      clear hP7 HP6 HX
      go_wp2_with fail
      refine (range_any (-4000) 2000 w.heap.size w.heap.size (70 + 100 * (3 - i)) _ (HP7.out.tape.less (by omega)) (by omega) (by omega) (by omega)).mono ?_
      rintro e w8 ⟨r, hr1, hr2, rfl, ht8, ho8⟩
      have HP8 := Lib.hid (HP7.out.only ht8 ho8)
      clear HP7 ht8 ho8
      obtain ⟨x2, e2, r2⟩ := dln_ex s z c d
      have R2 := Lib.hid r2
      clear r2
      go_wp2_with (first | ((with_reducible refine wpl_load rfl 62 _ rfl _ ?_ HP8.out.sb (rowS _) ?_); exact rfl) | ((with_reducible refine wpl_load rfl 68 _ rfl _ ?_ HP8.out.pb (rowP ..) ?_); exact rfl))
      refine (rDeadlineV k kc R2.out HP8.out.za HP8.out.ca).mono ?_
      rintro e w9 ⟨rfl, hb9⟩
      have HP9 := Lib.hid (HP8.out.next hb9)
      clear HP8 hb9 R2
      go_upto_region 13 with (fail)
      go_cut [62] (fun qv wc => ∃ q : Bool, qv = .bool q ∧ SPl w wc (60 + 100 * (3 - i)) w3.heap.size (w3.heap.size + 1) s z A k c Ac kc)
      case first =>
        by_cases he : e2 = 0
        · have g1 : (e2 == 0) = true := by rw [he]; rfl
          clear he
          go_wp2_with fail
          refine (chance_any 1 2 w.heap.size w.heap.size (60 + 100 * (3 - i)) _ (HP9.out.tape.less (by omega)) (by omega) (by omega)).mono ?_
          rintro e w6 ⟨q, rfl, ht6, ho6⟩
          go_wp2_with fail
          go_meet
          exact ⟨q, rfl, HP9.out.only ht6 ho6⟩
        · have g1 : (e2 == 0) = false := by rw [beq_eq_false_iff_ne]; exact he
          clear he
          go_wp2_with fail
          go_meet
          exact ⟨false, rfl, HP9.out.less (by omega)⟩
      case rest =>
      obtain ⟨q2, rfl, hP10⟩ := hcut
      have HP10 := Lib.hid hP10
      clear hP10 HP9
      go_upto_if 62 with (fail)
      go_cut [11] (fun tv wc => ∃ t : Int, tv = .int .i64 t ∧ SPl w wc (50 + 100 * (3 - i)) w3.heap.size (w3.heap.size + 1) s z A k c Ac kc)
      case first =>
        cases q2
        · go_wp2_with fail
          go_meet
          exact ⟨_, rfl, HP10.out.less (by omega)⟩
        · go_wp2_with fail
          refine (pick_new [-1, 0, 1] rfl (N := 50 + 100 * (3 - i)) (HP10.out.tape.less (by omega)) (by decide) (by decide) rfl (by simp)).mono ?_
          rintro e w11 ⟨u, hu, rfl, ht11, ho11⟩
          go_wp2_with fail
          go_meet
          exact ⟨_, rfl, HP10.out.only ht11 ho11⟩
      case rest =>
      obtain ⟨t, rfl, hP12⟩ := hcut
      have HP12 := Lib.hid hP12
      clear hP12 HP10
      go_wp2_with (first | ((with_reducible refine wpl_load rfl 62 _ rfl _ ?_ HP12.out.sb (rowS _) ?_); exact rfl) | ((with_reducible refine wpl_load rfl 68 _ rfl _ ?_ HP12.out.pb (rowP ..) ?_); exact rfl))
      refine (scheduleExact_any s z A k c Ac kc d t _ HP12.out.za HP12.out.ca).mono ?_
      rintro e w13 ⟨rfl, hb13⟩
      have HP13 := Lib.hid (HP12.out.next hb13)
      clear HP12 hb13
      go_wp2_with fail
      go_roundw
      case rel => exact ⟨i + 1, by omega, by go_num, HP13.out.less (by omega)⟩
      case measure => simp [intOf]; omega
    · go_wp2_with fail
      refine (known9_any _).mono ?_
      rintro e w4 ⟨rfl, hb4⟩
      go_wp2_with fail
      go_ret
      exact ⟨rfl, bnext HP.out.below hb4⟩
theorem next_ok {s : SC} {z : ZN} {c : CN} {d v : Int} (h1 : s.ok = true) (h2 : z.ok = true) (h3 : c.ok = true) (hd0 : 0 ≤ d) (hd1 : d ≤ 73048) (h : fromP (dealB s c) d = some v) : NextR s z c d v 0 :=
  .inr (.inr ⟨aErr_ok h1 h2 h3, (dayB_iff d).2 ⟨hd0, hd1⟩, .inr ⟨h, rfl⟩⟩)
theorem dln_ok {s : SC} {z : ZN} {c : CN} {d v : Int} (h1 : s.ok = true) (h2 : z.ok = true) (h3 : c.ok = true) (hd0 : 0 ≤ d) (hd1 : d ≤ 73048) (hv : dealB s c d = true) (h : dlO s z c d = some v) : DlnR s z c d v 0 := by
  refine .inr ⟨.inr (.inr (.inr ⟨aErr_ok h1 h2 h3, (dayB_iff d).2 ⟨hd0, hd1⟩, hv, rfl⟩)), ?_⟩
  obtain ⟨v2, e2, hr⟩ := dl_ex s z c d
  rcases hr.opt with ⟨h0, h1⟩ | ⟨h0, h1⟩
  · rw [h] at h1
    injection h1 with h1
    subst h1 h0
    exact hr
  · rw [h] at h1
    cases h1
theorem set_ok {s : SC} {z : ZN} {c : CN} {d v : Int} (h1 : s.ok = true) (h2 : z.ok = true) (h3 : c.ok = true) (hd0 : 0 ≤ d) (hd1 : d ≤ 73048) (hv : dealB s c d = true) (h : stepUp (biz c) s.settle.toNat d = some v) : SetR s z c d v 0 :=
  .inr ⟨.inr (.inr (.inr ⟨aErr_ok h1 h2 h3, (dayB_iff d).2 ⟨hd0, hd1⟩, hv, rfl⟩)), .inr ⟨h, rfl⟩⟩
theorem CN.ok_all {c : CN} (h : c.ok = true) : c.all = false := by
  unfold CN.ok at h
  simp only [Bool.and_eq_true, Bool.not_eq_true'] at h
  exact h.2.1
/-- Two dealing days behind each other, their deadlines and their settlement. -/
theorem two_days {s : SC} {z : ZN} {c : CN} (hs : s.ok = true) (hz : z.ok = true) (hc : c.ok = true) (hl : c.hs.length ≤ 20) {d : Int} (h0 : 9477 ≤ d) (h1 : d ≤ 9517) :
    ∃ a b x y u v : Int, 0 ≤ a ∧ a ≤ 20000 ∧ 0 ≤ b ∧ b ≤ 20000 ∧ NextR s z c d a 0 ∧ NextR s z c (a + 1) b 0 ∧ DlnR s z c a x 0 ∧ DlnR s z c b y 0 ∧ SetR s z c a u 0 ∧ SetR s z c b v 0 ∧ a < b ∧ x ≤ y ∧ u ≤ v ∧ a ≤ u := by
  have hall := CN.ok_all hc
  obtain ⟨n1, n2, n3, n4, c1, c2⟩ := SC.ok_ranges hs
  obtain ⟨a, ha, ha2⟩ := deal_ex (d := d) hs hall hl (by omega) (by omega)
  obtain ⟨a3, a4, a5, -⟩ := fromP_spec ha
  obtain ⟨b, hb, hb2⟩ := deal_ex (d := a + 1) hs hall hl (by omega) (by omega)
  obtain ⟨b3, b4, b5, -⟩ := fromP_spec hb
  obtain ⟨x, hx⟩ := dl_some (d := a) hs hz hall hl (by omega) (by omega)
  obtain ⟨y, hy⟩ := dl_some (d := b) hs hz hall hl (by omega) (by omega)
  obtain ⟨u, hu, -⟩ := up_ex hall hl s.settle.toNat a (by omega) (by omega)
  obtain ⟨v, hv, -⟩ := up_ex hall hl s.settle.toNat b (by omega) (by omega)
  exact ⟨a, b, x, y, u, v, by omega, by omega, by omega, by omega, next_ok hs hz hc (by omega) (by omega) ha, next_ok hs hz hc (by omega) (by omega) hb, dln_ok hs hz hc (by omega) (by omega) a5 hx, dln_ok hs hz hc (by omega) (by omega) b5 hy, set_ok hs hz hc (by omega) (by omega) a5 hu, set_ok hs hz hc (by omega) (by omega) b5 hv, by omega, dl_mono hz (by omega) hx hy, up_mono _ _ _ _ _ (show a ≤ b by omega) hu hv, stepUp_ge _ _ _ hu⟩
set_option maxRecDepth 100000 in
theorem scheduleDeadlines_any (A0 : Option Addr) (L : List Int) (cap : Nat) (w : World) (hL : IntsAt w A0 L) :
    Calls Try.prog 22 #[.slice A0 L.length cap] w (RetB (.bool true) w) := by
  have ht0 := tape_start (cap := cap) hL
  have hw0 := bal0 w (.cells #[.slice A0 L.length cap, .int .i64 0] 37)
  go_enter Try.func22, Try.ntmps22
  go_wp2_with fail
  have hB1 := hw0
  have ht1 := ht0
  clear hw0 ht0 hL
  refine (mkSched_any w.heap.size w.heap.size 90000 _ (ht1.less (by omega))).mono ?_
  rintro e w2 ⟨s, rfl, hsok, ht2, ho2⟩
  have hB2 := lawOnly2 hB1 ho2
  clear hB1 ho2 ht1
  go_wp2_with fail
  refine (mkPlace_any 9497 w.heap.size w.heap.size 80000 _ (ht2.less (by omega)) (by omega) (by omega)).mono ?_
  rintro e w3 ⟨z, A, k, c, Ac, kc, rfl, hz, hc, hzA, hcA, hzok, hcok, hc20, ht3, ho3⟩
  have hB3 := lawOnly2 hB2 ho3
  have hl2 := ht2.lt
  have hS := SPl.new s k kc (o1 := #[.int .i64 0, .int .i64 0, .int .i64 0, .int .i64 0, .int .i64 0]) (o2 := #[.string ⟨#[]⟩, .int .i64 0, .slice none 0 0, .string ⟨#[]⟩, .bool false, .bool false, .bool false, .bool false, .bool false, .bool false, .bool false, .slice none 0 0]) ht3 hz hc (fun ad e => by have := hzA ad e; omega) (fun ad e => by have := hcA ad e; omega) hB3
  have b1 : BlkAt ((w3.alloc (.cells #[.int .i64 0, .int .i64 0, .int .i64 0, .int .i64 0, .int .i64 0] 62)).alloc (.cells #[.string ⟨#[]⟩, .int .i64 0, .slice none 0 0, .string ⟨#[]⟩, .bool false, .bool false, .bool false, .bool false, .bool false, .bool false, .bool false, .slice none 0 0] 68)) w3.heap.size (sV ⟨0, 0, 0, 0, 0⟩) 62 := (BlkAt.new _ _ _).al _
  have b2 : BlkAt (((w3.alloc (.cells #[.int .i64 0, .int .i64 0, .int .i64 0, .int .i64 0, .int .i64 0] 62)).alloc (.cells #[.string ⟨#[]⟩, .int .i64 0, .slice none 0 0, .string ⟨#[]⟩, .bool false, .bool false, .bool false, .bool false, .bool false, .bool false, .bool false, .slice none 0 0] 68)).setRow w3.heap.size (sV s)) (w3.heap.size + 1) #[.string ⟨#[]⟩, .int .i64 0, .slice none 0 0, .string ⟨#[]⟩, .bool false, .bool false, .bool false, .bool false, .bool false, .bool false, .bool false, .slice none 0 0] 68 := (BlkAt.newAt _ _ _ (by simp)).setFar _ (by omega)
  have HS := Lib.hid hS
  have HSO := Lib.hid hsok
  have HZO := Lib.hid hzok
  have HCO := Lib.hid hcok
  clear hS hz hc hzA hcA hB2 hB3 ho3 ht2 ht3 hsok hzok hcok
  go_wp2_with (first | ((with_reducible refine wpl_store rfl 62 _ _ rfl _ (sV s) ?_ ?_ b1 (rowS _) ?_ ?_); exact rfl; exact rfl; exact rfl) | ((with_reducible refine wpl_store rfl 68 _ _ rfl _ (pV z A k c Ac kc) ?_ ?_ b2 (rowP ..) ?_ ?_); exact rfl; exact rfl; exact rfl))
  clear b1 b2
  have HD := Lib.hid HS.out.drew
  have HD0 : Hid (SPl w _ 70000 w3.heap.size (w3.heap.size + 1) s z A k c Ac kc) := Lib.hid (HD.out.less (by omega))
  go_region_held3 (fun W => (W.cell? ⟨w3.heap.size, 0, none⟩ = some (.int .i64 s.period) ∧ W.cell? ⟨w3.heap.size, 1, none⟩ = some (.int .i64 s.nth) ∧ W.cell? ⟨w3.heap.size, 2, none⟩ = some (.int .i64 s.notice) ∧ W.cell? ⟨w3.heap.size, 3, none⟩ = some (.int .i64 s.settle) ∧ W.cell? ⟨w3.heap.size, 4, none⟩ = some (.int .i64 s.cutoff)) ∧ (W.cell? ⟨w3.heap.size + 1, 0, none⟩ = some (.string z.name) ∧ W.cell? ⟨w3.heap.size + 1, 1, none⟩ = some (.int .i64 z.off) ∧ W.cell? ⟨w3.heap.size + 1, 2, none⟩ = some (.slice A z.cs.length k) ∧ W.cell? ⟨w3.heap.size + 1, 3, none⟩ = some (.string c.name) ∧ W.cell? ⟨w3.heap.size + 1, 4, none⟩ = some (.bool c.w0) ∧ W.cell? ⟨w3.heap.size + 1, 5, none⟩ = some (.bool c.w1) ∧ W.cell? ⟨w3.heap.size + 1, 6, none⟩ = some (.bool c.w2) ∧ W.cell? ⟨w3.heap.size + 1, 7, none⟩ = some (.bool c.w3) ∧ W.cell? ⟨w3.heap.size + 1, 8, none⟩ = some (.bool c.w4) ∧ W.cell? ⟨w3.heap.size + 1, 9, none⟩ = some (.bool c.w5) ∧ W.cell? ⟨w3.heap.size + 1, 10, none⟩ = some (.bool c.w6) ∧ W.cell? ⟨w3.heap.size + 1, 11, none⟩ = some (.slice Ac c.hs.length kc)) ∧ SPl w W 70000 w3.heap.size (w3.heap.size + 1) s z A k c Ac kc)
    ((first
      | (with_reducible exact HA5.out.q)
      | (with_reducible exact HA4.out.q)
      | (with_reducible exact HD0.out.q)))
    (first
      | (go_at_call 62; refine (near2_any 9497 20 w.heap.size w.heap.size 70000 _ (HD.out.tape.less (by omega)) (by omega) (by omega) (by omega) (by omega)).mono ?_; rintro e w4 ⟨d, hd1, hd2, hd3, hd4, rfl, ht4, ho4⟩; have HA4 := Lib.hid (HD0.out.only ht4 ho4); obtain ⟨a, b, x, y, u, v, ha0, ha1, hb0, hb1, r1, r2, r3, r4, r5, r6, k1, k2, k3, k4⟩ := two_days HSO.out HZO.out HCO.out hc20 (d := d) (by omega) (by omega); have R1 := Lib.hid r1; have R2 := Lib.hid r2; have R3 := Lib.hid r3; have R4 := Lib.hid r4; have R5 := Lib.hid r5; have R6 := Lib.hid r6; clear r1 r2 r3 r4 r5 r6)
      | (go_at_call 71; refine (sNextR k kc R1.out HA4.out.za HA4.out.ca).mono ?_; rintro e w5 ⟨rfl, hb5⟩; have HA5 := Lib.hid (HA4.out.next hb5)))
  clear HS HD HD0 HA4 R1
  try clear hHeld
  go_wp2_with (first | ((with_reducible refine wpl_load rfl 62 _ rfl _ ?_ HA5.out.sb (rowS _) ?_); exact rfl) | ((with_reducible refine wpl_load rfl 68 _ rfl _ ?_ HA5.out.pb (rowP ..) ?_); exact rfl))
  refine (sNextR k kc R2.out HA5.out.za HA5.out.ca).mono ?_
  rintro e w6 ⟨rfl, hb⟩
  have HA6 := Lib.hid (HA5.out.next hb)
  clear HA5 hb R2
  go_wp2_with (first | ((with_reducible refine wpl_load rfl 62 _ rfl _ ?_ HA6.out.sb (rowS _) ?_); exact rfl) | ((with_reducible refine wpl_load rfl 68 _ rfl _ ?_ HA6.out.pb (rowP ..) ?_); exact rfl))
  refine (sDeadline_is R3.out k kc HA6.out.za HA6.out.ca).mono ?_
  rintro e w7 ⟨rfl, hb⟩
  have HA7 := Lib.hid (HA6.out.next hb)
  clear HA6 hb R3
  go_wp2_with (first | ((with_reducible refine wpl_load rfl 62 _ rfl _ ?_ HA7.out.sb (rowS _) ?_); exact rfl) | ((with_reducible refine wpl_load rfl 68 _ rfl _ ?_ HA7.out.pb (rowP ..) ?_); exact rfl))
  refine (sDeadline_is R4.out k kc HA7.out.za HA7.out.ca).mono ?_
  rintro e w8 ⟨rfl, hb⟩
  have HA8 := Lib.hid (HA7.out.next hb)
  clear HA7 hb R4
  go_wp2_with (first | ((with_reducible refine wpl_load rfl 62 _ rfl _ ?_ HA8.out.sb (rowS _) ?_); exact rfl) | ((with_reducible refine wpl_load rfl 68 _ rfl _ ?_ HA8.out.pb (rowP ..) ?_); exact rfl))
  refine (sSettles_is R5.out k kc HA8.out.za HA8.out.ca).mono ?_
  rintro e w9 ⟨rfl, hb⟩
  have HA9 := Lib.hid (HA8.out.next hb)
  clear HA8 hb R5
  go_wp2_with (first | ((with_reducible refine wpl_load rfl 62 _ rfl _ ?_ HA9.out.sb (rowS _) ?_); exact rfl) | ((with_reducible refine wpl_load rfl 68 _ rfl _ ?_ HA9.out.pb (rowP ..) ?_); exact rfl))
  refine (sSettles_is R6.out k kc HA9.out.za HA9.out.ca).mono ?_
  rintro e w10 ⟨rfl, hb⟩
  have HA10 := Lib.hid (HA9.out.next hb)
  clear HA9 hb R6
  go_wp2_with fail
  refine (known9_any _).mono ?_
  rintro e w11 ⟨rfl, hb⟩
  have HA11 := Lib.hid (HA10.out.next hb)
  clear HA10 hb
  go_wp2_with fail
  go_ret
  exact ⟨rfl, HA11.out.below⟩
end Go.Proofs.Ytmjegmlchonlmaa
