/-
  The law IntakeKeepsDeadlines over a tape.
-/
import Derived.Test.YtbfllcfjgpkpaaaGreatIntForgets
namespace Go.Proofs.YtbfllcfjgpkpaaaGreat
open Go.RowKit
set_option linter.unusedVariables false
set_option maxHeartbeats 8000000
theorem for_last {s : SC} {z : ZN} {c : CN} {t d : Int} (h : ForR s z c t d 0) : ∃ x, DlnR s z c d x 0 ∧ t ≤ x := by
  rcases h with ⟨-, h, -⟩ | ⟨-, -, -, h⟩ | ⟨h0, t0, t1, ⟨-, -, h⟩ | ⟨h, -⟩⟩
  · exact absurd rfl h
  · cases h
  · cases h
  · obtain ⟨h1, h2, h3⟩ := aErr_zero h0
    obtain ⟨f1, f2, f3, -⟩ := fromP_spec h
    unfold okB at f3
    cases hx : dlO s z c d with
    | none => rw [hx] at f3; simp at f3
    | some x =>
      rw [hx] at f3
      simp only [Bool.and_eq_true, decide_eq_true_eq] at f3
      exact ⟨x, dln_ok h1 h2 h3 (by omega) (by omega) f3.1 hx, f3.2⟩
theorem L24.q {w W : World} {gs gp : Nat} {s : SC} {z : ZN} {A : Option Addr} {kz : Nat} {c : CN} {Ac : Option Addr} {kc : Nat} (h : L24 w W gs gp s z A kz c Ac kc) : (W.cell? ⟨gs, 0, none⟩ = some (.int .i64 s.period) ∧ W.cell? ⟨gs, 1, none⟩ = some (.int .i64 s.nth) ∧ W.cell? ⟨gs, 2, none⟩ = some (.int .i64 s.notice) ∧ W.cell? ⟨gs, 3, none⟩ = some (.int .i64 s.settle) ∧ W.cell? ⟨gs, 4, none⟩ = some (.int .i64 s.cutoff)) ∧ (W.cell? ⟨gp, 0, none⟩ = some (.string z.name) ∧ W.cell? ⟨gp, 1, none⟩ = some (.int .i64 z.off) ∧ W.cell? ⟨gp, 2, none⟩ = some (.slice A z.cs.length kz) ∧ W.cell? ⟨gp, 3, none⟩ = some (.string c.name) ∧ W.cell? ⟨gp, 4, none⟩ = some (.bool c.w0) ∧ W.cell? ⟨gp, 5, none⟩ = some (.bool c.w1) ∧ W.cell? ⟨gp, 6, none⟩ = some (.bool c.w2) ∧ W.cell? ⟨gp, 7, none⟩ = some (.bool c.w3) ∧ W.cell? ⟨gp, 8, none⟩ = some (.bool c.w4) ∧ W.cell? ⟨gp, 9, none⟩ = some (.bool c.w5) ∧ W.cell? ⟨gp, 10, none⟩ = some (.bool c.w6) ∧ W.cell? ⟨gp, 11, none⟩ = some (.slice Ac c.hs.length kc)) :=
  ⟨⟨h.ls.sb.cell rfl, h.ls.sb.cell rfl, h.ls.sb.cell rfl, h.ls.sb.cell rfl, h.ls.sb.cell rfl⟩, ⟨h.ls.pb.cell rfl, h.ls.pb.cell rfl, h.ls.pb.cell rfl, h.ls.pb.cell rfl, h.ls.pb.cell rfl, h.ls.pb.cell rfl, h.ls.pb.cell rfl, h.ls.pb.cell rfl, h.ls.pb.cell rfl, h.ls.pb.cell rfl, h.ls.pb.cell rfl, h.ls.pb.cell rfl⟩⟩
/-- Each order that is taken is valid here: not void, of the fund, and its day is that of its instant. -/
theorem taken_each {fr dl : Int → Int × Int} {l : List OR} {k : Int} {fund : ByteArray} {T : List (OR × Int)} (h : TakenC (fun key => curC fr dl k fund key none l) T) {p : OR × Int} (hp : p ∈ T) : p.1.void = false ∧ p.1.fund = fund ∧ fr p.1.t = (p.2, 0) := by
  obtain ⟨o, d⟩ := p
  obtain ⟨a1, a2, a3, a4, -⟩ := curC_is (fr := fr) (dl := dl) (k := k) (fund := fund) o.key l none o d (fun _ _ h => by cases h) ((h.2 o d).1 hp)
  refine ⟨a3, ?_, a4⟩
  simp only [cntO, a3, Bool.false_or, Bool.and_eq_true, decide_eq_true_eq] at a2
  exact a2.2
theorem taken_pair {cur : ByteArray → Option (OR × Int)} {T : List (OR × Int)} (h : TakenC cur T) {i j : Nat} {p q : OR × Int} (hp : T[j]? = some p) (hq : T[i]? = some q) (hij : j < i) : p.1.key ≠ q.1.key ∧ (p.2 < q.2 ∨ (p.2 = q.2 ∧ p.1.known < q.1.known)) := by
  obtain ⟨hj, ep⟩ := List.getElem?_eq_some_iff.1 hp
  obtain ⟨hi, eq⟩ := List.getElem?_eq_some_iff.1 hq
  have hlt := (List.pairwise_iff_getElem.1 h.1) j i hj hi hij
  rw [ep, eq] at hlt
  refine ⟨fun e => ?_, hlt⟩
  obtain ⟨o, d⟩ := p
  obtain ⟨o', d'⟩ := q
  have h1 := (h.2 o d).1 (List.mem_of_getElem? hp)
  have h2 := (h.2 o' d').1 (List.mem_of_getElem? hq)
  have e' : o.key = o'.key := e
  rw [e', h2] at h1
  injection h1 with h1
  rw [h1] at hlt
  exact tcLt_irr _ hlt
set_option maxRecDepth 1000000 in
theorem intakeKeeps_any (A0 : Option Addr) (L0 : List Int) (cap : Nat) (w : World) (hL : IntsAt w A0 L0) :
    Calls Tryz.prog 6 #[.slice A0 L0.length cap] w (RetB (.bool true) w) := by
  go_enter Tryz.func6, Tryz.ntmps6
  go_wp2_with fail
  refine (snew_any A0 L0 cap _ hL).mono ?_
  rintro e w1 ⟨rfl, ht1, hb1⟩
  go_wp2_with fail
  refine (ssched_any _ _ _ ht1).mono ?_
  rintro e w2 ⟨s, rfl, hsok, ht2, ho2⟩
  have hB2 := lawOnly2 hb1 ho2
  clear hb1 ho2 ht1 hL
  go_wp2_with fail
  refine (splace_any _ _ _ ht2).mono ?_
  rintro e w3 ⟨z, A, kz, c, Ac, kc, rfl, hz, hc, hzA, hcA, hzok, hcok, -, -, ht3, ho3⟩
  have hB3 := lawOnly2 hB2 ho3
  have hl2 := ht2.lt
  have HS := Lib.hid (L24.new s kz kc (o1 := #[.int .i64 0, .int .i64 0, .int .i64 0, .int .i64 0, .int .i64 0]) (o2 := #[.string ⟨#[]⟩, .int .i64 0, .slice none 0 0, .string ⟨#[]⟩, .bool false, .bool false, .bool false, .bool false, .bool false, .bool false, .bool false, .slice none 0 0]) ht3 hz hc hB3 (fun ad e => by have := hzA ad e; omega) (fun ad e => by have := hcA ad e; omega))
  have b1 : BlkAt ((w3.alloc (.cells #[.int .i64 0, .int .i64 0, .int .i64 0, .int .i64 0, .int .i64 0] 28)).alloc (.cells #[.string ⟨#[]⟩, .int .i64 0, .slice none 0 0, .string ⟨#[]⟩, .bool false, .bool false, .bool false, .bool false, .bool false, .bool false, .bool false, .slice none 0 0] 37)) w3.heap.size (sV ⟨0, 0, 0, 0, 0⟩) 28 := (BlkAt.new _ _ _).al _
  have b2 : BlkAt (((w3.alloc (.cells #[.int .i64 0, .int .i64 0, .int .i64 0, .int .i64 0, .int .i64 0] 28)).alloc (.cells #[.string ⟨#[]⟩, .int .i64 0, .slice none 0 0, .string ⟨#[]⟩, .bool false, .bool false, .bool false, .bool false, .bool false, .bool false, .bool false, .slice none 0 0] 37)).setRow w3.heap.size (sV s)) (w3.heap.size + 1) #[.string ⟨#[]⟩, .int .i64 0, .slice none 0 0, .string ⟨#[]⟩, .bool false, .bool false, .bool false, .bool false, .bool false, .bool false, .bool false, .slice none 0 0] 37 := (BlkAt.newAt _ _ _ (by simp)).setFar _ (by omega)
  have HOK := Lib.hid (And.intro hsok (And.intro hzok hcok))
  clear hz hc hzA hcA hB2 hB3 ho3 ht2 ht3 hsok hzok hcok
  go_wp2_with (first | ((with_reducible refine wpl_store rfl 28 _ _ rfl _ (sV s) ?_ ?_ b1 (rowS _) ?_ ?_); exact rfl; exact rfl; exact rfl) | ((with_reducible refine wpl_store rfl 37 _ _ rfl _ (pV z A kz c Ac kc) ?_ ?_ b2 (rowP ..) ?_ ?_); exact rfl; exact rfl; exact rfl))
  clear b1 b2
  generalize ((((w3.alloc _).alloc _).setRow _ _).setRow _ _) = w4 at *
  generalize w3.heap.size + 1 = gp at *
  generalize w3.heap.size = gs at *
  refine (sord_any 12 (by omega) _ _ _ HS.out.tape).mono ?_
  rintro e w5 ⟨l, Al, cl, kn, rfl, hl12, hkn, hmade, hor, hAl, ht5, ho5⟩
  have HS5 := Lib.hid (HS.out.only ho5 ht5)
  have HO5 := Lib.hid hor
  have HM := Lib.hid hmade
  have hb0 := Lib.hid (hmade.book (by omega))
  clear HS hor hmade ht5 ho5 hAl
  obtain ⟨fr, hfr⟩ := fr_ex s z c
  obtain ⟨dl, hdl⟩ := dl_exF s z c
  have HFR := Lib.hid hfr
  have HTK := taken_c (P := ⟨l, Al, cl, s, z, A, kz, c, Ac, kc, fr, dl⟩) (w := w5) ⟨HO5.out, HS5.out.ls.za, HS5.out.ls.ca, hfr, hdl, by show l.length ≤ 4096; omega⟩ (k := 1000) (fund := alpha) hb0.out (by decide) alpha_nm alpha_sz HOK.out.2.1 HOK.out.2.2 HOK.out.1
  have HTK0 := Lib.hid HTK
  clear hfr hdl HTK
  go_wp2_with (first | ((with_reducible refine wpl_load rfl 28 _ rfl _ ?_ HS5.out.ls.sb (rowS _) ?_); exact rfl) | ((with_reducible refine wpl_load rfl 37 _ rfl _ ?_ HS5.out.ls.pb (rowP ..) ?_); exact rfl))
  refine HTK0.out.mono ?_
  rintro e w6 ⟨A1, c1, T, rfl, hT, hbl, hC, hTl, -⟩
  have HS6 := Lib.hid (HS5.out.next hbl)
  have HT6 := Lib.hid hT
  have HC := Lib.hid hC
  clear hbl hT hC HS5 HO5 HTK0 HM hb0 HOK
  go_wp2_with fail
  go_loopw [9] (fun iv wr => ∃ i : Nat, i ≤ T.length ∧ iv = .int .i64 i ∧ L24 w wr gs gp s z A kz c Ac kc ∧ TkAt wr A1 T) (fun iv _ => T.length - (intOf iv).toNat)
  case atStart => exact ⟨0, by omega, rfl, HS6.out, HT6.out⟩
  case round =>
    obtain ⟨i, hi, rfl, hS, hTk⟩ := hrel
    have HS := Lib.hid hS
    have HT := Lib.hid hTk
    clear hS hTk HS6 HT6
    by_cases hlt : i < T.length
    · obtain ⟨⟨o, d⟩, hp⟩ : ∃ p, T[i]? = some p := ⟨_, List.getElem?_eq_getElem hlt⟩
      obtain ⟨hvd, hfd, hfrd⟩ := taken_each HC.out (List.mem_of_getElem? hp)
      have hF : ForR s z c o.t d 0 := by
        have := HFR.out o.t
        have e1 : fr o.t = (d, 0) := hfrd
        rw [e1] at this
        exact this
      obtain ⟨x, hDl, htx⟩ := for_last hF
      have HF := Lib.hid hF
      have HDL := Lib.hid hDl
      have HP := Lib.hid hp
      have HV := Lib.hid (show o.void = false from hvd)
      have HFD := Lib.hid (show o.fund = alpha from hfd)
      obtain ⟨b, oo, rfl, hbl, -⟩ := HT.out.get hp
      have HQ := Lib.hid (show ∀ W : World, TkAt W (some ⟨b, oo, none⟩) T → (W.cell? ⟨b, oo + i * 13, none⟩ = some (.string o.key) ∧ W.cell? ⟨b, oo + i * 13 + 1, none⟩ = some (.string o.nom) ∧ W.cell? ⟨b, oo + i * 13 + 2, none⟩ = some (.string o.hol) ∧ W.cell? ⟨b, oo + i * 13 + 3, none⟩ = some (.string o.fund) ∧ W.cell? ⟨b, oo + i * 13 + 4, none⟩ = some (.string o.cls) ∧ W.cell? ⟨b, oo + i * 13 + 5, none⟩ = some (.int .i64 o.kind) ∧ W.cell? ⟨b, oo + i * 13 + 6, none⟩ = some (.int .i64 o.amt) ∧ W.cell? ⟨b, oo + i * 13 + 7, none⟩ = some (.int .i64 o.units) ∧ W.cell? ⟨b, oo + i * 13 + 8, none⟩ = some (.int .i64 o.t) ∧ W.cell? ⟨b, oo + i * 13 + 9, none⟩ = some (.int .i64 o.known) ∧ W.cell? ⟨b, oo + i * 13 + 10, none⟩ = some (.bool o.void) ∧ W.cell? ⟨b, oo + i * 13 + 11, none⟩ = some (.int .i64 d) ∧ W.cell? ⟨b, oo + i * 13 + 12, none⟩ = some (.int .i64 d)) from fun W h => by
        obtain ⟨b', o', e, -, hq⟩ := h.get HP.out
        injection e with e
        injection e with e1 e2
        subst e1 e2
        exact hq)
      clear hF hDl hp hvd hfd hfrd hbl
      have hi0 : (0 : Int) ≤ (i : Int) := by omega
      have hi1 : (i : Int) < (T.length : Int) := by omega
      have HD := Lib.hid (HS.out.next ((Below.refl _ _).drew))
      have HTD := Lib.hid (HT.out.below ((Below.refl _ _).drew))
      go_wp2_with fail
      go_region_held3 (fun W => (W.cell? ⟨gs, 0, none⟩ = some (.int .i64 s.period) ∧ W.cell? ⟨gs, 1, none⟩ = some (.int .i64 s.nth) ∧ W.cell? ⟨gs, 2, none⟩ = some (.int .i64 s.notice) ∧ W.cell? ⟨gs, 3, none⟩ = some (.int .i64 s.settle) ∧ W.cell? ⟨gs, 4, none⟩ = some (.int .i64 s.cutoff)) ∧ (W.cell? ⟨gp, 0, none⟩ = some (.string z.name) ∧ W.cell? ⟨gp, 1, none⟩ = some (.int .i64 z.off) ∧ W.cell? ⟨gp, 2, none⟩ = some (.slice A z.cs.length kz) ∧ W.cell? ⟨gp, 3, none⟩ = some (.string c.name) ∧ W.cell? ⟨gp, 4, none⟩ = some (.bool c.w0) ∧ W.cell? ⟨gp, 5, none⟩ = some (.bool c.w1) ∧ W.cell? ⟨gp, 6, none⟩ = some (.bool c.w2) ∧ W.cell? ⟨gp, 7, none⟩ = some (.bool c.w3) ∧ W.cell? ⟨gp, 8, none⟩ = some (.bool c.w4) ∧ W.cell? ⟨gp, 9, none⟩ = some (.bool c.w5) ∧ W.cell? ⟨gp, 10, none⟩ = some (.bool c.w6) ∧ W.cell? ⟨gp, 11, none⟩ = some (.slice Ac c.hs.length kc)) ∧ W.cell? ⟨b, oo + i * 13 + 8, none⟩ = some (.int .i64 o.t))
        ((first
          | (with_reducible exact ⟨HD.out.q.1, HD.out.q.2, (HQ.out _ HTD.out).2.2.2.2.2.2.2.2.1⟩)
          | (with_reducible exact ⟨H7.out.q.1, H7.out.q.2, (HQ.out _ HT7.out).2.2.2.2.2.2.2.2.1⟩)))
        ((go_at_call 19; refine (rForR kz kc HF.out HD.out.ls.za HD.out.ls.ca).mono ?_; rintro e w7 ⟨rfl, hbl⟩; have H7 := Lib.hid (HD.out.next hbl); have HT7 := Lib.hid (HTD.out.below hbl)))
      have HD2 := Lib.hid (H7.out.next ((Below.refl _ _).drew))
      have HTD2 := Lib.hid (HT7.out.below ((Below.refl _ _).drew))
      clear hbl HD HTD HF
      go_wp2_with fail
      go_region_held3 (fun W => (W.cell? ⟨gs, 0, none⟩ = some (.int .i64 s.period) ∧ W.cell? ⟨gs, 1, none⟩ = some (.int .i64 s.nth) ∧ W.cell? ⟨gs, 2, none⟩ = some (.int .i64 s.notice) ∧ W.cell? ⟨gs, 3, none⟩ = some (.int .i64 s.settle) ∧ W.cell? ⟨gs, 4, none⟩ = some (.int .i64 s.cutoff)) ∧ (W.cell? ⟨gp, 0, none⟩ = some (.string z.name) ∧ W.cell? ⟨gp, 1, none⟩ = some (.int .i64 z.off) ∧ W.cell? ⟨gp, 2, none⟩ = some (.slice A z.cs.length kz) ∧ W.cell? ⟨gp, 3, none⟩ = some (.string c.name) ∧ W.cell? ⟨gp, 4, none⟩ = some (.bool c.w0) ∧ W.cell? ⟨gp, 5, none⟩ = some (.bool c.w1) ∧ W.cell? ⟨gp, 6, none⟩ = some (.bool c.w2) ∧ W.cell? ⟨gp, 7, none⟩ = some (.bool c.w3) ∧ W.cell? ⟨gp, 8, none⟩ = some (.bool c.w4) ∧ W.cell? ⟨gp, 9, none⟩ = some (.bool c.w5) ∧ W.cell? ⟨gp, 10, none⟩ = some (.bool c.w6) ∧ W.cell? ⟨gp, 11, none⟩ = some (.slice Ac c.hs.length kc)) ∧ W.cell? ⟨b, oo + i * 13 + 11, none⟩ = some (.int .i64 d))
        ((first
          | (with_reducible exact ⟨HD2.out.q.1, HD2.out.q.2, (HQ.out _ HTD2.out).2.2.2.2.2.2.2.2.2.2.2.1⟩)
          | (with_reducible exact ⟨H8.out.q.1, H8.out.q.2, (HQ.out _ HT8.out).2.2.2.2.2.2.2.2.2.2.2.1⟩)))
        ((go_at_call 20; refine (rDeadlineV kz kc HDL.out HD2.out.ls.za HD2.out.ls.ca).mono ?_; rintro e w8 ⟨rfl, hbl⟩; have H8 := Lib.hid (HD2.out.next hbl); have HT8 := Lib.hid (HTD2.out.below hbl)))
      clear hbl HD2 HTD2 H7 HT7 HDL
      obtain ⟨q0, q1, q2, q3, q4, q5, q6, q7, q8, q9, q10, q11, q12⟩ := HQ.out _ HT8.out
      rw [HV.out] at q10
      rw [HFD.out] at q3
      have g1 : decide (x < o.t) = false := decide_eq_false (by omega)
      replace q3 : w8.cell? ⟨b, oo + i * 13 + 3, none⟩ = some (.string ⟨#[97, 108, 112, 104, 97]⟩) := q3
      go_wp2_with fail
      clear q0 q1 q2 q3 q4 q5 q6 q7 q8 q9 q10 q11 q12 g1
      go_loopw [14] (fun jv wr => ∃ j : Nat, j ≤ i ∧ jv = .int .i64 j ∧ L24 w wr gs gp s z A kz c Ac kc ∧ TkAt wr (some ⟨b, oo, none⟩) T) (fun jv _ => i - (intOf jv).toNat)
      case atStart => exact ⟨0, by omega, rfl, H8.out, HT8.out⟩
      case round =>
        obtain ⟨j, hj, rfl, hS2, hT2⟩ := hrel
        have HS2 := Lib.hid hS2
        have HT2 := Lib.hid hT2
        clear hS2 hT2 H8 HT8
        by_cases hji : j < i
        · obtain ⟨⟨o', d'⟩, hp'⟩ : ∃ p, T[j]? = some p := ⟨_, List.getElem?_eq_getElem (by omega)⟩
          obtain ⟨hkey, hlt2⟩ := taken_pair HC.out hp' HP.out hji
          obtain ⟨q0, q1, q2, q3, q4, q5, q6, q7, q8, q9, q10, q11, q12⟩ := HQ.out _ HT2.out
          obtain ⟨r0, r1, r2, r3, r4, r5, r6, r7, r8, r9, r10, r11, r12⟩ := (show (wr.cell? ⟨b, oo + j * 13, none⟩ = some (.string o'.key) ∧ wr.cell? ⟨b, oo + j * 13 + 1, none⟩ = some (.string o'.nom) ∧ wr.cell? ⟨b, oo + j * 13 + 2, none⟩ = some (.string o'.hol) ∧ wr.cell? ⟨b, oo + j * 13 + 3, none⟩ = some (.string o'.fund) ∧ wr.cell? ⟨b, oo + j * 13 + 4, none⟩ = some (.string o'.cls) ∧ wr.cell? ⟨b, oo + j * 13 + 5, none⟩ = some (.int .i64 o'.kind) ∧ wr.cell? ⟨b, oo + j * 13 + 6, none⟩ = some (.int .i64 o'.amt) ∧ wr.cell? ⟨b, oo + j * 13 + 7, none⟩ = some (.int .i64 o'.units) ∧ wr.cell? ⟨b, oo + j * 13 + 8, none⟩ = some (.int .i64 o'.t) ∧ wr.cell? ⟨b, oo + j * 13 + 9, none⟩ = some (.int .i64 o'.known) ∧ wr.cell? ⟨b, oo + j * 13 + 10, none⟩ = some (.bool o'.void) ∧ wr.cell? ⟨b, oo + j * 13 + 11, none⟩ = some (.int .i64 d') ∧ wr.cell? ⟨b, oo + j * 13 + 12, none⟩ = some (.int .i64 d')) from by
            obtain ⟨b', o2, e, -, hq⟩ := HT2.out.get hp'
            injection e with e
            injection e with e1 e2
            subst e1 e2
            exact hq)
          have hk1 : (o'.key.toList == o.key.toList) = false := key_f hkey
          have hj0 : (0 : Int) ≤ (j : Int) := by omega
          have hj1 : (j : Int) < (T.length : Int) := by omega
          have hB := Lib.hid (fun n : Nat => And.intro (HS2.out.next (Go.below_drewN (Below.refl wr.heap.size wr) n)) (HT2.out.below (Go.below_drewN (Below.refl wr.heap.size wr) n)))
          clear hkey hp' HS2 HT2
          rcases hlt2 with hlt2 | ⟨hlt2, hlt3⟩
          · have g1 : decide (d < d') = false := decide_eq_false (by have : d' < d := hlt2; omega)
            have g2 : (d' == d) = false := beq_eq_false_iff_ne.2 (by have : d' < d := hlt2; omega)
            clear hlt2
            go_wp2_with fail
            go_quiet (fail)
            go_wp2_with fail
            go_roundw
            case rel => exact ⟨j + 1, by omega, by go_num, hB.out _⟩
            case measure => simp [intOf]; omega
          · obtain rfl : d' = d := hlt2
            have hlt4 : o'.known < o.known := hlt3
            have g1 : decide (o.known ≤ o'.known) = false := decide_eq_false (by omega)
            clear hlt3 hlt4
            go_wp2_with fail
            go_quiet (fail)
            go_wp2_with fail
            go_roundw
            case rel => exact ⟨j + 1, by omega, by go_num, hB.out _⟩
            case measure => simp [intOf]; omega
        · go_wp2_with fail
          go_roundw
          case rel => exact ⟨i + 1, by omega, by go_num, HS2.out, HT2.out⟩
          case measure => simp [intOf]; omega
    · go_wp2_with fail
      refine (awake24_any _).mono ?_
      rintro e6 w11 ⟨rfl, hbl⟩
      have HB := Lib.hid (bnext HS.out.ls.below hbl)
      clear hbl
      go_wp2_with fail
      go_ret
      exact ⟨rfl, HB.out⟩
end Go.Proofs.YtbfllcfjgpkpaaaGreat
