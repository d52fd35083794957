/-
  The law IntakeForgetsTheFuture over a tape.
-/
import Derived.Test.YtbfllcfjgpkpaaaIntAwake
import Derived.Test.YtbfllcfjgpkpaaaScene3
import Derived.Test.YtbfllcfjgpkpaaaSusLaws
namespace Go.Proofs.Ytbfllcfjgpkpaaa
open Go.RowKit
set_option linter.unusedVariables false
set_option maxHeartbeats 8000000
/-- The versions known at k. -/
def knO (L : List OR) (k : Int) : List OR := L.filter fun x => decide (x.known ≤ k)
theorem knO_yes {l : List OR} {i : Nat} {x : OR} {k : Int} (h : l[i]? = some x) (hk : x.known ≤ k) : knO (l.take (i + 1)) k = knO (l.take i) k ++ [x] := by
  rw [take_one h]
  simp [knO, hk]
theorem knO_no {l : List OR} {i : Nat} {x : OR} {k : Int} (h : l[i]? = some x) (hk : ¬x.known ≤ k) : knO (l.take (i + 1)) k = knO (l.take i) k := by
  rw [take_one h]
  simp [knO, hk]
theorem knO_len (l : List OR) (k : Int) (i : Nat) : (knO (l.take i) k).length ≤ l.length := by
  have := List.length_filter_le (fun x : OR => decide (x.known ≤ k)) (l.take i)
  unfold knO
  rw [List.length_take] at this
  omega
/-- The list of orders that a slice holds, as a desk reads it. -/
theorem OwnL.orders {W0 W : World} {v : Value} {n : Nat} {L : List OR} (h : OwnL W0 W 43 11 v n (orL L).flatten) (hs : ∀ x ∈ L, x.small) (hl : L.length ≤ 4096) : ∃ A cap, v = .slice A L.length cap ∧ OrAt W A L := by
  obtain ⟨A, cap, hv, hA, -⟩ := own_ord h.own hs hl
  exact ⟨A, cap, hv, hA⟩
theorem OwnL.eqO {W0 W : World} {e : TypeId} {sz : Nat} {v : Value} {n n' : Nat} {xs xs' : List Value} (h : OwnL W0 W e sz v n xs) (h1 : n = n') (h2 : xs = xs') : OwnL W0 W e sz v n' xs' := by subst h1 h2; exact h
/-- What is taken of the versions known at k. -/
theorem taken_known {L : List OR} {fr dl : Int → Int × Int} {k k2 : Int} {fund : ByteArray} (hk : k ≤ k2) (key : ByteArray) : curC fr dl k2 fund key none (knO L k) = curC fr dl k fund key none L :=
  known_cur key _ (fun o _ h => by simp at h; simp [cntO]; omega) k2 (fun o _ h => by simp at h; simp only [cntO]; rw [decide_eq_true (show o.known ≤ k2 by omega), decide_eq_true h]) none
/-- Take, as a law reads it. -/
def TakC (P : DPar) (k : Int) (fund : ByteArray) (w : World) (e : Ending) (w' : World) : Prop :=
  ∃ A cap T, e = .returned (.tuple #[.slice A T.length cap, .int .i64 0]) ∧ TkAt w' A T ∧ Below w.heap.size w w' ∧ TakenC (fun key => curC P.fr P.dl k fund key none P.l) T ∧ T.length ≤ 4096 ∧ TakenL P k fund T
theorem taken_c {P : DPar} {w : World} (hP : P.Ok w) {k : Int} {fund : ByteArray} (hb0 : bookErr P.l = 0) (hk : knB k = true) (hf : nmB fund = true) (hfu : fund.size ≤ maxLen) (hz : P.z.ok = true) (hc : P.c.ok = true) (hs : P.s.ok = true) :
    Calls Try.prog 10 #[.slice P.A P.l.length P.cp, .int .i64 k, .string fund, .agg (sV P.s), .agg (pV P.z P.zA P.zc P.c P.cA P.cc)] w (TakC P k fund w) := by
  have hln := hP.ln
  refine (taken_ok hP hb0 hk hf hfu hz hc hs).mono ?_
  rintro e w' ⟨v, L, rfl, hO, hT⟩
  have hL : L.length ≤ 4096 := by
    have h1 : L.length = (tknL P.fr P.dl P.l k fund P.l.length).length := by
      refine List.Perm.length_eq ((List.perm_ext_iff_of_nodup hT.nodup (tknL_nodup (Nat.le_refl _) (bookErr_zero hb0).2)).2 fun p => ?_)
      rw [hT.mem, tknL_mem (Nat.le_refl _)]
    have h2 := List.length_filter_le (tknB P.fr P.dl P.l k fund P.l.length) (List.range P.l.length)
    rw [List.length_range] at h2
    rw [h1, tknL_len (Nat.le_refl _)]
    omega
  obtain ⟨A, cap, rfl, hA⟩ := hO.taken (by omega)
  exact ⟨A, cap, L, rfl, hA, hO.below, hT.toC hb0, hL, hT⟩
/-- The state of a law of intake: its tape, its schedule and its place. -/
structure L24 (w W : World) (gs gp : Nat) (s : SC) (z : ZN) (A : Option Addr) (kz : Nat) (c : CN) (Ac : Option Addr) (kc : Nat) : Prop where
  tape : TapS W w.heap.size w.heap.size
  ls : LS w W gs gp s z A kz c Ac kc [] none
  fz : ∀ ad, A = some ad → w.heap.size < ad.block
  fc : ∀ ad, Ac = some ad → w.heap.size < ad.block
  hs : w.heap.size < gs
  hp : w.heap.size < gp
section
variable {w W W' : World} {gs gp : Nat} {s : SC} {z : ZN} {A : Option Addr} {kz : Nat} {c : CN} {Ac : Option Addr} {kc : Nat}
theorem L24.only (h : L24 w W gs gp s z A kz c Ac kc) (ho : Only w.heap.size W W') (ht : TapS W' w.heap.size w.heap.size) : L24 w W' gs gp s z A kz c Ac kc :=
  ⟨ht, ⟨h.ls.sb.only ho (by have := h.hs; omega), h.ls.pb.only ho (by have := h.hp; omega), h.ls.za.only (fun ad e => by have := h.fz ad e; omega) ho, h.ls.ca.only (fun ad e => by have := h.fc ad e; omega) ho, SuAt.nil _, lawOnly2 h.ls.below ho⟩, h.fz, h.fc, h.hs, h.hp⟩
theorem L24.next (h : L24 w W gs gp s z A kz c Ac kc) (hb : Below W.heap.size W W') : L24 w W' gs gp s z A kz c Ac kc := ⟨h.tape.below hb, h.ls.next hb, h.fz, h.fc, h.hs, h.hp⟩
theorem L24.new (s : SC) (kz kc : Nat) {o1 o2 : Array Value} (ht : TapS W w.heap.size w.heap.size) (hz : ZAt W z A) (hc : CAt W c Ac) (hb : Below w.heap.size w W) (fz : ∀ ad, A = some ad → w.heap.size < ad.block) (fc : ∀ ad, Ac = some ad → w.heap.size < ad.block) :
    L24 w ((((W.alloc (.cells o1 26)).alloc (.cells o2 35)).setRow W.heap.size (sV s)).setRow (W.heap.size + 1) (pV z A kz c Ac kc)) W.heap.size (W.heap.size + 1) s z A kz c Ac kc := by
  have hlt := ht.lt
  exact ⟨(((ht.alloc _).alloc _).setRow (by omega) (by omega) _).setRow (by omega) (by omega) _, LS.new s kz kc hz hc (SuAt.nil _) hb, fz, fc, hlt, by omega⟩
end
set_option maxRecDepth 1000000 in
theorem intakeForgetsTheFuture_any (A0 : Option Addr) (L0 : List Int) (cap : Nat) (k0 : Int) (w : World) (hL : IntsAt w A0 L0) :
    Calls Try.prog 3 #[.slice A0 L0.length cap, .int .i64 k0] w (RetB (.bool true) w) := by
  obtain ⟨k, hk, hk0, hk1⟩ := modI_lt k0 30 (by omega)
  have HKE := Lib.hid hk
  clear hk
  go_enter Try.func3, Try.ntmps3
  go_wp2_with fail
  refine (snew_any A0 L0 cap _ hL).mono ?_
  rintro e w1 ⟨rfl, ht1, hb1⟩
  go_wp2_with fail
  refine (ssched_any _ _ _ ht1).mono ?_
  rintro e w2 ⟨s, rfl, hsok, ht2, ho2⟩
  have hB2 := lawOnly2 hb1 ho2
  clear hb1 ho2 ht1 hL
  go_wp2_with fail
  refine (splace_any _ _ _ ht2).mono ?_
  rintro e w3 ⟨z, A, kz, c, Ac, kc, rfl, hz, hc, hzA, hcA, hzok, hcok, -, -, ht3, ho3⟩
  have hB3 := lawOnly2 hB2 ho3
  have hl2 := ht2.lt
  have HS := Lib.hid (L24.new s kz kc (o1 := #[.int .i64 0, .int .i64 0, .int .i64 0, .int .i64 0, .int .i64 0]) (o2 := #[.string ⟨#[]⟩, .int .i64 0, .slice none 0 0, .string ⟨#[]⟩, .bool false, .bool false, .bool false, .bool false, .bool false, .bool false, .bool false, .slice none 0 0]) ht3 hz hc hB3 (fun ad e => by have := hzA ad e; omega) (fun ad e => by have := hcA ad e; omega))
  have b1 : BlkAt ((w3.alloc (.cells #[.int .i64 0, .int .i64 0, .int .i64 0, .int .i64 0, .int .i64 0] 26)).alloc (.cells #[.string ⟨#[]⟩, .int .i64 0, .slice none 0 0, .string ⟨#[]⟩, .bool false, .bool false, .bool false, .bool false, .bool false, .bool false, .bool false, .slice none 0 0] 35)) w3.heap.size (sV ⟨0, 0, 0, 0, 0⟩) 26 := (BlkAt.new _ _ _).al _
  have b2 : BlkAt (((w3.alloc (.cells #[.int .i64 0, .int .i64 0, .int .i64 0, .int .i64 0, .int .i64 0] 26)).alloc (.cells #[.string ⟨#[]⟩, .int .i64 0, .slice none 0 0, .string ⟨#[]⟩, .bool false, .bool false, .bool false, .bool false, .bool false, .bool false, .bool false, .slice none 0 0] 35)).setRow w3.heap.size (sV s)) (w3.heap.size + 1) #[.string ⟨#[]⟩, .int .i64 0, .slice none 0 0, .string ⟨#[]⟩, .bool false, .bool false, .bool false, .bool false, .bool false, .bool false, .bool false, .slice none 0 0] 35 := (BlkAt.newAt _ _ _ (by simp)).setFar _ (by omega)
  have HOK := Lib.hid (And.intro hsok (And.intro hzok hcok))
  clear hz hc hzA hcA hB2 hB3 ho3 ht2 ht3 hsok hzok hcok
  go_wp2_with (first | ((with_reducible refine wpl_store rfl 26 _ _ rfl _ (sV s) ?_ ?_ b1 (rowS _) ?_ ?_); exact rfl; exact rfl; exact rfl) | ((with_reducible refine wpl_store rfl 35 _ _ rfl _ (pV z A kz c Ac kc) ?_ ?_ b2 (rowP ..) ?_ ?_); exact rfl; exact rfl; exact rfl))
  clear b1 b2
  generalize ((((w3.alloc _).alloc _).setRow _ _).setRow _ _) = w4 at *
  generalize w3.heap.size + 1 = gp at *
  generalize w3.heap.size = gs at *
  refine (sord_any 12 (by omega) _ _ _ HS.out.tape).mono ?_
  rintro e w5 ⟨l, Al, cl, kn, rfl, hl12, hkn, hmade, hor, hAl, ht5, ho5⟩
  have HS5 := Lib.hid (HS.out.only ho5 ht5)
  have HO5 := Lib.hid hor
  have HM := Lib.hid hmade
  have hb0 := Lib.hid (hmade.book (by omega))
  clear HS hor hmade ht5 ho5 hAl
  go_wp2_with fail
  refine (smod_any k0 30 _ (by decide)).mono ?_
  rintro e w6 ⟨rfl, rfl⟩
  rw [HKE.out]
  go_wp2_with fail
  go_loopw [9, 10] (fun kv iv wr => ∃ i : Nat, i ≤ l.length ∧ iv = .int .i64 i ∧ OwnL w5 wr 43 11 kv (knO (l.take i) (1 + k)).length (orL (knO (l.take i) (1 + k))).flatten) (fun _ iv _ => l.length - (intOf iv).toNat)
  case atStart => exact ⟨0, by omega, rfl, OwnL.start ..⟩
  case round =>
    obtain ⟨i, hi, rfl, hO⟩ := hrel
    have HO := Lib.hid hO
    have HL := Lib.hid (HS5.out.next hO.below)
    have HR := Lib.hid (HO5.out.below hO.below)
    clear hO
    by_cases hil : i < l.length
    · obtain ⟨b, o, x, rfl, hx, hb, hsm, q0, q1, q2, q3, q4, q5, q6, q7, q8, q9, q10⟩ := HR.out.get hil
      have HX := Lib.hid hx
      clear hx hb hsm
      have hkl : (knO (l.take i) (1 + k)).length ≤ 100000 := by have := knO_len l (1 + k) i; omega
      by_cases hxk : x.known ≤ 1 + k
      · go_wp2_with (at_builtin; refine wpl_push elOrd rfl _ _ rfl HO.out rfl #[.string x.key, .string x.nom, .string x.hol, .string x.fund, .string x.cls, .int .i64 x.kind, .int .i64 x.amt, .int .i64 x.units, .int .i64 x.t, .int .i64 x.known, .bool x.void] rfl rfl rfl hkl (by decide) ?_; intro v' w' hO' hg)
        have HO2 := Lib.hid hO'
        clear hO' hg q0 q1 q2 q3 q4 q5 q6 q7 q8 q9 q10
        go_wp2_with fail
        go_roundw
        case rel => exact ⟨i + 1, by omega, by go_num, HO2.out.eqO (by rw [knO_yes HX.out hxk, List.length_append]; rfl) (by rw [knO_yes HX.out hxk, orL_next])⟩
        case measure => simp [intOf]; omega
      · go_wp2_with fail
        go_roundw
        case rel => exact ⟨i + 1, by omega, by go_num, HO.out.eqO (by rw [knO_no HX.out hxk]) (by rw [knO_no HX.out hxk])⟩
        case measure => simp [intOf]; omega
    · have hie : l.take i = l := List.take_of_length_le (by omega)
      have HO2 := HO.out
      rw [hie] at HO2
      have hkl : (knO l (1 + k)).length ≤ 4096 := by
        have := List.length_filter_le (fun x : OR => decide (x.known ≤ 1 + k)) l
        unfold knO
        omega
      obtain ⟨A', cp', rfl, hOr'⟩ := HO2.orders (fun x hx => (HM.out.each x ((List.mem_filter.1 hx).1)).small) hkl
      have HU := Lib.hid hOr'
      obtain ⟨fr, hfr⟩ := fr_ex s z c
      obtain ⟨dl, hdl⟩ := dl_exF s z c
      have hbk : bookErr (knO l (1 + k)) = 0 := bookErr_sub List.filter_sublist hb0.out
      have HC1 := Lib.hid (fun (W : World) (h : L24 w W gs gp s z A kz c Ac kc) (h2 : OrAt W Al l) (k : Int) (hk : knB k = true) => taken_c (P := ⟨l, Al, cl, s, z, A, kz, c, Ac, kc, fr, dl⟩) (w := W) ⟨h2, h.ls.za, h.ls.ca, hfr, hdl, by show l.length ≤ 4096; omega⟩ (k := k) (fund := alpha) hb0.out hk alpha_nm alpha_sz HOK.out.2.1 HOK.out.2.2 HOK.out.1)
      have HC2 := Lib.hid (fun (W : World) (h : L24 w W gs gp s z A kz c Ac kc) (h2 : OrAt W A' (knO l (1 + k))) (k' : Int) (hk : knB k' = true) => taken_c (P := ⟨knO l (1 + k), A', cp', s, z, A, kz, c, Ac, kc, fr, dl⟩) (w := W) ⟨h2, h.ls.za, h.ls.ca, hfr, hdl, hkl⟩ (k := k') (fund := alpha) hbk hk alpha_nm alpha_sz HOK.out.2.1 HOK.out.2.2 HOK.out.1)
      clear hOr' HO2 hie HO hfr hdl hbk
      go_wp2_with (first | ((with_reducible refine wpl_load rfl 26 _ rfl _ ?_ HL.out.ls.sb (rowS _) ?_); exact rfl) | ((with_reducible refine wpl_load rfl 35 _ rfl _ ?_ HL.out.ls.pb (rowP ..) ?_); exact rfl))
      refine (HC1.out _ HL.out HR.out (1 + k) ((knB_iff _).2 (by omega))).mono ?_
      rintro e1 w6 ⟨A1, c1, T1, rfl, hT1, hbl, hC1, hl1, -⟩
      have HS6 := Lib.hid (HL.out.next hbl)
      have HU6 := Lib.hid (HU.out.below hbl)
      have HT1 := Lib.hid hT1
      have HE1 := Lib.hid hC1
      clear hbl HL HU hT1 hC1 HR HC1
      go_wp2_with (first | ((with_reducible refine wpl_load rfl 26 _ rfl _ ?_ HS6.out.ls.sb (rowS _) ?_); exact rfl) | ((with_reducible refine wpl_load rfl 35 _ rfl _ ?_ HS6.out.ls.pb (rowP ..) ?_); exact rfl))
      refine (HC2.out _ HS6.out HU6.out (1 + k) ((knB_iff _).2 (by omega))).mono ?_
      rintro e2 w7 ⟨A2, c2, T2, rfl, hT2, hbl, hC2, hl2', -⟩
      have hTe : T2 = T1 := TakenC.unique hC2 HE1.out (fun key => taken_known (by omega) key)
      subst hTe
      have HS7 := Lib.hid (HS6.out.next hbl)
      have HU7 := Lib.hid (HU6.out.below hbl)
      have HT1b := Lib.hid (HT1.out.below hbl)
      have HT2 := Lib.hid hT2
      clear hbl HS6 HU6 HT1 hT2 hC2
      go_wp2_with (first | ((with_reducible refine wpl_load rfl 26 _ rfl _ ?_ HS7.out.ls.sb (rowS _) ?_); exact rfl) | ((with_reducible refine wpl_load rfl 35 _ rfl _ ?_ HS7.out.ls.pb (rowP ..) ?_); exact rfl))
      refine (HC2.out _ HS7.out HU7.out 1000 ((knB_iff _).2 (by omega))).mono ?_
      rintro e3 w8 ⟨A3, c3, T3, rfl, hT3, hbl, hC3, hl3, -⟩
      have hTe : T3 = T2 := TakenC.unique hC3 HE1.out (fun key => taken_known (by omega) key)
      subst hTe
      have HS8 := Lib.hid (HS7.out.next hbl)
      have HT1c := Lib.hid (HT1b.out.below hbl)
      have HT2b := Lib.hid (HT2.out.below hbl)
      have HT3 := Lib.hid hT3
      clear hbl HS7 HU7 HT1b HT2 hT3 hC3 HC2 HE1
      go_wp2_with fail
      refine (rsame_any T3 (by omega) _ _ _ _ _ HT1c.out HT2b.out).mono ?_
      rintro e4 w9 ⟨rfl, hbl⟩
      have HS9 := Lib.hid (HS8.out.next hbl)
      have HT1d := Lib.hid (HT1c.out.below hbl)
      have HT3b := Lib.hid (HT3.out.below hbl)
      clear hbl HS8 HT1c HT2b HT3
      go_wp2_with fail
      refine (rsame_any T3 (by omega) _ _ _ _ _ HT1d.out HT3b.out).mono ?_
      rintro e5 w10 ⟨rfl, hbl⟩
      have HS10 := Lib.hid (HS9.out.next hbl)
      clear hbl HS9 HT1d HT3b
      go_wp2_with fail
      refine (awake24_any _).mono ?_
      rintro e6 w11 ⟨rfl, hbl⟩
      have HB := Lib.hid (bnext HS10.out.ls.below hbl)
      clear hbl
      go_wp2_with fail
      go_ret
      exact ⟨rfl, HB.out⟩
end Go.Proofs.Ytbfllcfjgpkpaaa
