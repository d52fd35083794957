/-
  The laws of schedules over a tape: ScheduleSpoilt.
-/
import Derived.Test.YtllloldheofljaaSchedPlays2
import Derived.Test.YtllloldheofljaaRowMid
namespace Go.Proofs.Ytllloldheofljaa
open Go.RowKit
attribute [local go_sem ↓] Go.wp_at_zero Go.wp_at_succ
set_option linter.unusedVariables false
set_option maxHeartbeats 8000000
section
variable {w W W' : World} {N N' S P : Nat} {s : SC} {z : ZN} {A : Option Addr} {k : Nat} {c : CN} {Ac : Option Addr} {kc : Nat}
/-- The lists of a place do not lie in block R. -/
structure FarR (z : ZN) (A : Option Addr) (c : CN) (Ac : Option Addr) (R : Nat) : Prop where
  za : ∀ (k : Nat) (x : Int × Int), z.cs[k]? = some x → ∀ ad : Addr, A = some ad → ad.block ≠ R
  ca : ∀ (k : Nat) (x : Int), c.hs[k]? = some x → ∀ ad : Addr, Ac = some ad → ad.block ≠ R
theorem FarR.of {R : Nat} (hz : ZAt W z A) (hc : CAt W c Ac) (hR : W.heap.size ≤ R) : FarR z A c Ac R :=
  ⟨fun k x h ad e => by
    obtain ⟨b, o, e2, hlt, -⟩ := hz.cells k x h
    rw [e2] at e
    cases e
    exact Nat.ne_of_lt (Nat.lt_of_lt_of_le hlt hR), fun k x h ad e => by
    obtain ⟨b, o, e2, hlt, -⟩ := hc.ints.2 k x h
    rw [e2] at e
    cases e
    exact Nat.ne_of_lt (Nat.lt_of_lt_of_le hlt hR)⟩
theorem ZAt.row_far {R : Nat} (h : ZAt W z A) (hA : FarR z A c Ac R) (cs : Array Value) {nm : ByteArray} (hn : nm.size ≤ maxLen) : ZAt (W.setRow R cs) { z with name := nm } A :=
  ⟨hn, h.ln, fun k x hx => by
    obtain ⟨bb, o, e, hlt, h1, h2⟩ := h.cells k x hx
    exact ⟨bb, o, e, by rw [setRow_size]; exact hlt, (cell_setRow_other W R cs ⟨bb, o + k * 2, none⟩ (by show bb ≠ R; exact hA.za k x hx _ e)).trans h1, (cell_setRow_other W R cs ⟨bb, o + k * 2 + 1, none⟩ (by show bb ≠ R; exact hA.za k x hx _ e)).trans h2⟩⟩
theorem CAt.row_far {R : Nat} (h : CAt W c Ac) (hA : FarR z A c Ac R) (cs : Array Value) {nm : ByteArray} (hn : nm.size ≤ maxLen) : CAt (W.setRow R cs) { c with name := nm } Ac :=
  ⟨hn, h.ints.1, fun k x hx => by
    obtain ⟨bb, o, e, hlt, h1⟩ := h.ints.2 k x hx
    exact ⟨bb, o, e, by rw [setRow_size]; exact hlt, (cell_setRow_other W R cs ⟨bb, o + k, none⟩ (by show bb ≠ R; exact hA.ca k x hx _ e)).trans h1⟩⟩
theorem SPl.setS (h : SPl w W N S P s z A k c Ac kc) (hge : w.heap.size ≤ S) (hne : S ≠ P) (hf : FarR z A c Ac S) (s' : SC) : SPl w (W.setRow S (sV s')) N S P s' z A k c Ac kc :=
  ⟨h.tape.setRow hge h.hS _, h.sb.set _, h.pb.setFar _ (fun e => hne e.symm), h.za.row_far hf _ h.za.nm, h.ca.row_far hf _ h.ca.nm, h.fz, h.fc, h.hS, h.hP, Below.setRow h.below hge _⟩
theorem SPl.setZ (h : SPl w W N S P s z A k c Ac kc) (hge : w.heap.size ≤ P) (hne : S ≠ P) (hf : FarR z A c Ac P) : SPl w (W.setCell ⟨P, 0, none⟩ (.string ⟨#[]⟩)) N S P s { z with name := ⟨#[]⟩ } A k c Ac kc := by
  rw [setCell_eq_setRow W P 0 _ _ (0, 0) _ h.pb.blk]
  exact ⟨h.tape.setRow hge h.hP _, h.sb.setFar _ hne, h.pb.set _, h.za.row_far hf _ (by decide), h.ca.row_far hf _ h.ca.nm, h.fz, h.fc, h.hS, h.hP, Below.setRow h.below hge _⟩
theorem SPl.setC (h : SPl w W N S P s z A k c Ac kc) (hge : w.heap.size ≤ P) (hne : S ≠ P) (hf : FarR z A c Ac P) : SPl w (W.setCell ⟨P, 3, none⟩ (.string ⟨#[67]⟩)) N S P s z A k { c with name := ⟨#[67]⟩ } Ac kc := by
  rw [setCell_eq_setRow W P 3 _ _ (0, 0) _ h.pb.blk]
  exact ⟨h.tape.setRow hge h.hP _, h.sb.setFar _ hne, h.pb.set _, h.za.row_far hf _ h.za.nm, h.ca.row_far hf _ (by decide), h.fz, h.fc, h.hS, h.hP, Below.setRow h.below hge _⟩
end
/-- A pick out of a list that lies in a block of its own. -/
theorem pickW (xs : List Int) {vs : List Value} (hvs : vs = xs.map (Value.int .i64)) {B b N g : Nat} {W : World} (hb : BlkAt W g vs.toArray 3) (hg : g ≠ b) (h : TapeAt W B b (N + 1)) (hx : 0 < xs.length) (hx2 : xs.length ≤ 1000) {n c : Nat} (hn : xs.length = n) :
    Calls Try.prog 14 #[.pointer (some ⟨b, 0, none⟩), .slice (some ⟨g, 0, none⟩) n c] W (PickP xs B b N W) := by
  have hc := pick_any xs g B b N W h hx hx2 hb.lt hg c (fun k x hk => hb.cell (by simp [hvs, hk]))
  rw [hn] at hc
  exact hc
set_option maxRecDepth 100000 in
theorem scheduleSpoilt_any (A0 : Option Addr) (L : List Int) (cap : Nat) (w : World) (hL : IntsAt w A0 L) :
    Calls Try.prog 4 #[.slice A0 L.length cap] w (RetB (.bool true) w) := by
  have ht0 := tape_start (cap := cap) hL
  have hw0 := bal0 w (.cells #[.slice A0 L.length cap, .int .i64 0] 25)
  go_enter Try.func4, Try.ntmps4
  go_wp2_with fail
  have hB1 := hw0
  have ht1 := ht0
  clear hw0 ht0 hL
  refine (mkSched_any w.heap.size w.heap.size 90000 _ (ht1.less (by omega))).mono ?_
  rintro e w2 ⟨s, rfl, hsok, ht2, ho2⟩
  have hB2 := lawOnly2 hB1 ho2
  clear hB1 ho2 ht1 hsok
  go_wp2_with fail
  refine (mkPlace_any 9497 w.heap.size w.heap.size 80000 _ (ht2.less (by omega)) (by omega) (by omega)).mono ?_
  rintro e w3 ⟨z, A, k, c, Ac, kc, rfl, hz, hc, hzA, hcA, hzok, hcok, hc20, ht3, ho3⟩
  have hB3 := lawOnly2 hB2 ho3
  have hl2 := ht2.lt
  have hl3 := ht3.lt
  have hS := SPl.new s k kc (o1 := #[.int .i64 0, .int .i64 0, .int .i64 0, .int .i64 0, .int .i64 0]) (o2 := #[.string ⟨#[]⟩, .int .i64 0, .slice none 0 0, .string ⟨#[]⟩, .bool false, .bool false, .bool false, .bool false, .bool false, .bool false, .bool false, .slice none 0 0]) ht3 hz hc (fun ad e => by have := hzA ad e; omega) (fun ad e => by have := hcA ad e; omega) hB3
  have FS := Lib.hid (FarR.of hz hc (Nat.le_refl _))
  have FP := Lib.hid (FarR.of (R := w3.heap.size + 1) hz hc (by omega))
  have b1 : BlkAt ((w3.alloc (.cells #[.int .i64 0, .int .i64 0, .int .i64 0, .int .i64 0, .int .i64 0] 38)).alloc (.cells #[.string ⟨#[]⟩, .int .i64 0, .slice none 0 0, .string ⟨#[]⟩, .bool false, .bool false, .bool false, .bool false, .bool false, .bool false, .bool false, .slice none 0 0] 33)) w3.heap.size (sV ⟨0, 0, 0, 0, 0⟩) 38 := (BlkAt.new _ _ _).al _
  have b2 : BlkAt (((w3.alloc (.cells #[.int .i64 0, .int .i64 0, .int .i64 0, .int .i64 0, .int .i64 0] 38)).alloc (.cells #[.string ⟨#[]⟩, .int .i64 0, .slice none 0 0, .string ⟨#[]⟩, .bool false, .bool false, .bool false, .bool false, .bool false, .bool false, .bool false, .slice none 0 0] 33)).setRow w3.heap.size (sV s)) (w3.heap.size + 1) #[.string ⟨#[]⟩, .int .i64 0, .slice none 0 0, .string ⟨#[]⟩, .bool false, .bool false, .bool false, .bool false, .bool false, .bool false, .bool false, .slice none 0 0] 33 := (BlkAt.newAt _ _ _ (by simp)).setFar _ (by omega)
  have HS := Lib.hid hS
  clear hS hz hc hzA hcA hB2 hB3 ho3 ht2 ht3 hzok hcok hc20
  go_wp2_with (first | ((with_reducible refine wpl_store rfl 38 _ _ rfl _ (sV s) ?_ ?_ b1 (rowS _) ?_ ?_); exact rfl; exact rfl; exact rfl) | ((with_reducible refine wpl_store rfl 33 _ _ rfl _ (pV z A k c Ac kc) ?_ ?_ b2 (rowP ..) ?_ ?_); exact rfl; exact rfl; exact rfl))
  clear b1 b2
  refine (near2_any 9497 20 w.heap.size w.heap.size 70000 _ (HS.out.tape.less (by omega)) (by omega) (by omega) (by omega) (by omega)).mono ?_
  rintro e w4 ⟨d, hd1, hd2, hd3, hd4, rfl, ht4, ho4⟩
  have H4 := Lib.hid (HS.out.only ht4 ho4)
  clear HS ht4 ho4
  go_wp2_with fail
  refine (chance_any 2 3 w.heap.size w.heap.size 60000 _ (H4.out.tape.less (by omega)) (by omega) (by omega)).mono ?_
  rintro e w5 ⟨q, rfl, ht5, ho5⟩
  have H5 := Lib.hid (H4.out.only ht5 ho5)
  clear H4 ht5 ho5
  go_upto_if 17 with (fail)
  go_cut [] (fun wc => ∃ s' : SC, SPl w wc 50000 w3.heap.size (w3.heap.size + 1) s' z A k c Ac kc)
  case first =>
    cases q
    · go_wp2_with fail
      go_meet
      exact ⟨s, H5.out.less (by omega)⟩
    · go_wp2_with ((with_reducible refine wpl_load rfl 38 _ rfl _ ?_ H5.out.sb (rowS _) ?_); exact rfl)
      refine (spoil_any s w.heap.size w.heap.size 50000 _ (H5.out.tape.less (by omega))).mono ?_
      rintro e w6 ⟨s', rfl, ht6, ho6⟩
      have H6 := Lib.hid (H5.out.only ht6 ho6)
      clear H5 ht6 ho6
      go_wp2_with ((with_reducible refine wpl_store rfl 38 _ _ rfl _ (sV s') ?_ ?_ H6.out.sb (rowS _) ?_ ?_); exact rfl; exact rfl; exact rfl)
      go_meet
      exact ⟨s', H6.out.setS (by omega) (by omega) FS.out s'⟩
  case rest =>
  obtain ⟨s', hc5⟩ := hcut
  have H6 := Lib.hid hc5
  clear H5 hc5
  go_wp2_with fail
  refine (chance_any 1 4 w.heap.size w.heap.size 40000 _ (H6.out.tape.less (by omega)) (by omega) (by omega)).mono ?_
  rintro e w7 ⟨q2, rfl, ht7, ho7⟩
  have H7 := Lib.hid (H6.out.only ht7 ho7)
  clear H6 ht7 ho7
  go_upto_if 22 with (fail)
  go_cut [] (fun wc => ∃ z' : ZN, SPl w wc 40000 w3.heap.size (w3.heap.size + 1) s' z' A k c Ac kc ∧ z'.cs = z.cs)
  case first =>
    cases q2
    · go_wp2_with fail
      go_meet
      exact ⟨z, H7.out, rfl⟩
    · have cz := H7.out.pb.cell (i := 0) rfl
      have fz := H7.out.pb.fz 0
      go_wp2_with fail
      go_meet
      exact ⟨_, H7.out.setZ (by omega) (by omega) FP.out, rfl⟩
  case rest =>
  obtain ⟨z', hc7, hz7⟩ := hcut
  have H8 := Lib.hid hc7
  have FP2 : Hid (FarR z' A c Ac (w3.heap.size + 1)) := Lib.hid ⟨by rw [hz7]; exact FP.out.za, FP.out.ca⟩
  clear H7 hc7 hz7 FP FS
  go_wp2_with fail
  refine (chance_any 1 4 w.heap.size w.heap.size 30000 _ (H8.out.tape.less (by omega)) (by omega) (by omega)).mono ?_
  rintro e w9 ⟨q3, rfl, ht9, ho9⟩
  have H9 := Lib.hid (H8.out.only ht9 ho9)
  clear H8 ht9 ho9
  go_upto_if 26 with (fail)
  go_cut [] (fun wc => ∃ c' : CN, SPl w wc 30000 w3.heap.size (w3.heap.size + 1) s' z' A k c' Ac kc)
  case first =>
    cases q3
    · go_wp2_with fail
      go_meet
      exact ⟨c, H9.out⟩
    · have cz := H9.out.pb.cell (i := 3) rfl
      have fz := H9.out.pb.fz 3
      go_wp2_with fail
      go_meet
      exact ⟨_, H9.out.setC (by omega) (by omega) FP2.out⟩
  case rest =>
  obtain ⟨c', hc9⟩ := hcut
  have HA := Lib.hid hc9
  clear H9 hc9 FP2
  go_wp2_with fail
  have HD := Lib.hid HA.out.drew
  have HD0 : Hid (SPl w wc 20000 w3.heap.size (w3.heap.size + 1) s' z' A k c' Ac kc)   := Lib.hid (HA.out.less (by omega))
  have hw := wi (n := 1440 * d) (by omega) (by omega)
  have hlc := HA.out.tape.lt
  have hld : w.heap.size < wc.drew.heap.size := HD.out.tape.lt
  have P1 : Hid (∀ (W : World) (g : Nat), BlkAt W g #[.int .i64 d, .int .i64 d, .int .i64 (-1), .int .i64 73049] 3 → g ≠ w.heap.size → TapeAt W w.heap.size w.heap.size (25000 + 1) → Calls Try.prog 14 #[.pointer (some ⟨w.heap.size, 0, none⟩), .slice (some ⟨g, 0, none⟩) 4 4] W (PickP [d, d, -1, 73049] w.heap.size w.heap.size 25000 W)) := Lib.hid (fun W g hb hg ht => pickW [d, d, -1, 73049] rfl hb hg ht (by simp) (by simp) rfl)
  have P2 : Hid (∀ (W : World) (g : Nat), BlkAt W g #[.int .i64 (1440 * d), .int .i64 (-1), .int .i64 105190560] 3 → g ≠ w.heap.size → TapeAt W w.heap.size w.heap.size (24000 + 1) → Calls Try.prog 14 #[.pointer (some ⟨w.heap.size, 0, none⟩), .slice (some ⟨g, 0, none⟩) 3 3] W (PickP [1440 * d, -1, 105190560] w.heap.size w.heap.size 24000 W)) := Lib.hid (fun W g hb hg ht => pickW [1440 * d, -1, 105190560] rfl hb hg ht (by simp) (by simp) rfl)
  have PX : Hid (∀ (u t : Int) (W : World), ZAt W z' A → CAt W c' Ac → Calls Try.prog 26 #[.agg #[.int .i64 s'.period, .int .i64 s'.nth, .int .i64 s'.notice, .int .i64 s'.settle, .int .i64 s'.cutoff], .agg #[.string z'.name, .int .i64 z'.off, .slice A z'.cs.length k, .string c'.name, .bool c'.w0, .bool c'.w1, .bool c'.w2, .bool c'.w3, .bool c'.w4, .bool c'.w5, .bool c'.w6, .slice Ac c'.hs.length kc], .int .i64 u, .int .i64 t] W (RetB (.bool true) W)) := Lib.hid (fun u t W hz hc => scheduleExact_any s' z' A k c' Ac kc u t W hz hc)
  go_region_held3 (fun W => (W.cell? ⟨w3.heap.size, 0, none⟩ = some (.int .i64 s'.period) ∧ W.cell? ⟨w3.heap.size, 1, none⟩ = some (.int .i64 s'.nth) ∧ W.cell? ⟨w3.heap.size, 2, none⟩ = some (.int .i64 s'.notice) ∧ W.cell? ⟨w3.heap.size, 3, none⟩ = some (.int .i64 s'.settle) ∧ W.cell? ⟨w3.heap.size, 4, none⟩ = some (.int .i64 s'.cutoff)) ∧ (W.cell? ⟨w3.heap.size + 1, 0, none⟩ = some (.string z'.name) ∧ W.cell? ⟨w3.heap.size + 1, 1, none⟩ = some (.int .i64 z'.off) ∧ W.cell? ⟨w3.heap.size + 1, 2, none⟩ = some (.slice A z'.cs.length k) ∧ W.cell? ⟨w3.heap.size + 1, 3, none⟩ = some (.string c'.name) ∧ W.cell? ⟨w3.heap.size + 1, 4, none⟩ = some (.bool c'.w0) ∧ W.cell? ⟨w3.heap.size + 1, 5, none⟩ = some (.bool c'.w1) ∧ W.cell? ⟨w3.heap.size + 1, 6, none⟩ = some (.bool c'.w2) ∧ W.cell? ⟨w3.heap.size + 1, 7, none⟩ = some (.bool c'.w3) ∧ W.cell? ⟨w3.heap.size + 1, 8, none⟩ = some (.bool c'.w4) ∧ W.cell? ⟨w3.heap.size + 1, 9, none⟩ = some (.bool c'.w5) ∧ W.cell? ⟨w3.heap.size + 1, 10, none⟩ = some (.bool c'.w6) ∧ W.cell? ⟨w3.heap.size + 1, 11, none⟩ = some (.slice Ac c'.hs.length kc)) ∧ SPl w W 20000 w3.heap.size (w3.heap.size + 1) s' z' A k c' Ac kc)
    ((first
      | (with_reducible exact HB.out.q)
      | (with_reducible exact HA9.out.q)
      | (with_reducible exact HA8.out.q)
      | (with_reducible exact (HA8.out.next (bal0 _ _)).q)
      | (with_reducible exact HA7.out.q)
      | (with_reducible exact (HA7.out.next (bal0 _ _)).q)
      | (with_reducible exact HD0.out.drew.q)
      | (with_reducible exact (HD0.out.next (bal0 _ _)).drew.q)
      | (with_reducible exact ((HD0.out.next (bal0 _ _)).next (bal0 _ _)).drew.q)))
    (first
      | (go_at_call 14; (with_reducible refine (P1.out _ _ (BlkAt.new _ _ _).drew (Nat.ne_of_gt hlc) ((HA.out.tape.alloc _).drew.less (by omega))).mono ?_); rintro e w7 ⟨u, hu, rfl, ht7, ho7⟩; clear hu; have HA7 := Lib.hid ((HD0.out.next (bal0 _ _)).drew.only (ht7.less (show 20000 ≤ 25000 by omega)) ho7))
      | (go_at_call 14; (with_reducible refine (P1.out _ _ ((BlkAt.new _ _ _).al _).drew (Nat.ne_of_gt hlc) (((HA.out.tape.alloc _).alloc _).drew.less (by omega))).mono ?_); rintro e w7 ⟨u, hu, rfl, ht7, ho7⟩; clear hu; have hB7 := (BlkAt.newAt (g := wc.heap.size + 1) _ _ _ (by simp)).drew.only ho7 (by omega); have HA7 := Lib.hid (((HD0.out.next (bal0 _ _)).next (bal0 _ _)).drew.only (ht7.less (show 20000 ≤ 25000 by omega)) ho7))
      | (go_at_call 14; (with_reducible refine (P1.out _ (wc.heap.size + 1) (BlkAt.newAt _ _ _ (by simp)).drew (by omega) (((HA.out.tape.alloc _).alloc _).drew.less (by omega))).mono ?_); rintro e w7 ⟨u, hu, rfl, ht7, ho7⟩; clear hu; have hB7 := ((BlkAt.new _ _ _).al _).drew.only ho7 (Nat.ne_of_gt hlc); have HA7 := Lib.hid (((HD0.out.next (bal0 _ _)).next (bal0 _ _)).drew.only (ht7.less (show 20000 ≤ 25000 by omega)) ho7))
      | (go_at_call 14; (with_reducible refine (P2.out _ _ hB7 (by omega) (ht7.less (by omega))).mono ?_); rintro e w8 ⟨t, ht, rfl, ht8, ho8⟩; clear ht; have HA8 := Lib.hid (HA7.out.only (ht8.less (show 20000 ≤ 24000 by omega)) ho8))
      | (go_at_call 14; (with_reducible refine (P2.out _ _ (BlkAt.new _ _ _) (Nat.ne_of_gt ht7.lt) ((ht7.alloc _).less (by omega))).mono ?_); rintro e w8 ⟨t, ht, rfl, ht8, ho8⟩; clear ht; have HA8 := Lib.hid ((HA7.out.next (bal0 _ _)).only (ht8.less (show 20000 ≤ 24000 by omega)) ho8))
      | (go_at_call 26; (with_reducible refine (PX.out u t _ HA8.out.za HA8.out.ca).mono ?_); rintro e w9 ⟨rfl, hb9⟩; have HA9 := Lib.hid (HA8.out.next hb9))
      | (go_at_call 21; (with_reducible refine (known9_any _).mono ?_); rintro e w10 ⟨rfl, hb10⟩; have HB := Lib.hid (HA9.out.next hb10)))
  all_goals
    go_wp2_with fail
    go_ret
    exact ⟨rfl, HB.out.below⟩
end Go.Proofs.Ytllloldheofljaa
