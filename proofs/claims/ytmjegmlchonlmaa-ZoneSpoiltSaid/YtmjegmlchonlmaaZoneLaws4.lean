/-
  ZonePlays: ZoneExact for valid zones, near their changes and the ends of time.
-/
import Derived.Test.YtmjegmlchonlmaaZoneLaws2
import Derived.Deep.RegionLaw
import Derived.Deep.DeepCutAuto
namespace Go.Proofs.Ytmjegmlchonlmaa
open Go.RowKit

/-- What a law over a tape and a zone carries: the tape with N draws left, the zone in its box, old memory. -/
structure PS (w W : World) (Z : Nat) (z : ZN) (A : Option Addr) (c N : Nat) : Prop where
  tape : TapeAt W w.heap.size w.heap.size N
  zb : ZB W w.heap.size Z z A c
  below : Below w.heap.size w W
theorem PS.only {w W W' : World} {Z c N N' : Nat} {z : ZN} {A : Option Addr} (h : PS w W Z z A c N) (ht : TapeAt W' w.heap.size w.heap.size N') (ho : Only w.heap.size W W') : PS w W' Z z A c N' :=
  ⟨ht, h.zb.only ho, lawOnly h.below ho⟩
theorem PS.next {w W W' : World} {Z c N : Nat} {z : ZN} {A : Option Addr} (h : PS w W Z z A c N) (hb : Below W.heap.size W W') : PS w W' Z z A c N :=
  ⟨h.tape.below hb, h.zb.below hb, bnext h.below hb⟩
theorem PS.drew {w W : World} {Z c N : Nat} {z : ZN} {A : Option Addr} (h : PS w W Z z A c N) : PS w W.drew Z z A c N := h.next ((Below.refl _ _).drew)
/-- What the choice of an instant leaves: the instant is a1. -/
def PlaysAt (w : World) (Z : Nat) (z : ZN) (A : Option Addr) (c N : Nat) (s : Value) (wc : World) : Prop := ∃ a : Int, -1000000 ≤ a ∧ a ≤ 1000000000 ∧ s = .int .i64 a ∧ PS w wc Z z A c N

theorem ZAt.cell_at {W : World} {z : ZN} {bb o : Nat} (h : ZAt W z (some ⟨bb, o, none⟩)) (j : Nat) (hj : j < z.cs.length) :
    bb < W.heap.size ∧ W.cell? ⟨bb, o + j*2, none⟩ = some (.int .i64 z.cs[j].1) ∧ W.cell? ⟨bb, o + j*2 + 1, none⟩ = some (.int .i64 z.cs[j].2) := by
  obtain ⟨b', o', hA, hlt, e1, e2⟩ := h.cells j z.cs[j] (List.getElem?_eq_getElem hj)
  injection hA with hA
  injection hA with h1 h2
  subst h1 h2
  exact ⟨hlt, e1, e2⟩

theorem ZAt.draw_at {W : World} {z : ZN} {bb o : Nat} (h : ZAt W z (some ⟨bb, o, none⟩)) (hok : z.ok = true) (j : Nat) (hj : (j : Int) < z.cs.length) :
    ∃ x : Int, bb < W.heap.size ∧ W.cell? ⟨bb, o + j*2, none⟩ = some (.int .i64 x) ∧ 0 ≤ x ∧ x ≤ 105190559 := by
  obtain ⟨h1, h2, _⟩ := h.cell_at j (by omega)
  have := ZN.cs_of_ok hok _ (List.getElem_mem (by omega : j < z.cs.length))
  exact ⟨_, h1, h2, by omega, by omega⟩

theorem wi {n : Int} (h1 : -9223372036854775808 ≤ n) (h2 : n ≤ 9223372036854775807) : IntKind.i64.wrap n = n := by
  simp [IntKind.wrap, IntKind.signed, IntKind.bits]
  omega
/-- Pick of a list that was made ahead of other calls on the tape. -/
theorem pick_made (xs : List Int) {vs : List Value} (hvs : vs = xs.map (Value.int .i64)) {B b N : Nat} {w4 w5 : World} (hlt : b < w4.heap.size) (ho : Only b (w4.alloc (.cells vs.toArray 3)).drew w5)
    (h : TapeAt w5 B b (N + 1)) (hx : 0 < xs.length) (hx2 : xs.length ≤ 1000) {n c g : Nat} (hn : xs.length = n) (hg : w4.heap.size = g) :
    Calls Try.prog 38 #[.pointer (some ⟨b, 0, none⟩), .slice (some ⟨g, 0, none⟩) n c] w5 (PickP xs B b N w5) := by
  subst hg
  have hs : (w4.alloc (.cells vs.toArray 3)).drew.heap.size = w4.heap.size + 1 := by simp
  have hz := ho.size
  rw [← hn]
  refine pick_any xs w4.heap.size B b N w5 h hx hx2 (by omega) (by omega) c (fun k x hk => only_cell ho (by omega) (by omega) ?_)
  exact cells_new w4 vs _ k _ (by rw [hvs, List.getElem?_map, hk]; rfl)

set_option maxRecDepth 100000 in
set_option maxHeartbeats 4000000 in
theorem zonePlays_any (A : Option Addr) (L : List Int) (cap : Nat) (w : World) (hL : IntsAt w A L) :
    Calls Try.prog 4 #[.slice A L.length cap] w (RetB (.bool true) w) := by
  have ht0 := tape_start (cap := cap) hL
  have hw0 := bal0 w (.cells #[.slice A L.length cap, .int .i64 0] 37)
  go_enter Try.func4, Try.ntmps4
  go_wp2_with fail
  refine (day_any w.heap.size w.heap.size 100000 _ (ht0.less (by omega))).mono ?_
  rintro e w1 ⟨v, hv1, hv2, rfl, ht1, ho1⟩
  have hB1 := lawOnly hw0 ho1
  clear hw0 ho1 ht0 hL
  go_wp2_with fail
  refine (mkZone_any _ w.heap.size w.heap.size 90000 _ (ht1.less (by omega)) (by omega) (by omega)).mono ?_
  rintro e w2 ⟨z, A2, c2, rfl, hz2, hA2, hok, ht2, ho2⟩
  have hB2 := lawOnly hB1 ho2
  have hs2 := ht2.lt
  have hzb := ZB.new (b := w.heap.size) (c := c2) hz2 (fun ad e => by have := hA2 ad e; have := ht1.lt; omega) hs2 24
  have hB3 := bal hB2 (.cells #[.string z.name, .int .i64 z.off, .slice A2 z.cs.length c2] 24)
  have HP := Lib.hid (PS.mk (ht2.alloc _) hzb hB3)
  have hl4 := ZN.len_of_ok hok
  obtain ⟨hof1, hof2⟩ := ZN.off_of_ok hok
  have HCS := Lib.hid (ZN.cs_of_ok hok)
  clear hzb hz2 hA2 hB1 ho2 hB2 ht1 hB3 ht2
  go_wp2_with fail
  go_loopw [6] (fun iv wr => ∃ k : Nat, k ≤ 6 ∧ iv = .int .i64 k ∧ PS w wr w2.heap.size z A2 c2 (80000 - 3000 * k)) (fun iv _ => 6 - (intOf iv).toNat)
  case atStart => exact ⟨0, by omega, rfl, ⟨HP.out.tape.less (by omega), HP.out.zb, HP.out.below⟩⟩
  case round =>
    obtain ⟨k, hk, rfl, hP⟩ := hrel
    have q0 := hP.zb.c0
    have q1 := hP.zb.c1
    have q2 := hP.zb.c2
    by_cases hk6 : k < 6
    · go_wp2_with fail
      refine (range_any (-3000) 3000 w.heap.size w.heap.size (79500 - 3000 * k) _ (hP.tape.less (by omega)) (by omega) (by omega) (by omega)).mono ?_
      rintro e w3 ⟨r, hr1, hr2, rfl, ht3, ho3⟩
      have hP3 := hP.only ht3 ho3
      have q0 := hP3.zb.c0
      have q1 := hP3.zb.c1
      have q2 := hP3.zb.c2
      clear hP ht3 ho3
      by_cases hcl : 0 < z.cs.length
      · go_upto_if 34 with fail
        refine (chance_any 1 2 w.heap.size w.heap.size (79000 - 3000 * k) _ (hP3.tape.less (by omega)) (by omega) (by omega)).mono ?_
        rintro e w4 ⟨cv, rfl, ht4, ho4⟩
        have hP4 := hP3.only ht4 ho4
        have q0 := hP4.zb.c0
        have q1 := hP4.zb.c1
        have q2 := hP4.zb.c2
        clear hP3 ht4 ho4
        cases cv
        · go_wp2_with fail
          refine (pick_new [0, z.off, 60, -900, 900] rfl (N := 78000 - 3000 * k - 1) (hP4.tape.less (by omega)) (by simp) (by simp) rfl (by simp)).mono ?_
          rintro e w6 ⟨p, hp, rfl, ht6, ho6⟩
          have hp0 : -900 ≤ p ∧ p ≤ 900 := by simp at hp; omega
          obtain ⟨hpa, hpb⟩ := hp0
          have hP6 := hP4.only ht6 ho6
          have q0 := hP6.zb.c0
          have q1 := hP6.zb.c1
          have q2 := hP6.zb.c2
          clear hp hP4 ht6 ho6
          go_wp2_with fail
          go_region_held3 (fun W => W.cell? ⟨w2.heap.size, 0, none⟩ = some (.string z.name) ∧ W.cell? ⟨w2.heap.size, 1, none⟩ = some (.int .i64 z.off) ∧ W.cell? ⟨w2.heap.size, 2, none⟩ = some (.slice A2 z.cs.length c2) ∧ ZB W w.heap.size w2.heap.size z A2 c2 ∧ Below w.heap.size w W)
            ((first
              | (exact ⟨hP9.zb.c0, hP9.zb.c1, hP9.zb.c2, hP9.zb, hP9.below⟩)
              | (exact ⟨hP8.zb.c0, hP8.zb.c1, hP8.zb.c2, hP8.zb, hP8.below⟩)
              | (exact ⟨(hP7.next (bal0 _ _)).zb.c0, (hP7.next (bal0 _ _)).zb.c1, (hP7.next (bal0 _ _)).zb.c2, (hP7.next (bal0 _ _)).zb, (hP7.next (bal0 _ _)).below⟩)
              | (exact ⟨hP7.zb.c0, hP7.zb.c1, hP7.zb.c2, hP7.zb, hP7.below⟩)
              | (exact ⟨q0, q1, q2, hP6.drew.zb, hP6.drew.below⟩)))
            (first
              | (go_at_call 37; refine (next_in (N := 78000 - 3000 * k - 2) (hP6.drew.tape.less (by omega)) (by omega) (by omega)).mono ?_; rintro e w7 ⟨nx, hnx, rfl, ht7, ho7⟩; have hP7 := hP6.drew.only ht7 ho7)
              | (go_at_call 38; refine (pick_new [_, 0, 1439, (nx : Int)] rfl (N := 78000 - 3000 * k - 3) (hP7.tape.less (by omega)) (by simp) (by simp) rfl (by simp)).mono ?_; rintro e w8 ⟨pk, hpk, rfl, ht8, ho8⟩; have hP8 := hP7.only ht8 ho8)
              | (go_at_call 3; refine (zoneExact_any z A2 c2 _ _ _ _ hP8.zb.at_).mono ?_; rintro e w9 ⟨rfl, hb9⟩; have hP9 := hP8.next hb9))
          go_wp2
          go_roundw
          case rel => exact ⟨k + 1, by omega, by go_num, hP9.tape.less (by omega), hP9.zb, hP9.below⟩
          case measure => simp [intOf]; omega
        · go_upto_if 34 with fail
          go_cut [7] from 18 to 68 (fun s wc => PlaysAt w w2.heap.size z A2 c2 (78000 - 3000 * k) s wc)
          case first =>
            obtain ⟨bb, o, x1, x2, rfl, hbb, -, -, -, -⟩ := hP4.zb.at_.at_ (Below.refl _ _) 0 hcl
            have hZl := blt q0
            go_wp2_with fail
            go_region_law (first
              | (go_simp; go_at_call 37; refine (next_in (N := 78500 - 3000 * k) (hP4.drew.tape.less (by omega)) (by omega) (by omega)).mono ?_; rintro e w5 ⟨j, hj, rfl, ht5, ho5⟩; have hP5 := hP4.drew.only ht5 ho5; obtain ⟨xj, gb5, g5, hx1, hx2⟩ := hP5.zb.at_.draw_at hok j hj; have c5 := hP5.zb.c2; have hZ5 := blt c5)
              | (go_simp; go_at_call 38; refine (pick_new [-1, 0, 1] rfl (N := 78000 - 3000 * k) (hP5.tape.less (by omega)) (by simp) (by simp) rfl (by simp)).mono ?_; rintro e w6 ⟨pk, hpk, rfl, ht6, ho6⟩; have hP6 := hP5.only ht6 ho6; have gb6 := Nat.lt_of_lt_of_le gb5 ho6.size; have g6 := only_cell ho6 gb5 (by have := hP5.zb.far _ rfl; exact this) g5; have c6 := hP6.zb.c2; have hZ6 := blt c6)
              | (go_simp; go_at_call 37; refine (next_in (N := 78500 - 3000 * k) ((hP4.next (bal0 _ _)).drew.tape.less (by omega)) (by omega) (by omega)).mono ?_; rintro e w5 ⟨j, hj, rfl, ht5, ho5⟩; have hP5 := (hP4.next (bal0 _ _)).drew.only ht5 ho5; obtain ⟨xj, gb5, g5, hx1, hx2⟩ := hP5.zb.at_.draw_at hok j hj; have c5 := hP5.zb.c2; have hZ5 := blt c5)
              | (go_simp; go_at_call 38; refine (pick_made [-1, 0, 1] rfl (N := 78000 - 3000 * k) hP4.tape.lt ho5 (hP5.tape.less (by omega)) (by simp) (by simp) rfl rfl).mono ?_; rintro e w6 ⟨pk, hpk, rfl, ht6, ho6⟩; have hP6 := hP5.only ht6 ho6; have gb6 := Nat.lt_of_lt_of_le gb5 ho6.size; have g6 := only_cell ho6 gb5 (by have := hP5.zb.far _ rfl; exact this) g5; have c6 := hP6.zb.c2; have hZ6 := blt c6))
            all_goals
              go_wp2_with fail
              go_meet
              have hpk2 : -1 ≤ pk ∧ pk ≤ 1 := by simp at hpk; omega
              exact ⟨xj + pk, by omega, by omega, vint (wi (by omega) (by omega)), hP6⟩
          case rest =>
            obtain ⟨a, ha1, ha2, rfl, hP5⟩ := hcut
            have q0 := hP5.zb.c0
            have q1 := hP5.zb.c1
            have q2 := hP5.zb.c2
            clear hP4
            go_wp2_with fail
            refine (pick_new [0, z.off, 60, -900, 900] rfl (N := 78000 - 3000 * k - 1) (hP5.tape.less (by omega)) (by simp) (by simp) rfl (by simp)).mono ?_
            rintro e w6 ⟨p, hp, rfl, ht6, ho6⟩
            have hp0 : -900 ≤ p ∧ p ≤ 900 := by simp at hp; omega
            obtain ⟨hpa, hpb⟩ := hp0
            have hP6 := hP5.only ht6 ho6
            have q0 := hP6.zb.c0
            have q1 := hP6.zb.c1
            have q2 := hP6.zb.c2
            clear hp hP5 ht6 ho6
            go_wp2_with fail
            go_region_held3 (fun W => W.cell? ⟨w2.heap.size, 0, none⟩ = some (.string z.name) ∧ W.cell? ⟨w2.heap.size, 1, none⟩ = some (.int .i64 z.off) ∧ W.cell? ⟨w2.heap.size, 2, none⟩ = some (.slice A2 z.cs.length c2) ∧ ZB W w.heap.size w2.heap.size z A2 c2 ∧ Below w.heap.size w W)
              ((first
                | (exact ⟨hP9.zb.c0, hP9.zb.c1, hP9.zb.c2, hP9.zb, hP9.below⟩)
                | (exact ⟨hP8.zb.c0, hP8.zb.c1, hP8.zb.c2, hP8.zb, hP8.below⟩)
                | (exact ⟨(hP7.next (bal0 _ _)).zb.c0, (hP7.next (bal0 _ _)).zb.c1, (hP7.next (bal0 _ _)).zb.c2, (hP7.next (bal0 _ _)).zb, (hP7.next (bal0 _ _)).below⟩)
                | (exact ⟨hP7.zb.c0, hP7.zb.c1, hP7.zb.c2, hP7.zb, hP7.below⟩)
                | (exact ⟨q0, q1, q2, hP6.drew.zb, hP6.drew.below⟩)))
              (first
                | (go_at_call 37; refine (next_in (N := 78000 - 3000 * k - 2) (hP6.drew.tape.less (by omega)) (by omega) (by omega)).mono ?_; rintro e w7 ⟨nx, hnx, rfl, ht7, ho7⟩; have hP7 := hP6.drew.only ht7 ho7)
                | (go_at_call 38; refine (pick_new [_, 0, 1439, (nx : Int)] rfl (N := 78000 - 3000 * k - 3) (hP7.tape.less (by omega)) (by simp) (by simp) rfl (by simp)).mono ?_; rintro e w8 ⟨pk, hpk, rfl, ht8, ho8⟩; have hP8 := hP7.only ht8 ho8)
                | (go_at_call 3; refine (zoneExact_any z A2 c2 _ _ _ _ hP8.zb.at_).mono ?_; rintro e w9 ⟨rfl, hb9⟩; have hP9 := hP8.next hb9))
            go_wp2
            go_roundw
            case rel => exact ⟨k + 1, by omega, by go_num, hP9.tape.less (by omega), hP9.zb, hP9.below⟩
            case measure => simp [intOf]; omega
      · go_wp2_with fail
        refine (pick_new [0, z.off, 60, -900, 900] rfl (N := 78000 - 3000 * k - 1) (hP3.tape.less (by omega)) (by simp) (by simp) rfl (by simp)).mono ?_
        rintro e w6 ⟨p, hp, rfl, ht6, ho6⟩
        have hp0 : -900 ≤ p ∧ p ≤ 900 := by simp at hp; omega
        obtain ⟨hpa, hpb⟩ := hp0
        have hP6 := hP3.only ht6 ho6
        have q0 := hP6.zb.c0
        have q1 := hP6.zb.c1
        have q2 := hP6.zb.c2
        clear hp hP3 ht6 ho6
        go_wp2_with fail
        go_region_held3 (fun W => W.cell? ⟨w2.heap.size, 0, none⟩ = some (.string z.name) ∧ W.cell? ⟨w2.heap.size, 1, none⟩ = some (.int .i64 z.off) ∧ W.cell? ⟨w2.heap.size, 2, none⟩ = some (.slice A2 z.cs.length c2) ∧ ZB W w.heap.size w2.heap.size z A2 c2 ∧ Below w.heap.size w W)
          ((first
            | (exact ⟨hP9.zb.c0, hP9.zb.c1, hP9.zb.c2, hP9.zb, hP9.below⟩)
            | (exact ⟨hP8.zb.c0, hP8.zb.c1, hP8.zb.c2, hP8.zb, hP8.below⟩)
            | (exact ⟨(hP7.next (bal0 _ _)).zb.c0, (hP7.next (bal0 _ _)).zb.c1, (hP7.next (bal0 _ _)).zb.c2, (hP7.next (bal0 _ _)).zb, (hP7.next (bal0 _ _)).below⟩)
            | (exact ⟨hP7.zb.c0, hP7.zb.c1, hP7.zb.c2, hP7.zb, hP7.below⟩)
            | (exact ⟨q0, q1, q2, hP6.drew.zb, hP6.drew.below⟩)))
          (first
            | (go_at_call 37; refine (next_in (N := 78000 - 3000 * k - 2) (hP6.drew.tape.less (by omega)) (by omega) (by omega)).mono ?_; rintro e w7 ⟨nx, hnx, rfl, ht7, ho7⟩; have hP7 := hP6.drew.only ht7 ho7)
            | (go_at_call 38; refine (pick_new [_, 0, 1439, (nx : Int)] rfl (N := 78000 - 3000 * k - 3) (hP7.tape.less (by omega)) (by simp) (by simp) rfl (by simp)).mono ?_; rintro e w8 ⟨pk, hpk, rfl, ht8, ho8⟩; have hP8 := hP7.only ht8 ho8)
            | (go_at_call 3; refine (zoneExact_any z A2 c2 _ _ _ _ hP8.zb.at_).mono ?_; rintro e w9 ⟨rfl, hb9⟩; have hP9 := hP8.next hb9))
        go_wp2
        go_roundw
        case rel => exact ⟨k + 1, by omega, by go_num, hP9.tape.less (by omega), hP9.zb, hP9.below⟩
        case measure => simp [intOf]; omega
    · go_wp2_with fail
      refine (zknown_any _).mono ?_
      rintro e w9 ⟨rfl, hb9⟩
      go_wp2
      go_ret
      exact ⟨rfl, bnext hP.below hb9⟩
end Go.Proofs.Ytmjegmlchonlmaa
