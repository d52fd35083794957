/-
  The sanity check of the zone statements, and ZoneExact: the program's answers are the document's, for whatever zone, instant and local time.
-/
import Derived.Test.YtmjegmlchonlmaaZoneInst
import Derived.Deep.RegionHeld3
namespace Go.Proofs.Ytmjegmlchonlmaa
open Go.RowKit

def zK : ZN := ⟨⟨#[122]⟩, 0, [(600, 60)]⟩
def z0 : ZN := ⟨⟨#[]⟩, 0, []⟩
theorem zK1 : zK.instV 0 630 = 600 ∧ zK.instE 0 630 = 0 := by decide
theorem zK2 : zK.instV 0 661 = 601 ∧ zK.instE 0 661 = 0 := by decide
theorem zK3 : zK.localD 600 = 0 ∧ zK.localM 600 = 660 ∧ zK.localE 600 = 0 := by decide
theorem z0e : z0.err = 70 := by decide

theorem zinst_is {z : ZN} {d m v e : Int} (h : z.instV d m = v ∧ z.instE d m = e) (A : Option Addr) (c : Nat) (w : World) (hz : ZAt w z A) :
    Calls Try.prog 28 #[.agg #[.string z.name, .int .i64 z.off, .slice A z.cs.length c], .int .i64 d, .int .i64 m] w (RetB (.tuple #[.int .i64 v, .int .i64 e]) w) := by
  obtain ⟨rfl, rfl⟩ := h
  exact zInstant_any z A c d m w hz
theorem zlocal_is {z : ZN} {t d m e : Int} (h : z.localD t = d ∧ z.localM t = m ∧ z.localE t = e) (A : Option Addr) (c : Nat) (w : World) (hz : ZAt w z A) :
    Calls Try.prog 26 #[.agg #[.string z.name, .int .i64 z.off, .slice A z.cs.length c], .int .i64 t] w (RetB (.tuple #[.int .i64 d, .int .i64 m, .int .i64 e]) w) := by
  obtain ⟨rfl, rfl, rfl⟩ := h
  exact zLocal_any z A c t w hz
theorem ZAt.empty (w : World) : ZAt w z0 none := ⟨by decide, by decide, fun k x h => by simp [z0] at h⟩
theorem ZAt.known {w : World} {b : Nat} (h1 : w.cell? ⟨b, 0, none⟩ = some (.int .i64 600)) (h2 : w.cell? ⟨b, 1, none⟩ = some (.int .i64 60)) : ZAt w zK (some ⟨b, 0, none⟩) :=
  ⟨by decide, by decide, fun k x h => by
    cases k with
    | zero => simp [zK] at h; subst h; exact ⟨b, 0, rfl, blt h1, h1, h2⟩
    | succ k => simp [zK] at h⟩

theorem kInst {b : Nat} {w : World} (h1 : w.cell? ⟨b, 0, none⟩ = some (.int .i64 600)) (h2 : w.cell? ⟨b, 1, none⟩ = some (.int .i64 60)) {d m v e : Int} (h : zK.instV d m = v ∧ zK.instE d m = e) :
    Calls Try.prog 28 #[.agg #[.string { data := #[122] }, .int .i64 0, .slice (some { block := b, off := 0 }) 1 1], .int .i64 d, .int .i64 m] w (RetB (.tuple #[.int .i64 v, .int .i64 e]) w) :=
  zinst_is h _ 1 w (ZAt.known h1 h2)
theorem kLocal {b : Nat} {w : World} (h1 : w.cell? ⟨b, 0, none⟩ = some (.int .i64 600)) (h2 : w.cell? ⟨b, 1, none⟩ = some (.int .i64 60)) {t d m e : Int} (h : zK.localD t = d ∧ zK.localM t = m ∧ zK.localE t = e) :
    Calls Try.prog 26 #[.agg #[.string { data := #[122] }, .int .i64 0, .slice (some { block := b, off := 0 }) 1 1], .int .i64 t] w (RetB (.tuple #[.int .i64 d, .int .i64 m, .int .i64 e]) w) :=
  zlocal_is h _ 1 w (ZAt.known h1 h2)
theorem kEmpty (w : World) :
    Calls Try.prog 31 #[.agg #[.string { data := #[] }, .int .i64 0, .slice none 0 0]] w (RetB (.int .i64 70) w) :=
  zcheck_is z0e none 0 w (ZAt.empty w)

/-- What the sanity check carries from call to call. -/
structure KnownAt (w W : World) : Prop where
  below : Below w.heap.size w W
  lt : w.heap.size + 1 < W.heap.size
  b0 : W.cell? ⟨w.heap.size, 0, none⟩ = some (.int .i64 600)
  b1 : W.cell? ⟨w.heap.size, 1, none⟩ = some (.int .i64 60)
  c0 : W.cell? ⟨w.heap.size + 1, 0, none⟩ = some (.string { data := #[122] })
  c1 : W.cell? ⟨w.heap.size + 1, 1, none⟩ = some (.int .i64 0)
  c2 : W.cell? ⟨w.heap.size + 1, 2, none⟩ = some (.slice (some { block := w.heap.size, off := 0 }) 1 1)
theorem KnownAt.next {w W W' : World} (h : KnownAt w W) (hb : Below W.heap.size W W') : KnownAt w W' := by
  have l := h.lt
  exact ⟨bnext h.below hb, Nat.lt_of_lt_of_le h.lt hb.size, (bcell hb _ _ (by omega)).trans h.b0, (bcell hb _ _ (by omega)).trans h.b1, (bcell hb _ _ (by omega)).trans h.c0, (bcell hb _ _ (by omega)).trans h.c1, (bcell hb _ _ (by omega)).trans h.c2⟩

set_option maxHeartbeats 1000000 in
theorem zknown_any (w : World) : Calls Try.prog 30 #[] w (RetB (.bool true) w) := by
  have hk : KnownAt w ((w.alloc (.cells #[.int .i64 600, .int .i64 60] 43)).alloc (.cells #[.string { data := #[122] }, .int .i64 0, .slice (some { block := w.heap.size, off := 0 }) 1 1] 24)) :=
    ⟨bal (bal0 _ _) _, by simp, by simp [go_sem], by simp [go_sem], by simp [go_sem], by simp [go_sem], by simp [go_sem]⟩
  go_enter Try.func30, Try.ntmps30
  go_wp2_with fail
  refine (kInst hk.b0 hk.b1 zK1).mono ?_
  rintro e w1 ⟨rfl, hb⟩
  have hk1 := hk.next hb
  have q0 := hk1.c0
  have q1 := hk1.c1
  have q2 := hk1.c2
  clear hb hk
  go_wp2_with fail
  refine (kInst hk1.b0 hk1.b1 zK2).mono ?_
  rintro e w2 ⟨rfl, hb⟩
  have hk2 := hk1.next hb
  have q0 := hk2.c0
  have q1 := hk2.c1
  have q2 := hk2.c2
  clear hb hk1
  go_wp2_with fail
  refine (kLocal hk2.b0 hk2.b1 zK3).mono ?_
  rintro e w3 ⟨rfl, hb⟩
  have hk3 := hk2.next hb
  clear hb hk2
  go_wp2_with (go_at_call 31; refine (kEmpty _).mono ?_; rintro e w4 ⟨rfl, hb⟩)
  go_ret
  exact ⟨rfl, bnext hk3.below hb⟩

/-- A zone in a box of its own, carried from call to call. -/
structure ZBox (w W : World) (z : ZN) (A : Option Addr) (c : Nat) : Prop where
  below : Below w.heap.size w W
  lt : w.heap.size < W.heap.size
  at_ : ZAt W z A
  c0 : W.cell? ⟨w.heap.size, 0, none⟩ = some (.string z.name)
  c1 : W.cell? ⟨w.heap.size, 1, none⟩ = some (.int .i64 z.off)
  c2 : W.cell? ⟨w.heap.size, 2, none⟩ = some (.slice A z.cs.length c)
theorem ZBox.next {w W W' : World} {z : ZN} {A : Option Addr} {c : Nat} (h : ZBox w W z A c) (hb : Below W.heap.size W W') : ZBox w W' z A c := by
  have l := h.lt
  exact ⟨bnext h.below hb, Nat.lt_of_lt_of_le h.lt hb.size, h.at_.below hb, (bcell hb _ _ (by omega)).trans h.c0, (bcell hb _ _ (by omega)).trans h.c1, (bcell hb _ _ (by omega)).trans h.c2⟩
theorem ZBox.drew {w W : World} {z : ZN} {A : Option Addr} {c : Nat} (h : ZBox w W z A c) : ZBox w W.drew z A c := h.next ((Below.refl _ _).drew)
theorem ZBox.drewN {w W : World} {z : ZN} {A : Option Addr} {c : Nat} (h : ZBox w W z A c) (n : Nat) : ZBox w (W.drewN n) z A c := h.next (below_drewN (Below.refl _ _) n)

set_option maxRecDepth 100000 in
set_option maxHeartbeats 4000000 in
theorem zoneExact_any (z : ZN) (A : Option Addr) (c : Nat) (t d m : Int) (w : World) (hz : ZAt w z A) :
    Calls Try.prog 3 #[.agg #[.string z.name, .int .i64 z.off, .slice A z.cs.length c], .int .i64 t, .int .i64 d, .int .i64 m] w (RetB (.bool true) w) := by
  have hk : ZBox w (w.alloc (.cells #[.string z.name, .int .i64 z.off, .slice A z.cs.length c] 24)) z A c :=
    ⟨bal0 _ _, by simp, hz.below (bal0 _ _), by simp, by simp, by simp⟩
  go_enter Try.func3, Try.ntmps3
  go_wp2_with fail
  refine (zOffsetAt_any z A c t _ hk.at_).mono ?_
  rintro e w1 ⟨rfl, hb⟩
  have hk1 := hk.next hb
  have q0 := hk1.c0
  have q1 := hk1.c1
  have q2 := hk1.c2
  clear hb hk hz
  go_wp2_with fail
  refine (refOffsetAt_any z A c t _ hk1.at_).mono ?_
  rintro e w2 ⟨rfl, hb⟩
  have hk2 := hk1.next hb
  have q0 := hk2.c0
  have q1 := hk2.c1
  have q2 := hk2.c2
  clear hb hk1
  go_wp2_with fail
  refine (zLocal_any z A c t _ hk2.at_).mono ?_
  rintro e w3 ⟨rfl, hb⟩
  have hk3 := hk2.next hb
  have q0 := hk3.c0
  have q1 := hk3.c1
  have q2 := hk3.c2
  clear hb hk2
  go_wp2_with fail
  refine (refLocal_any z A c t _ hk3.at_).mono ?_
  rintro e w4 ⟨rfl, hb⟩
  have hk4 := hk3.next hb
  have q0 := hk4.c0
  have q1 := hk4.c1
  have q2 := hk4.c2
  clear hb hk3
  go_wp2_with fail
  refine (zInstant_any z A c d m _ hk4.at_).mono ?_
  rintro e w5 ⟨rfl, hb⟩
  have hk5 := hk4.next hb
  have q0 := hk5.c0
  have q1 := hk5.c1
  have q2 := hk5.c2
  clear hb hk4
  go_wp2_with fail
  refine (refInstant_any z A c d m _ hk5.at_).mono ?_
  rintro e w6 ⟨rfl, hb⟩
  have hk6 := hk5.next hb
  have q0 := hk6.c0
  have q1 := hk6.c1
  have q2 := hk6.c2
  clear hb hk5
  go_wp2_with fail
  go_region_held3 (fun W => W.cell? ⟨w.heap.size, 0, none⟩ = some (.string z.name) ∧ W.cell? ⟨w.heap.size, 1, none⟩ = some (.int .i64 z.off) ∧ W.cell? ⟨w.heap.size, 2, none⟩ = some (.slice A z.cs.length c) ∧ ZBox w W z A c)
    ((first | (exact ⟨hkn.c0, hkn.c1, hkn.c2, hkn⟩) | (exact ⟨q0, q1, q2, hk6.drew⟩)))
    (first
      | (go_at_call 30; have hX := (by assumption : (_ ∧ _ ∧ _ ∧ ZBox w _ z A c)).2.2.2; refine (zknown_any _).mono ?_; rintro e w7 ⟨rfl, hb⟩; have hkn := hX.next hb; clear hX hb)
      | (go_at_call 31; have hX := (by assumption : (_ ∧ _ ∧ _ ∧ ZBox w _ z A c)).2.2.2; refine (zcheck_any z A c _ hX.at_).mono ?_; rintro e w8 ⟨rfl, hb⟩; have hkn := hX.next hb; clear hX hb)
      | (go_at_call 32; have hX := (by assumption : (_ ∧ _ ∧ _ ∧ ZBox w _ z A c)).2.2.2; refine (refCheck_any z A c _ hX.at_).mono ?_; rintro e w9 ⟨rfl, hb⟩; have hkn := hX.next hb; clear hX hb))
  have hX := (by assumption : (_ ∧ _ ∧ _ ∧ ZBox w _ z A c)).2.2.2
  go_wp2
  go_ret
  exact ⟨rfl, hX.below⟩
end Go.Proofs.Ytmjegmlchonlmaa
