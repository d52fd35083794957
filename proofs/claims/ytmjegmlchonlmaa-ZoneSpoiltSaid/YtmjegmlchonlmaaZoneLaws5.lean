/-
  ZoneSpoilt: ZoneExact for valid zones of which one place is changed.
-/
import Derived.Test.YtmjegmlchonlmaaZoneLaws4
import Derived.Deep.RegionLaw
import Derived.Deep.DeepCutAuto
namespace Go.Proofs.Ytmjegmlchonlmaa
open Go.RowKit

theorem cs_set_cells {w : World} {z : ZN} {A : Option Addr} (h : ZAt w z A) {j : Nat} (hj : j < z.cs.length) {bb o : Nat} (hA : A = some ⟨bb, o, none⟩) (y : Int × Int) (w' : World) (hs : w'.heap.size = w.heap.size)
    (h1 : w'.cell? ⟨bb, o + j*2, none⟩ = some (.int .i64 y.1)) (h2 : w'.cell? ⟨bb, o + j*2 + 1, none⟩ = some (.int .i64 y.2))
    (hk : ∀ q, q ≠ o + j*2 → q ≠ o + j*2 + 1 → w'.cell? ⟨bb, q, none⟩ = w.cell? ⟨bb, q, none⟩) : ZAt w' ⟨z.name, z.off, z.cs.set j y⟩ A := by
  refine ⟨h.nm, by simpa using h.ln, fun k x hx => ?_⟩
  by_cases e : k = j
  · subst e
    rw [List.getElem?_set_self hj] at hx
    injection hx with hx
    subst hx
    obtain ⟨b', o', hA', hlt, _, _⟩ := h.cells k _ (List.getElem?_eq_getElem hj)
    rw [hA] at hA'
    injection hA' with hA'
    injection hA' with e1 e2
    subst e1 e2
    exact ⟨bb, o, hA, by omega, h1, h2⟩
  · rw [List.getElem?_set_ne (fun x => e x.symm)] at hx
    obtain ⟨b', o', hA', hlt, e1, e2⟩ := h.cells k x hx
    rw [hA] at hA'
    injection hA' with hA'
    injection hA' with q1 q2
    subst q1 q2
    exact ⟨bb, o, hA, by omega, (hk _ (by omega) (by omega)).trans e1, (hk _ (by omega) (by omega)).trans e2⟩

/-- The zone of the law with some changes of the length m. -/
structure SP (w W : World) (Z : Nat) (A : Option Addr) (c m N : Nat) : Prop where
  ex : ∃ z : ZN, z.cs.length = m ∧ PS w W Z z A c N
  lo : ∀ ad, A = some ad → w.heap.size < ad.block ∧ ad.block < Z
  free : Free W A
  zfree : ∀ o, W.frozen? ⟨Z, o, none⟩ = false
  hZ : w.heap.size < Z

theorem Free.only {b : Nat} {W W' : World} {A : Option Addr} (h : Free W A) (hA : ∀ ad, A = some ad → ad.block < W.heap.size ∧ ad.block ≠ b) (ho : Only b W W') : Free W' A :=
  fun ad e => ⟨Nat.lt_of_lt_of_le (h ad e).1 ho.size, fun o => only_frozen ho (hA ad e).1 (hA ad e).2 ((h ad e).2 o)⟩
theorem PS.ltZ {w W : World} {Z : Nat} {z : ZN} {A : Option Addr} {c N : Nat} (h : PS w W Z z A c N) : Z < W.heap.size := blt h.zb.c0
theorem SP.ltZ {w W : World} {Z : Nat} {A : Option Addr} {c m N : Nat} (h : SP w W Z A c m N) : Z < W.heap.size := by
  obtain ⟨z, _, hp⟩ := h.ex
  exact hp.ltZ
theorem SP.only {w W W' : World} {Z : Nat} {A : Option Addr} {c m N N' : Nat} (h : SP w W Z A c m N) (ht : TapeAt W' w.heap.size w.heap.size N') (ho : Only w.heap.size W W') : SP w W' Z A c m N' := by
  obtain ⟨z, hz, hp⟩ := h.ex
  have := hp.ltZ
  have hZ := h.hZ
  exact ⟨⟨z, hz, hp.only ht ho⟩, h.lo, h.free.only (fun ad e => by have := h.lo ad e; omega) ho, fun o => only_frozen ho (by omega) (by omega) (h.zfree o), h.hZ⟩
theorem SP.next {w W W' : World} {Z : Nat} {A : Option Addr} {c m N : Nat} (h : SP w W Z A c m N) (hb : Below W.heap.size W W') : SP w W' Z A c m N := by
  obtain ⟨z, hz, hp⟩ := h.ex
  exact h.only (hp.tape.below hb) (only_below hb)
theorem SP.drew {w W : World} {Z : Nat} {A : Option Addr} {c m N : Nat} (h : SP w W Z A c m N) : SP w W.drew Z A c m N := h.next ((Below.refl _ _).drew)
theorem SP.less {w W : World} {Z : Nat} {A : Option Addr} {c m N N' : Nat} (h : SP w W Z A c m N) (hN : N' ≤ N) : SP w W Z A c m N' := by
  obtain ⟨z, hz, hp⟩ := h.ex
  exact ⟨⟨z, hz, hp.tape.less hN, hp.zb, hp.below⟩, h.lo, h.free, h.zfree, h.hZ⟩
theorem SP.tape {w W : World} {Z : Nat} {A : Option Addr} {c m N : Nat} (h : SP w W Z A c m N) : TapeAt W w.heap.size w.heap.size N := by
  obtain ⟨z, hz, hp⟩ := h.ex
  exact hp.tape
theorem SP.c2 {w W : World} {Z : Nat} {A : Option Addr} {c m N : Nat} (h : SP w W Z A c m N) : W.cell? ⟨Z, 2, none⟩ = some (.slice A m c) := by
  obtain ⟨z, hz, hp⟩ := h.ex
  rw [← hz]
  exact hp.zb.c2
/-- A change lies in memory and may be written. -/
theorem SP.at_ {w W : World} {Z : Nat} {bb o c m N : Nat} (h : SP w W Z (some ⟨bb, o, none⟩) c m N) (j : Nat) (hj : (j : Int) < m) :
    ∃ x1 x2 : Int, bb < W.heap.size ∧ W.cell? ⟨bb, o + j*2, none⟩ = some (.int .i64 x1) ∧ W.cell? ⟨bb, o + j*2 + 1, none⟩ = some (.int .i64 x2) ∧
      W.frozen? ⟨bb, o + j*2, none⟩ = false ∧ W.frozen? ⟨bb, o + j*2 + 1, none⟩ = false := by
  obtain ⟨z, hz, hp⟩ := h.ex
  obtain ⟨h1, h2, h3⟩ := hp.zb.at_.cell_at j (by omega)
  exact ⟨_, _, h1, h2, h3, (h.free _ rfl).2 _, (h.free _ rfl).2 _⟩
theorem SP.set {w W : World} {Z : Nat} {bb o c m N : Nat} (h : SP w W Z (some ⟨bb, o, none⟩) c m N) (j : Nat) (hj : (j : Int) < m) (x : Int) (d : Nat) (hd : d = o + j*2 ∨ d = o + j*2 + 1) :
    SP w (W.setCell ⟨bb, d, none⟩ (.int .i64 x)) Z (some ⟨bb, o, none⟩) c m N := by
  obtain ⟨z, hz, hp⟩ := h.ex
  obtain ⟨h1, h2, h3⟩ := hp.zb.at_.cell_at j (by omega)
  obtain ⟨l1, l2⟩ := h.lo _ rfl
  have l1' : w.heap.size < bb := l1
  have l2' : bb < Z := l2
  have hj' : j < z.cs.length := by omega
  refine ⟨?_, h.lo, fun ad e => ⟨by simpa using (h.free ad e).1, fun q => by simpa using (h.free ad e).2 q⟩, fun q => by simpa using h.zfree q, h.hZ⟩
  have ht : TapeAt (W.setCell ⟨bb, d, none⟩ (.int .i64 x)) w.heap.size w.heap.size N := hp.tape.setCell (by simp; omega) (by simp; omega) _
  have hb : Below w.heap.size w (W.setCell ⟨bb, d, none⟩ (.int .i64 x)) := hp.below.setCell (by simp; omega) _
  have hm : ∀ y : Int × Int, ZAt (W.setCell ⟨bb, d, none⟩ (.int .i64 x)) ⟨z.name, z.off, z.cs.set j y⟩ (some ⟨bb, o, none⟩) →
      ∃ z' : ZN, z'.cs.length = m ∧ PS w (W.setCell ⟨bb, d, none⟩ (.int .i64 x)) Z z' (some ⟨bb, o, none⟩) c N := by
    intro y hy
    refine ⟨_, by simpa using hz, ht, ⟨hy, hp.zb.far, hp.zb.hZ, cell_far (.inl (by omega)) hp.zb.c0, cell_far (.inl (by omega)) hp.zb.c1, cell_far (.inl (by omega)) (by simpa using hp.zb.c2)⟩, hb⟩
  rcases hd with rfl | rfl
  · exact hm (x, z.cs[j].2) (cs_set_cells hp.zb.at_ hj' rfl _ _ (by simp) (cell_set h2) (cell_far (.inr (by omega)) h3) (fun q q1 q2 => cell_far (.inr (fun e => q1 e.symm)) rfl))
  · exact hm (z.cs[j].1, x) (cs_set_cells hp.zb.at_ hj' rfl _ _ (by simp) (cell_far (.inr (by omega)) h2) (cell_set h3) (fun q q1 q2 => cell_far (.inr (fun e => q2 e.symm)) rfl))
theorem SP.setOff {w W : World} {Z : Nat} {A : Option Addr} {c m N : Nat} (h : SP w W Z A c m N) (x : Int) : SP w (W.setCell ⟨Z, 1, none⟩ (.int .i64 x)) Z A c m N := by
  obtain ⟨z, hz, hp⟩ := h.ex
  have hZ := h.hZ
  refine ⟨⟨⟨z.name, x, z.cs⟩, hz, hp.tape.setCell (by simp; omega) (by simp; omega) _, ⟨⟨hp.zb.at_.nm, hp.zb.at_.ln, fun k y hy => ?_⟩, hp.zb.far, hp.zb.hZ, cell_far (.inr (by omega)) hp.zb.c0, cell_set hp.zb.c1, cell_far (.inr (by omega)) hp.zb.c2⟩, hp.below.setCell (by simp; omega) _⟩, h.lo, fun ad e => ⟨by simpa using (h.free ad e).1, fun q => by simpa using (h.free ad e).2 q⟩, fun q => by simpa using h.zfree q, h.hZ⟩
  obtain ⟨g, o, hA, hlt, e1, e2⟩ := hp.zb.at_.cells k y hy
  have := (h.lo _ hA).2
  have hne : Z ≠ g := by simp at this; omega
  exact ⟨g, o, hA, by simpa using hlt, cell_far (.inl hne) e1, cell_far (.inl hne) e2⟩
theorem SP.setName {w W : World} {Z : Nat} {A : Option Addr} {c m N : Nat} (h : SP w W Z A c m N) (s : ByteArray) (hs : s.size ≤ maxLen) : SP w (W.setCell ⟨Z, 0, none⟩ (.string s)) Z A c m N := by
  obtain ⟨z, hz, hp⟩ := h.ex
  have hZ := h.hZ
  refine ⟨⟨⟨s, z.off, z.cs⟩, hz, hp.tape.setCell (by simp; omega) (by simp; omega) _, ⟨⟨hs, hp.zb.at_.ln, fun k y hy => ?_⟩, hp.zb.far, hp.zb.hZ, cell_set hp.zb.c0, cell_far (.inr (by omega)) hp.zb.c1, cell_far (.inr (by omega)) hp.zb.c2⟩, hp.below.setCell (by simp; omega) _⟩, h.lo, fun ad e => ⟨by simpa using (h.free ad e).1, fun q => by simpa using (h.free ad e).2 q⟩, fun q => by simpa using h.zfree q, h.hZ⟩
  obtain ⟨g, o, hA, hlt, e1, e2⟩ := hp.zb.at_.cells k y hy
  have := (h.lo _ hA).2
  have hne : Z ≠ g := by simp at this; omega
  exact ⟨g, o, hA, by simpa using hlt, cell_far (.inl hne) e1, cell_far (.inl hne) e2⟩
theorem ZAt.zfar {W : World} {z : ZN} {A : Option Addr} (h : ZAt W z A) {g o : Nat} (hA : ∀ ad, A = some ad → ad.block < g) (v : Value) : ZAt (W.setCell ⟨g, o, none⟩ v) z A :=
  ⟨h.nm, h.ln, fun k y hy => by
    obtain ⟨b', o', hA', hlt, e1, e2⟩ := h.cells k y hy
    have hne : g ≠ b' := by have := hA _ hA'; simp at this; omega
    exact ⟨b', o', hA', by simpa using hlt, cell_far (.inl hne) e1, cell_far (.inl hne) e2⟩⟩
theorem SP.nameEnd {w W : World} {Z : Nat} {z : ZN} {A : Option Addr} {c m N : Nat} (h : SP w W Z A c m N) (hz : ZAt W z A) (s : ByteArray) (hs : s.size ≤ maxLen) :
    ZAt (W.setCell ⟨Z, 0, none⟩ (.string s)) ⟨s, z.off, z.cs⟩ A ∧ Below w.heap.size w (W.setCell ⟨Z, 0, none⟩ (.string s)) := by
  obtain ⟨z', hz', hp⟩ := h.ex
  have hZ := h.hZ
  have h1 := hz.zfar (g := Z) (o := 0) (fun ad e => (h.lo ad e).2) (.string s)
  exact ⟨⟨hs, h1.ln, h1.cells⟩, hp.below.setCell (by simp; omega) _⟩
theorem SP.offEnd {w W : World} {Z : Nat} {z : ZN} {A : Option Addr} {c m N : Nat} (h : SP w W Z A c m N) (hz : ZAt W z A) (x : Int) :
    ZAt (W.setCell ⟨Z, 1, none⟩ (.int .i64 x)) ⟨z.name, x, z.cs⟩ A ∧ Below w.heap.size w (W.setCell ⟨Z, 1, none⟩ (.int .i64 x)) := by
  obtain ⟨z', hz', hp⟩ := h.ex
  have hZ := h.hZ
  have h1 := hz.zfar (g := Z) (o := 1) (fun ad e => (h.lo ad e).2) (.int .i64 x)
  exact ⟨⟨h1.nm, h1.ln, h1.cells⟩, hp.below.setCell (by simp; omega) _⟩
/-- What the law says at the end: ZoneExact of whatever zone lies there. -/
theorem SP.fields {w W : World} {Z : Nat} {A : Option Addr} {c m N : Nat} (h : SP w W Z A c m N) : ∃ z : ZN, z.cs.length = m ∧ ZAt W z A ∧ W.cell? ⟨Z, 0, none⟩ = some (.string z.name) ∧ W.cell? ⟨Z, 1, none⟩ = some (.int .i64 z.off) ∧ W.cell? ⟨Z, 2, none⟩ = some (.slice A m c) ∧ Below w.heap.size w W := by
  obtain ⟨z, hz, hp⟩ := h.ex
  exact ⟨z, hz, hp.zb.at_, hp.zb.c0, hp.zb.c1, by rw [← hz]; exact hp.zb.c2, hp.below⟩
theorem zoneExact_len (z : ZN) {m : Nat} (hm : z.cs.length = m) (A : Option Addr) (c : Nat) (t d n : Int) (w : World) (hz : ZAt w z A) :
    Calls Try.prog 3 #[.agg #[.string z.name, .int .i64 z.off, .slice A m c], .int .i64 t, .int .i64 d, .int .i64 n] w (RetB (.bool true) w) := by
  rw [← hm]
  exact zoneExact_any z A c t d n w hz
theorem SP.setEnd {w W : World} {Z : Nat} {bb o c m N : Nat} (h : SP w W Z (some ⟨bb, o, none⟩) c m N) (j : Nat) (hj : (j : Int) < m) (x : Int) {z : ZN} (hm : z.cs.length = m) (hz : ZAt W z (some ⟨bb, o, none⟩)) :
    ∃ cs : List (Int × Int), cs.length = m ∧ ZAt (W.setCell ⟨bb, o + j*2 + 1, none⟩ (.int .i64 x)) ⟨z.name, z.off, cs⟩ (some ⟨bb, o, none⟩) ∧ Below w.heap.size w (W.setCell ⟨bb, o + j*2 + 1, none⟩ (.int .i64 x)) := by
  obtain ⟨_, _, hp⟩ := h.ex
  obtain ⟨l1, l2⟩ := h.lo _ rfl
  have l1' : w.heap.size < bb := l1
  have hj' : j < z.cs.length := by omega
  obtain ⟨h1, h2, h3⟩ := hz.cell_at j hj'
  exact ⟨z.cs.set j (z.cs[j].1, x), by simpa using hm, cs_set_cells hz hj' rfl _ _ (by simp) (cell_far (.inr (by omega)) h2) (cell_set h3) (fun q q1 q2 => cell_far (.inr (fun e => q2 e.symm)) rfl), hp.below.setCell (by simp; omega) _⟩

set_option maxRecDepth 100000 in
set_option maxHeartbeats 4000000 in
theorem zoneSpoilt_any (A : Option Addr) (L : List Int) (cap : Nat) (n : Int) (w : World) (hL : IntsAt w A L) :
    Calls Try.prog 5 #[.slice A L.length cap, .int .i64 n] w (RetB (.bool true) w) := by
  have ht0 := tape_start (cap := cap) hL
  have hw0 := bal0 w (.cells #[.slice A L.length cap, .int .i64 0] 37)
  go_enter Try.func5, Try.ntmps5
  go_wp2_with fail
  refine (mkZone2_any _ w.heap.size w.heap.size 90000 _ (ht0.less (by omega)) (by omega) (by omega)).mono ?_
  rintro e w2 ⟨z, A2, c2, rfl, hz2, hA2, hok, ht2, ho2, hfr2⟩
  have hB2 := lawOnly hw0 ho2
  have hs2 := ht2.lt
  have hzb := ZB.new (b := w.heap.size) (c := c2) hz2 (fun ad e => by have := hA2 ad e; simp at this; omega) hs2 24
  have hB3 := bal hB2 (.cells #[.string z.name, .int .i64 z.off, .slice A2 z.cs.length c2] 24)
  have hP2 : SP w (w2.alloc (.cells #[.string z.name, .int .i64 z.off, .slice A2 z.cs.length c2] 24)) w2.heap.size A2 c2 z.cs.length 90000 := by
    refine ⟨⟨z, rfl, ht2.alloc _, hzb, hB3⟩, fun ad e => ?_, fun ad e => ⟨?_, fun o => ?_⟩, fun o => World.frozen?_alloc_new _ _ _ o, hs2⟩
    · have h1 := hA2 ad e
      have h2 := (hfr2 ad e).1
      simp at h1
      omega
    · have h2 := (hfr2 ad e).1
      simp
      omega
    · exact frozen_al _ (hfr2 ad e).1 ((hfr2 ad e).2 o)
  generalize z.cs.length = m at *
  clear hzb hz2 hA2 ho2 hB2 ht2 hB3 hw0 ht0 hL
  go_wp2_with fail
  refine (next_in (N := 80000) (hP2.tape.less (by omega)) (by omega) (by omega)).mono ?_
  rintro e w3 ⟨k, hk, rfl, ht3, ho3⟩
  have hP3 := hP2.only ht3 ho3
  clear hP2 ht3 ho3
  obtain ⟨z3, hz3, hzat3, q0, q1, q2, hb3⟩ := hP3.fields
  have hml := hzat3.ln
  rw [hz3, maxLen] at hml
  by_cases k0 : k = 0
  · subst k0
    go_wp2_with fail
    refine (one_new [⟨#[]⟩, ⟨#[90]⟩, ⟨#[57, 97]⟩, ⟨#[97, 45, 98]⟩, ⟨#[97, 98, 99, 100, 101, 102, 103, 104, 105, 106, 107, 108, 109, 110, 111, 112]⟩, ⟨#[97, 98, 99, 100, 101, 102, 103, 104, 105, 106, 107, 108, 109, 110, 111, 112, 113]⟩] rfl (N := 2000) (hP3.tape.less (by omega)) (by decide) (by decide) rfl (by simp)).mono ?_
    rintro e w4 ⟨s, hs, rfl, ht4, ho4⟩
    have hP4 := hP3.only ht4 ho4
    obtain ⟨z4, hz4, hzat4, q0, q1, q2, -⟩ := hP4.fields
    have f0 := hP4.zfree 0
    obtain ⟨hSE, hSB⟩ := hP4.nameEnd hzat4 s (by simp at hs; rcases hs with rfl | rfl | rfl | rfl | rfl | rfl <;> decide)
    go_wp2_with fail
    refine (zoneExact_len ⟨s, z4.off, z4.cs⟩ hz4 A2 c2 _ _ _ _ hSE).mono ?_
    rintro e w9 ⟨rfl, hb9⟩
    go_wp2_with fail
    refine (zknown_any _).mono ?_
    rintro e w10 ⟨rfl, hb10⟩
    go_wp2
    go_ret
    exact ⟨rfl, bnext (bnext hSB hb9) hb10⟩
  · by_cases k1 : k = 1
    · subst k1
      go_wp2_with fail
      refine (pick_new [n, 901, -901, 900, -900] rfl (N := 2000) (hP3.tape.less (by omega)) (by simp) (by simp) rfl (by simp)).mono ?_
      rintro e w4 ⟨p, -, rfl, ht4, ho4⟩
      have hP4 := hP3.only ht4 ho4
      obtain ⟨z4, hz4, hzat4, q0, q1, q2, -⟩ := hP4.fields
      have f0 := hP4.zfree 1
      obtain ⟨hSE, hSB⟩ := hP4.offEnd hzat4 p
      go_wp2_with fail
      refine (zoneExact_len ⟨z4.name, p, z4.cs⟩ hz4 A2 c2 _ _ _ _ hSE).mono ?_
      rintro e w9 ⟨rfl, hb9⟩
      go_wp2_with fail
      refine (zknown_any _).mono ?_
      rintro e w10 ⟨rfl, hb10⟩
      go_wp2
      go_ret
      exact ⟨rfl, bnext (bnext hSB hb9) hb10⟩
    · by_cases hm0 : 0 < m
      · go_wp2_with fail
        refine (next_in (n := (m : Int)) (N := 70000) (hP3.tape.less (by omega)) (by omega) (by omega)).mono ?_
        rintro e w4 ⟨j, hj, rfl, ht4, ho4⟩
        have hP4 := hP3.only ht4 ho4
        obtain ⟨bb, o, x1, x2, rfl, -, -, -, -, -⟩ := hzat3.at_ (Below.refl _ _) 0 (by omega)
        have hlo := (hP4.lo _ rfl).2
        clear hP3 ht4 ho4
        go_upto_region 6 with fail
        go_cut [] (fun wc => SP w wc w2.heap.size (some ⟨bb, o, none⟩) c2 m 60000)
        case first =>
          have c24 := hP4.c2
          have hZ4 := blt c24
          obtain ⟨x01, x02, hb4, e01, e02, f01, f02⟩ := hP4.at_ 0 (by omega)
          obtain ⟨x41, x42, -, e41, e42, f41, f42⟩ := hP4.at_ j hj
          rw [Nat.zero_mul, Nat.add_zero] at e01
          go_region_law (first
            | (go_simp; go_at_call 38; refine (pick_new [n, -1, x01, 105190559, 105190560] rfl (N := 65000) (hP4.drew.tape.less (by omega)) (by simp) (by simp) rfl (by simp)).mono ?_; rintro e w5 ⟨p, -, rfl, ht5, ho5⟩; have hP5 := hP4.drew.only ht5 ho5; have c25 := hP5.c2; have hZ5 := blt c25; obtain ⟨x51, x52, hb5, e51, e52, f51, f52⟩ := hP5.at_ j hj))
          all_goals
            go_wp2_with fail
            go_meet
            exact (hP5.set j hj p _ (.inl rfl)).less (by omega)
        case rest =>
          have hP5 := hcut
          clear hcut hP4
          have c25 := hP5.c2
          have hZ5 := blt c25
          go_wp2_with fail
          go_region_law (first
            | (go_simp; go_at_call 37; refine (next_in (N := 50000) (hP5.drew.tape.less (by omega)) (by omega) (by omega)).mono ?_; rintro e w6 ⟨i, hi, rfl, ht6, ho6⟩; have hP6 := hP5.drew.only ht6 ho6; have c26 := hP6.c2; have hZ6 := blt c26; obtain ⟨x61, x62, hb6, e61, e62, f61, f62⟩ := hP6.at_ i hi)
            | (go_simp; go_at_call 37; refine (next_in (N := 50000) ((hP5.next (bal0 _ _)).drew.tape.less (by omega)) (by omega) (by omega)).mono ?_; rintro e w6 ⟨i, hi, rfl, ht6, ho6⟩; have hP6 := (hP5.next (bal0 _ _)).drew.only ht6 ho6; have c26 := hP6.c2; have hZ6 := blt c26; obtain ⟨x61, x62, hb6, e61, e62, f61, f62⟩ := hP6.at_ i hi)
            | (go_simp; go_at_call 38; refine (pick_new [901, -901, 0] rfl (N := 40000) (hP6.tape.less (by omega)) (by simp) (by simp) rfl (by simp)).mono ?_; rintro e w7 ⟨p, -, rfl, ht7, ho7⟩; have hP7 := hP6.only ht7 ho7; have c27 := hP7.c2; have hZ7 := blt c27; obtain ⟨x71, x72, hb7, e71, e72, f71, f72⟩ := hP7.at_ i hi)
            | (go_simp; go_at_call 38; refine (pick_made [901, -901, 0] rfl (N := 40000) hP5.tape.lt ho6 (hP6.tape.less (by omega)) (by simp) (by simp) rfl rfl).mono ?_; rintro e w7 ⟨p, -, rfl, ht7, ho7⟩; have hP7 := hP6.only ht7 ho7; have c27 := hP7.c2; have hZ7 := blt c27; obtain ⟨x71, x72, hb7, e71, e72, f71, f72⟩ := hP7.at_ i hi))
          all_goals
            obtain ⟨z7, hz7, hzat7, s0, s1, s2, -⟩ := hP7.fields
            obtain ⟨cs', hcs', hzat, hb⟩ := hP7.setEnd i hi p hz7 hzat7
            go_wp2_with fail
            refine (zoneExact_len ⟨z7.name, z7.off, cs'⟩ hcs' _ c2 _ _ _ _ hzat).mono ?_
            rintro e w9 ⟨rfl, hb9⟩
            go_wp2_with fail
            refine (zknown_any _).mono ?_
            rintro e w10 ⟨rfl, hb10⟩
            go_wp2
            go_ret
            exact ⟨rfl, bnext (bnext hb hb9) hb10⟩
      · go_wp2_with fail
        refine (zoneExact_len z3 hz3 A2 c2 _ _ _ _ hzat3).mono ?_
        rintro e w9 ⟨rfl, hb9⟩
        go_wp2_with fail
        refine (zknown_any _).mono ?_
        rintro e w10 ⟨rfl, hb10⟩
        go_wp2
        go_ret
        exact ⟨rfl, bnext (bnext hb3 hb9) hb10⟩
end Go.Proofs.Ytmjegmlchonlmaa
