/-
  The law on texts that are almost dates.
-/
import Derived.Test.YtmjegmlchonlmaaDateLaws2
import Derived.Lib.ConvBytes
import Derived.Deep.RegionHeld3
namespace Go.Proofs.Ytmjegmlchonlmaa
open Go.RowKit
set_option maxHeartbeats 4000000
set_option linter.unusedVariables false
theorem bytesWorld_below (w : World) (e : TypeId) (s : ByteArray) : Below w.heap.size w (Lib.bytesWorld w e s) :=
  ⟨rfl, rfl, rfl, by rw [Lib.bytesWorld_size]; omega, fun i hi => Lib.bytesWorld_at_old w e s i hi⟩
theorem bytesWorld_bytes (w : World) (e : TypeId) (s : ByteArray) : Lib.Bytes (Lib.bytesWorld w e s) w.heap.size 0 s := fun i h => by
  have := Lib.bytesWorld_cell w e s i h
  rw [Nat.zero_add, this]
  congr 3
  simp [List.getD, h]
  rfl
theorem bytesWorld_free (w : World) (e : TypeId) (s : ByteArray) {i : Nat} (h : i < s.size) : (Lib.bytesWorld w e s).frozen? ⟨w.heap.size, i, none⟩ = false := by
  have hn := Lib.bytesWorld_at_new w e s
  have hs : s.size ≤ (Lib.bytesCells w e s).size := by simp [Lib.bytesCells]
  simp [World.frozen?, hn]
  omega
/-- One byte is turned. -/
theorem bytes_set {W : World} {g k : Nat} {s : ByteArray} (h : Lib.Bytes W g 0 s) (hk : k < s.size) (c : UInt8) : ∃ s' : ByteArray, s'.size = s.size ∧ Lib.Bytes (W.setCell ⟨g, k, none⟩ (.int .u8 c.toNat)) g 0 s' := by
  refine ⟨⟨s.data.setIfInBounds k c⟩, by show (s.data.setIfInBounds k c).size = s.data.size; simp, fun i hi => ?_⟩
  have hi2 : i < s.size := by
    have : i < (s.data.setIfInBounds k c).size := hi
    simpa using this
  have e : (⟨s.data.setIfInBounds k c⟩ : ByteArray)[i]'hi = (s.data.setIfInBounds k c)[i]'hi := rfl
  have hc := h i hi2
  rw [Nat.zero_add] at hc ⊢
  rw [e, Array.getElem_setIfInBounds (by exact hi2)]
  by_cases hik : k = i
  · subst hik
    rw [if_pos rfl]
    exact cell_set hc
  · rw [if_neg hik]
    exact cell_far (.inr hik) hc
structure RdS (w W : World) (g : Nat) (s : ByteArray) (cp N : Nat) : Prop where
  size : s.size = 10
  bytes : Lib.Bytes W g 0 s
  tape : TapeAt W w.heap.size w.heap.size N
  below : Below w.heap.size w W
  lt : g < W.heap.size
  base : w.heap.size < g
theorem RdS.run {w W : World} {g : Nat} {s : ByteArray} {cp N : Nat} (h : RdS w W g s cp N) :
    (convert 53 9 (.slice (some ⟨g, 0, none⟩) 10 cp)).run Try.prog W = .ok (.string s) W := by
  have := Lib.run_convert_whole (P := Try.prog) W 53 5 9 Try.underlying53 Try.underlying5 Try.underlying9 g 0 s h.bytes cp
  rw [h.size] at this
  exact this
theorem RdS.next {w W W' : World} {g : Nat} {s : ByteArray} {cp N : Nat} (h : RdS w W g s cp N) (hb : Below W.heap.size W W') : RdS w W' g s cp N :=
  ⟨h.size, fun i hi => (hb.cell (p := ⟨g, _, none⟩) h.lt).trans (h.bytes i hi), h.tape.below hb, bnext h.below hb, Nat.lt_of_lt_of_le h.lt hb.size, h.base⟩
theorem RdS.only {w W W' : World} {g : Nat} {s : ByteArray} {cp N N' : Nat} (h : RdS w W g s cp N) (ht : TapeAt W' w.heap.size w.heap.size N') (ho : Only w.heap.size W W') : RdS w W' g s cp N' :=
  ⟨h.size, fun i hi => only_cell ho h.lt (Nat.ne_of_gt h.base) (h.bytes i hi), ht, h.below.trans (only_to_below ho (Nat.le_refl _) h.below.size), Nat.lt_of_lt_of_le h.lt ho.size, h.base⟩
theorem RdS.less {w W : World} {g : Nat} {s : ByteArray} {cp N M : Nat} (h : RdS w W g s cp N) (hm : M ≤ N) : RdS w W g s cp M := ⟨h.size, h.bytes, h.tape.less hm, h.below, h.lt, h.base⟩
theorem one_drew (xs : List ByteArray) {vs : List Value} (hvs : vs = xs.map Value.string) {B b N : Nat} {w : World} (h : TapeAt w B b (N + 1)) (hx : 0 < xs.length) (hx2 : xs.length ≤ 1000) {n c g : Nat} (hn : xs.length = n) (hg : w.heap.size = g) :
    Calls Try.prog 39 #[.pointer (some ⟨b, 0, none⟩), .slice (some ⟨g, 0, none⟩) n c] (w.alloc (.cells vs.toArray 9)).drew (OneP xs B b N w) := by
  subst hg
  have hlt := h.lt
  have hc := one_any xs w.heap.size B b N (w.alloc (.cells vs.toArray 9)).drew ((h.alloc _).below ((Below.refl _ _).drew)) hx hx2 (by simp) (by omega) c (fun k x hk => cells_new w vs _ k _ (by rw [hvs, List.getElem?_map, hk]; rfl))
  rw [hn] at hc
  refine hc.mono ?_
  rintro e w' ⟨v, hv, he, ht, ho⟩
  exact ⟨v, hv, he, ht, only_trans (only_below ((bal0 w _).drew)) ho⟩
set_option maxRecDepth 100000 in
theorem dateReads_any (A : Option Addr) (L : List Int) (cap : Nat) (w : World) (hL : IntsAt w A L) :
    Calls Try.prog 10 #[.slice A L.length cap] w (RetB (.bool true) w) := by
  have ht0 := ts_start (cap := cap) hL
  clear hL
  have kc := fun (w : World) (s : ByteArray) => Lib.run_convert_string_bytes (P := Try.prog) w 9 53 5 s Try.underlying9 Try.underlying53 Try.underlying5
  go_enter Try.func10, Try.ntmps10
  go_wp2_with fail
  refine (day_any w.heap.size w.heap.size 100000 _ (ht0.less (by omega))).mono ?_
  rintro e w1 ⟨n, hv1, hv2, rfl, ht1, ho1⟩
  have hT1 := ht0.draw ht1 ho1
  clear ht0 ht1 ho1
  obtain ⟨y, m, d, h1⟩ := cv_any n hv1 hv2
  have H1 := Lib.hid h1
  clear h1
  go_wp2_with fail
  refine (rfmt_is (.inl ⟨_, _, _, H1.out, rfl, rfl⟩) _).mono ?_
  rintro e w2 ⟨rfl, hb2⟩
  have hT2 := hT1.next hb2
  clear hT1 hb2
  obtain ⟨s, hs⟩ : ∃ s, fmtS y m d = s := ⟨_, rfl⟩
  have hsz : s.size = 10 := by rw [← hs]; rfl
  rw [hs]
  clear hs
  have kcs := kc w2 s
  rw [hsz] at kcs
  generalize grownCap w2 10 0 5 = cp at kcs
  clear kc
  have hT3 := hT2.next (bytesWorld_below w2 5 s)
  have hby := bytesWorld_bytes w2 5 s
  have hfr := fun i => bytesWorld_free w2 5 s (i := i)
  have hsz3 := Lib.bytesWorld_size w2 5 s
  generalize Lib.bytesWorld w2 5 s = w3 at *
  have HS := Lib.hid hsz
  have HZ3 := Lib.hid hsz3
  have HF := Lib.hid hfr
  have hlt2 := hT2.tape.lt
  obtain ⟨l1, l2⟩ : 10 ≤ s.size ∧ s.size ≤ 10 := by omega
  clear hsz hsz3 hfr
  generalize hg : w2.heap.size = g at *
  have HG := Lib.hid hg
  clear hg
  go_wp2_with fail
  clear kcs
  refine (next_in (N := 90000) (hT3.less (by omega)) (by omega) (by omega)).mono ?_
  rintro e w4 ⟨k, hk, rfl, ht4, ho4⟩
  have hT4 := hT3.draw ht4 ho4
  have hby4 : Lib.Bytes w4 g 0 s := fun i hi => only_cell ho4 (by have := HZ3.out; omega) (by omega) (hby i hi)
  have hfr4 := only_frozen ho4 (by have := HZ3.out; omega) (by omega) (HF.out k (by omega))
  have HB4 := Lib.hid hby4
  have hsz4 := ho4.size
  clear hT3 ht4 ho4 hby4 hby
  go_wp2_with fail
  refine (one_new [⟨#[48]⟩, ⟨#[57]⟩, ⟨#[45]⟩, ⟨#[51]⟩, ⟨#[32]⟩, ⟨#[97]⟩] rfl (N := 80000) (hT4.less (by omega)) (by decide) (by decide) rfl (by simp)).mono ?_
  rintro e w5 ⟨v, hv, rfl, ht5, ho5⟩
  have hT5 := hT4.draw ht5 ho5
  have hvz : 0 < v.size := by
    simp at hv
    rcases hv with rfl | rfl | rfl | rfl | rfl | rfl <;> decide
  have hz3 := HZ3.out
  have hby5 : Lib.Bytes w5 g 0 s := fun i hi => only_cell ho5 (by omega) (by omega) (HB4.out i hi)
  have hfr5 := only_frozen ho5 (by omega) (by omega) hfr4
  have hck := hby5 k (by omega)
  rw [Nat.zero_add] at hck
  have HB5 := Lib.hid hby5
  clear hT4 ht5 hby5 hfr4 hv HB4
  go_wp2_with fail
  go_wp2_with fail
  generalize v[0] = c at *
  obtain ⟨s6, hs6, hby6⟩ := bytes_set HB5.out (k := k) (by omega) c
  have hT6 : TS w (w5.setCell ⟨g, k, none⟩ (.int .u8 c.toNat)) 80000 := ⟨hT5.tape.setCell (by show w.heap.size ≤ g; omega) (by show g ≠ w.heap.size; omega) _, hT5.below.setCell (by show w.heap.size ≤ g; omega) _⟩
  have hz6 : g < (w5.setCell ⟨g, k, none⟩ (.int .u8 c.toNat)).heap.size := by
    have := ho5.size
    simp at this ⊢
    omega
  generalize w5.setCell ⟨g, k, none⟩ (.int .u8 c.toNat) = w6 at *
  have hs10 : s6.size = 10 := by omega
  have hRd : RdS w w6 g s6 cp 80000 := ⟨hs10, hby6, hT6.tape, hT6.below, hz6, hlt2⟩
  have HR0 := Lib.hid hRd
  have HR := Lib.hid ((hRd.next (Below.refl _ _).drew).less (show 60000 ≤ 80000 by omega))
  have i1 : (9 : Int) ≤ s.size := by omega
  have i2 : (6 : Int) ≤ s.size := by omega
  have i3 : (5 : Int) ≤ s.size := by omega
  have ka : ∀ W : World, (Op.stringOp .add s ⟨#[48]⟩).run Try.prog W = .ok (.string (s ++ ⟨#[48]⟩)) W := fun W => run_string_add_sum W _ _ (by show s.size + 1 ≤ _; omega)
  have kx : ∀ W : World, (Op.stringOp .add (s.extract 0 5) (s.extract 6 s.size)).run Try.prog W = .ok (.string (s.extract 0 5 ++ s.extract 6 s.size)) W := fun W => run_string_add_sum W _ _ (by
    have h1 := ext_le s 0 5
    have h2 := ext_le s 6 s.size
    omega)
  clear hs10 hby6 hck hfr5 HB5 hs6 hT5 hRd
  go_region_held3 (fun W => ((convert 53 9 (.slice (some ⟨g, 0, none⟩) 10 cp)).run Try.prog W = .ok (.string s6) W) ∧ RdS w W g s6 cp 60000)
    (first | exact ⟨HR.out.run, HR.out⟩ | exact ⟨(HR.out.next ((bal0 _ _).drew)).run, HR.out.next ((bal0 _ _).drew)⟩ | exact ⟨((HR0.out.next ((bal0 _ _).drew)).less (show 60000 ≤ 80000 by omega)).run, (HR0.out.next ((bal0 _ _).drew)).less (show 60000 ≤ 80000 by omega)⟩ | exact ⟨HR7.out.run, HR7.out⟩)
    ((first | (go_at_call 39; refine (one_drew [s6, s.extract 0 9, s ++ ⟨#[48]⟩, s.extract 0 5 ++ s.extract 6 s.size] rfl (N := 60000) (HR0.out.tape.less (by omega)) (by simp) (by simp) rfl rfl).mono ?_; rintro e w7 ⟨u, hu, rfl, ht7, ho7⟩; have HR7 := Lib.hid (RdS.only HR0.out ht7 ho7))))
  clear ka kx
  go_wp2_with fail
  refine (pick_new [-1, 73048, 73049, 0] rfl (N := 50000) (HR7.out.tape.less (by omega)) (by simp) (by simp) rfl (by simp)).mono ?_
  rintro e w8 ⟨p8, -, rfl, ht8, ho8⟩
  have HR8 := Lib.hid (RdS.only HR7.out ht8 ho8)
  go_wp2_with fail
  refine (dateTexts_any _ _ _).mono ?_
  rintro e w9 ⟨rfl, hb9⟩
  have HR9 := Lib.hid (HR8.out.next hb9)
  have k9 := HR9.out.run
  go_wp2_with fail
  refine (dateTexts_any _ _ _).mono ?_
  rintro e w10 ⟨rfl, hb10⟩
  clear k9
  go_wp2_with fail
  refine (known5_any _).mono ?_
  rintro e w11 ⟨rfl, hb11⟩
  go_wp2_with fail
  go_ret
  exact ⟨rfl, bnext (bnext HR9.out.below hb10) hb11⟩
end Go.Proofs.Ytmjegmlchonlmaa
