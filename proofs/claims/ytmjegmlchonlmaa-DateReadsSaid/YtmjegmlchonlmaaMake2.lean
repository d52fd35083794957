/-
  Picks out of lists that have just been written out; the generator of days.
-/
import Derived.Test.YtmjegmlchonlmaaMake
namespace Go.Proofs.Ytmjegmlchonlmaa
open Go.RowKit

theorem cells_new (w : World) (vs : List Value) (t : TypeId) : ∀ (k : Nat) (v : Value), vs[k]? = some v → (w.alloc (.cells vs.toArray t)).cell? ⟨w.heap.size, k, none⟩ = some v := by
  intro k v h
  rw [World.cell?_alloc_new]
  simpa using h
theorem pick_new (xs : List Int) {vs : List Value} (hvs : vs = xs.map (Value.int .i64)) {B b N : Nat} {w : World} (h : TapeAt w B b (N + 1)) (hx : 0 < xs.length) (hx2 : xs.length ≤ 1000) {n c g : Nat} (hn : xs.length = n) (hg : w.heap.size = g) :
    Calls Try.prog 38 #[.pointer (some ⟨b, 0, none⟩), .slice (some ⟨g, 0, none⟩) n c] (w.alloc (.cells vs.toArray 3)) (PickP xs B b N w) := by
  subst hg
  have hlt := h.lt
  have hc := pick_any xs w.heap.size B b N (w.alloc (.cells vs.toArray 3)) (h.alloc _) hx hx2 (by simp) (by omega) c (fun k x hk => cells_new w vs _ k _ (by rw [hvs, List.getElem?_map, hk]; rfl))
  rw [hn] at hc
  refine hc.mono ?_
  rintro e w' ⟨v, hv, he, ht, ho⟩
  exact ⟨v, hv, he, ht, only_trans (only_below (bal0 w _)) ho⟩
theorem one_new (xs : List ByteArray) {vs : List Value} (hvs : vs = xs.map Value.string) {B b N : Nat} {w : World} (h : TapeAt w B b (N + 1)) (hx : 0 < xs.length) (hx2 : xs.length ≤ 1000) {n c g : Nat} (hn : xs.length = n) (hg : w.heap.size = g) :
    Calls Try.prog 39 #[.pointer (some ⟨b, 0, none⟩), .slice (some ⟨g, 0, none⟩) n c] (w.alloc (.cells vs.toArray 9)) (OneP xs B b N w) := by
  subst hg
  have hlt := h.lt
  have hc := one_any xs w.heap.size B b N (w.alloc (.cells vs.toArray 9)) (h.alloc _) hx hx2 (by simp) (by omega) c (fun k x hk => cells_new w vs _ k _ (by rw [hvs, List.getElem?_map, hk]; rfl))
  rw [hn] at hc
  refine hc.mono ?_
  rintro e w' ⟨v, hv, he, ht, ho⟩
  exact ⟨v, hv, he, ht, only_trans (only_below (bal0 w _)) ho⟩

set_option maxHeartbeats 1000000 in
theorem day_any (B b N : Nat) (w : World) (h : TapeAt w B b (N + 2)) : Calls Try.prog 33 #[.pointer (some ⟨b, 0, none⟩)] w (DayP B b N w) := by
  go_enter Try.func33, Try.ntmps33
  go_wp2_with fail
  refine (next_in (N := N + 1) h (by omega) (by omega)).mono ?_
  rintro e w1 ⟨k, hk, rfl, ht, ho⟩
  by_cases k0 : k = 0
  · subst k0
    go_wp2_with fail
    refine (next_in (N := N) ht (by omega) (by omega)).mono ?_
    rintro e w2 ⟨j, hj, rfl, ht2, ho2⟩
    go_wp2
    go_ret
    exact ⟨j, by omega, by omega, rfl, ht2, only_trans ho ho2⟩
  · have b0 : ((k : Int) == 0) = false := beq_eq_false_iff_ne.2 (by omega)
    by_cases k1 : k = 1
    · subst k1
      clear k0
      go_wp2_with fail
      refine (next_in (N := N) ht (by omega) (by omega)).mono ?_
      rintro e w2 ⟨j, hj, rfl, ht2, ho2⟩
      go_wp2
      go_ret
      exact ⟨73048 - j, by omega, by omega, rfl, ht2, only_trans ho ho2⟩
    · have b1 : ((k : Int) == 1) = false := beq_eq_false_iff_ne.2 (by omega)
      by_cases k2 : k = 2
      · subst k2
        clear k0 k1
        go_wp2_with fail
        refine (next_in (N := N) ht (by omega) (by omega)).mono ?_
        rintro e w2 ⟨j, hj, rfl, ht2, ho2⟩
        go_wp2
        go_ret
        exact ⟨j, by omega, by omega, rfl, ht2, only_trans ho ho2⟩
      · have b2 : ((k : Int) == 2) = false := beq_eq_false_iff_ne.2 (by omega)
        by_cases k3 : k = 3
        · subst k3
          clear k0 k1 k2
          go_wp2_with fail
          refine (pick_new [59, 60, 365, 366, 1520, 8825, 36584, 36583, 36525, 9861, 9862] rfl (N := N) ht (by decide) (by decide) rfl (by simp)).mono ?_
          rintro e w2 ⟨v, hv, rfl, ht2, ho2⟩
          have hv2 : 0 ≤ v ∧ v ≤ 73048 := by simp at hv; omega
          have HV := Lib.hid hv2
          clear hv hv2
          go_wp2
          go_ret
          exact ⟨v, HV.out.1, HV.out.2, rfl, ht2, only_trans ho ho2⟩
        · have b3 : ((k : Int) == 3) = false := beq_eq_false_iff_ne.2 (by omega)
          go_wp2_with fail
          refine (next_in (N := N) ht (by omega) (by omega)).mono ?_
          rintro e w2 ⟨j, hj, rfl, ht2, ho2⟩
          go_wp2
          go_ret
          exact ⟨9487 + j, by omega, by omega, rfl, ht2, only_trans ho ho2⟩
end Go.Proofs.Ytmjegmlchonlmaa
