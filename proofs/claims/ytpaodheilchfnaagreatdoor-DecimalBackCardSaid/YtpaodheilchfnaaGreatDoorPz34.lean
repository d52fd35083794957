/- What the laws lean on. -/
import Derived.Test.YtpaodheilchfnaaGreatDoorPz25
namespace Go.Proofs.YtpaodheilchfnaaGreatDoor
set_option linter.unusedVariables false
set_option linter.unusedSimpArgs false
section
open Go.RowKit
theorem cut1_spec (l : List UInt8) (c : UInt8) : (c ∉ l ∧ cut1 l c = (l, [], false)) ∨ ∃ u v, l = u ++ c :: v ∧ c ∉ u ∧ cut1 l c = (u, v, true) := by
  have hi : ∀ l : List UInt8, (c ∉ l ∧ Lib.indexByte l c = -1) ∨ ∃ u v, l = u ++ c :: v ∧ c ∉ u ∧ Lib.indexByte l c = (u.length : Int) := by
    intro l
    induction l with
    | nil => exact .inl ⟨by simp, rfl⟩
    | cons b l ih =>
      unfold Lib.indexByte
      by_cases hb : b = c
      · subst hb
        rw [if_pos (by simp)]
        exact .inr ⟨[], l, rfl, by simp, rfl⟩
      · rw [if_neg (by simpa using hb)]
        rcases ih with ⟨h1, h2⟩ | ⟨u, v, h1, h2, h3⟩
        · rw [h2, if_pos (by decide)]
          exact .inl ⟨by simp [h1, Ne.symm hb], rfl⟩
        · rw [h3, if_neg (by rw [beq_iff_eq]; omega)]
          refine .inr ⟨b :: u, v, by rw [h1]; rfl, by simp [h2, Ne.symm hb], by rw [List.length_cons]; omega⟩
  unfold cut1
  rcases hi l with ⟨h1, h2⟩ | ⟨u, v, h1, h2, h3⟩
  · exact .inl ⟨h1, by rw [h2, if_neg (by decide)]⟩
  · refine .inr ⟨u, v, h1, h2, ?_⟩
    rw [h3, if_pos (by omega), Int.toNat_natCast, h1]
    simp
theorem dgs_rd {t : List UInt8} {p : Int} : dgs t 1 p = false ↔ rdC t p = true := by
  unfold rdC
  rw [decide_eq_true_eq, ← Bool.not_eq_true, dgs_iff]
  constructor
  · intro h
    by_cases h1 : dcnt t = t.length
    · by_cases h0 : dcnt t = 0
      · exact .inl h0
      · refine .inr (.inr ?_)
        have h2 := dcnt_take t
        rw [h1, List.take_length] at h2
        refine Int.not_le.1 fun h3 => h ⟨by omega, by omega, h2⟩
    · exact .inr (.inl h1)
  · rintro h ⟨h1, h2, h3⟩
    have := dcnt_all h3
    rcases h with h | h | h
    · omega
    · exact h this
    · omega
def prsO (r : Int × Int × Bool) : Int × Int × Int := if r.2.2 = true then (r.1, r.2.1, 0) else (0, 0, 32)
theorem prsO_no : prsO (0, 0, false) = (0, 0, 32) := rfl
theorem prsB_rd {a b : List UInt8} {neg : Bool} (hb : b.all isD = true) : prsB a b neg = prsO (rdF (a ++ b) b.length neg) := by
  have e : numL (a ++ b) = numL a * 10 ^ b.length + numL b := by
    unfold numL
    rw [numF_append, numF_acc]
  unfold prsB rdF prsO
  dsimp only
  rw [e]
  split
  · rfl
  · rfl
theorem cut_rd {s : List UInt8} {p : Int} {neg : Bool} : (if dgs (cut1 s 46).1 1 15 = false ∨ (1 < (cut1 s 46).1.length ∧ (cut1 s 46).1.head? = some 48) ∨ ((cut1 s 46).2.2 = true ∧ dgs (cut1 s 46).2.1 1 p = false) then ((0 : Int), (0 : Int), (32 : Int)) else prsB (cut1 s 46).1 (cut1 s 46).2.1 neg) = prsO (rdG s p neg) := by
  have hfst : ∀ u : List UInt8, u.all isD = true → (dgs u 1 15 = false ↔ (u.length = 0 ∨ 15 < u.length)) := fun u hu => by
    rw [← Bool.not_eq_true, dgs_iff]
    constructor
    · intro h
      refine Classical.byContradiction fun h2 => h ⟨by omega, by omega, hu⟩
    · rintro h ⟨h1, h2, -⟩
      omega
  rcases cut1_spec s 46 with ⟨hn, hc⟩ | ⟨u, v, rfl, hn, hc⟩
  · rw [hc]
    dsimp only
    by_cases ha : s.all isD = true
    · have hd := dcnt_all ha
      unfold rdG
      have hcond : (dgs s 1 15 = false ∨ (1 < s.length ∧ s.head? = some 48) ∨ (false = true ∧ dgs [] 1 p = false)) ↔ rdB s = true := by
        rw [rdB_iff, hd, hfst s ha]
        constructor
        · rintro ((h | h) | h | ⟨h, -⟩)
          · exact .inl h
          · exact .inr (.inl h)
          · exact .inr (.inr h)
          · exact absurd h (by decide)
        · rintro (h | h | h)
          · exact .inl (.inl h)
          · exact .inl (.inr h)
          · exact .inr (.inl h)
      by_cases hB : rdB s = true
      · rw [if_pos (hcond.2 hB), if_pos hB, prsO_no]
      · rw [if_neg (fun h => hB (hcond.1 h)), if_neg hB, hd, List.drop_length]
        dsimp only
        rw [if_pos rfl, List.take_length, prsB_rd (by rfl), List.append_nil]
        rfl
    · have hL : dgs s 1 15 = false := by
        rw [← Bool.not_eq_true, dgs_iff]
        exact fun h => ha h.2.2
      rw [if_pos (.inl hL)]
      unfold rdG
      by_cases hB : rdB s = true
      · rw [if_pos hB, prsO_no]
      · rw [if_neg hB]
        dsimp only
        have hr : s.drop (dcnt s) ≠ [] := by
          intro h
          rw [List.drop_eq_nil_iff] at h
          have h2 := dcnt_take s
          rw [List.take_of_length_le h] at h2
          exact ha h2
        have hne : (s.drop (dcnt s)).head? ≠ some 46 := fun h => hn (List.mem_of_mem_drop (List.mem_of_mem_head? h))
        rw [if_neg hr, if_pos (.inl hne)]
        rfl
  · rw [hc]
    dsimp only
    by_cases ha : u.all isD = true
    · have hd : dcnt (u ++ 46 :: v) = u.length := by
        refine dcnt_at (i := u.length) (by simp) (by rw [List.take_left' rfl]; exact ha) ?_
        rw [List.getElem_append_right (Nat.le_refl _)]
        simp [isD_dot]
      have hh : u.length ≠ 0 → (u ++ 46 :: v).head? = u.head? := by
        intro h
        cases u with
        | nil => exact absurd rfl h
        | cons c t => rfl
      unfold rdG
      rw [hd, List.drop_left' rfl, List.take_left' rfl]
      · dsimp only
        rw [if_neg (List.cons_ne_nil _ _), List.head?_cons, List.tail_cons]
        by_cases hB : rdB (u ++ 46 :: v) = true
        · rw [if_pos hB, prsO_no]
          rw [rdB_iff, hd] at hB
          refine if_pos ?_
          rcases hB with h | h | h
          · exact .inl ((hfst u ha).2 (.inl h))
          · exact .inl ((hfst u ha).2 (.inr h))
          · exact .inr (.inl ⟨h.1, by rw [← hh (by omega)]; exact h.2⟩)
        · rw [if_neg hB]
          rw [rdB_iff, hd] at hB
          have h1 : ¬ dgs u 1 15 = false := by
            rw [hfst u ha]
            rintro (h | h)
            · exact hB (.inl h)
            · exact hB (.inr (.inl h))
          have h2 : ¬ (1 < u.length ∧ u.head? = some 48) := fun h => hB (.inr (.inr ⟨h.1, by rw [hh (by omega)]; exact h.2⟩))
          cases hC : rdC v p
          · have h3 : ¬ dgs v 1 p = false := by rw [dgs_rd, hC]; decide
            have hv := (dgs_iff.1 (Bool.not_eq_false _ |>.mp h3)).2.2
            rw [if_neg (by rintro (h | h | h); exact h1 h; exact h2 h; exact h3 h.2), if_neg (by rintro (h | h); exact h rfl; exact absurd h (by decide)), prsB_rd hv]
          · rw [if_pos (.inr (.inr ⟨rfl, dgs_rd.2 hC⟩)), if_pos (.inr rfl), prsO_no]
    · have hL : dgs u 1 15 = false := by
        rw [← Bool.not_eq_true, dgs_iff]
        exact fun h => ha h.2.2
      rw [if_pos (.inl hL)]
      unfold rdG
      by_cases hB : rdB (u ++ 46 :: v) = true
      · rw [if_pos hB, prsO_no]
      · rw [if_neg hB]
        dsimp only
        have hlt : dcnt (u ++ 46 :: v) < u.length := by
          refine Nat.lt_of_not_le fun h => ha ?_
          have h2 := dcnt_take (u ++ 46 :: v)
          refine List.all_eq_true.2 fun x hx => List.all_eq_true.1 h2 x ?_
          rw [List.take_append]
          refine List.mem_append.2 (.inl ?_)
          rw [List.take_of_length_le h]
          exact hx
        have hr : (u ++ 46 :: v).drop (dcnt (u ++ 46 :: v)) = u.drop (dcnt (u ++ 46 :: v)) ++ 46 :: v := by
          rw [List.drop_append_of_le_length (Nat.le_of_lt hlt)]
        rw [hr]
        rw [if_neg (by simp)]
        obtain ⟨c, t, hct⟩ : ∃ c t, u.drop (dcnt (u ++ 46 :: v)) = c :: t := by
          cases h : u.drop (dcnt (u ++ 46 :: v)) with
          | nil => rw [List.drop_eq_nil_iff] at h; omega
          | cons c t => exact ⟨c, t, rfl⟩
        rw [hct]
        have hne : (c :: t ++ 46 :: v).head? ≠ some 46 := by
          intro h
          have hc : c = 46 := by rwa [List.cons_append, List.head?_cons, Option.some.injEq] at h
          refine hn ?_
          have : c ∈ u := List.mem_of_mem_drop (i := dcnt (u ++ 46 :: v)) (by rw [hct]; simp)
          rwa [hc] at this
        rw [if_pos (.inl hne)]
        rfl
theorem prefix_head {s : List UInt8} {c : UInt8} : Lib.hasPrefix s [c] = true ↔ s.head? = some c := by
  unfold Lib.hasPrefix
  cases s with
  | nil => simp [List.isPrefixOf]
  | cons b t =>
    rw [List.head?_cons, Option.some.injEq]
    simp only [List.isPrefixOf, Bool.and_true, beq_iff_eq]
    exact eq_comm
theorem prs_rd {s : List UInt8} {p : Int} (h0 : 0 ≤ p) (h9 : p ≤ 9) : prsR s p = prsO (rdR s p true) := by
  unfold prsR rdR
  rw [if_neg (by omega)]
  dsimp only
  cases hp : Lib.hasPrefix s [45]
  · have ht : Lib.trimPrefix s [45] = s := by unfold Lib.trimPrefix; rw [hp, if_neg (by decide)]
    rw [ht, if_neg (c := true = true ∧ s.head? = some 45) (by rintro ⟨-, h⟩; rw [prefix_head.2 h] at hp; exact absurd hp (by decide))]
    exact cut_rd
  · have ht : Lib.trimPrefix s [45] = s.tail := by unfold Lib.trimPrefix; rw [hp, if_pos rfl]; cases s <;> rfl
    rw [ht, if_pos (c := true = true ∧ s.head? = some 45) ⟨rfl, prefix_head.1 hp⟩]
    exact cut_rd
end
end Go.Proofs.YtpaodheilchfnaaGreatDoor
