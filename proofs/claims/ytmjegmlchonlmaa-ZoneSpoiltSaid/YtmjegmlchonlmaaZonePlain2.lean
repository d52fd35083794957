/-
  The plain law of zones, continued: what the first instant of a local time is; it is monotone; a zone without changes only shifts times.
-/
import Derived.Test.YtmjegmlchonlmaaZonePlain
namespace Go.Proofs.Ytmjegmlchonlmaa
open Go.RowKit

theorem instFrom_ge {f o l x : Int} {cs : List (Int × Int)} (hs : ∀ a p r, cs = (a, p) :: r → f ≤ a) (hc : chkFrom (f - 1) cs = true ∨ chkFrom f cs = true) (h : instFrom f o cs l = some x) : f ≤ x := by
  induction cs generalizing f o with
  | nil => rw [instFrom_nil] at h; split at h <;> simp at h; omega
  | cons c r ih =>
    obtain ⟨a, p⟩ := c
    rw [instFrom_cons] at h
    split at h
    · simp at h; omega
    · have h1 : f ≤ a := hs a p r rfl
      have h2 : chkFrom a r = true := by
        rcases hc with hc | hc <;> (rw [chkFrom_cons] at hc; split at hc <;> simp_all)
      have h3 : ∀ b q r', r = (b, q) :: r' → a ≤ b := by
        intro b q r' hr
        subst hr
        rw [chkFrom_cons] at h2
        split at h2
        · cases h2
        · omega
      have := ih (f := a) (o := p) h3 (.inr h2) h
      omega
theorem chk_tail {last a p : Int} {r : List (Int × Int)} (h : chkFrom last ((a, p) :: r) = true) : last < a ∧ a ≤ 105190559 ∧ offB p = true ∧ chkFrom a r = true := by
  rw [chkFrom_cons] at h
  split at h
  · cases h
  · rename_i hn
    have h2 : offB p = true := by cases ho : offB p <;> simp_all
    exact ⟨by omega, by omega, h2, h⟩
theorem chk_head {last : Int} {cs : List (Int × Int)} (h : chkFrom last cs = true) : ∀ b q r', cs = (b, q) :: r' → last + 1 ≤ b := by
  intro b q r' hr
  subst hr
  have := (chk_tail h).1
  omega
theorem instFrom_some {last f o l : Int} {cs : List (Int × Int)} (hc : chkFrom last cs = true) (hf : f ≤ 105190559) (ho : -900 ≤ o) (hl : l ≤ 105189000) : ∃ x, instFrom f o cs l = some x := by
  induction cs generalizing last f o with
  | nil => exact ⟨max f (l - o), by rw [instFrom_nil, if_pos (by omega)]⟩
  | cons c r ih =>
    obtain ⟨a, p⟩ := c
    obtain ⟨h1, h2, h3, h4⟩ := chk_tail hc
    rw [instFrom_cons]
    split
    · exact ⟨_, rfl⟩
    · exact ih h4 h2 (by unfold offB at h3; simp at h3; omega)
theorem instFrom_mono {last f o l l' x y : Int} {cs : List (Int × Int)} (hc : chkFrom last cs = true) (hlf : last ≤ f) (hl : l ≤ l') (h : instFrom f o cs l = some x) (h' : instFrom f o cs l' = some y) : x ≤ y := by
  induction cs generalizing last f o with
  | nil =>
    rw [instFrom_nil] at h h'
    split at h <;> split at h' <;> simp at h h'
    omega
  | cons c r ih =>
    obtain ⟨a, p⟩ := c
    obtain ⟨h1, h2, h3, h4⟩ := chk_tail hc
    rw [instFrom_cons] at h h'
    split at h
    · split at h'
      · simp at h h'; omega
      · simp at h
        have := instFrom_ge (f := a) (fun b q r' hr => by have := chk_head h4 b q r' hr; omega) (.inr h4) h'
        omega
    · split at h'
      · omega
      · exact ih h4 (Int.le_refl _) h h'
/-- The first instant from f on whose local number is not less than l. -/
theorem instFrom_spec {f o l x : Int} {cs : List (Int × Int)} (hs : ∀ b q r', cs = (b, q) :: r' → f ≤ b) (hc : chkFrom (f - 1) cs = true ∨ chkFrom f cs = true) (h : instFrom f o cs l = some x) :
    f ≤ x ∧ x ≤ 105190559 ∧ l ≤ x + offAt o cs x ∧ ∀ t, f ≤ t → t < x → t + offAt o cs t < l := by
  induction cs generalizing f o with
  | nil =>
    rw [instFrom_nil] at h
    split at h
    · simp at h
      subst h
      refine ⟨by omega, by omega, by simp only [offAt]; omega, fun t h1 h2 => by simp only [offAt]; omega⟩
    · simp at h
  | cons c r ih =>
    obtain ⟨a, p⟩ := c
    have hfa := hs a p r rfl
    have h4 : a ≤ 105190559 ∧ chkFrom a r = true := by
      rcases hc with hc | hc
      · exact ⟨(chk_tail hc).2.1, (chk_tail hc).2.2.2⟩
      · exact ⟨(chk_tail hc).2.1, (chk_tail hc).2.2.2⟩
    rw [instFrom_cons] at h
    split at h
    · simp at h
      subst h
      refine ⟨by omega, by omega, ?_, fun t h1 h2 => ?_⟩
      · rw [offAt_cons, if_neg (by omega)]; omega
      · rw [offAt_cons, if_neg (by omega)]; omega
    · obtain ⟨g1, g2, g3, g4⟩ := ih (f := a) (o := p) (fun b q r' hr => by have := chk_head h4.2 b q r' hr; omega) (.inr h4.2) h
      refine ⟨by omega, g2, ?_, fun t h1 h2 => ?_⟩
      · rw [offAt_cons, if_pos (by omega)]; exact g3
      · by_cases hta : a ≤ t
        · rw [offAt_cons, if_pos hta]; exact g4 t hta h2
        · rw [offAt_cons, if_neg hta]; omega

theorem ZN.chk {z : ZN} (h : z.ok = true) : chkFrom (-1) z.cs = true := by
  unfold ZN.ok at h
  simp at h
  exact h.2
/-- At a local time well within the days there is an instant. -/
theorem ZN.inst_at {z : ZN} (h : z.ok = true) {l : Int} (h0 : 0 ≤ l) (h1 : l ≤ 105189000) : ∃ x, instFrom 0 z.off z.cs l = some x ∧ z.instV (l / 1440) (l % 1440) = x ∧ z.instE (l / 1440) (l % 1440) = 0 := by
  obtain ⟨x, hx⟩ := instFrom_some (f := 0) (o := z.off) (l := l) (ZN.chk h) (by omega) (ZN.off_of_ok h).1 h1
  have e : 1440 * (l / 1440) + l % 1440 = l := by omega
  have := ZN.inst_some h (d := l / 1440) (m := l % 1440) (x := x) ((dayB_iff _).2 (by omega)) ((minB_iff _).2 (by omega)) (by rw [e]; exact hx)
  exact ⟨x, hx, this.1, this.2⟩
theorem ZN.inst_mono {z : ZN} (h : z.ok = true) {l l' x y : Int} (hl : l ≤ l') (hx : instFrom 0 z.off z.cs l = some x) (hy : instFrom 0 z.off z.cs l' = some y) : x ≤ y :=
  instFrom_mono (ZN.chk h) (by omega) hl hx hy
theorem ZN.inst_spec {z : ZN} (h : z.ok = true) {l x : Int} (hx : instFrom 0 z.off z.cs l = some x) :
    0 ≤ x ∧ x ≤ 105190559 ∧ l ≤ z.locN x ∧ ∀ t, 0 ≤ t → t < x → z.locN t < l :=
  instFrom_spec (f := 0) (fun b q r' hr => by have := chk_head (ZN.chk h) b q r' hr; omega) (.inl (ZN.chk h)) hx
end Go.Proofs.Ytmjegmlchonlmaa
