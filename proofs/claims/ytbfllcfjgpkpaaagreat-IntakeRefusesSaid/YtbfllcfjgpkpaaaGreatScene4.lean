/-
  The scenes: suspensions.
-/
import Derived.Test.YtbfllcfjgpkpaaaGreatScene
import Derived.Test.YtbfllcfjgpkpaaaGreatSusAct
import Derived.Deep.DeepCutAuto
import Derived.Deep.CutBlock
import Derived.Deep.RegionWith
namespace Go.Proofs.YtbfllcfjgpkpaaaGreat
open Go.RowKit
set_option linter.unusedVariables false
set_option maxHeartbeats 4000000
def gammaB : ByteArray := ⟨#[103, 97, 109, 109, 97]⟩
/-- A suspension as the generator makes it. -/
structure MdS (x : SU) : Prop where
  ok : x.ok = true
  til : 0 ≤ x.til ∧ x.til ≤ 60
  fund : x.fund ≠ gammaB
  small : x.small
structure MadeS (L : List SU) (kn : Int) : Prop where
  asc : susFrom 0 L = true
  k0 : 0 ≤ kn
  known : ∀ x ∈ L, x.known ≤ kn
  each : ∀ x ∈ L, MdS x
theorem sus_snoc {x : SU} (hx : x.ok = true) : ∀ (L : List SU) (last : Int), susFrom last L = true → last < x.known → (∀ y ∈ L, y.known < x.known) → susFrom last (L ++ [x]) = true
  | [], last, _, h1, _ => by simp [susFrom, hx, h1]
  | y :: r, last, h, h1, h2 => by
    simp only [susFrom, Bool.and_eq_true] at h
    simp only [List.cons_append, susFrom, Bool.and_eq_true]
    exact ⟨h.1, sus_snoc hx r _ h.2 (h2 y (by simp)) (fun z hz => h2 z (by simp [hz]))⟩
theorem MadeS.nil : MadeS [] 0 := ⟨rfl, Int.le_refl _, by simp, by simp⟩
theorem MadeS.push {L : List SU} {kn : Int} {x : SU} (h : MadeS L kn) (hx : MdS x) (hk : kn < x.known) : MadeS (L ++ [x]) x.known := by
  refine ⟨sus_snoc hx.ok L 0 h.asc (by have := h.k0; omega) (fun y hy => by have := h.known y hy; omega), by have := h.k0; omega, fun y hy => ?_, fun y hy => ?_⟩
  · rcases List.mem_append.1 hy with hy | hy
    · have := h.known y hy; omega
    · simp at hy
      subst hy
      exact Int.le_refl _
  · rcases List.mem_append.1 hy with hy | hy
    · exact h.each y hy
    · simp at hy
      subst hy
      exact hx
theorem MadeS.susB {L : List SU} {kn : Int} (h : MadeS L kn) (hl : L.length ≤ 6) : susB L = true := by
  simp only [Go.Proofs.YtbfllcfjgpkpaaaGreat.susB, Bool.and_eq_true, decide_eq_true_eq]
  exact ⟨by omega, h.asc⟩
theorem small_nm {s : ByteArray} (h : nmB s = true) : s.size ≤ maxLen := by
  have := nmB_size h
  unfold maxLen
  omega
theorem mds_void {key : ByteArray} {k : Int} (h : nmB key = true) (h1 : 1 ≤ k) (h2 : k ≤ 1000) : MdS ⟨key, ⟨#[]⟩, 0, 0, k, true⟩ :=
  ⟨by simp [SU.ok, h, knB]; omega, by simp, (show (⟨#[]⟩ : ByteArray) ≠ gammaB by decide), small_nm h, (show (⟨#[]⟩ : ByteArray).size ≤ maxLen by decide)⟩
theorem mds_span {key fund : ByteArray} {f u k : Int} (h : nmB key = true) (hf : fund = ⟨#[97, 108, 112, 104, 97]⟩ ∨ fund = ⟨#[98, 101, 116, 97]⟩) (h1 : 1 ≤ k) (h2 : k ≤ 1000) (f0 : 0 ≤ f) (f1 : f ≤ 39) (hu : u = 0 ∨ (f ≤ u ∧ 1 ≤ u ∧ u ≤ 60)) : MdS ⟨key, fund, f, u, k, false⟩ := by
  have hn : nmB fund = true := by rcases hf with rfl | rfl <;> decide
  refine ⟨?_, by show 0 ≤ u ∧ u ≤ 60; omega, by rcases hf with rfl | rfl; exact (show (⟨#[97, 108, 112, 104, 97]⟩ : ByteArray) ≠ gammaB by decide); exact (show (⟨#[98, 101, 116, 97]⟩ : ByteArray) ≠ gammaB by decide), small_nm h, small_nm hn⟩
  have hs : spanB ⟨key, fund, f, u, k, false⟩ = true := by simp [spanB]; omega
  simp only [SU.ok, h, hn, hs, Bool.true_and]
  simp [knB]
  omega
/-- Suspensions have been made. -/
def SSusP (B b : Nat) (w : World) (e : Ending) (w' : World) : Prop :=
  ∃ (L : List SU) (A : Option Addr) (c : Nat) (kn : Int), e = .returned (.slice A L.length c) ∧ L.length ≤ 6 ∧ kn ≤ 18 ∧ MadeS L kn ∧ SuAt w' A L ∧ (∀ ad, A = some ad → w.heap.size ≤ ad.block) ∧ TapS w' B b ∧ Only b w w'
theorem own_recs {W : World} {B : Nat} {e : TypeId} {sz : Nat} {v : Value} {n : Nat} {L : List (List Value)} (h : W.ownsRow B e sz v n L.flatten) (hL : ∀ x ∈ L, x.length = sz) (hs : 0 < sz) (hl : L.length ≤ 9223372036854775807) :
    n = L.length ∧ ∃ A cap, v = .slice A n cap ∧ RecsAt W A sz L ∧ ∀ ad, A = some ad → B ≤ ad.block ∧ ad.block < W.heap.size := by
  have hf := flat_len L hL
  have hx := h.1
  have hn : n = L.length := Nat.eq_of_mul_eq_mul_right hs (by omega)
  refine ⟨hn, ?_⟩
  rcases h.2 with ⟨rfl, h0⟩ | ⟨g, cap, cur, rfl, hgb, hh, hle, _, hsz, ht⟩
  · have hL0 : L = [] := List.length_eq_zero_iff.1 (by omega)
    subst hL0
    exact ⟨none, 0, by rw [h0], RecsAt.nil _ _ _, fun ad e => by cases e⟩
  · have hg := (Array.getElem?_eq_some_iff.1 hh).1
    refine ⟨some ⟨g, 0, none⟩, cap, rfl, ⟨hl, fun k r hr => ⟨g, 0, rfl, hg, fun j u hu => ?_⟩⟩, fun ad e => by cases e; exact ⟨hgb, hg⟩⟩
    have := h.cells (g := g) rfl (k * sz + j) u (flat_get L k r hL hr j u hu)
    rw [Go.WideShapes.add_plain] at this
    rw [Nat.zero_add]
    simpa using this
section
variable {w W W' : World} {B b : Nat} {v : Value} {L : List SU}
end
/-- The names of the funds, in a list. -/
theorem funds_at (W : World) {k : Nat} (hk : (k : Int) < 3) : ∃ fd : ByteArray, (fd = ⟨#[97, 108, 112, 104, 97]⟩ ∨ fd = ⟨#[98, 101, 116, 97]⟩) ∧ (W.alloc (.cells #[.string ⟨#[97, 108, 112, 104, 97]⟩, .string ⟨#[97, 108, 112, 104, 97]⟩, .string ⟨#[98, 101, 116, 97]⟩] 9)).cell? ⟨W.heap.size, k, none⟩ = some (.string fd) := by
  have h3 : k = 0 ∨ k = 1 ∨ k = 2 := by omega
  rcases h3 with rfl | rfl | rfl
  · exact ⟨_, .inl rfl, World.cell?_alloc_new ..⟩
  · exact ⟨_, .inl rfl, World.cell?_alloc_new ..⟩
  · exact ⟨_, .inr rfl, World.cell?_alloc_new ..⟩
section
variable {w W W' : World} {B b G : Nat} {v : Value} {L : List SU} {x x' : SU}
end
end Go.Proofs.YtbfllcfjgpkpaaaGreat
