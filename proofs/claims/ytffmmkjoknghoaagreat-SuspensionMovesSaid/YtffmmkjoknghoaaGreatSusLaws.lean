/-
  The laws of suspensions over a tape.
-/
import Derived.Test.YtffmmkjoknghoaaGreatScene3
import Derived.Test.YtffmmkjoknghoaaGreatScene4
import Derived.Test.YtffmmkjoknghoaaGreatSusPlain2
import Derived.Test.YtffmmkjoknghoaaGreatSusAwake
import Derived.Test.YtffmmkjoknghoaaGreatSchedPlays
namespace Go.Proofs.YtffmmkjoknghoaaGreat
open Go.RowKit
set_option linter.unusedVariables false
set_option maxHeartbeats 8000000
/-- A schedule, a place and suspensions, as a law holds them. -/
structure LS (w W : World) (gs gp : Nat) (s : SC) (z : ZN) (A : Option Addr) (kz : Nat) (c : CN) (Ac : Option Addr) (kc : Nat) (l : List SU) (Al : Option Addr) : Prop where
  sb : BlkAt W gs (sV s) 26
  pb : BlkAt W gp (pV z A kz c Ac kc) 35
  za : ZAt W z A
  ca : CAt W c Ac
  su : SuAt W Al l
  below : Below w.heap.size w W
section
variable {w W W' : World} {gs gp : Nat} {s : SC} {z : ZN} {A : Option Addr} {kz : Nat} {c : CN} {Ac : Option Addr} {kc : Nat} {l : List SU} {Al : Option Addr}
theorem LS.next (h : LS w W gs gp s z A kz c Ac kc l Al) (hb : Below W.heap.size W W') : LS w W' gs gp s z A kz c Ac kc l Al := ⟨h.sb.next hb, h.pb.next hb, h.za.below hb, h.ca.below hb, h.su.below hb, bnext h.below hb⟩
theorem LS.new (s : SC) (k kc : Nat) {o1 o2 : Array Value} (hz : ZAt W z A) (hc : CAt W c Ac) (hs : SuAt W Al l) (hb : Below w.heap.size w W) :
    LS w ((((W.alloc (.cells o1 26)).alloc (.cells o2 35)).setRow W.heap.size (sV s)).setRow (W.heap.size + 1) (pV z A k c Ac kc)) W.heap.size (W.heap.size + 1) s z A k c Ac kc l Al := by
  have hB : Below W.heap.size W ((((W.alloc (.cells o1 26)).alloc (.cells o2 35)).setRow W.heap.size (sV s)).setRow (W.heap.size + 1) (pV z A k c Ac kc)) :=
    Below.setRow (Below.setRow (bal (bal0 W _) _) (Nat.le_refl _) _) (by omega) _
  have b1 : BlkAt ((W.alloc (.cells o1 26)).alloc (.cells o2 35)) W.heap.size o1 26 := (BlkAt.new _ _ _).al _
  have b2 : BlkAt ((W.alloc (.cells o1 26)).alloc (.cells o2 35)) (W.heap.size + 1) o2 35 := BlkAt.newAt _ _ _ (by simp)
  exact ⟨(b1.set _).setFar _ (by omega), (b2.setFar _ (by omega)).set _, hz.below hB, hc.below hB, hs.below hB, bnext hb hB⟩
end
theorem alpha_nm : nmB alpha = true := by decide
theorem alpha_sz : alpha.size ≤ maxLen := by decide
theorem gamma_nm : nmB gammaB = true := by decide
theorem gamma_sz : gammaB.size ≤ maxLen := by decide
/-- What Move says of what has been made. -/
theorem made_mov {L : List SU} {kn : Int} (hM : MadeS L kn) (hl : L.length ≤ 6) {s : SC} {z : ZN} {c : CN} (hs : s.ok = true) (hz : z.ok = true) (hc : c.ok = true) (ha : c.all = false) (hh : c.hs.length ≤ 20) {nx : Int → Int × Int} (hnx : NxR s z c nx) {k d : Int} (hk0 : 1 ≤ k) (hk1 : k ≤ 1000) (hd0 : 0 ≤ d) (hd1 : d ≤ 69) {fund : ByteArray} (hf : nmB fund = true) :
    (nx d).2 = 0 ∧ ∃ v e, mov nx (visS L k fund) d = (v, e) ∧ MovR L k fund s z c nx d v e ∧ PassR (visS L k fund) (dealB s c) d v e := by
  have hsus := hM.susB hl
  have he := aErr_ok hs hz hc
  have hp : ∀ x : Int, 0 ≤ x → x ≤ 1001 → (nx x).2 = 0 ∧ fromP (dealB s c) x = some (nx x).1 := fun x x0 x1 => by
    obtain ⟨y, y1, y2⟩ := deal_ex hs ha hh (d := x) x0 (by omega)
    have := next_det (hnx x) he ((dayB_iff x).2 (by omega)) y1
    exact ⟨this.2, by rw [this.1]; exact y1⟩
  have ht : ∀ x ∈ visS L k fund, 0 ≤ x.til ∧ x.til ≤ 60 := fun x hx => (hM.each x (pickS_mem _ hx).1).til
  have hpass := mov_pass (l := visS L k fund) (p := dealB s c) (fun x hx => (ht x hx).1) (fun x hx => by have := ht x hx; omega) (fun d h => hnx.le d h) (fun d h => hnx.hi d h) hp (1001 - d).toNat d hd0 (by omega) (Nat.le_refl _)
  have hkn : knB k = true := (knB_iff k).2 (by omega)
  refine ⟨(hp d hd0 (by omega)).1, _, _, rfl, .inr (.inr (.inr (.inr ⟨.inr (.inr (.inr (.inr ⟨hsus, hkn, hf, (dayB_iff d).2 (by omega), rfl⟩))), hz, hc, hs, rfl⟩))), hpass⟩
theorem act_made {L : List SU} {kn : Int} (hM : MadeS L kn) (hl : L.length ≤ 6) {k d : Int} (hk0 : 1 ≤ k) (hk1 : k ≤ 1000) (hd0 : 0 ≤ d) (hd1 : d ≤ 73048) {fund : ByteArray} (hf : nmB fund = true) :
    ActR L k fund d (actB (visS L k fund) d) 0 :=
  .inr (.inr (.inr (.inr ⟨hM.susB hl, (knB_iff k).2 (by omega), hf, (dayB_iff d).2 (by omega), rfl, rfl⟩)))
theorem modI_lt (x n : Int) (h : 1 ≤ n) : ∃ k : Int, modI x n = k ∧ 0 ≤ k ∧ k < n := ⟨_, rfl, (modI_bd x n).1, by have := (modI_bd x n).2; omega⟩
end Go.Proofs.YtffmmkjoknghoaaGreat
