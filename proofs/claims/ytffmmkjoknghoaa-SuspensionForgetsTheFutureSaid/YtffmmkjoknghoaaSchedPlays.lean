/-
  The laws of schedules over a tape: SchedulePlays, ScheduleSpoilt.
-/
import Derived.Test.YtffmmkjoknghoaaSchedLaws
import Derived.Test.YtffmmkjoknghoaaMakeSched
import Derived.Test.YtffmmkjoknghoaaRow
import Derived.Test.YtffmmkjoknghoaaSchedPlain3
import Derived.Deep.CutBlock
import Derived.Deep.RegionHeld3
import Derived.Deep.DrawnRows
import Derived.Deep.DeepCutAuto
namespace Go.Proofs.Ytffmmkjoknghoaa
open Go.RowKit
set_option linter.unusedVariables false
set_option maxHeartbeats 8000000
/-- What a law over a tape, a schedule and a place carries: the tape with N draws left, the schedule and the place in their boxes, old memory. -/
structure SPl (w W : World) (N S P : Nat) (s : SC) (z : ZN) (A : Option Addr) (k : Nat) (c : CN) (Ac : Option Addr) (kc : Nat) : Prop where
  tape : TapeAt W w.heap.size w.heap.size N
  sb : BlkAt W S (sV s) 38
  pb : BlkAt W P (pV z A k c Ac kc) 33
  za : ZAt W z A
  ca : CAt W c Ac
  fz : ∀ ad, A = some ad → ad.block ≠ w.heap.size
  fc : ∀ ad, Ac = some ad → ad.block ≠ w.heap.size
  hS : S ≠ w.heap.size
  hP : P ≠ w.heap.size
  below : Below w.heap.size w W
theorem CAt.only {b : Nat} {W W' : World} {c : CN} {A : Option Addr} (h : CAt W c A) (hA : ∀ ad, A = some ad → ad.block ≠ b) (ho : Only b W W') : CAt W' c A :=
  ⟨h.nm, h.ints.1, fun k x hx => by
    obtain ⟨g, o, rfl, hlt, e1⟩ := h.ints.2 k x hx
    exact ⟨g, o, rfl, Nat.lt_of_lt_of_le hlt ho.size, only_cell ho hlt (hA _ rfl) e1⟩⟩
theorem lawOnly2 {w W W' : World} (h : Below w.heap.size w W) (ho : Only w.heap.size W W') : Below w.heap.size w W' := h.trans (only_to_below ho (Nat.le_refl _) h.size)
section
variable {w W W' : World} {N N' S P : Nat} {s : SC} {z : ZN} {A : Option Addr} {k : Nat} {c : CN} {Ac : Option Addr} {kc : Nat}
theorem SPl.only (h : SPl w W N S P s z A k c Ac kc) (ht : TapeAt W' w.heap.size w.heap.size N') (ho : Only w.heap.size W W') : SPl w W' N' S P s z A k c Ac kc :=
  ⟨ht, h.sb.only ho h.hS, h.pb.only ho h.hP, h.za.only h.fz ho, h.ca.only h.fc ho, h.fz, h.fc, h.hS, h.hP, lawOnly2 h.below ho⟩
theorem SPl.next (h : SPl w W N S P s z A k c Ac kc) (hb : Below W.heap.size W W') : SPl w W' N S P s z A k c Ac kc :=
  ⟨h.tape.below hb, h.sb.next hb, h.pb.next hb, h.za.below hb, h.ca.below hb, h.fz, h.fc, h.hS, h.hP, bnext h.below hb⟩
theorem SPl.less (h : SPl w W N S P s z A k c Ac kc) (hn : N' ≤ N) : SPl w W N' S P s z A k c Ac kc :=
  ⟨h.tape.less hn, h.sb, h.pb, h.za, h.ca, h.fz, h.fc, h.hS, h.hP, h.below⟩
theorem SPl.new (s : SC) (k kc : Nat) {o1 o2 : Array Value} (ht : TapeAt W w.heap.size w.heap.size N) (hz : ZAt W z A) (hc : CAt W c Ac) (fz : ∀ ad, A = some ad → ad.block ≠ w.heap.size) (fc : ∀ ad, Ac = some ad → ad.block ≠ w.heap.size) (hb : Below w.heap.size w W) :
    SPl w ((((W.alloc (.cells o1 38)).alloc (.cells o2 33)).setRow W.heap.size (sV s)).setRow (W.heap.size + 1) (pV z A k c Ac kc)) N W.heap.size (W.heap.size + 1) s z A k c Ac kc := by
  have hl := ht.lt
  have hB : Below W.heap.size W ((((W.alloc (.cells o1 38)).alloc (.cells o2 33)).setRow W.heap.size (sV s)).setRow (W.heap.size + 1) (pV z A k c Ac kc)) :=
    Below.setRow (Below.setRow (bal (bal0 W _) _) (Nat.le_refl _) _) (by omega) _
  have b1 : BlkAt ((W.alloc (.cells o1 38)).alloc (.cells o2 33)) W.heap.size o1 38 := (BlkAt.new _ _ _).al _
  have b2 : BlkAt ((W.alloc (.cells o1 38)).alloc (.cells o2 33)) (W.heap.size + 1) o2 33 := BlkAt.newAt _ _ _ (by simp)
  exact ⟨ht.below hB, (b1.set _).setFar _ (by omega), (b2.setFar _ (by omega)).set _, hz.below hB, hc.below hB, fz, fc, by omega, by omega, bnext hb hB⟩
end
/-- A day near another one. -/
def NearP (lo hi : Int) (B b N : Nat) (w : World) (e : Ending) (w' : World) : Prop :=
  ∃ v : Int, lo ≤ v ∧ v ≤ hi ∧ 0 ≤ v ∧ v ≤ 73048 ∧ e = .returned (.int .i64 v) ∧ TapeAt w' B b N ∧ Only b w w'
theorem near2_any (day far : Int) (B b N : Nat) (w : World) (h : TapeAt w B b (N + 1)) (h1 : 0 ≤ day) (h2 : day ≤ 73048) (h3 : 0 ≤ far) (h4 : far ≤ 1000) :
    Calls Try.prog 11 #[.pointer (some ⟨b, 0, none⟩), .int .i64 day, .int .i64 far] w (NearP (day - far) (day + far) B b N w) := by
  go_enter Try.func11, Try.ntmps11
  go_wp2_with fail
  refine (next_in (n := 2 * far + 1) (N := N) h (by omega) (by omega)).mono ?_
  rintro e w1 ⟨k, hk, rfl, ht, ho⟩
  go_wp2
  all_goals
    go_ret
    exact ⟨_, by omega, by omega, by omega, by omega, rfl, ht, ho⟩
theorem SPl.q {w W : World} {N S P : Nat} {s : SC} {z : ZN} {A : Option Addr} {k : Nat} {c : CN} {Ac : Option Addr} {kc : Nat} (h : SPl w W N S P s z A k c Ac kc) : (W.cell? ⟨S, 0, none⟩ = some (.int .i64 s.period) ∧ W.cell? ⟨S, 1, none⟩ = some (.int .i64 s.nth) ∧ W.cell? ⟨S, 2, none⟩ = some (.int .i64 s.notice) ∧ W.cell? ⟨S, 3, none⟩ = some (.int .i64 s.settle) ∧ W.cell? ⟨S, 4, none⟩ = some (.int .i64 s.cutoff)) ∧ (W.cell? ⟨P, 0, none⟩ = some (.string z.name) ∧ W.cell? ⟨P, 1, none⟩ = some (.int .i64 z.off) ∧ W.cell? ⟨P, 2, none⟩ = some (.slice A z.cs.length k) ∧ W.cell? ⟨P, 3, none⟩ = some (.string c.name) ∧ W.cell? ⟨P, 4, none⟩ = some (.bool c.w0) ∧ W.cell? ⟨P, 5, none⟩ = some (.bool c.w1) ∧ W.cell? ⟨P, 6, none⟩ = some (.bool c.w2) ∧ W.cell? ⟨P, 7, none⟩ = some (.bool c.w3) ∧ W.cell? ⟨P, 8, none⟩ = some (.bool c.w4) ∧ W.cell? ⟨P, 9, none⟩ = some (.bool c.w5) ∧ W.cell? ⟨P, 10, none⟩ = some (.bool c.w6) ∧ W.cell? ⟨P, 11, none⟩ = some (.slice Ac c.hs.length kc)) ∧ SPl w W N S P s z A k c Ac kc :=
  ⟨⟨h.sb.cell rfl, h.sb.cell rfl, h.sb.cell rfl, h.sb.cell rfl, h.sb.cell rfl⟩,
    ⟨h.pb.cell rfl, h.pb.cell rfl, h.pb.cell rfl, h.pb.cell rfl, h.pb.cell rfl, h.pb.cell rfl, h.pb.cell rfl, h.pb.cell rfl, h.pb.cell rfl, h.pb.cell rfl, h.pb.cell rfl, h.pb.cell rfl⟩, h⟩
theorem SPl.drew {w W : World} {N S P : Nat} {s : SC} {z : ZN} {A : Option Addr} {k : Nat} {c : CN} {Ac : Option Addr} {kc : Nat} (h : SPl w W N S P s z A k c Ac kc) : SPl w W.drew N S P s z A k c Ac kc := h.next ((Below.refl _ _).drew)
theorem next_bd {s : SC} {z : ZN} {c : CN} {d v e : Int} (h : NextR s z c d v e) (hd : 0 ≤ d) : e = 0 → 0 ≤ v ∧ v ≤ 73048 := by
  intro he
  rcases h with ⟨-, hn, -⟩ | ⟨-, -, -, hn⟩ | ⟨-, -, ⟨-, -, hn⟩ | ⟨hr, -⟩⟩
  · exact absurd he hn
  · omega
  · omega
  · have := fromP_spec hr
    omega
theorem next_ok {s : SC} {z : ZN} {c : CN} {d v : Int} (h1 : s.ok = true) (h2 : z.ok = true) (h3 : c.ok = true) (hd0 : 0 ≤ d) (hd1 : d ≤ 73048) (h : fromP (dealB s c) d = some v) : NextR s z c d v 0 :=
  .inr (.inr ⟨aErr_ok h1 h2 h3, (dayB_iff d).2 ⟨hd0, hd1⟩, .inr ⟨h, rfl⟩⟩)
theorem dln_ok {s : SC} {z : ZN} {c : CN} {d v : Int} (h1 : s.ok = true) (h2 : z.ok = true) (h3 : c.ok = true) (hd0 : 0 ≤ d) (hd1 : d ≤ 73048) (hv : dealB s c d = true) (h : dlO s z c d = some v) : DlnR s z c d v 0 := by
  refine .inr ⟨.inr (.inr (.inr ⟨aErr_ok h1 h2 h3, (dayB_iff d).2 ⟨hd0, hd1⟩, hv, rfl⟩)), ?_⟩
  obtain ⟨v2, e2, hr⟩ := dl_ex s z c d
  rcases hr.opt with ⟨h0, h1⟩ | ⟨h0, h1⟩
  · rw [h] at h1
    injection h1 with h1
    subst h1 h0
    exact hr
  · rw [h] at h1
    cases h1
theorem set_ok {s : SC} {z : ZN} {c : CN} {d v : Int} (h1 : s.ok = true) (h2 : z.ok = true) (h3 : c.ok = true) (hd0 : 0 ≤ d) (hd1 : d ≤ 73048) (hv : dealB s c d = true) (h : stepUp (biz c) s.settle.toNat d = some v) : SetR s z c d v 0 :=
  .inr ⟨.inr (.inr (.inr ⟨aErr_ok h1 h2 h3, (dayB_iff d).2 ⟨hd0, hd1⟩, hv, rfl⟩)), .inr ⟨h, rfl⟩⟩
theorem CN.ok_all {c : CN} (h : c.ok = true) : c.all = false := by
  unfold CN.ok at h
  simp only [Bool.and_eq_true, Bool.not_eq_true'] at h
  exact h.2.1
/-- Two dealing days behind each other, their deadlines and their settlement. -/
theorem two_days {s : SC} {z : ZN} {c : CN} (hs : s.ok = true) (hz : z.ok = true) (hc : c.ok = true) (hl : c.hs.length ≤ 20) {d : Int} (h0 : 9477 ≤ d) (h1 : d ≤ 9517) :
    ∃ a b x y u v : Int, 0 ≤ a ∧ a ≤ 20000 ∧ 0 ≤ b ∧ b ≤ 20000 ∧ NextR s z c d a 0 ∧ NextR s z c (a + 1) b 0 ∧ DlnR s z c a x 0 ∧ DlnR s z c b y 0 ∧ SetR s z c a u 0 ∧ SetR s z c b v 0 ∧ a < b ∧ x ≤ y ∧ u ≤ v ∧ a ≤ u := by
  have hall := CN.ok_all hc
  obtain ⟨n1, n2, n3, n4, c1, c2⟩ := SC.ok_ranges hs
  obtain ⟨a, ha, ha2⟩ := deal_ex (d := d) hs hall hl (by omega) (by omega)
  obtain ⟨a3, a4, a5, -⟩ := fromP_spec ha
  obtain ⟨b, hb, hb2⟩ := deal_ex (d := a + 1) hs hall hl (by omega) (by omega)
  obtain ⟨b3, b4, b5, -⟩ := fromP_spec hb
  obtain ⟨x, hx⟩ := dl_some (d := a) hs hz hall hl (by omega) (by omega)
  obtain ⟨y, hy⟩ := dl_some (d := b) hs hz hall hl (by omega) (by omega)
  obtain ⟨u, hu, -⟩ := up_ex hall hl s.settle.toNat a (by omega) (by omega)
  obtain ⟨v, hv, -⟩ := up_ex hall hl s.settle.toNat b (by omega) (by omega)
  exact ⟨a, b, x, y, u, v, by omega, by omega, by omega, by omega, next_ok hs hz hc (by omega) (by omega) ha, next_ok hs hz hc (by omega) (by omega) hb, dln_ok hs hz hc (by omega) (by omega) a5 hx, dln_ok hs hz hc (by omega) (by omega) b5 hy, set_ok hs hz hc (by omega) (by omega) a5 hu, set_ok hs hz hc (by omega) (by omega) b5 hv, by omega, dl_mono hz (by omega) hx hy, up_mono _ _ _ _ _ (show a ≤ b by omega) hu hv, stepUp_ge _ _ _ hu⟩
end Go.Proofs.Ytffmmkjoknghoaa
