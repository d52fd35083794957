/-
  The law IntakeForgetsTheFuture over a tape.
-/
import Derived.Test.YtbfllcfjgpkpaaaGreatIntAwake
import Derived.Test.YtbfllcfjgpkpaaaGreatScene3
import Derived.Test.YtbfllcfjgpkpaaaGreatSusLaws
namespace Go.Proofs.YtbfllcfjgpkpaaaGreat
open Go.RowKit
set_option linter.unusedVariables false
set_option maxHeartbeats 8000000
/-- The versions known at k. -/
def knO (L : List OR) (k : Int) : List OR := L.filter fun x => decide (x.known ≤ k)
theorem knO_yes {l : List OR} {i : Nat} {x : OR} {k : Int} (h : l[i]? = some x) (hk : x.known ≤ k) : knO (l.take (i + 1)) k = knO (l.take i) k ++ [x] := by
  rw [take_one h]
  simp [knO, hk]
theorem knO_no {l : List OR} {i : Nat} {x : OR} {k : Int} (h : l[i]? = some x) (hk : ¬x.known ≤ k) : knO (l.take (i + 1)) k = knO (l.take i) k := by
  rw [take_one h]
  simp [knO, hk]
theorem knO_len (l : List OR) (k : Int) (i : Nat) : (knO (l.take i) k).length ≤ l.length := by
  have := List.length_filter_le (fun x : OR => decide (x.known ≤ k)) (l.take i)
  unfold knO
  rw [List.length_take] at this
  omega
/-- The list of orders that a slice holds, as a desk reads it. -/
theorem OwnL.orders {W0 W : World} {v : Value} {n : Nat} {L : List OR} (h : OwnL W0 W 57 11 v n (orL L).flatten) (hs : ∀ x ∈ L, x.small) (hl : L.length ≤ 4096) : ∃ A cap, v = .slice A L.length cap ∧ OrAt W A L := by
  obtain ⟨A, cap, hv, hA, -⟩ := own_ord h.own hs hl
  exact ⟨A, cap, hv, hA⟩
theorem OwnL.eqO {W0 W : World} {e : TypeId} {sz : Nat} {v : Value} {n n' : Nat} {xs xs' : List Value} (h : OwnL W0 W e sz v n xs) (h1 : n = n') (h2 : xs = xs') : OwnL W0 W e sz v n' xs' := by subst h1 h2; exact h
/-- What is taken of the versions known at k. -/
theorem taken_known {L : List OR} {fr dl : Int → Int × Int} {k k2 : Int} {fund : ByteArray} (hk : k ≤ k2) (key : ByteArray) : curC fr dl k2 fund key none (knO L k) = curC fr dl k fund key none L :=
  known_cur key _ (fun o _ h => by simp at h; simp [cntO]; omega) k2 (fun o _ h => by simp at h; simp only [cntO]; rw [decide_eq_true (show o.known ≤ k2 by omega), decide_eq_true h]) none
/-- Take, as a law reads it. -/
def TakC (P : DPar) (k : Int) (fund : ByteArray) (w : World) (e : Ending) (w' : World) : Prop :=
  ∃ A cap T, e = .returned (.tuple #[.slice A T.length cap, .int .i64 0]) ∧ TkAt w' A T ∧ Below w.heap.size w w' ∧ TakenC (fun key => curC P.fr P.dl k fund key none P.l) T ∧ T.length ≤ 4096 ∧ TakenL P k fund T
theorem taken_c {P : DPar} {w : World} (hP : P.Ok w) {k : Int} {fund : ByteArray} (hb0 : bookErr P.l = 0) (hk : knB k = true) (hf : nmB fund = true) (hfu : fund.size ≤ maxLen) (hz : P.z.ok = true) (hc : P.c.ok = true) (hs : P.s.ok = true) :
    Calls Tryz.prog 13 #[.slice P.A P.l.length P.cp, .int .i64 k, .string fund, .agg (sV P.s), .agg (pV P.z P.zA P.zc P.c P.cA P.cc)] w (TakC P k fund w) := by
  have hln := hP.ln
  refine (taken_ok hP hb0 hk hf hfu hz hc hs).mono ?_
  rintro e w' ⟨v, L, rfl, hO, hT⟩
  have hL : L.length ≤ 4096 := by
    have h1 : L.length = (tknL P.fr P.dl P.l k fund P.l.length).length := by
      refine List.Perm.length_eq ((List.perm_ext_iff_of_nodup hT.nodup (tknL_nodup (Nat.le_refl _) (bookErr_zero hb0).2)).2 fun p => ?_)
      rw [hT.mem, tknL_mem (Nat.le_refl _)]
    have h2 := List.length_filter_le (tknB P.fr P.dl P.l k fund P.l.length) (List.range P.l.length)
    rw [List.length_range] at h2
    rw [h1, tknL_len (Nat.le_refl _)]
    omega
  obtain ⟨A, cap, rfl, hA⟩ := hO.taken (by omega)
  exact ⟨A, cap, L, rfl, hA, hO.below, hT.toC hb0, hL, hT⟩
/-- The state of a law of intake: its tape, its schedule and its place. -/
structure L24 (w W : World) (gs gp : Nat) (s : SC) (z : ZN) (A : Option Addr) (kz : Nat) (c : CN) (Ac : Option Addr) (kc : Nat) : Prop where
  tape : TapS W w.heap.size w.heap.size
  ls : LS w W gs gp s z A kz c Ac kc [] none
  fz : ∀ ad, A = some ad → w.heap.size < ad.block
  fc : ∀ ad, Ac = some ad → w.heap.size < ad.block
  hs : w.heap.size < gs
  hp : w.heap.size < gp
section
variable {w W W' : World} {gs gp : Nat} {s : SC} {z : ZN} {A : Option Addr} {kz : Nat} {c : CN} {Ac : Option Addr} {kc : Nat}
theorem L24.only (h : L24 w W gs gp s z A kz c Ac kc) (ho : Only w.heap.size W W') (ht : TapS W' w.heap.size w.heap.size) : L24 w W' gs gp s z A kz c Ac kc :=
  ⟨ht, ⟨h.ls.sb.only ho (by have := h.hs; omega), h.ls.pb.only ho (by have := h.hp; omega), h.ls.za.only (fun ad e => by have := h.fz ad e; omega) ho, h.ls.ca.only (fun ad e => by have := h.fc ad e; omega) ho, SuAt.nil _, lawOnly2 h.ls.below ho⟩, h.fz, h.fc, h.hs, h.hp⟩
theorem L24.next (h : L24 w W gs gp s z A kz c Ac kc) (hb : Below W.heap.size W W') : L24 w W' gs gp s z A kz c Ac kc := ⟨h.tape.below hb, h.ls.next hb, h.fz, h.fc, h.hs, h.hp⟩
theorem L24.new (s : SC) (kz kc : Nat) {o1 o2 : Array Value} (ht : TapS W w.heap.size w.heap.size) (hz : ZAt W z A) (hc : CAt W c Ac) (hb : Below w.heap.size w W) (fz : ∀ ad, A = some ad → w.heap.size < ad.block) (fc : ∀ ad, Ac = some ad → w.heap.size < ad.block) :
    L24 w ((((W.alloc (.cells o1 28)).alloc (.cells o2 37)).setRow W.heap.size (sV s)).setRow (W.heap.size + 1) (pV z A kz c Ac kc)) W.heap.size (W.heap.size + 1) s z A kz c Ac kc := by
  have hlt := ht.lt
  exact ⟨(((ht.alloc _).alloc _).setRow (by omega) (by omega) _).setRow (by omega) (by omega) _, LS.new s kz kc hz hc (SuAt.nil _) hb, fz, fc, hlt, by omega⟩
end
end Go.Proofs.YtbfllcfjgpkpaaaGreat
