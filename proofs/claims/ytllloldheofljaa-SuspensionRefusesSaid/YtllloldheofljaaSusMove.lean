/-
  Where a dealing day is moved to: what both say, and the first part of the program's walk.
-/
import Derived.Test.YtllloldheofljaaSusAct2
import Derived.Test.YtllloldheofljaaSchedLaws
import Derived.Deep.RegionHeld3
import Derived.WalkMore
import Derived.Deep.LoopGhost
namespace Go.Proofs.Ytllloldheofljaa
open Go.RowKit
set_option linter.unusedVariables false
set_option maxHeartbeats 8000000
/-- What Move answers; nx: what the schedule's Next answers. -/
def MovR (l : List SU) (k : Int) (fund : ByteArray) (s : SC) (z : ZN) (c : CN) (nx : Int → Int × Int) (d v e : Int) : Prop :=
  (ChkR l k fund d e ∧ e ≠ 0 ∧ v = 0) ∨ (ChkR l k fund d 0 ∧ z.ok = false ∧ v = 0 ∧ e = 70) ∨ (ChkR l k fund d 0 ∧ z.ok = true ∧ c.ok = false ∧ v = 0 ∧ e = 80) ∨
  (ChkR l k fund d 0 ∧ z.ok = true ∧ c.ok = true ∧ s.ok = false ∧ v = 0 ∧ e = 90) ∨ (ChkR l k fund d 0 ∧ z.ok = true ∧ c.ok = true ∧ s.ok = true ∧ mov nx (visS l k fund) d = (v, e))
def NxR (s : SC) (z : ZN) (c : CN) (nx : Int → Int × Int) : Prop := ∀ d, NextR s z c d (nx d).1 (nx d).2
theorem nx_ex (s : SC) (z : ZN) (c : CN) : ∃ nx, NxR s z c nx := ⟨fun d => ⟨(next_ex s z c d).choose, (next_ex s z c d).choose_spec.choose⟩, fun d => (next_ex s z c d).choose_spec.choose_spec⟩
theorem NxR.le {s : SC} {z : ZN} {c : CN} {nx : Int → Int × Int} (h : NxR s z c nx) (d : Int) (h0 : (nx d).2 = 0) : d ≤ (nx d).1 := by
  rcases h d with ⟨-, h1, -⟩ | ⟨-, -, -, h1⟩ | ⟨-, -, ⟨-, -, h1⟩ | ⟨h1, -⟩⟩
  · exact absurd h0 h1
  · omega
  · omega
  · exact (fromP_spec h1).1
theorem NxR.hi {s : SC} {z : ZN} {c : CN} {nx : Int → Int × Int} (h : NxR s z c nx) (d : Int) (hd : 73048 < d) : (nx d).2 ≠ 0 := by
  rcases h d with ⟨-, h1, -⟩ | ⟨-, -, -, h1⟩ | ⟨-, h2, -⟩
  · exact h1
  · omega
  · have := (dayB_iff d).1 h2
    omega
theorem act_of_chk {l : List SU} {k : Int} {fund : ByteArray} {d e : Int} (h : ChkR l k fund d e) : ∃ v, ActR l k fund d v e := by
  obtain ⟨v, e', h'⟩ := act_ex l k fund d
  have h2 := h'.chk
  refine ⟨v, ?_⟩
  have : e = e' := by
    rcases h with ⟨a, b⟩ | ⟨a, b, c⟩ | ⟨a, b, c, e1⟩ | ⟨a, b, c, d1, e1⟩ | ⟨a, b, c, d1, e1⟩ <;>
    rcases h2 with ⟨a', b'⟩ | ⟨a', b', c'⟩ | ⟨a', b', c', e2⟩ | ⟨a', b', c', d2, e2⟩ | ⟨a', b', c', d2, e2⟩ <;> simp_all
  rw [this]
  exact h'
theorem mov_ex (l : List SU) (k : Int) (fund : ByteArray) (s : SC) (z : ZN) (c : CN) (nx : Int → Int × Int) (d : Int) : ∃ v e, MovR l k fund s z c nx d v e := by
  obtain ⟨va, e, ha⟩ := act_ex l k fund d
  have hc := ha.chk
  by_cases he : e = 0
  · subst he
    cases h1 : z.ok
    · exact ⟨_, _, .inr (.inl ⟨hc, h1, rfl, rfl⟩)⟩
    cases h2 : c.ok
    · exact ⟨_, _, .inr (.inr (.inl ⟨hc, h1, h2, rfl, rfl⟩))⟩
    cases h3 : s.ok
    · exact ⟨_, _, .inr (.inr (.inr (.inl ⟨hc, h1, h2, h3, rfl, rfl⟩)))⟩
    · exact ⟨_, _, .inr (.inr (.inr (.inr ⟨hc, h1, h2, h3, rfl⟩)))⟩
  · exact ⟨_, _, .inl ⟨hc, he, rfl⟩⟩
/-- The boxes of a schedule and a place, beside a list of suspensions. -/
structure MB (w W : World) (s : SC) (z : ZN) (A : Option Addr) (kz : Nat) (c : CN) (Ac : Option Addr) (kc : Nat) (l : List SU) (Al : Option Addr) : Prop where
  sb : BlkAt W w.heap.size (sV s) 38
  pb : BlkAt W (w.heap.size + 1) (pV z A kz c Ac kc) 33
  za : ZAt W z A
  ca : CAt W c Ac
  su : SuAt W Al l
  below : Below w.heap.size w W
section
variable {w W W' : World} {s : SC} {z : ZN} {A : Option Addr} {kz : Nat} {c : CN} {Ac : Option Addr} {kc : Nat} {l : List SU} {Al : Option Addr}
theorem MB.next (h : MB w W s z A kz c Ac kc l Al) (hb : Below W.heap.size W W') : MB w W' s z A kz c Ac kc l Al := ⟨h.sb.next hb, h.pb.next hb, h.za.below hb, h.ca.below hb, h.su.below hb, bnext h.below hb⟩
theorem MB.new (s : SC) (kz kc : Nat) (hz : ZAt w z A) (hc : CAt w c Ac) (hs : SuAt w Al l) : MB w ((w.alloc (.cells (sV s) 38)).alloc (.cells (pV z A kz c Ac kc) 33)) s z A kz c Ac kc l Al := by
  have hb := bal (bal0 w (.cells (sV s) 38)) (.cells (pV z A kz c Ac kc) 33)
  exact ⟨(BlkAt.new _ _ _).al _, BlkAt.newAt _ _ _ (by simp), hz.below hb, hc.below hb, hs.below hb, hb⟩
theorem MB.q (h : MB w W s z A kz c Ac kc l Al) : (W.cell? ⟨w.heap.size, 0, none⟩ = some (.int .i64 s.period) ∧ W.cell? ⟨w.heap.size, 1, none⟩ = some (.int .i64 s.nth) ∧ W.cell? ⟨w.heap.size, 2, none⟩ = some (.int .i64 s.notice) ∧ W.cell? ⟨w.heap.size, 3, none⟩ = some (.int .i64 s.settle) ∧ W.cell? ⟨w.heap.size, 4, none⟩ = some (.int .i64 s.cutoff)) ∧ (W.cell? ⟨w.heap.size + 1, 0, none⟩ = some (.string z.name) ∧ W.cell? ⟨w.heap.size + 1, 1, none⟩ = some (.int .i64 z.off) ∧ W.cell? ⟨w.heap.size + 1, 2, none⟩ = some (.slice A z.cs.length kz) ∧ W.cell? ⟨w.heap.size + 1, 3, none⟩ = some (.string c.name) ∧ W.cell? ⟨w.heap.size + 1, 4, none⟩ = some (.bool c.w0) ∧ W.cell? ⟨w.heap.size + 1, 5, none⟩ = some (.bool c.w1) ∧ W.cell? ⟨w.heap.size + 1, 6, none⟩ = some (.bool c.w2) ∧ W.cell? ⟨w.heap.size + 1, 7, none⟩ = some (.bool c.w3) ∧ W.cell? ⟨w.heap.size + 1, 8, none⟩ = some (.bool c.w4) ∧ W.cell? ⟨w.heap.size + 1, 9, none⟩ = some (.bool c.w5) ∧ W.cell? ⟨w.heap.size + 1, 10, none⟩ = some (.bool c.w6) ∧ W.cell? ⟨w.heap.size + 1, 11, none⟩ = some (.slice Ac c.hs.length kc)) ∧ MB w W s z A kz c Ac kc l Al :=
  ⟨⟨h.sb.cell rfl, h.sb.cell rfl, h.sb.cell rfl, h.sb.cell rfl, h.sb.cell rfl⟩,
    ⟨h.pb.cell rfl, h.pb.cell rfl, h.pb.cell rfl, h.pb.cell rfl, h.pb.cell rfl, h.pb.cell rfl, h.pb.cell rfl, h.pb.cell rfl, h.pb.cell rfl, h.pb.cell rfl, h.pb.cell rfl, h.pb.cell rfl⟩, h⟩
end
set_option maxRecDepth 100000 in
theorem sMove_chk {l : List SU} {k : Int} {fund : ByteArray} {d e : Int} (hr : ChkR l k fund d e) (hn : e ≠ 0) (hfu : fund.size ≤ maxLen) (s : SC) (z : ZN) (A : Option Addr) (kz : Nat) (c : CN) (Ac : Option Addr) (kc : Nat) (Al : Option Addr) (cp : Nat) (w : World) (hz : ZAt w z A) (hc : CAt w c Ac) (h : SuAt w Al l) :
    Calls Try.prog 36 #[.slice Al l.length cp, .int .i64 k, .string fund, .agg (sV s), .agg (pV z A kz c Ac kc), .int .i64 d] w (RetB (.tuple #[.int .i64 0, .int .i64 e]) w) := by
  obtain ⟨va, ha⟩ := act_of_chk hr
  have HM := Lib.hid (MB.new s kz kc hz hc h)
  have hcall := sAct_is ha hfu Al cp _ HM.out.su
  have g1 : (e != 0) = true := by rw [bne_iff_ne]; exact hn
  clear hr ha hn hz hc h
  go_enter Try.func36, Try.ntmps36
  go_wp2_with fail
  go_step3
  go_wp2_with fail
  refine hcall.mono ?_
  rintro e w1 ⟨rfl, hb⟩
  have HB := Lib.hid (bnext HM.out.below hb)
  clear hb HM
  go_wp2_with fail
  try rw [Exit.noGoto_ret]
  go_ret2
  exact ⟨rfl, HB.out⟩
theorem ret_two {a b a' b' : Int} (h1 : a = a') (h2 : b = b') : Ending.returned (.tuple #[.int .i64 a, .int .i64 b]) = .returned (.tuple #[.int .i64 a', .int .i64 b']) := by rw [h1, h2]
/-- Three errors: the first that is not 0. -/
def err3 (a b c : Int) : Int := if a ≠ 0 then a else if b ≠ 0 then b else c
set_option maxRecDepth 100000 in
theorem sMove_err {l : List SU} {k : Int} {fund : ByteArray} {d e : Int} (hr : ChkR l k fund d 0) (hfu : fund.size ≤ maxLen) (s : SC) (z : ZN) (A : Option Addr) (kz : Nat) (c : CN) (Ac : Option Addr) (kc : Nat) (Al : Option Addr) (cp : Nat) (w : World) (hz : ZAt w z A) (hc : CAt w c Ac) (h : SuAt w Al l)
    (he : err3 z.err c.err s.err = e) (hn : e ≠ 0) :
    Calls Try.prog 36 #[.slice Al l.length cp, .int .i64 k, .string fund, .agg (sV s), .agg (pV z A kz c Ac kc), .int .i64 d] w (RetB (.tuple #[.int .i64 0, .int .i64 e]) w) := by
  obtain ⟨va, ha⟩ := act_of_chk hr
  have HM := Lib.hid (MB.new s kz kc hz hc h)
  have hcall := sAct_is ha hfu Al cp _ HM.out.su
  have HE := Lib.hid he
  have HN := Lib.hid hn
  obtain ⟨ez, hez⟩ : ∃ ez, z.err = ez := ⟨_, rfl⟩
  obtain ⟨ec, hec⟩ : ∃ ec, c.err = ec := ⟨_, rfl⟩
  obtain ⟨es, hes⟩ : ∃ es, s.err = es := ⟨_, rfl⟩
  rw [hez, hec, hes] at HE
  have Z := Lib.hid hez
  have C := Lib.hid hec
  have S := Lib.hid hes
  clear hr ha hn he hz hc h hez hec hes
  go_enter Try.func36, Try.ntmps36
  go_wp2_with fail
  go_step3
  go_wp2_with fail
  refine hcall.mono ?_
  rintro e w1 ⟨rfl, hb⟩
  have HB := Lib.hid (HM.out.next hb)
  clear hb HM hcall
  go_wp2_with fail
  have HD := Lib.hid (HB.out.next ((Below.refl _ _).drew))
  go_region_held3 (fun W => (W.cell? ⟨w.heap.size, 0, none⟩ = some (.int .i64 s.period) ∧ W.cell? ⟨w.heap.size, 1, none⟩ = some (.int .i64 s.nth) ∧ W.cell? ⟨w.heap.size, 2, none⟩ = some (.int .i64 s.notice) ∧ W.cell? ⟨w.heap.size, 3, none⟩ = some (.int .i64 s.settle) ∧ W.cell? ⟨w.heap.size, 4, none⟩ = some (.int .i64 s.cutoff)) ∧ (W.cell? ⟨w.heap.size + 1, 0, none⟩ = some (.string z.name) ∧ W.cell? ⟨w.heap.size + 1, 1, none⟩ = some (.int .i64 z.off) ∧ W.cell? ⟨w.heap.size + 1, 2, none⟩ = some (.slice A z.cs.length kz) ∧ W.cell? ⟨w.heap.size + 1, 3, none⟩ = some (.string c.name) ∧ W.cell? ⟨w.heap.size + 1, 4, none⟩ = some (.bool c.w0) ∧ W.cell? ⟨w.heap.size + 1, 5, none⟩ = some (.bool c.w1) ∧ W.cell? ⟨w.heap.size + 1, 6, none⟩ = some (.bool c.w2) ∧ W.cell? ⟨w.heap.size + 1, 7, none⟩ = some (.bool c.w3) ∧ W.cell? ⟨w.heap.size + 1, 8, none⟩ = some (.bool c.w4) ∧ W.cell? ⟨w.heap.size + 1, 9, none⟩ = some (.bool c.w5) ∧ W.cell? ⟨w.heap.size + 1, 10, none⟩ = some (.bool c.w6) ∧ W.cell? ⟨w.heap.size + 1, 11, none⟩ = some (.slice Ac c.hs.length kc)) ∧ MB w W s z A kz c Ac kc l Al)
    ((first
      | (with_reducible exact HA3.out.q)
      | (with_reducible exact (HA3.out.next (bal0 _ _)).q)
      | (with_reducible exact HA2.out.q)
      | (with_reducible exact HA1.out.q)
      | (with_reducible exact HD.out.q)))
    (first
      | (go_at_call 78; (with_reducible refine (zcheck_is Z.out A kz _ HD.out.za).mono ?_); rintro e w2 ⟨rfl, hb2⟩; have HA1 := Lib.hid (HD.out.next hb2))
      | (go_at_call 79; (with_reducible refine (ccheck_is C.out Ac kc _ HA1.out.ca).mono ?_); rintro e w3 ⟨rfl, hb3⟩; have HA2 := Lib.hid (HA1.out.next hb3))
      | (go_at_call 66; (with_reducible refine (scheck_is S.out _).mono ?_); rintro e w4 ⟨rfl, hb4⟩; have HA3 := Lib.hid (HA2.out.next hb4)))
  have hBA := bal HA3.out.below (.cells #[.int .i64 ez, .int .i64 ec, .int .i64 es] 40)
  have HBA := Lib.hid hBA
  clear hBA HA1 HA2 HD HB Z C S
  try clear hHeld
  go_wp2_with fail
  go_loop [46] (fun iv => ∃ i : Nat, i ≤ 3 ∧ iv = .int .i64 i ∧ (1 ≤ i → ez = 0) ∧ (2 ≤ i → ec = 0) ∧ (3 ≤ i → es = 0)) (fun iv => 3 - (intOf iv).toNat)
  case atStart => exact ⟨0, by omega, rfl, by omega, by omega, by omega⟩
  case round =>
    obtain ⟨i, hi, rfl, r1, r2, r3⟩ := hrel
    have R1 := Lib.hid r1
    have R2 := Lib.hid r2
    have R3 := Lib.hid r3
    clear r1 r2 r3
    have hcs : i = 0 ∨ i = 1 ∨ i = 2 ∨ i = 3 := by omega
    clear hi
    rcases hcs with rfl | rfl | rfl | rfl
    · by_cases h0 : ez = 0
      · have g0 : (ez != 0) = false := by simp [h0]
        have H0 := Lib.hid h0
        clear h0
        go_wp2_with fail
        go_round
        case rel => exact ⟨1, by omega, rfl, fun _ => H0.out, by omega, by omega⟩
        case measure => simp [intOf]
      · have g0 : (ez != 0) = true := by simp [h0]
        have H0 := Lib.hid h0
        clear h0
        go_wp2_with fail
        try rw [Exit.noGoto_ret]
        go_ret2
        exact ⟨ret_two rfl (by rw [← HE.out]; unfold err3; rw [if_pos H0.out]), HBA.out⟩
    · by_cases h0 : ec = 0
      · have g0 : (ec != 0) = false := by simp [h0]
        have H0 := Lib.hid h0
        clear h0
        go_wp2_with fail
        go_round
        case rel => exact ⟨2, by omega, rfl, fun _ => R1.out (by omega), fun _ => H0.out, by omega⟩
        case measure => simp [intOf]
      · have g0 : (ec != 0) = true := by simp [h0]
        have H0 := Lib.hid h0
        clear h0
        go_wp2_with fail
        try rw [Exit.noGoto_ret]
        go_ret2
        exact ⟨ret_two rfl (by rw [← HE.out]; unfold err3; rw [if_neg (by simp [R1.out (by omega)]), if_pos H0.out]), HBA.out⟩
    · by_cases h0 : es = 0
      · exact absurd (by rw [← HE.out]; unfold err3; rw [if_neg (by simp [R1.out (by omega)]), if_neg (by simp [R2.out (by omega)])]; exact h0) HN.out
      · have g0 : (es != 0) = true := by simp [h0]
        have H0 := Lib.hid h0
        clear h0
        go_wp2_with fail
        try rw [Exit.noGoto_ret]
        go_ret2
        exact ⟨ret_two rfl (by rw [← HE.out]; unfold err3; rw [if_neg (by simp [R1.out (by omega)]), if_neg (by simp [R2.out (by omega)])]), HBA.out⟩
    · exact absurd (by rw [← HE.out]; unfold err3; rw [if_neg (by simp [R1.out (by omega)]), if_neg (by simp [R2.out (by omega)])]; exact R3.out (by omega)) HN.out
end Go.Proofs.Ytllloldheofljaa
