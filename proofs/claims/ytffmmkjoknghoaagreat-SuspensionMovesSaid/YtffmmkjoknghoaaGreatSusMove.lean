/-
  Where a dealing day is moved to: what both say, and the first part of the program's walk.
  Where a dealing day is moved to: the program's walk where all is valid.
  Where a dealing day is moved to: the document's walk.
-/
import Derived.Test.YtffmmkjoknghoaaGreatSusAct
import Derived.Test.YtffmmkjoknghoaaGreatSchedLaws
import Derived.Deep.RegionHeld3
import Derived.WalkMore
import Derived.Deep.LoopGhost
import Derived.Test.YtffmmkjoknghoaaGreatRowMid
namespace Go.Proofs.YtffmmkjoknghoaaGreat
section
open Go.RowKit
set_option linter.unusedVariables false
set_option maxHeartbeats 8000000
/-- What Move answers; nx: what the schedule's Next answers. -/
def MovR (l : List SU) (k : Int) (fund : ByteArray) (s : SC) (z : ZN) (c : CN) (nx : Int → Int × Int) (d v e : Int) : Prop :=
  (ChkR l k fund d e ∧ e ≠ 0 ∧ v = 0) ∨ (ChkR l k fund d 0 ∧ z.ok = false ∧ v = 0 ∧ e = 70) ∨ (ChkR l k fund d 0 ∧ z.ok = true ∧ c.ok = false ∧ v = 0 ∧ e = 80) ∨
  (ChkR l k fund d 0 ∧ z.ok = true ∧ c.ok = true ∧ s.ok = false ∧ v = 0 ∧ e = 90) ∨ (ChkR l k fund d 0 ∧ z.ok = true ∧ c.ok = true ∧ s.ok = true ∧ mov nx (visS l k fund) d = (v, e))
def NxR (s : SC) (z : ZN) (c : CN) (nx : Int → Int × Int) : Prop := ∀ d, NextR s z c d (nx d).1 (nx d).2
theorem nx_ex (s : SC) (z : ZN) (c : CN) : ∃ nx, NxR s z c nx := ⟨fun d => ⟨(next_ex s z c d).choose, (next_ex s z c d).choose_spec.choose⟩, fun d => (next_ex s z c d).choose_spec.choose_spec⟩
theorem NxR.le {s : SC} {z : ZN} {c : CN} {nx : Int → Int × Int} (h : NxR s z c nx) (d : Int) (h0 : (nx d).2 = 0) : d ≤ (nx d).1 := by
  rcases h d with ⟨-, h1, -⟩ | ⟨-, -, -, h1⟩ | ⟨-, -, ⟨-, -, h1⟩ | ⟨h1, -⟩⟩
  · exact absurd h0 h1
  · omega
  · omega
  · exact (fromP_spec h1).1
theorem NxR.hi {s : SC} {z : ZN} {c : CN} {nx : Int → Int × Int} (h : NxR s z c nx) (d : Int) (hd : 73048 < d) : (nx d).2 ≠ 0 := by
  rcases h d with ⟨-, h1, -⟩ | ⟨-, -, -, h1⟩ | ⟨-, h2, -⟩
  · exact h1
  · omega
  · have := (dayB_iff d).1 h2
    omega
theorem act_of_chk {l : List SU} {k : Int} {fund : ByteArray} {d e : Int} (h : ChkR l k fund d e) : ∃ v, ActR l k fund d v e := by
  obtain ⟨v, e', h'⟩ := act_ex l k fund d
  have h2 := h'.chk
  refine ⟨v, ?_⟩
  have : e = e' := by
    rcases h with ⟨a, b⟩ | ⟨a, b, c⟩ | ⟨a, b, c, e1⟩ | ⟨a, b, c, d1, e1⟩ | ⟨a, b, c, d1, e1⟩ <;>
    rcases h2 with ⟨a', b'⟩ | ⟨a', b', c'⟩ | ⟨a', b', c', e2⟩ | ⟨a', b', c', d2, e2⟩ | ⟨a', b', c', d2, e2⟩ <;> simp_all
  rw [this]
  exact h'
theorem mov_ex (l : List SU) (k : Int) (fund : ByteArray) (s : SC) (z : ZN) (c : CN) (nx : Int → Int × Int) (d : Int) : ∃ v e, MovR l k fund s z c nx d v e := by
  obtain ⟨va, e, ha⟩ := act_ex l k fund d
  have hc := ha.chk
  by_cases he : e = 0
  · subst he
    cases h1 : z.ok
    · exact ⟨_, _, .inr (.inl ⟨hc, h1, rfl, rfl⟩)⟩
    cases h2 : c.ok
    · exact ⟨_, _, .inr (.inr (.inl ⟨hc, h1, h2, rfl, rfl⟩))⟩
    cases h3 : s.ok
    · exact ⟨_, _, .inr (.inr (.inr (.inl ⟨hc, h1, h2, h3, rfl, rfl⟩)))⟩
    · exact ⟨_, _, .inr (.inr (.inr (.inr ⟨hc, h1, h2, h3, rfl⟩)))⟩
  · exact ⟨_, _, .inl ⟨hc, he, rfl⟩⟩
/-- The boxes of a schedule and a place, beside a list of suspensions. -/
structure MB (w W : World) (s : SC) (z : ZN) (A : Option Addr) (kz : Nat) (c : CN) (Ac : Option Addr) (kc : Nat) (l : List SU) (Al : Option Addr) : Prop where
  sb : BlkAt W w.heap.size (sV s) 26
  pb : BlkAt W (w.heap.size + 1) (pV z A kz c Ac kc) 35
  za : ZAt W z A
  ca : CAt W c Ac
  su : SuAt W Al l
  below : Below w.heap.size w W
section
variable {w W W' : World} {s : SC} {z : ZN} {A : Option Addr} {kz : Nat} {c : CN} {Ac : Option Addr} {kc : Nat} {l : List SU} {Al : Option Addr}
theorem MB.next (h : MB w W s z A kz c Ac kc l Al) (hb : Below W.heap.size W W') : MB w W' s z A kz c Ac kc l Al := ⟨h.sb.next hb, h.pb.next hb, h.za.below hb, h.ca.below hb, h.su.below hb, bnext h.below hb⟩
theorem MB.new (s : SC) (kz kc : Nat) (hz : ZAt w z A) (hc : CAt w c Ac) (hs : SuAt w Al l) : MB w ((w.alloc (.cells (sV s) 26)).alloc (.cells (pV z A kz c Ac kc) 35)) s z A kz c Ac kc l Al := by
  have hb := bal (bal0 w (.cells (sV s) 26)) (.cells (pV z A kz c Ac kc) 35)
  exact ⟨(BlkAt.new _ _ _).al _, BlkAt.newAt _ _ _ (by simp), hz.below hb, hc.below hb, hs.below hb, hb⟩
theorem MB.q (h : MB w W s z A kz c Ac kc l Al) : (W.cell? ⟨w.heap.size, 0, none⟩ = some (.int .i64 s.period) ∧ W.cell? ⟨w.heap.size, 1, none⟩ = some (.int .i64 s.nth) ∧ W.cell? ⟨w.heap.size, 2, none⟩ = some (.int .i64 s.notice) ∧ W.cell? ⟨w.heap.size, 3, none⟩ = some (.int .i64 s.settle) ∧ W.cell? ⟨w.heap.size, 4, none⟩ = some (.int .i64 s.cutoff)) ∧ (W.cell? ⟨w.heap.size + 1, 0, none⟩ = some (.string z.name) ∧ W.cell? ⟨w.heap.size + 1, 1, none⟩ = some (.int .i64 z.off) ∧ W.cell? ⟨w.heap.size + 1, 2, none⟩ = some (.slice A z.cs.length kz) ∧ W.cell? ⟨w.heap.size + 1, 3, none⟩ = some (.string c.name) ∧ W.cell? ⟨w.heap.size + 1, 4, none⟩ = some (.bool c.w0) ∧ W.cell? ⟨w.heap.size + 1, 5, none⟩ = some (.bool c.w1) ∧ W.cell? ⟨w.heap.size + 1, 6, none⟩ = some (.bool c.w2) ∧ W.cell? ⟨w.heap.size + 1, 7, none⟩ = some (.bool c.w3) ∧ W.cell? ⟨w.heap.size + 1, 8, none⟩ = some (.bool c.w4) ∧ W.cell? ⟨w.heap.size + 1, 9, none⟩ = some (.bool c.w5) ∧ W.cell? ⟨w.heap.size + 1, 10, none⟩ = some (.bool c.w6) ∧ W.cell? ⟨w.heap.size + 1, 11, none⟩ = some (.slice Ac c.hs.length kc)) ∧ MB w W s z A kz c Ac kc l Al :=
  ⟨⟨h.sb.cell rfl, h.sb.cell rfl, h.sb.cell rfl, h.sb.cell rfl, h.sb.cell rfl⟩,
    ⟨h.pb.cell rfl, h.pb.cell rfl, h.pb.cell rfl, h.pb.cell rfl, h.pb.cell rfl, h.pb.cell rfl, h.pb.cell rfl, h.pb.cell rfl, h.pb.cell rfl, h.pb.cell rfl, h.pb.cell rfl, h.pb.cell rfl⟩, h⟩
end
set_option maxRecDepth 100000 in
theorem sMove_chk {l : List SU} {k : Int} {fund : ByteArray} {d e : Int} (hr : ChkR l k fund d e) (hn : e ≠ 0) (hfu : fund.size ≤ maxLen) (s : SC) (z : ZN) (A : Option Addr) (kz : Nat) (c : CN) (Ac : Option Addr) (kc : Nat) (Al : Option Addr) (cp : Nat) (w : World) (hz : ZAt w z A) (hc : CAt w c Ac) (h : SuAt w Al l) :
    Calls Tryz.prog 13 #[.slice Al l.length cp, .int .i64 k, .string fund, .agg (sV s), .agg (pV z A kz c Ac kc), .int .i64 d] w (RetB (.tuple #[.int .i64 0, .int .i64 e]) w) := by
  obtain ⟨va, ha⟩ := act_of_chk hr
  have HM := Lib.hid (MB.new s kz kc hz hc h)
  have hcall := sAct_is ha hfu Al cp _ HM.out.su
  have g1 : (e != 0) = true := by rw [bne_iff_ne]; exact hn
  clear hr ha hn hz hc h
  go_enter Tryz.func13, Tryz.ntmps13
  go_wp2_with fail
  go_step3
  go_wp2_with fail
  refine hcall.mono ?_
  rintro e w1 ⟨rfl, hb⟩
  have HB := Lib.hid (bnext HM.out.below hb)
  clear hb HM
  go_wp2_with fail
  try rw [Exit.noGoto_ret]
  go_ret2
  exact ⟨rfl, HB.out⟩
theorem ret_two {a b a' b' : Int} (h1 : a = a') (h2 : b = b') : Ending.returned (.tuple #[.int .i64 a, .int .i64 b]) = .returned (.tuple #[.int .i64 a', .int .i64 b']) := by rw [h1, h2]
/-- Three errors: the first that is not 0. -/
def err3 (a b c : Int) : Int := if a ≠ 0 then a else if b ≠ 0 then b else c
set_option maxRecDepth 100000 in
theorem sMove_err {l : List SU} {k : Int} {fund : ByteArray} {d e : Int} (hr : ChkR l k fund d 0) (hfu : fund.size ≤ maxLen) (s : SC) (z : ZN) (A : Option Addr) (kz : Nat) (c : CN) (Ac : Option Addr) (kc : Nat) (Al : Option Addr) (cp : Nat) (w : World) (hz : ZAt w z A) (hc : CAt w c Ac) (h : SuAt w Al l)
    (he : err3 z.err c.err s.err = e) (hn : e ≠ 0) :
    Calls Tryz.prog 13 #[.slice Al l.length cp, .int .i64 k, .string fund, .agg (sV s), .agg (pV z A kz c Ac kc), .int .i64 d] w (RetB (.tuple #[.int .i64 0, .int .i64 e]) w) := by
  obtain ⟨va, ha⟩ := act_of_chk hr
  have HM := Lib.hid (MB.new s kz kc hz hc h)
  have hcall := sAct_is ha hfu Al cp _ HM.out.su
  have HE := Lib.hid he
  have HN := Lib.hid hn
  obtain ⟨ez, hez⟩ : ∃ ez, z.err = ez := ⟨_, rfl⟩
  obtain ⟨ec, hec⟩ : ∃ ec, c.err = ec := ⟨_, rfl⟩
  obtain ⟨es, hes⟩ : ∃ es, s.err = es := ⟨_, rfl⟩
  rw [hez, hec, hes] at HE
  have Z := Lib.hid hez
  have C := Lib.hid hec
  have S := Lib.hid hes
  clear hr ha hn he hz hc h hez hec hes
  go_enter Tryz.func13, Tryz.ntmps13
  go_wp2_with fail
  go_step3
  go_wp2_with fail
  refine hcall.mono ?_
  rintro e w1 ⟨rfl, hb⟩
  have HB := Lib.hid (HM.out.next hb)
  clear hb HM hcall
  go_wp2_with fail
  have HD := Lib.hid (HB.out.next ((Below.refl _ _).drew))
  go_region_held3 (fun W => (W.cell? ⟨w.heap.size, 0, none⟩ = some (.int .i64 s.period) ∧ W.cell? ⟨w.heap.size, 1, none⟩ = some (.int .i64 s.nth) ∧ W.cell? ⟨w.heap.size, 2, none⟩ = some (.int .i64 s.notice) ∧ W.cell? ⟨w.heap.size, 3, none⟩ = some (.int .i64 s.settle) ∧ W.cell? ⟨w.heap.size, 4, none⟩ = some (.int .i64 s.cutoff)) ∧ (W.cell? ⟨w.heap.size + 1, 0, none⟩ = some (.string z.name) ∧ W.cell? ⟨w.heap.size + 1, 1, none⟩ = some (.int .i64 z.off) ∧ W.cell? ⟨w.heap.size + 1, 2, none⟩ = some (.slice A z.cs.length kz) ∧ W.cell? ⟨w.heap.size + 1, 3, none⟩ = some (.string c.name) ∧ W.cell? ⟨w.heap.size + 1, 4, none⟩ = some (.bool c.w0) ∧ W.cell? ⟨w.heap.size + 1, 5, none⟩ = some (.bool c.w1) ∧ W.cell? ⟨w.heap.size + 1, 6, none⟩ = some (.bool c.w2) ∧ W.cell? ⟨w.heap.size + 1, 7, none⟩ = some (.bool c.w3) ∧ W.cell? ⟨w.heap.size + 1, 8, none⟩ = some (.bool c.w4) ∧ W.cell? ⟨w.heap.size + 1, 9, none⟩ = some (.bool c.w5) ∧ W.cell? ⟨w.heap.size + 1, 10, none⟩ = some (.bool c.w6) ∧ W.cell? ⟨w.heap.size + 1, 11, none⟩ = some (.slice Ac c.hs.length kc)) ∧ MB w W s z A kz c Ac kc l Al)
    ((first
      | (with_reducible exact HA3.out.q)
      | (with_reducible exact (HA3.out.next (bal0 _ _)).q)
      | (with_reducible exact HA2.out.q)
      | (with_reducible exact HA1.out.q)
      | (with_reducible exact HD.out.q)))
    (first
      | (go_at_call 33; (with_reducible refine (zcheck_is Z.out A kz _ HD.out.za).mono ?_); rintro e w2 ⟨rfl, hb2⟩; have HA1 := Lib.hid (HD.out.next hb2))
      | (go_at_call 34; (with_reducible refine (ccheck_is C.out Ac kc _ HA1.out.ca).mono ?_); rintro e w3 ⟨rfl, hb3⟩; have HA2 := Lib.hid (HA1.out.next hb3))
      | (go_at_call 35; (with_reducible refine (scheck_is S.out _).mono ?_); rintro e w4 ⟨rfl, hb4⟩; have HA3 := Lib.hid (HA2.out.next hb4)))
  have hBA := bal HA3.out.below (.cells #[.int .i64 ez, .int .i64 ec, .int .i64 es] 40)
  have HBA := Lib.hid hBA
  clear hBA HA1 HA2 HD HB Z C S
  try clear hHeld
  go_wp2_with fail
  go_loop [46] (fun iv => ∃ i : Nat, i ≤ 3 ∧ iv = .int .i64 i ∧ (1 ≤ i → ez = 0) ∧ (2 ≤ i → ec = 0) ∧ (3 ≤ i → es = 0)) (fun iv => 3 - (intOf iv).toNat)
  case atStart => exact ⟨0, by omega, rfl, by omega, by omega, by omega⟩
  case round =>
    obtain ⟨i, hi, rfl, r1, r2, r3⟩ := hrel
    have R1 := Lib.hid r1
    have R2 := Lib.hid r2
    have R3 := Lib.hid r3
    clear r1 r2 r3
    have hcs : i = 0 ∨ i = 1 ∨ i = 2 ∨ i = 3 := by omega
    clear hi
    rcases hcs with rfl | rfl | rfl | rfl
    · by_cases h0 : ez = 0
      · have g0 : (ez != 0) = false := by simp [h0]
        have H0 := Lib.hid h0
        clear h0
        go_wp2_with fail
        go_round
        case rel => exact ⟨1, by omega, rfl, fun _ => H0.out, by omega, by omega⟩
        case measure => simp [intOf]
      · have g0 : (ez != 0) = true := by simp [h0]
        have H0 := Lib.hid h0
        clear h0
        go_wp2_with fail
        try rw [Exit.noGoto_ret]
        go_ret2
        exact ⟨ret_two rfl (by rw [← HE.out]; unfold err3; rw [if_pos H0.out]), HBA.out⟩
    · by_cases h0 : ec = 0
      · have g0 : (ec != 0) = false := by simp [h0]
        have H0 := Lib.hid h0
        clear h0
        go_wp2_with fail
        go_round
        case rel => exact ⟨2, by omega, rfl, fun _ => R1.out (by omega), fun _ => H0.out, by omega⟩
        case measure => simp [intOf]
      · have g0 : (ec != 0) = true := by simp [h0]
        have H0 := Lib.hid h0
        clear h0
        go_wp2_with fail
        try rw [Exit.noGoto_ret]
        go_ret2
        exact ⟨ret_two rfl (by rw [← HE.out]; unfold err3; rw [if_neg (by simp [R1.out (by omega)]), if_pos H0.out]), HBA.out⟩
    · by_cases h0 : es = 0
      · exact absurd (by rw [← HE.out]; unfold err3; rw [if_neg (by simp [R1.out (by omega)]), if_neg (by simp [R2.out (by omega)])]; exact h0) HN.out
      · have g0 : (es != 0) = true := by simp [h0]
        have H0 := Lib.hid h0
        clear h0
        go_wp2_with fail
        try rw [Exit.noGoto_ret]
        go_ret2
        exact ⟨ret_two rfl (by rw [← HE.out]; unfold err3; rw [if_neg (by simp [R1.out (by omega)]), if_neg (by simp [R2.out (by omega)])]), HBA.out⟩
    · exact absurd (by rw [← HE.out]; unfold err3; rw [if_neg (by simp [R1.out (by omega)]), if_neg (by simp [R2.out (by omega)])]; exact R3.out (by omega)) HN.out
end
section
open Go.RowKit
set_option linter.unusedVariables false
set_option maxHeartbeats 8000000
theorem sus_til {l : List SU} (h : susB l = true) {k : Int} {fund : ByteArray} : ∀ x ∈ visS l k fund, 0 ≤ x.til ∧ x.til ≤ 73048 := fun x hx => by
  have hm := (pickS_mem _ hx).1
  obtain ⟨i, hi⟩ := List.getElem?_of_mem hm
  unfold susB at h
  simp only [Bool.and_eq_true] at h
  have hok := (susFrom_get l 0 i x h.2 hi).1
  unfold SU.ok at hok
  simp only [Bool.and_eq_true] at hok
  have h2 := hok.2
  split at h2
  · simp at h2
    omega
  · simp [spanB] at h2
    omega
/-- The program's last. -/
def lpS (d : Int) (L : List SU) : Int := if actB L d = true then lastC d L else -1
theorem lpS_nil (d : Int) : lpS d [] = -1 := rfl
theorem lpS_no {L : List SU} {i : Nat} {x : SU} {d : Int} (hx : L[i]? = some x) (hc : covB x d = false) : lpS d (L.take (i + 1)) = lpS d (L.take i) := by
  unfold lpS
  rw [act_snoc hx, last_no hx hc, hc, Bool.or_false]
theorem lpS_yes {L : List SU} {i : Nat} {x : SU} {d : Int} (hx : L[i]? = some x) (hc : covB x d = true) (h0 : 0 ≤ x.til) : lpS d (L.take (i + 1)) = max (lpS d (L.take i)) x.til := by
  have hnil : actB (L.take i) d = false → lastC d (L.take i) = 0 := fun h => by
    generalize L.take i = M at h
    induction M with
    | nil => rfl
    | cons y r ih =>
      simp [actB] at h
      unfold lastC
      rw [if_neg (by simp [h.1])]
      exact ih (by simp [actB]; exact h.2)
  unfold lpS
  rw [act_snoc hx, last_yes hx hc, hc, Bool.or_true, if_pos rfl]
  cases ha : actB (L.take i) d
  · rw [hnil ha]
    simp
    omega
  · simp
theorem open_in {L : List SU} {i : Nat} {x : SU} {d : Int} (hx : L[i]? = some x) (hc : covB x d = true) (h0 : x.til = 0) : openB L d = true := by
  unfold openB
  rw [List.any_eq_true]
  exact ⟨x, List.mem_of_getElem? hx, by simp [hc, h0]⟩
theorem next_hi {s : SC} {z : ZN} {c : CN} {d v : Int} (h : NextR s z c d v 0) : v ≤ 73048 := by
  rcases h with ⟨-, hn, -⟩ | ⟨-, -, h1, hn⟩ | ⟨-, -, ⟨-, -, hn⟩ | ⟨hr, -⟩⟩
  · exact absurd rfl hn
  · omega
  · omega
  · exact (fromP_spec hr).2.1
set_option maxRecDepth 100000 in
theorem sMove_ok {l : List SU} {k : Int} {fund : ByteArray} {d v er : Int} (hr : ChkR l k fund d 0) (hfu : fund.size ≤ maxLen) (s : SC) (z : ZN) (A : Option Addr) (kz : Nat) (c : CN) (Ac : Option Addr) (kc : Nat) (Al : Option Addr) (cp : Nat) (w : World) (hz : ZAt w z A) (hc : CAt w c Ac) (h : SuAt w Al l)
    (h1 : z.ok = true) (h2 : c.ok = true) (h3 : s.ok = true) {nx : Int → Int × Int} (hnx : NxR s z c nx) (hm : mov nx (visS l k fund) d = (v, er)) :
    Calls Tryz.prog 13 #[.slice Al l.length cp, .int .i64 k, .string fund, .agg (sV s), .agg (pV z A kz c Ac kc), .int .i64 d] w (RetB (.tuple #[.int .i64 v, .int .i64 er]) w) := by
  obtain ⟨va, ha⟩ := act_of_chk hr
  have HM := Lib.hid (MB.new s kz kc hz hc h)
  have hcall := sAct_is ha hfu Al cp _ HM.out.su
  have hall : susB l = true ∧ knB k = true ∧ nmB fund = true ∧ dayB d = true := by
    rcases hr with ⟨a, b⟩ | ⟨a, b, c⟩ | ⟨a, b, c, e1⟩ | ⟨a, b, c, d1, e1⟩ | ⟨a, b, c, d1, e1⟩
    · omega
    · omega
    · omega
    · omega
    · exact ⟨a, b, c, d1⟩
  obtain ⟨a1, a2, a3, a4⟩ := hall
  obtain ⟨hd1, hd2⟩ := (dayB_iff d).1 a4
  have Z := Lib.hid (ZN.err_of_ok h1)
  have C := Lib.hid (CN.err_of_ok h2)
  have S := Lib.hid (SC.err_of_ok h3)
  have NX := Lib.hid hnx
  have hvis := fun w h => sVisS_ok l a1 k a2 fund hfu a3 Al cp w h
  have HLEN := Lib.hid (visS_len2 a1 k fund)
  have HSM := Lib.hid (visS_small (k := k) (fund := fund) h.small)
  have HTIL := Lib.hid (sus_til a1 (k := k) (fund := fund))
  obtain ⟨L, hL⟩ : ∃ L, visS l k fund = L := ⟨_, rfl⟩
  rw [hL] at hvis HLEN HSM HTIL hm
  have HMV := Lib.hid hm
  clear hr ha hz hc h h1 h2 h3 a1 a2 a3 a4 hnx hL hm
  go_enter Tryz.func13, Tryz.ntmps13
  go_wp2_with fail
  go_step3
  go_wp2_with fail
  refine hcall.mono ?_
  rintro e w1 ⟨rfl, hb⟩
  have HB := Lib.hid (HM.out.next hb)
  clear hb HM hcall
  go_wp2_with fail
  have HD := Lib.hid (HB.out.next ((Below.refl _ _).drew))
  go_region_held3 (fun W => (W.cell? ⟨w.heap.size, 0, none⟩ = some (.int .i64 s.period) ∧ W.cell? ⟨w.heap.size, 1, none⟩ = some (.int .i64 s.nth) ∧ W.cell? ⟨w.heap.size, 2, none⟩ = some (.int .i64 s.notice) ∧ W.cell? ⟨w.heap.size, 3, none⟩ = some (.int .i64 s.settle) ∧ W.cell? ⟨w.heap.size, 4, none⟩ = some (.int .i64 s.cutoff)) ∧ (W.cell? ⟨w.heap.size + 1, 0, none⟩ = some (.string z.name) ∧ W.cell? ⟨w.heap.size + 1, 1, none⟩ = some (.int .i64 z.off) ∧ W.cell? ⟨w.heap.size + 1, 2, none⟩ = some (.slice A z.cs.length kz) ∧ W.cell? ⟨w.heap.size + 1, 3, none⟩ = some (.string c.name) ∧ W.cell? ⟨w.heap.size + 1, 4, none⟩ = some (.bool c.w0) ∧ W.cell? ⟨w.heap.size + 1, 5, none⟩ = some (.bool c.w1) ∧ W.cell? ⟨w.heap.size + 1, 6, none⟩ = some (.bool c.w2) ∧ W.cell? ⟨w.heap.size + 1, 7, none⟩ = some (.bool c.w3) ∧ W.cell? ⟨w.heap.size + 1, 8, none⟩ = some (.bool c.w4) ∧ W.cell? ⟨w.heap.size + 1, 9, none⟩ = some (.bool c.w5) ∧ W.cell? ⟨w.heap.size + 1, 10, none⟩ = some (.bool c.w6) ∧ W.cell? ⟨w.heap.size + 1, 11, none⟩ = some (.slice Ac c.hs.length kc)) ∧ MB w W s z A kz c Ac kc l Al)
    ((first
      | (with_reducible exact HA3.out.q)
      | (with_reducible exact (HA3.out.next (bal0 _ _)).q)
      | (with_reducible exact HA2.out.q)
      | (with_reducible exact HA1.out.q)
      | (with_reducible exact HD.out.q)))
    (first
      | (go_at_call 33; (with_reducible refine (zcheck_is Z.out A kz _ HD.out.za).mono ?_); rintro e w2 ⟨rfl, hb2⟩; have HA1 := Lib.hid (HD.out.next hb2))
      | (go_at_call 34; (with_reducible refine (ccheck_is C.out Ac kc _ HA1.out.ca).mono ?_); rintro e w3 ⟨rfl, hb3⟩; have HA2 := Lib.hid (HA1.out.next hb3))
      | (go_at_call 35; (with_reducible refine (scheck_is S.out _).mono ?_); rintro e w4 ⟨rfl, hb4⟩; have HA3 := Lib.hid (HA2.out.next hb4)))
  have HE := Lib.hid (HA3.out.next (bal0 _ (.cells #[.int .i64 0, .int .i64 0, .int .i64 0] 40)))
  clear HA1 HA2 HA3 HD HB Z C S
  try clear hHeld
  go_wp2_with fail
  go_loop [46] (fun iv => ∃ i : Nat, i ≤ 3 ∧ iv = .int .i64 i) (fun iv => 3 - (intOf iv).toNat)
  case atStart => exact ⟨0, by omega, rfl⟩
  case round =>
    obtain ⟨i, hi, rfl⟩ := hrel
    have hcs : i = 0 ∨ i = 1 ∨ i = 2 ∨ i = 3 := by omega
    clear hi
    rcases hcs with rfl | rfl | rfl | rfl
    · go_wp2_with fail
      go_round
      case rel => exact ⟨1, by omega, rfl⟩
      case measure => simp [intOf]
    · go_wp2_with fail
      go_round
      case rel => exact ⟨2, by omega, rfl⟩
      case measure => simp [intOf]
    · go_wp2_with fail
      go_round
      case rel => exact ⟨3, by omega, rfl⟩
      case measure => simp [intOf]
    · go_wp2_with fail
      refine (hvis _ HE.out.su).mono ?_
      rintro e w5 ⟨v5, rfl, hO⟩
      obtain ⟨A5, cap5, rfl, hS5⟩ := hO.sus HSM.out HLEN.out
      have HF := Lib.hid (HE.out.next hO.below)
      have HS5 := Lib.hid hS5
      clear hO hS5 hvis HE
      go_wp2_with fail
      go_step3
      go_wp2_with fail
      have HIN : Hid (∀ x ∈ L, x.til ≤ 73048) := Lib.hid (fun x hx => (HTIL.out x hx).2)
      go_loopw [5] (fun dv wr => ∃ d' : Int, 0 ≤ d' ∧ d' ≤ 73049 ∧ dv = .int .i64 d' ∧ mov nx L d' = (v, er) ∧ SuAt wr A5 L ∧ MB w wr s z A kz c Ac kc l Al) (fun dv _ => (73051 - intOf dv).toNat)
      case atStart => exact ⟨d, hd1, by omega, rfl, HMV.out, HS5.out, HF.out⟩
      case round =>
        obtain ⟨d', e1, e2, rfl, hmv, hS6, hF6⟩ := hrel
        have HM6 := Lib.hid hmv
        have HS6 := Lib.hid hS6
        have HF6 := Lib.hid hF6
        clear hmv hS6 hF6 HS5 HF HMV
        obtain ⟨n, en, hne⟩ : ∃ n en, nx d' = (n, en) := ⟨_, _, rfl⟩
        have hN := NX.out d'
        rw [hne] at hN
        have HN := Lib.hid hN
        have HNE := Lib.hid hne
        clear hN hne
        go_wp2_with (first
          | ((with_reducible refine wpl_load rfl 26 _ rfl _ ?_ HF6.out.sb (rowS _) ?_); exact rfl)
          | ((with_reducible refine wpl_load rfl 35 _ rfl _ ?_ HF6.out.pb (rowP ..) ?_); exact rfl))
        refine (sNextR kz kc HN.out HF6.out.za HF6.out.ca).mono ?_
        rintro e w7 ⟨rfl, hb7⟩
        have HF7 := Lib.hid (HF6.out.next hb7)
        have HS7 := Lib.hid (HS6.out.below hb7)
        clear HF6 HS6 hb7
        by_cases hen : en = 0
        · subst hen
          have hle := NX.out.le d' (by rw [HNE.out])
          rw [HNE.out] at hle
          have hn0 : d' ≤ n := hle
          have hn1 : n ≤ 73048 := next_hi HN.out
          clear hle
          have hLl : L.length ≤ 4096 := HLEN.out
          go_wp2_with fail
          go_loopw [22, 73] (fun lv iv wr2 => ∃ i : Nat, i ≤ L.length ∧ iv = .int .i64 i ∧ lv = .int .i64 (lpS n (L.take i)) ∧ openB (L.take i) n = false ∧ Below w7.heap.size w7 wr2) (fun _ iv _ => L.length - (intOf iv).toNat)
          case atStart => exact ⟨0, by omega, rfl, rfl, rfl, Below.refl _ _⟩
          case round =>
            obtain ⟨i, hi, rfl, rfl, hop, hB⟩ := hrel
            have HOP := Lib.hid hop
            clear hop
            by_cases hlt : i < L.length
            · obtain ⟨b, o, x, rfl, hx, hbl, hsm, q0, q1, q2, q3, q4, q5⟩ := (HS7.out.below hB).get hlt
              have HX := Lib.hid hx
              have htl := HTIL.out x (List.mem_of_getElem? hx)
              obtain ⟨ht0, ht1⟩ := htl
              obtain ⟨p0, p1, p2, p3, p4, p5⟩ := suQ (BlkAt.new wr (suV x) 77)
              have HSU := Lib.hid (BlkAt.new wr (suV x) 77)
              have HBB := Lib.hid (bal hB (.cells (suV x) 77))
              have HOS := Lib.hid (open_snoc (d := n) hx)
              clear hx hB
              cases hcv : covB x n
              · have hcc := covers_is hcv
                have HCV := Lib.hid hcv
                clear hcv
                go_wp2_with (first
                  | ((with_reducible refine wpl_store_new rfl 77 _ _ rfl (suV x) ?_ ?_ (rowSu _) ?_ ?_); exact rfl; exact rfl; exact rfl)
                  | (go_at_call 38; refine (hcc _).mono ?_; rintro e w8 ⟨rfl, hb8⟩))
                go_roundw
                case rel => exact ⟨i + 1, by omega, by go_num, by rw [lpS_no HX.out HCV.out], by rw [HOS.out, HOP.out, HCV.out]; rfl, bnext HBB.out hb8⟩
                case measure => simp [intOf]; omega
              · have hcc := covers_is hcv
                have HCV := Lib.hid hcv
                clear hcv
                by_cases hz0 : x.til = 0
                · have g2 : (x.til == 0) = true := by simpa using hz0
                  have HOL := Lib.hid (open_in HX.out HCV.out hz0)
                  have FIN : Hid ((0, 281) = (v, er)) := Lib.hid (by rw [← HM6.out, mov_open (by omega) (by rw [HNE.out]) (by rw [HNE.out]; exact HOL.out)])
                  clear hz0 ht0 ht1
                  go_wp2_with (first
                    | ((with_reducible refine wpl_store_new rfl 77 _ _ rfl (suV x) ?_ ?_ (rowSu _) ?_ ?_); exact rfl; exact rfl; exact rfl)
                    | (go_at_call 38; refine (hcc _).mono ?_; rintro e w8 ⟨rfl, hb8⟩; obtain ⟨y0, y1, y2, y3, y4, y5⟩ := suQ (HSU.out.next hb8)))
                  try rw [Exit.noGoto_ret]
                  go_ret2
                  exact ⟨ret_two (congrArg Prod.fst FIN.out) (congrArg Prod.snd FIN.out), (HF7.out.next (bnext HBB.out hb8)).below⟩
                · have g2 : (x.til == 0) = false := by simpa using hz0
                  have HZ0 : Hid (decide (x.til = 0) = false) := Lib.hid (by simp [hz0])
                  clear hz0
                  go_wp2_with (first
                    | ((with_reducible refine wpl_store_new rfl 77 _ _ rfl (suV x) ?_ ?_ (rowSu _) ?_ ?_); exact rfl; exact rfl; exact rfl)
                    | (go_at_call 38; refine (hcc _).mono ?_; rintro e w8 ⟨rfl, hb8⟩; obtain ⟨y0, y1, y2, y3, y4, y5⟩ := suQ (HSU.out.next hb8)))
                  all_goals
                    go_roundw
                    case rel => exact ⟨i + 1, by omega, by go_num, by rw [lpS_yes HX.out HCV.out ht0], by rw [HOS.out, HOP.out, HCV.out, HZ0.out]; rfl, bnext HBB.out hb8⟩
                    case measure => simp [intOf]; omega
            · have hie : i = L.length := by omega
              have HOL : Hid (openB L n = false) := Lib.hid (by have := HOP.out; rw [hie, List.take_length] at this; exact this)
              rw [hie, List.take_length]
              have HBB := Lib.hid hB
              clear hie hB
              have hlb := lastC_bd (d := n) L HIN.out
              obtain ⟨hlb1, hlb2⟩ := hlb
              cases hac : actB L n
              · have hlp : lpS n L = -1 := by unfold lpS; rw [if_neg (by simp [hac])]
                have FIN : Hid ((n, 0) = (v, er)) := Lib.hid (by rw [← HM6.out, mov_stay (by omega) (by rw [HNE.out]) (by rw [HNE.out]; exact HOL.out) (by rw [HNE.out]; exact hac), HNE.out])
                rw [hlp]
                clear hlp hac hlb1 hlb2
                go_wp2_with fail
                try rw [Exit.noGoto_ret]
                go_ret2
                exact ⟨ret_two (congrArg Prod.fst FIN.out) (congrArg Prod.snd FIN.out), (HF7.out.next HBB.out).below⟩
              · have hlp : lpS n L = lastC n L := by unfold lpS; rw [if_pos hac]
                have hgo := mov_go HIN.out (fun d h => NX.out.le d h) (fun d h => NX.out.hi d h) (d := d') (l := L) (by rw [HNE.out]) (by rw [HNE.out]; exact HOL.out) (by rw [HNE.out]; exact hac)
                rw [HNE.out] at hgo
                obtain ⟨hgo1, hgo2⟩ := hgo
                have HGO : Hid (mov nx L (lastC n L + 1) = (v, er)) := Lib.hid (by rw [← HM6.out]; exact hgo1.symm)
                have hgo3 : d' ≤ lastC n L := hgo2
                rw [hlp]
                obtain ⟨la, hla⟩ : ∃ la, lastC n L = la := ⟨_, rfl⟩
                rw [hla] at hgo3 hlb1 hlb2 HGO ⊢
                clear hlp hac hgo1 hgo2 hla
                go_wp2_with fail
                go_roundw
                case rel => exact ⟨la + 1, by omega, by omega, rfl, HGO.out, HS7.out.below HBB.out, HF7.out.next HBB.out⟩
                case measure => simp [intOf]; omega
        · have g1 : (en != 0) = true := by rw [bne_iff_ne]; exact hen
          have FIN : Hid ((0, en) = (v, er)) := Lib.hid (by rw [← HM6.out, mov_err (by omega) (by rw [HNE.out]; exact hen), HNE.out])
          clear hen
          go_wp2_with fail
          try rw [Exit.noGoto_ret]
          go_ret2
          exact ⟨ret_two (congrArg Prod.fst FIN.out) (congrArg Prod.snd FIN.out), HF7.out.below⟩
end
section
open Go.RowKit
set_option linter.unusedVariables false
set_option maxHeartbeats 8000000
theorem ne0 {e : Int} (h : e ≠ 0) : (e != 0) = true := by rw [bne_iff_ne]; exact h
set_option maxRecDepth 100000 in
theorem place_is (s : SC) (z : ZN) (A : Option Addr) (kz : Nat) (c : CN) (Ac : Option Addr) (kc : Nat) (w : World) (hz : ZAt w z A) (hc : CAt w c Ac) : Calls Tryz.prog 40 #[.agg (sV s), .agg (pV z A kz c Ac kc)] w (RetB (.int .i64 (err3 z.err c.err s.err)) w) := by
  have HM := Lib.hid (MB.new s kz kc hz hc (l := []) (Al := none) ⟨RecsAt.nil .., fun x h => by simp at h⟩)
  obtain ⟨ez, hez⟩ : ∃ ez, z.err = ez := ⟨_, rfl⟩
  obtain ⟨ec, hec⟩ : ∃ ec, c.err = ec := ⟨_, rfl⟩
  obtain ⟨es, hes⟩ : ∃ es, s.err = es := ⟨_, rfl⟩
  rw [hez, hec, hes]
  have Z := Lib.hid hez
  have C := Lib.hid hec
  have S := Lib.hid hes
  obtain ⟨-, ⟨r0, r1, r2, -⟩, -⟩ := HM.out.q
  clear hz hc hez hec hes
  by_cases h1 : ez = 0
  · have H1 := Lib.hid h1
    have g1 : (ez != 0) = false := by simp [h1]
    clear h1
    go_enter Tryz.func40, Tryz.ntmps40
    go_wp2_with fail
    refine (refCheck_is Z.out A kz _ HM.out.za).mono ?_
    rintro e w1 ⟨rfl, hb1⟩
    have HM1 := Lib.hid (HM.out.next hb1)
    clear HM r0 r1 r2 hb1
    by_cases h2 : ec = 0
    · have H2 := Lib.hid h2
      have g2 : (ec != 0) = false := by simp [h2]
      clear h2
      go_wp2_with ((with_reducible refine wpl_load_mid rfl 33 _ rfl _ 3 ?_ HM1.out.pb ?_ (rowC c Ac kc) ?_); exact rfl; exact rfl)
      refine (rcheck_is C.out Ac kc _ HM1.out.ca).mono ?_
      rintro e w2 ⟨rfl, hb2⟩
      have HM2 := Lib.hid (HM1.out.next hb2)
      clear HM1 hb2
      go_wp2_with ((with_reducible refine wpl_load rfl 26 _ rfl _ ?_ HM2.out.sb (rowS _) ?_); exact rfl)
      refine (r9check_is S.out _).mono ?_
      rintro e w3 ⟨rfl, hb3⟩
      have HM3 := Lib.hid (HM2.out.next hb3)
      clear HM2 hb3
      go_wp2_with fail
      go_ret
      exact ⟨ret_int (by unfold err3; rw [if_neg (by simp [H1.out]), if_neg (by simp [H2.out])]), HM3.out.below⟩
    · have H2 := Lib.hid h2
      have g2 := ne0 h2
      clear h2
      go_wp2_with ((with_reducible refine wpl_load_mid rfl 33 _ rfl _ 3 ?_ HM1.out.pb ?_ (rowC c Ac kc) ?_); exact rfl; exact rfl)
      refine (rcheck_is C.out Ac kc _ HM1.out.ca).mono ?_
      rintro e w2 ⟨rfl, hb2⟩
      have HM2 := Lib.hid (HM1.out.next hb2)
      clear HM1 hb2
      go_wp2_with fail
      go_ret
      exact ⟨ret_int (by unfold err3; rw [if_neg (by simp [H1.out]), if_pos H2.out]), HM2.out.below⟩
  · have H1 := Lib.hid h1
    have g1 := ne0 h1
    clear h1
    go_enter Tryz.func40, Tryz.ntmps40
    go_wp2_with fail
    refine (refCheck_is Z.out A kz _ HM.out.za).mono ?_
    rintro e w1 ⟨rfl, hb1⟩
    have HM1 := Lib.hid (HM.out.next hb1)
    clear HM r0 r1 r2 hb1
    go_wp2_with fail
    go_ret
    exact ⟨ret_int (by unfold err3; rw [if_pos H1.out]), HM1.out.below⟩
set_option maxRecDepth 100000 in
theorem rMove_chk {l : List SU} {k : Int} {fund : ByteArray} {d e : Int} (hr : ChkR l k fund d e) (hn : e ≠ 0) (hfu : fund.size ≤ maxLen) (s : SC) (z : ZN) (A : Option Addr) (kz : Nat) (c : CN) (Ac : Option Addr) (kc : Nat) (Al : Option Addr) (cp : Nat) (w : World) (hz : ZAt w z A) (hc : CAt w c Ac) (h : SuAt w Al l) :
    Calls Tryz.prog 14 #[.slice Al l.length cp, .int .i64 k, .string fund, .agg (sV s), .agg (pV z A kz c Ac kc), .int .i64 d] w (RetB (.tuple #[.int .i64 0, .int .i64 e]) w) := by
  have HM := Lib.hid (MB.new s kz kc hz hc h)
  have hcall := rchk_is hr hfu Al cp _ HM.out.su
  have g1 := ne0 hn
  clear hr hn hz hc h
  go_enter Tryz.func14, Tryz.ntmps14
  go_wp2_with fail
  refine hcall.mono ?_
  rintro e w1 ⟨rfl, hb⟩
  have HB := Lib.hid (bnext HM.out.below hb)
  clear hb HM
  go_wp2_with fail
  go_ret2
  exact ⟨rfl, HB.out⟩
set_option maxRecDepth 100000 in
theorem rMove_err {l : List SU} {k : Int} {fund : ByteArray} {d e : Int} (hr : ChkR l k fund d 0) (hfu : fund.size ≤ maxLen) (s : SC) (z : ZN) (A : Option Addr) (kz : Nat) (c : CN) (Ac : Option Addr) (kc : Nat) (Al : Option Addr) (cp : Nat) (w : World) (hz : ZAt w z A) (hc : CAt w c Ac) (h : SuAt w Al l)
    (he : err3 z.err c.err s.err = e) (hn : e ≠ 0) :
    Calls Tryz.prog 14 #[.slice Al l.length cp, .int .i64 k, .string fund, .agg (sV s), .agg (pV z A kz c Ac kc), .int .i64 d] w (RetB (.tuple #[.int .i64 0, .int .i64 e]) w) := by
  have HM := Lib.hid (MB.new s kz kc hz hc h)
  have hcall := rchk_is hr hfu Al cp _ HM.out.su
  have hpl := fun w hz hc => place_is s z A kz c Ac kc w hz hc
  rw [he] at hpl
  have g1 := ne0 hn
  clear hr hn hz hc h he
  go_enter Tryz.func14, Tryz.ntmps14
  go_wp2_with fail
  refine hcall.mono ?_
  rintro e w1 ⟨rfl, hb⟩
  have HB := Lib.hid (HM.out.next hb)
  clear hb HM hcall
  go_wp2_with (first
    | ((with_reducible refine wpl_load rfl 26 _ rfl _ ?_ HB.out.sb (rowS _) ?_); exact rfl)
    | ((with_reducible refine wpl_load rfl 35 _ rfl _ ?_ HB.out.pb (rowP ..) ?_); exact rfl))
  refine (hpl _ HB.out.za HB.out.ca).mono ?_
  rintro e w2 ⟨rfl, hb2⟩
  have HB2 := Lib.hid (HB.out.next hb2)
  clear hb2 HB
  go_wp2_with fail
  go_ret2
  exact ⟨rfl, HB2.out.below⟩
set_option maxRecDepth 100000 in
theorem rMove_ok {l : List SU} {k : Int} {fund : ByteArray} {d v er : Int} (hr : ChkR l k fund d 0) (hfu : fund.size ≤ maxLen) (s : SC) (z : ZN) (A : Option Addr) (kz : Nat) (c : CN) (Ac : Option Addr) (kc : Nat) (Al : Option Addr) (cp : Nat) (w : World) (hz : ZAt w z A) (hc : CAt w c Ac) (h : SuAt w Al l)
    (h1 : z.ok = true) (h2 : c.ok = true) (h3 : s.ok = true) (htil : susB l = true → ∀ x ∈ visS l k fund, 0 ≤ x.til ∧ x.til ≤ 73048) {nx : Int → Int × Int} (hnx : NxR s z c nx) (hm : mov nx (visS l k fund) d = (v, er)) :
    Calls Tryz.prog 14 #[.slice Al l.length cp, .int .i64 k, .string fund, .agg (sV s), .agg (pV z A kz c Ac kc), .int .i64 d] w (RetB (.tuple #[.int .i64 v, .int .i64 er]) w) := by
  have HM := Lib.hid (MB.new s kz kc hz hc h)
  have hcall := rchk_is hr hfu Al cp _ HM.out.su
  have hpl := fun w hz hc => place_is s z A kz c Ac kc w hz hc
  have he : err3 z.err c.err s.err = 0 := by
    rw [ZN.err_of_ok h1, CN.err_of_ok h2, SC.err_of_ok h3]
    rfl
  rw [he] at hpl
  have hall : susB l = true ∧ dayB d = true := by
    rcases hr with ⟨a, b⟩ | ⟨a, b, c⟩ | ⟨a, b, c, e1⟩ | ⟨a, b, c, d1, e1⟩ | ⟨a, b, c, d1, e1⟩
    · omega
    · omega
    · omega
    · omega
    · exact ⟨a, d1⟩
  obtain ⟨a1, a4⟩ := hall
  obtain ⟨hd1, hd2⟩ := (dayB_iff d).1 a4
  have NX := Lib.hid hnx
  have hvis := fun w h => rVisS_ok l a1 k fund hfu Al cp w h
  have HLEN := Lib.hid (visS_len2 a1 k fund)
  have HSM := Lib.hid (visS_small (k := k) (fund := fund) h.small)
  have HTIL := Lib.hid (htil a1)
  obtain ⟨L, hL⟩ : ∃ L, visS l k fund = L := ⟨_, rfl⟩
  rw [hL] at hvis HLEN HSM HTIL hm
  have HMV := Lib.hid hm
  clear hr hz hc h h1 h2 h3 a1 a4 hnx hL hm he htil
  go_enter Tryz.func14, Tryz.ntmps14
  go_wp2_with fail
  refine hcall.mono ?_
  rintro e w1 ⟨rfl, hb⟩
  have HB := Lib.hid (HM.out.next hb)
  clear hb HM hcall
  go_wp2_with (first
    | ((with_reducible refine wpl_load rfl 26 _ rfl _ ?_ HB.out.sb (rowS _) ?_); exact rfl)
    | ((with_reducible refine wpl_load rfl 35 _ rfl _ ?_ HB.out.pb (rowP ..) ?_); exact rfl))
  refine (hpl _ HB.out.za HB.out.ca).mono ?_
  rintro e w2 ⟨rfl, hb2⟩
  have HB2 := Lib.hid (HB.out.next hb2)
  clear hb2 HB hpl
  go_wp2_with fail
  refine (hvis _ HB2.out.su).mono ?_
  rintro e w5 ⟨v5, rfl, hO⟩
  obtain ⟨A5, cap5, rfl, hS5⟩ := hO.sus HSM.out HLEN.out
  have HF := Lib.hid (HB2.out.next hO.below)
  have HS5 := Lib.hid hS5
  clear hO hS5 hvis HB2
  go_wp2_with fail
  have HIN : Hid (∀ x ∈ L, x.til ≤ 73048) := Lib.hid (fun x hx => (HTIL.out x hx).2)
  have hLl : L.length ≤ 4096 := HLEN.out
  go_loopw [5] (fun dv wr => ∃ d' : Int, 0 ≤ d' ∧ d' ≤ 73049 ∧ dv = .int .i64 d' ∧ mov nx L d' = (v, er) ∧ SuAt wr A5 L ∧ MB w wr s z A kz c Ac kc l Al) (fun dv _ => (73051 - intOf dv).toNat)
  case atStart => exact ⟨d, hd1, by omega, rfl, HMV.out, HS5.out, HF.out⟩
  case round =>
    obtain ⟨d', e1, e2, rfl, hmv, hS6, hF6⟩ := hrel
    have HM6 := Lib.hid hmv
    have HS6 := Lib.hid hS6
    have HF6 := Lib.hid hF6
    clear hmv hS6 hF6 HS5 HF HMV
    obtain ⟨n, en, hne⟩ : ∃ n en, nx d' = (n, en) := ⟨_, _, rfl⟩
    have hN := NX.out d'
    rw [hne] at hN
    have HN := Lib.hid hN
    have HNE := Lib.hid hne
    clear hN hne
    go_wp2_with (first
      | ((with_reducible refine wpl_load rfl 26 _ rfl _ ?_ HF6.out.sb (rowS _) ?_); exact rfl)
      | ((with_reducible refine wpl_load rfl 35 _ rfl _ ?_ HF6.out.pb (rowP ..) ?_); exact rfl))
    refine (rNextR kz kc HN.out HF6.out.za HF6.out.ca).mono ?_
    rintro e w7 ⟨rfl, hb7⟩
    have HF7 := Lib.hid (HF6.out.next hb7)
    have HS7 := Lib.hid (HS6.out.below hb7)
    clear HF6 HS6 hb7
    by_cases hen : en = 0
    · subst hen
      have hcv := covered_any L n hLl A5 cap5 _ HS7.out
      have hlb := lastC_bd (d := n) L HIN.out
      obtain ⟨hlb1, hlb2⟩ := hlb
      cases hac : actB L n
      · have HOPN : Hid (openB L n = false) := Lib.hid (by
          cases ho : openB L n
          · rfl
          · unfold openB at ho
            rw [List.any_eq_true] at ho
            obtain ⟨x, hx, hc⟩ := ho
            simp only [Bool.and_eq_true] at hc
            have : actB L n = true := by
              unfold actB
              rw [List.any_eq_true]
              exact ⟨x, hx, hc.1⟩
            rw [hac] at this
            cases this)
        have FIN : Hid ((n, 0) = (v, er)) := Lib.hid (by rw [← HM6.out, mov_stay (by omega) (by rw [HNE.out]) (by rw [HNE.out]; exact HOPN.out) (by rw [HNE.out]; exact hac), HNE.out])
        rw [hac] at hcv
        clear hac
        go_wp2_with fail
        refine hcv.mono ?_
        rintro e w8 ⟨rfl, hb8⟩
        go_wp2_with fail
        go_ret2
        exact ⟨ret_two (congrArg Prod.fst FIN.out) (congrArg Prod.snd FIN.out), (HF7.out.next hb8).below⟩
      · cases hop : openB L n
        · have hgo := mov_go HIN.out (fun d h => NX.out.le d h) (fun d h => NX.out.hi d h) (d := d') (l := L) (by rw [HNE.out]) (by rw [HNE.out]; exact hop) (by rw [HNE.out]; exact hac)
          rw [HNE.out] at hgo
          obtain ⟨hgo1, hgo2⟩ := hgo
          have HGO : Hid (mov nx L (lastC n L + 1) = (v, er)) := Lib.hid (by rw [← HM6.out]; exact hgo1.symm)
          have hgo3 : d' ≤ lastC n L := hgo2
          rw [hac, hop] at hcv
          obtain ⟨la, hla⟩ : ∃ la, lastC n L = la := ⟨_, rfl⟩
          rw [hla] at hgo3 hlb1 hlb2 HGO hcv
          clear hac hop hgo1 hgo2 hla
          go_wp2_with fail
          refine hcv.mono ?_
          rintro e w8 ⟨rfl, hb8⟩
          go_wp2_with fail
          go_roundw
          case rel => exact ⟨la + 1, by omega, by omega, rfl, HGO.out, HS7.out.below hb8, HF7.out.next hb8⟩
          case measure => simp [intOf]; omega
        · have FIN : Hid ((0, 281) = (v, er)) := Lib.hid (by rw [← HM6.out, mov_open (by omega) (by rw [HNE.out]) (by rw [HNE.out]; exact hop)])
          rw [hac, hop] at hcv
          clear hac hop
          go_wp2_with fail
          refine hcv.mono ?_
          rintro e w8 ⟨rfl, hb8⟩
          go_wp2_with fail
          go_ret2
          exact ⟨ret_two (congrArg Prod.fst FIN.out) (congrArg Prod.snd FIN.out), (HF7.out.next hb8).below⟩
    · have g1 : (en != 0) = true := by rw [bne_iff_ne]; exact hen
      have FIN : Hid ((0, en) = (v, er)) := Lib.hid (by rw [← HM6.out, mov_err (by omega) (by rw [HNE.out]; exact hen), HNE.out])
      clear hen
      go_wp2_with fail
      go_ret2
      exact ⟨ret_two (congrArg Prod.fst FIN.out) (congrArg Prod.snd FIN.out), HF7.out.below⟩
end
end Go.Proofs.YtffmmkjoknghoaaGreat
