/-
  Whether a day is suspended: the program's and the document's.
  Whether a day is suspended: the document's.
-/
import Derived.Test.YtffmmkjoknghoaaSusVis
import Derived.BigQuiet
import Derived.Deep.QuietTactic
namespace Go.Proofs.Ytffmmkjoknghoaa
section
open Go.RowKit
set_option linter.unusedVariables false
set_option maxHeartbeats 4000000
theorem OwnL.sus {w W : World} {v : Value} {n : Nat} {L : List SU} (h : OwnL w W 61 6 v n (suL L).flatten) (hs : ∀ x ∈ L, x.small) (hl : L.length ≤ 4096) : ∃ A' cap, v = .slice A' L.length cap ∧ SuAt W A' L := by
  have hml : (suL L).length = L.length := by simp [suL]
  obtain ⟨hn, A', cap, rfl, hr, -⟩ := h.recs (suL_len L) (by decide) (by rw [hml]; omega)
  exact ⟨A', cap, by rw [hn, hml], hr, hs⟩
theorem visS_small {l : List SU} {k : Int} {fund : ByteArray} (h : ∀ x ∈ l, x.small) : ∀ x ∈ visS l k fund, x.small := fun x hx => h x (pickS_mem _ hx).1
/-- What Active answers. -/
def ActR (l : List SU) (k : Int) (fund : ByteArray) (d : Int) (v : Bool) (e : Int) : Prop :=
  (susB l = false ∧ v = false ∧ e = 280) ∨ (susB l = true ∧ knB k = false ∧ v = false ∧ e = 240) ∨ (susB l = true ∧ knB k = true ∧ nmB fund = false ∧ v = false ∧ e = 241) ∨
  (susB l = true ∧ knB k = true ∧ nmB fund = true ∧ dayB d = false ∧ v = false ∧ e = 50) ∨ (susB l = true ∧ knB k = true ∧ nmB fund = true ∧ dayB d = true ∧ v = actB (visS l k fund) d ∧ e = 0)
theorem act_ex (l : List SU) (k : Int) (fund : ByteArray) (d : Int) : ∃ v e, ActR l k fund d v e := by
  cases h1 : susB l
  · exact ⟨_, _, .inl ⟨h1, rfl, rfl⟩⟩
  cases h2 : knB k
  · exact ⟨_, _, .inr (.inl ⟨h1, h2, rfl, rfl⟩)⟩
  cases h3 : nmB fund
  · exact ⟨_, _, .inr (.inr (.inl ⟨h1, h2, h3, rfl, rfl⟩))⟩
  cases h4 : dayB d
  · exact ⟨_, _, .inr (.inr (.inr (.inl ⟨h1, h2, h3, h4, rfl, rfl⟩)))⟩
  · exact ⟨_, _, .inr (.inr (.inr (.inr ⟨h1, h2, h3, h4, rfl, rfl⟩)))⟩
theorem covers_is {x : SU} {d : Int} {v : Bool} (hv : covB x d = v) (w : World) : Calls Try.prog 55 #[.agg #[.string x.key, .string x.fund, .int .i64 x.frm, .int .i64 x.til, .int .i64 x.known, .bool x.void], .int .i64 d] w (RetB (.bool v) w) := by
  subst hv
  exact covers_any x d w
theorem any_drop {L : List SU} {i : Nat} {x : SU} (hx : L[i]? = some x) (d : Int) : actB (L.drop i) d = (covB x d || actB (L.drop (i + 1)) d) := by
  obtain ⟨hl, e⟩ := List.getElem?_eq_some_iff.1 hx
  rw [List.drop_eq_getElem_cons hl, e]
  rfl
set_option maxRecDepth 100000 in
theorem sAct_is {l : List SU} {k : Int} {fund : ByteArray} {d : Int} {v : Bool} {er : Int} (hr : ActR l k fund d v er) (hfu : fund.size ≤ maxLen) (A : Option Addr) (cp : Nat) (w : World) (h : SuAt w A l) : Calls Try.prog 26 #[.slice A l.length cp, .int .i64 k, .string fund, .int .i64 d] w (RetB (.tuple #[.bool v, .int .i64 er]) w) := by
  rcases hr with ⟨h1, rfl, rfl⟩ | ⟨h1, h2, rfl, rfl⟩ | ⟨h1, h2, h3, rfl, rfl⟩ | ⟨h1, h2, h3, h4, rfl, rfl⟩ | ⟨h1, h2, h3, h4, hv, rfl⟩
  · have hc := sVisS_bad1 l h1 k fund A cp w h
    clear h h1
    go_enter Try.func26, Try.ntmps26
    go_wp2_with (go_at_call 53; refine hc.mono ?_; rintro e w1 ⟨rfl, hb⟩)
    go_ret2
    exact ⟨rfl, hb⟩
  · have hc := sVisS_bad2 l h1 k h2 fund A cp w h
    clear h h1 h2
    go_enter Try.func26, Try.ntmps26
    go_wp2_with (go_at_call 53; refine hc.mono ?_; rintro e w1 ⟨rfl, hb⟩)
    go_ret2
    exact ⟨rfl, hb⟩
  · have hc := sVisS_bad3 l h1 k h2 fund hfu h3 A cp w h
    clear h h1 h2 h3
    go_enter Try.func26, Try.ntmps26
    go_wp2_with (go_at_call 53; refine hc.mono ?_; rintro e w1 ⟨rfl, hb⟩)
    go_ret2
    exact ⟨rfl, hb⟩
  · have hc := sVisS_ok l h1 k h2 fund hfu h3 A cp w h
    have h5 := dayB_no h4
    clear h h1 h2 h3 h4
    rcases h5 with h5 | h5
    · have h6 : d < 0 := by omega
      clear h5
      go_enter Try.func26, Try.ntmps26
      go_wp2_with fail
      refine hc.mono ?_
      rintro e w1 ⟨v1, rfl, hO⟩
      have hb := hO.below
      clear hO hc
      go_wp2_with fail
      go_ret2
      exact ⟨rfl, hb⟩
    · have h6 : 73048 < d := by omega
      clear h5
      go_enter Try.func26, Try.ntmps26
      go_wp2_with fail
      refine hc.mono ?_
      rintro e w1 ⟨v1, rfl, hO⟩
      have hb := hO.below
      clear hO hc
      go_wp2_with fail
      go_ret2
      exact ⟨rfl, hb⟩
  · have hc := sVisS_ok l h1 k h2 fund hfu h3 A cp w h
    obtain ⟨hd1, hd2⟩ := (dayB_iff d).1 h4
    have hln : (visS l k fund).length ≤ 4096 := Nat.le_trans (visS_len l k fund) (susB_len h1)
    have HSM := Lib.hid (visS_small (k := k) (fund := fund) h.small)
    obtain ⟨L, hL⟩ : ∃ L, visS l k fund = L := ⟨_, rfl⟩
    rw [hL] at hv hc hln HSM
    have HVV := Lib.hid hv
    clear h h1 h2 h3 h4 hL hv
    go_enter Try.func26, Try.ntmps26
    go_wp2_with fail
    refine hc.mono ?_
    rintro e w1 ⟨v1, rfl, hO⟩
    obtain ⟨A1, cap1, rfl, hS1⟩ := hO.sus HSM.out hln
    have HS1 := Lib.hid hS1
    have HB1 := Lib.hid hO.below
    clear hO hc hS1
    go_wp2_with fail
    go_loopw [32] (fun iv wr => ∃ i : Nat, i ≤ L.length ∧ iv = .int .i64 i ∧ actB L d = actB (L.drop i) d ∧ Below w1.heap.size w1 wr) (fun iv _ => L.length - (intOf iv).toNat)
    case atStart => exact ⟨0, by omega, rfl, rfl, Below.refl _ _⟩
    case round =>
      obtain ⟨i, hi, rfl, hE, hB⟩ := hrel
      have HE := Lib.hid hE
      clear hE
      by_cases hlt : i < L.length
      · have hS := HS1.out.below hB
        obtain ⟨b, o, x, rfl, hx, hbl, hsm, q0, q1, q2, q3, q4, q5⟩ := hS.get hlt
        obtain ⟨p0, p1, p2, p3, p4, p5⟩ := suQ (BlkAt.new wr (suV x) 61)
        have HD := Lib.hid (any_drop hx d)
        have hB2 := bal hB (.cells (suV x) 61)
        have HBB := Lib.hid hB2
        clear hx hS hB hB2
        cases hcv : covB x d
        · have hcc := covers_is hcv
          have HCV := Lib.hid hcv
          clear hcv
          go_wp2_with (first
            | ((with_reducible refine wpl_store_new rfl 61 _ _ rfl (suV x) ?_ ?_ (rowSu _) ?_ ?_); exact rfl; exact rfl; exact rfl)
            | (go_at_call 55; refine (hcc _).mono ?_; rintro e w2 ⟨rfl, hb2⟩))
          go_roundw
          case rel => exact ⟨i + 1, by omega, by go_num, by rw [HE.out, HD.out, HCV.out, Bool.false_or], bnext HBB.out hb2⟩
          case measure => simp [intOf]; omega
        · have hcc := covers_is hcv
          have HCV := Lib.hid hcv
          clear hcv
          go_wp2_with (first
            | ((with_reducible refine wpl_store_new rfl 61 _ _ rfl (suV x) ?_ ?_ (rowSu _) ?_ ?_); exact rfl; exact rfl; exact rfl)
            | (go_at_call 55; refine (hcc _).mono ?_; rintro e w2 ⟨rfl, hb2⟩))
          go_ret2
          exact ⟨by rw [HVV.out, HE.out, HD.out, HCV.out]; rfl, bnext HB1.out (bnext HBB.out hb2)⟩
      · go_wp2_with fail
        go_ret2
        exact ⟨by rw [HVV.out, HE.out, List.drop_of_length_le (by omega)]; rfl, bnext HB1.out hB⟩
end
section
open Go.RowKit
set_option linter.unusedVariables false
set_option maxHeartbeats 4000000
theorem lastC_snoc (d : Int) (x : SU) : ∀ L : List SU, (∀ y ∈ L, True) → 0 ≤ lastC d L → lastC d (L ++ [x]) = if covB x d = true then max (lastC d L) x.til else lastC d L
  | [], _, _ => by
    simp only [List.nil_append, lastC]
    split <;> omega
  | y :: r, _, h => by
    have hr : 0 ≤ lastC d r ∨ lastC d r < 0 := by omega
    have key : ∀ r : List SU, 0 ≤ lastC d r := fun r => by
      induction r with
      | nil => simp [lastC]
      | cons z s ih => unfold lastC; split <;> omega
    have ih := lastC_snoc d x r (fun _ _ => trivial) (key r)
    simp only [List.cons_append, lastC, ih]
    split <;> split <;> omega
theorem lastC_nn (d : Int) (L : List SU) : 0 ≤ lastC d L := by
  induction L with
  | nil => simp [lastC]
  | cons z s ih => unfold lastC; split <;> omega
theorem last_yes {L : List SU} {i : Nat} {x : SU} {d : Int} (hx : L[i]? = some x) (hc : covB x d = true) : lastC d (L.take (i + 1)) = max (lastC d (L.take i)) x.til := by
  rw [take_next hx, lastC_snoc d x _ (fun _ _ => trivial) (lastC_nn _ _), if_pos hc]
theorem last_no {L : List SU} {i : Nat} {x : SU} {d : Int} (hx : L[i]? = some x) (hc : covB x d = false) : lastC d (L.take (i + 1)) = lastC d (L.take i) := by
  rw [take_next hx, lastC_snoc d x _ (fun _ _ => trivial) (lastC_nn _ _), if_neg (by simp [hc])]
theorem act_snoc {L : List SU} {i : Nat} {x : SU} {d : Int} (hx : L[i]? = some x) : actB (L.take (i + 1)) d = (actB (L.take i) d || covB x d) := by
  rw [take_next hx]
  simp [actB]
theorem open_snoc {L : List SU} {i : Nat} {x : SU} {d : Int} (hx : L[i]? = some x) : openB (L.take (i + 1)) d = (openB (L.take i) d || (covB x d && decide (x.til = 0))) := by
  rw [take_next hx]
  simp [openB]
theorem ret_tri {a a' b b' : Bool} {c c' : Int} (h1 : a = a') (h2 : b = b') (h3 : c = c') : Ending.returned (.tuple #[.bool a, .bool b, .int .i64 c]) = .returned (.tuple #[.bool a', .bool b', .int .i64 c']) := by rw [h1, h2, h3]
/-- What the document's check answers. -/
def ChkR (l : List SU) (k : Int) (fund : ByteArray) (d : Int) (e : Int) : Prop :=
  (susB l = false ∧ e = 280) ∨ (susB l = true ∧ knB k = false ∧ e = 240) ∨ (susB l = true ∧ knB k = true ∧ nmB fund = false ∧ e = 241) ∨
  (susB l = true ∧ knB k = true ∧ nmB fund = true ∧ dayB d = false ∧ e = 50) ∨ (susB l = true ∧ knB k = true ∧ nmB fund = true ∧ dayB d = true ∧ e = 0)
/-- The document's Active, where all is well. -/
theorem visS_len2 {l : List SU} (h : susB l = true) (k : Int) (fund : ByteArray) : (visS l k fund).length ≤ 4096 := Nat.le_trans (visS_len l k fund) (susB_len h)
theorem ActR.chk {l : List SU} {k : Int} {fund : ByteArray} {d : Int} {v : Bool} {e : Int} (h : ActR l k fund d v e) : ChkR l k fund d e := by
  rcases h with ⟨a, -, b⟩ | ⟨a, b, -, c⟩ | ⟨a, b, c, -, e⟩ | ⟨a, b, c, d, -, e⟩ | ⟨a, b, c, d, -, e⟩
  · exact .inl ⟨a, b⟩
  · exact .inr (.inl ⟨a, b, c⟩)
  · exact .inr (.inr (.inl ⟨a, b, c, e⟩))
  · exact .inr (.inr (.inr (.inl ⟨a, b, c, d, e⟩)))
  · exact .inr (.inr (.inr (.inr ⟨a, b, c, d, e⟩)))
theorem ActR.good {l : List SU} {k : Int} {fund : ByteArray} {d : Int} {v : Bool} {e : Int} (h : ActR l k fund d v e) : (e ≠ 0 ∧ v = false) ∨ (e = 0 ∧ susB l = true ∧ v = actB (visS l k fund) d) := by
  rcases h with ⟨a, c, b⟩ | ⟨a, b, d, c⟩ | ⟨a, b, c, d, e⟩ | ⟨a, b, c, d, f, e⟩ | ⟨a, b, c, d, f, e⟩
  · exact .inl ⟨by omega, c⟩
  · exact .inl ⟨by omega, d⟩
  · exact .inl ⟨by omega, d⟩
  · exact .inl ⟨by omega, f⟩
  · exact .inr ⟨e, a, f⟩
end
end Go.Proofs.Ytffmmkjoknghoaa
