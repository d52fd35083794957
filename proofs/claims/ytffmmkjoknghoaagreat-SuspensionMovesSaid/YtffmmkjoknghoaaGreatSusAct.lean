/-
  Whether a day is suspended: the program's and the document's.
  Whether a day is suspended: the document's.
-/
import Derived.Test.YtffmmkjoknghoaaGreatSusVis
import Derived.BigQuiet
import Derived.Deep.QuietTactic
namespace Go.Proofs.YtffmmkjoknghoaaGreat
section
open Go.RowKit
set_option linter.unusedVariables false
set_option maxHeartbeats 4000000
theorem OwnL.sus {w W : World} {v : Value} {n : Nat} {L : List SU} (h : OwnL w W 77 6 v n (suL L).flatten) (hs : ∀ x ∈ L, x.small) (hl : L.length ≤ 4096) : ∃ A' cap, v = .slice A' L.length cap ∧ SuAt W A' L := by
  have hml : (suL L).length = L.length := by simp [suL]
  obtain ⟨hn, A', cap, rfl, hr, -⟩ := h.recs (suL_len L) (by decide) (by rw [hml]; omega)
  exact ⟨A', cap, by rw [hn, hml], hr, hs⟩
theorem visS_small {l : List SU} {k : Int} {fund : ByteArray} (h : ∀ x ∈ l, x.small) : ∀ x ∈ visS l k fund, x.small := fun x hx => h x (pickS_mem _ hx).1
/-- What Active answers. -/
def ActR (l : List SU) (k : Int) (fund : ByteArray) (d : Int) (v : Bool) (e : Int) : Prop :=
  (susB l = false ∧ v = false ∧ e = 280) ∨ (susB l = true ∧ knB k = false ∧ v = false ∧ e = 240) ∨ (susB l = true ∧ knB k = true ∧ nmB fund = false ∧ v = false ∧ e = 241) ∨
  (susB l = true ∧ knB k = true ∧ nmB fund = true ∧ dayB d = false ∧ v = false ∧ e = 50) ∨ (susB l = true ∧ knB k = true ∧ nmB fund = true ∧ dayB d = true ∧ v = actB (visS l k fund) d ∧ e = 0)
theorem act_ex (l : List SU) (k : Int) (fund : ByteArray) (d : Int) : ∃ v e, ActR l k fund d v e := by
  cases h1 : susB l
  · exact ⟨_, _, .inl ⟨h1, rfl, rfl⟩⟩
  cases h2 : knB k
  · exact ⟨_, _, .inr (.inl ⟨h1, h2, rfl, rfl⟩)⟩
  cases h3 : nmB fund
  · exact ⟨_, _, .inr (.inr (.inl ⟨h1, h2, h3, rfl, rfl⟩))⟩
  cases h4 : dayB d
  · exact ⟨_, _, .inr (.inr (.inr (.inl ⟨h1, h2, h3, h4, rfl, rfl⟩)))⟩
  · exact ⟨_, _, .inr (.inr (.inr (.inr ⟨h1, h2, h3, h4, rfl, rfl⟩)))⟩
theorem covers_is {x : SU} {d : Int} {v : Bool} (hv : covB x d = v) (w : World) : Calls Tryz.prog 38 #[.agg #[.string x.key, .string x.fund, .int .i64 x.frm, .int .i64 x.til, .int .i64 x.known, .bool x.void], .int .i64 d] w (RetB (.bool v) w) := by
  subst hv
  exact covers_any x d w
theorem any_drop {L : List SU} {i : Nat} {x : SU} (hx : L[i]? = some x) (d : Int) : actB (L.drop i) d = (covB x d || actB (L.drop (i + 1)) d) := by
  obtain ⟨hl, e⟩ := List.getElem?_eq_some_iff.1 hx
  rw [List.drop_eq_getElem_cons hl, e]
  rfl
set_option maxRecDepth 100000 in
theorem sAct_is {l : List SU} {k : Int} {fund : ByteArray} {d : Int} {v : Bool} {er : Int} (hr : ActR l k fund d v er) (hfu : fund.size ≤ maxLen) (A : Option Addr) (cp : Nat) (w : World) (h : SuAt w A l) : Calls Tryz.prog 15 #[.slice A l.length cp, .int .i64 k, .string fund, .int .i64 d] w (RetB (.tuple #[.bool v, .int .i64 er]) w) := by
  rcases hr with ⟨h1, rfl, rfl⟩ | ⟨h1, h2, rfl, rfl⟩ | ⟨h1, h2, h3, rfl, rfl⟩ | ⟨h1, h2, h3, h4, rfl, rfl⟩ | ⟨h1, h2, h3, h4, hv, rfl⟩
  · have hc := sVisS_bad1 l h1 k fund A cp w h
    clear h h1
    go_enter Tryz.func15, Tryz.ntmps15
    go_wp2_with (go_at_call 36; refine hc.mono ?_; rintro e w1 ⟨rfl, hb⟩)
    go_ret2
    exact ⟨rfl, hb⟩
  · have hc := sVisS_bad2 l h1 k h2 fund A cp w h
    clear h h1 h2
    go_enter Tryz.func15, Tryz.ntmps15
    go_wp2_with (go_at_call 36; refine hc.mono ?_; rintro e w1 ⟨rfl, hb⟩)
    go_ret2
    exact ⟨rfl, hb⟩
  · have hc := sVisS_bad3 l h1 k h2 fund hfu h3 A cp w h
    clear h h1 h2 h3
    go_enter Tryz.func15, Tryz.ntmps15
    go_wp2_with (go_at_call 36; refine hc.mono ?_; rintro e w1 ⟨rfl, hb⟩)
    go_ret2
    exact ⟨rfl, hb⟩
  · have hc := sVisS_ok l h1 k h2 fund hfu h3 A cp w h
    have h5 := dayB_no h4
    clear h h1 h2 h3 h4
    rcases h5 with h5 | h5
    · have h6 : d < 0 := by omega
      clear h5
      go_enter Tryz.func15, Tryz.ntmps15
      go_wp2_with fail
      refine hc.mono ?_
      rintro e w1 ⟨v1, rfl, hO⟩
      have hb := hO.below
      clear hO hc
      go_wp2_with fail
      go_ret2
      exact ⟨rfl, hb⟩
    · have h6 : 73048 < d := by omega
      clear h5
      go_enter Tryz.func15, Tryz.ntmps15
      go_wp2_with fail
      refine hc.mono ?_
      rintro e w1 ⟨v1, rfl, hO⟩
      have hb := hO.below
      clear hO hc
      go_wp2_with fail
      go_ret2
      exact ⟨rfl, hb⟩
  · have hc := sVisS_ok l h1 k h2 fund hfu h3 A cp w h
    obtain ⟨hd1, hd2⟩ := (dayB_iff d).1 h4
    have hln : (visS l k fund).length ≤ 4096 := Nat.le_trans (visS_len l k fund) (susB_len h1)
    have HSM := Lib.hid (visS_small (k := k) (fund := fund) h.small)
    obtain ⟨L, hL⟩ : ∃ L, visS l k fund = L := ⟨_, rfl⟩
    rw [hL] at hv hc hln HSM
    have HVV := Lib.hid hv
    clear h h1 h2 h3 h4 hL hv
    go_enter Tryz.func15, Tryz.ntmps15
    go_wp2_with fail
    refine hc.mono ?_
    rintro e w1 ⟨v1, rfl, hO⟩
    obtain ⟨A1, cap1, rfl, hS1⟩ := hO.sus HSM.out hln
    have HS1 := Lib.hid hS1
    have HB1 := Lib.hid hO.below
    clear hO hc hS1
    go_wp2_with fail
    go_loopw [32] (fun iv wr => ∃ i : Nat, i ≤ L.length ∧ iv = .int .i64 i ∧ actB L d = actB (L.drop i) d ∧ Below w1.heap.size w1 wr) (fun iv _ => L.length - (intOf iv).toNat)
    case atStart => exact ⟨0, by omega, rfl, rfl, Below.refl _ _⟩
    case round =>
      obtain ⟨i, hi, rfl, hE, hB⟩ := hrel
      have HE := Lib.hid hE
      clear hE
      by_cases hlt : i < L.length
      · have hS := HS1.out.below hB
        obtain ⟨b, o, x, rfl, hx, hbl, hsm, q0, q1, q2, q3, q4, q5⟩ := hS.get hlt
        obtain ⟨p0, p1, p2, p3, p4, p5⟩ := suQ (BlkAt.new wr (suV x) 77)
        have HD := Lib.hid (any_drop hx d)
        have hB2 := bal hB (.cells (suV x) 77)
        have HBB := Lib.hid hB2
        clear hx hS hB hB2
        cases hcv : covB x d
        · have hcc := covers_is hcv
          have HCV := Lib.hid hcv
          clear hcv
          go_wp2_with (first
            | ((with_reducible refine wpl_store_new rfl 77 _ _ rfl (suV x) ?_ ?_ (rowSu _) ?_ ?_); exact rfl; exact rfl; exact rfl)
            | (go_at_call 38; refine (hcc _).mono ?_; rintro e w2 ⟨rfl, hb2⟩))
          go_roundw
          case rel => exact ⟨i + 1, by omega, by go_num, by rw [HE.out, HD.out, HCV.out, Bool.false_or], bnext HBB.out hb2⟩
          case measure => simp [intOf]; omega
        · have hcc := covers_is hcv
          have HCV := Lib.hid hcv
          clear hcv
          go_wp2_with (first
            | ((with_reducible refine wpl_store_new rfl 77 _ _ rfl (suV x) ?_ ?_ (rowSu _) ?_ ?_); exact rfl; exact rfl; exact rfl)
            | (go_at_call 38; refine (hcc _).mono ?_; rintro e w2 ⟨rfl, hb2⟩))
          go_ret2
          exact ⟨by rw [HVV.out, HE.out, HD.out, HCV.out]; rfl, bnext HB1.out (bnext HBB.out hb2)⟩
      · go_wp2_with fail
        go_ret2
        exact ⟨by rw [HVV.out, HE.out, List.drop_of_length_le (by omega)]; rfl, bnext HB1.out hB⟩
end
section
open Go.RowKit
set_option linter.unusedVariables false
set_option maxHeartbeats 4000000
theorem lastC_snoc (d : Int) (x : SU) : ∀ L : List SU, (∀ y ∈ L, True) → 0 ≤ lastC d L → lastC d (L ++ [x]) = if covB x d = true then max (lastC d L) x.til else lastC d L
  | [], _, _ => by
    simp only [List.nil_append, lastC]
    split <;> omega
  | y :: r, _, h => by
    have hr : 0 ≤ lastC d r ∨ lastC d r < 0 := by omega
    have key : ∀ r : List SU, 0 ≤ lastC d r := fun r => by
      induction r with
      | nil => simp [lastC]
      | cons z s ih => unfold lastC; split <;> omega
    have ih := lastC_snoc d x r (fun _ _ => trivial) (key r)
    simp only [List.cons_append, lastC, ih]
    split <;> split <;> omega
theorem lastC_nn (d : Int) (L : List SU) : 0 ≤ lastC d L := by
  induction L with
  | nil => simp [lastC]
  | cons z s ih => unfold lastC; split <;> omega
theorem last_yes {L : List SU} {i : Nat} {x : SU} {d : Int} (hx : L[i]? = some x) (hc : covB x d = true) : lastC d (L.take (i + 1)) = max (lastC d (L.take i)) x.til := by
  rw [take_next hx, lastC_snoc d x _ (fun _ _ => trivial) (lastC_nn _ _), if_pos hc]
theorem last_no {L : List SU} {i : Nat} {x : SU} {d : Int} (hx : L[i]? = some x) (hc : covB x d = false) : lastC d (L.take (i + 1)) = lastC d (L.take i) := by
  rw [take_next hx, lastC_snoc d x _ (fun _ _ => trivial) (lastC_nn _ _), if_neg (by simp [hc])]
theorem act_snoc {L : List SU} {i : Nat} {x : SU} {d : Int} (hx : L[i]? = some x) : actB (L.take (i + 1)) d = (actB (L.take i) d || covB x d) := by
  rw [take_next hx]
  simp [actB]
theorem open_snoc {L : List SU} {i : Nat} {x : SU} {d : Int} (hx : L[i]? = some x) : openB (L.take (i + 1)) d = (openB (L.take i) d || (covB x d && decide (x.til = 0))) := by
  rw [take_next hx]
  simp [openB]
theorem ret_tri {a a' b b' : Bool} {c c' : Int} (h1 : a = a') (h2 : b = b') (h3 : c = c') : Ending.returned (.tuple #[.bool a, .bool b, .int .i64 c]) = .returned (.tuple #[.bool a', .bool b', .int .i64 c']) := by rw [h1, h2, h3]
set_option maxRecDepth 100000 in
theorem covered_any (L : List SU) (d : Int) (hl : L.length ≤ 4096) (A : Option Addr) (cp : Nat) (w : World) (h : SuAt w A L) : Calls Tryz.prog 43 #[.slice A L.length cp, .int .i64 d] w (RetB (.tuple #[.bool (actB L d), .bool (openB L d), .int .i64 (lastC d L)]) w) := by
  have H := Lib.hid h
  clear h
  go_enter Tryz.func43, Tryz.ntmps43
  go_wp2_with fail
  go_loopw [4, 5, 6, 7] (fun yv ov lv iv wr => ∃ i : Nat, i ≤ L.length ∧ iv = .int .i64 i ∧ yv = .bool (actB (L.take i) d) ∧ ov = .bool (openB (L.take i) d) ∧ lv = .int .i64 (lastC d (L.take i)) ∧ Below w.heap.size w wr) (fun _ _ _ iv _ => L.length - (intOf iv).toNat)
  case atStart => exact ⟨0, by omega, rfl, rfl, rfl, rfl, Below.refl _ _⟩
  case round =>
    obtain ⟨i, hi, rfl, rfl, rfl, rfl, hB⟩ := hrel
    by_cases hlt : i < L.length
    · obtain ⟨b, o, x, rfl, hx, hbl, hsm, q0, q1, q2, q3, q4, q5⟩ := (H.out.below hB).get hlt
      have HX := Lib.hid hx
      have HAS := Lib.hid (act_snoc (d := d) hx)
      have HOS := Lib.hid (open_snoc (d := d) hx)
      have HBB := Lib.hid hB
      have z1 : (0 : Int) ≤ (i : Int) := by omega
      have z2 : (i : Int) < (L.length : Int) := by omega
      obtain ⟨la, hla⟩ : ∃ la, lastC d (L.take i) = la := ⟨_, rfl⟩
      obtain ⟨op, hop⟩ : ∃ op, openB (L.take i) d = op := ⟨_, rfl⟩
      obtain ⟨ac, hac⟩ : ∃ ac, actB (L.take i) d = ac := ⟨_, rfl⟩
      have hla0 : 0 ≤ la := by rw [← hla]; exact lastC_nn _ _
      rw [hla, hop, hac]
      have HLA := Lib.hid hla
      have HOP := Lib.hid hop
      have HAC := Lib.hid hac
      clear hla hop hac hx hB
      by_cases h1 : x.frm ≤ d
      · by_cases h2 : x.til = 0
        · have g1 : decide (x.frm ≤ d) = true := decide_eq_true h1
          have g2 : (x.til == 0) = true := by simpa using h2
          have HC : Hid (covB x d = true) := Lib.hid (by simp [covB, h1, h2])
          have H2Z := Lib.hid h2
          have H2 : Hid (decide (x.til = 0) = true) := Lib.hid (decide_eq_true h2)
          clear h1 h2
          have m1 : ¬ la < x.til := by rw [H2Z.out]; omega
          cases op
          all_goals
            go_wp2_with fail
            go_quiet (fail)
            go_wp2_with fail
            go_roundw
            case rel => exact ⟨i + 1, by omega, by go_num, by rw [HAS.out, HC.out, Bool.or_true], by rw [HOS.out, HC.out, HOP.out, H2.out]; rfl, by rw [last_yes HX.out HC.out, HLA.out], bdN HBB.out _⟩
            case measure => simp [intOf]; omega
        · have g1 : decide (x.frm ≤ d) = true := decide_eq_true h1
          have g2 : (x.til == 0) = false := by simpa using h2
          have H2 : Hid (decide (x.til = 0) = false) := Lib.hid (by simp [h2])
          by_cases h3 : d ≤ x.til
          · have g3 : decide (d ≤ x.til) = true := decide_eq_true h3
            have HC : Hid (covB x d = true) := Lib.hid (by simp [covB, h1, h3])
            clear h1 h2 h3
            by_cases hm : la < x.til
            all_goals
              cases op
              all_goals
                go_wp2_with fail
                go_quiet (fail)
                go_wp2_with fail
                go_roundw
                case rel => exact ⟨i + 1, by omega, by go_num, by rw [HAS.out, HC.out, Bool.or_true], by rw [HOS.out, HC.out, HOP.out, H2.out]; rfl, by rw [last_yes HX.out HC.out, HLA.out], bdN HBB.out _⟩
                case measure => simp [intOf]; omega
          · have g3 : decide (d ≤ x.til) = false := decide_eq_false h3
            have HC : Hid (covB x d = false) := Lib.hid (by simp [covB, h2, h3])
            clear h1 h2 h3
            go_wp2_with fail
            go_roundw
            case rel => exact ⟨i + 1, by omega, by go_num, by rw [HAS.out, HAC.out, HC.out, Bool.or_false], by rw [HOS.out, HOP.out, HC.out, Bool.false_and, Bool.or_false], by rw [last_no HX.out HC.out, HLA.out], HBB.out⟩
            case measure => simp [intOf]; omega
      · have g1 : decide (x.frm ≤ d) = false := decide_eq_false h1
        have HC : Hid (covB x d = false) := Lib.hid (by simp [covB, h1])
        clear h1
        go_wp2_with fail
        go_roundw
        case rel => exact ⟨i + 1, by omega, by go_num, by rw [HAS.out, HAC.out, HC.out, Bool.or_false], by rw [HOS.out, HOP.out, HC.out, Bool.false_and, Bool.or_false], by rw [last_no HX.out HC.out, HLA.out], HBB.out⟩
        case measure => simp [intOf]; omega
    · have hie : i = L.length := by omega
      have F : Hid (actB (L.take i) d = actB L d ∧ openB (L.take i) d = openB L d ∧ lastC d (L.take i) = lastC d L) := Lib.hid (by rw [hie, List.take_length]; exact ⟨rfl, rfl, rfl⟩)
      clear hie
      go_wp2_with fail
      go_ret3
      exact ⟨ret_tri F.out.1 F.out.2.1 F.out.2.2, hB⟩
/-- What the document's check answers. -/
def ChkR (l : List SU) (k : Int) (fund : ByteArray) (d : Int) (e : Int) : Prop :=
  (susB l = false ∧ e = 280) ∨ (susB l = true ∧ knB k = false ∧ e = 240) ∨ (susB l = true ∧ knB k = true ∧ nmB fund = false ∧ e = 241) ∨
  (susB l = true ∧ knB k = true ∧ nmB fund = true ∧ dayB d = false ∧ e = 50) ∨ (susB l = true ∧ knB k = true ∧ nmB fund = true ∧ dayB d = true ∧ e = 0)
theorem known_is {k : Int} {b : Bool} (h : knB k = b) (w : World) : Calls Tryz.prog 71 #[.int .i64 k] w (RetW (.int .i64 (if b = true then 0 else 240)) w) := by
  subst h
  exact known_any k w
set_option maxRecDepth 100000 in
theorem rchk_is {l : List SU} {k : Int} {fund : ByteArray} {d : Int} {er : Int} (hr : ChkR l k fund d er) (hfu : fund.size ≤ maxLen) (A : Option Addr) (cp : Nat) (w : World) (h : SuAt w A l) : Calls Tryz.prog 39 #[.slice A l.length cp, .int .i64 k, .string fund, .int .i64 d] w (RetB (.int .i64 er) w) := by
  have hc := rChk_any rname_is l A cp w h
  clear h
  rcases hr with ⟨h1, rfl⟩ | ⟨h1, h2, rfl⟩ | ⟨h1, h2, h3, rfl⟩ | ⟨h1, h2, h3, h4, rfl⟩ | ⟨h1, h2, h3, h4, rfl⟩
  · rw [susErr_bad h1] at hc
    clear h1
    go_enter Tryz.func39, Tryz.ntmps39
    go_wp2_with (go_at_call 70; refine hc.mono ?_; rintro e w1 ⟨rfl, hb⟩)
    go_ret
    exact ⟨rfl, hb⟩
  · rw [susErr_ok h1] at hc
    have hk := known_is h2
    rw [if_neg (by simp)] at hk
    clear h1 h2
    go_enter Tryz.func39, Tryz.ntmps39
    go_wp2_with (first | (go_at_call 70; refine hc.mono ?_; rintro e w1 ⟨rfl, hb⟩) | (go_at_call 71; refine (hk _).mono ?_; rintro e w2 ⟨rfl, rfl⟩))
    go_ret
    exact ⟨rfl, hb⟩
  · rw [susErr_ok h1] at hc
    have hk := known_is h2
    rw [if_pos rfl] at hk
    have hn := rname_is fund _ h3 hfu
    clear h1 h2 h3
    go_enter Tryz.func39, Tryz.ntmps39
    go_wp2_with (first | (go_at_call 70; refine hc.mono ?_; rintro e w1 ⟨rfl, hb⟩) | (go_at_call 71; refine (hk _).mono ?_; rintro e w2 ⟨rfl, rfl⟩) | (go_at_call 72; refine (hn _).mono ?_; rintro e w3 ⟨rfl, hb3⟩))
    go_ret
    exact ⟨rfl, bnext hb hb3⟩
  · rw [susErr_ok h1] at hc
    have hk := known_is h2
    rw [if_pos rfl] at hk
    have hn := rname_is fund _ h3 hfu
    have h5 := dayB_no h4
    clear h1 h2 h3 h4
    have h6 : d < 0 ∨ 73048 < d := by omega
    clear h5
    rcases h6 with h6 | h6
    all_goals
      go_enter Tryz.func39, Tryz.ntmps39
      go_wp2_with (first | (go_at_call 70; refine hc.mono ?_; rintro e w1 ⟨rfl, hb⟩) | (go_at_call 71; refine (hk _).mono ?_; rintro e w2 ⟨rfl, rfl⟩) | (go_at_call 72; refine (hn _).mono ?_; rintro e w3 ⟨rfl, hb3⟩))
      go_ret
      exact ⟨rfl, bnext hb hb3⟩
  · rw [susErr_ok h1] at hc
    have hk := known_is h2
    rw [if_pos rfl] at hk
    have hn := rname_is fund _ h3 hfu
    obtain ⟨hd1, hd2⟩ := (dayB_iff d).1 h4
    clear h1 h2 h3 h4
    go_enter Tryz.func39, Tryz.ntmps39
    go_wp2_with (first | (go_at_call 70; refine hc.mono ?_; rintro e w1 ⟨rfl, hb⟩) | (go_at_call 71; refine (hk _).mono ?_; rintro e w2 ⟨rfl, rfl⟩) | (go_at_call 72; refine (hn _).mono ?_; rintro e w3 ⟨rfl, hb3⟩))
    go_ret
    exact ⟨rfl, bnext hb hb3⟩
/-- The document's Active, where all is well. -/
theorem visS_len2 {l : List SU} (h : susB l = true) (k : Int) (fund : ByteArray) : (visS l k fund).length ≤ 4096 := Nat.le_trans (visS_len l k fund) (susB_len h)
theorem ActR.chk {l : List SU} {k : Int} {fund : ByteArray} {d : Int} {v : Bool} {e : Int} (h : ActR l k fund d v e) : ChkR l k fund d e := by
  rcases h with ⟨a, -, b⟩ | ⟨a, b, -, c⟩ | ⟨a, b, c, -, e⟩ | ⟨a, b, c, d, -, e⟩ | ⟨a, b, c, d, -, e⟩
  · exact .inl ⟨a, b⟩
  · exact .inr (.inl ⟨a, b, c⟩)
  · exact .inr (.inr (.inl ⟨a, b, c, e⟩))
  · exact .inr (.inr (.inr (.inl ⟨a, b, c, d, e⟩)))
  · exact .inr (.inr (.inr (.inr ⟨a, b, c, d, e⟩)))
theorem ActR.good {l : List SU} {k : Int} {fund : ByteArray} {d : Int} {v : Bool} {e : Int} (h : ActR l k fund d v e) : (e ≠ 0 ∧ v = false) ∨ (e = 0 ∧ susB l = true ∧ v = actB (visS l k fund) d) := by
  rcases h with ⟨a, c, b⟩ | ⟨a, b, d, c⟩ | ⟨a, b, c, d, e⟩ | ⟨a, b, c, d, f, e⟩ | ⟨a, b, c, d, f, e⟩
  · exact .inl ⟨by omega, c⟩
  · exact .inl ⟨by omega, d⟩
  · exact .inl ⟨by omega, d⟩
  · exact .inl ⟨by omega, f⟩
  · exact .inr ⟨e, a, f⟩
set_option maxRecDepth 100000 in
theorem rAct_is {l : List SU} {k : Int} {fund : ByteArray} {d : Int} {v : Bool} {er : Int} (hr : ActR l k fund d v er) (hfu : fund.size ≤ maxLen) (A : Option Addr) (cp : Nat) (w : World) (h : SuAt w A l) : Calls Tryz.prog 16 #[.slice A l.length cp, .int .i64 k, .string fund, .int .i64 d] w (RetB (.tuple #[.bool v, .int .i64 er]) w) := by
  have hc := rchk_is hr.chk hfu A cp w h
  rcases hr.good with ⟨h1, rfl⟩ | ⟨rfl, hv, h1⟩
  · have g1 : (er != 0) = true := by rw [bne_iff_ne]; exact h1
    clear h1 hr h
    go_enter Tryz.func16, Tryz.ntmps16
    go_wp2_with (go_at_call 39; refine hc.mono ?_; rintro e w1 ⟨rfl, hb⟩)
    go_ret2
    exact ⟨rfl, hb⟩
  · have hln := visS_len2 hv k fund
    have HSM := Lib.hid (visS_small (k := k) (fund := fund) h.small)
    have H := Lib.hid h
    have hvis := fun w h => rVisS_ok l hv k fund hfu A cp w h
    obtain ⟨L, hL⟩ : ∃ L, visS l k fund = L := ⟨_, rfl⟩
    rw [hL] at h1 hln HSM hvis
    have HV1 := Lib.hid h1
    clear h1 hr h hL hv
    go_enter Tryz.func16, Tryz.ntmps16
    go_wp2_with fail
    refine hc.mono ?_
    rintro e w1 ⟨rfl, hb⟩
    go_wp2_with fail
    refine (hvis _ (H.out.below hb)).mono ?_
    rintro e w2 ⟨v2, rfl, hO⟩
    obtain ⟨A1, cap1, rfl, hS1⟩ := hO.sus HSM.out hln
    have hb2 := hO.below
    have HS1 := Lib.hid hS1
    clear hO hS1
    go_wp2_with fail
    refine (covered_any L d hln A1 cap1 _ HS1.out).mono ?_
    rintro e w3 ⟨rfl, hb3⟩
    go_wp2_with fail
    go_ret2
    exact ⟨by rw [HV1.out]; rfl, bnext (bnext hb hb2) hb3⟩
end
end Go.Proofs.YtffmmkjoknghoaaGreat
