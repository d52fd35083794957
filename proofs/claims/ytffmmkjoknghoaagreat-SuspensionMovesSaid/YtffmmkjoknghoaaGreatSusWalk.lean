/-
  Suspensions: single ones, the program's and the document's; lists.
-/
import Derived.Test.YtffmmkjoknghoaaGreatSusRow
import Derived.Test.YtffmmkjoknghoaaGreatZoneWalk
import Derived.Test.YtffmmkjoknghoaaGreatMake
import Derived.Deep.DeepCutAuto
import Derived.Deep.CutBlock
namespace Go.Proofs.YtffmmkjoknghoaaGreat
open Go.RowKit
set_option linter.unusedVariables false
set_option maxHeartbeats 2000000
section
theorem covers_any (x : SU) (d : Int) (w : World) : Calls Tryz.prog 38 #[.agg #[.string x.key, .string x.fund, .int .i64 x.frm, .int .i64 x.til, .int .i64 x.known, .bool x.void], .int .i64 d] w (RetB (.bool (covB x d)) w) := by
  obtain ⟨c, hc⟩ : ∃ c, covB x d = c := ⟨_, rfl⟩
  rw [hc]
  have HC := Lib.hid hc
  clear hc
  by_cases h1 : x.frm ≤ d
  · by_cases h2 : x.til = 0
    · have g2 : (x.til == 0) = true := by simpa using h2
      go_enter Tryz.func38, Tryz.ntmps38
      go_wp2
      go_ret
      exact ⟨ret_bool (by rw [← HC.out]; simp [covB, h1, h2]), bal0 _ _⟩
    · have g2 : (x.til == 0) = false := by simpa using h2
      go_enter Tryz.func38, Tryz.ntmps38
      go_wp2
      go_ret
      exact ⟨ret_bool (by rw [← HC.out]; simp [covB, h1, h2]), bal0 _ _⟩
  · have g1 : decide (x.frm ≤ d) = false := by simpa using h1
    go_enter Tryz.func38, Tryz.ntmps38
    go_wp2
    go_ret
    exact ⟨ret_bool (by rw [← HC.out]; simp [covB]; omega), bal0 _ _⟩
theorem suQ {W : World} {b : Nat} {x : SU} {t : TypeId} (h : BlkAt W b (suV x) t) : W.cell? ⟨b, 0, none⟩ = some (.string x.key) ∧ W.cell? ⟨b, 1, none⟩ = some (.string x.fund) ∧ W.cell? ⟨b, 2, none⟩ = some (.int .i64 x.frm) ∧ W.cell? ⟨b, 3, none⟩ = some (.int .i64 x.til) ∧ W.cell? ⟨b, 4, none⟩ = some (.int .i64 x.known) ∧ W.cell? ⟨b, 5, none⟩ = some (.bool x.void) :=
  ⟨h.cell rfl, h.cell rfl, h.cell rfl, h.cell rfl, h.cell rfl, h.cell rfl⟩
/-- What the callee that judges a name promises. -/
def NameC (f : FuncId) : Prop := ∀ (s : ByteArray) (b : Bool), nmB s = b → s.size ≤ maxLen → ∀ w, Calls Tryz.prog f #[.string s] w (RetB (.bool b) w)
theorem right_any (hN : NameC 65) (x : SU) (w : World) (hs : x.small) : Calls Tryz.prog 44 #[.agg #[.string x.key, .string x.fund, .int .i64 x.frm, .int .i64 x.til, .int .i64 x.known, .bool x.void]] w (RetB (.bool x.ok) w) := by
  obtain ⟨hs1, hs2⟩ := hs
  obtain ⟨c, hc⟩ : ∃ c, x.ok = c := ⟨_, rfl⟩
  rw [hc]
  have HC := Lib.hid hc
  clear hc
  cases hk : nmB x.key
  · have hn := hN x.key _ hk hs1
    have HK := Lib.hid hk
    clear hk
    go_enter Tryz.func44, Tryz.ntmps44
    go_wp2_with (go_at_call 65; refine (hn _).mono ?_; rintro e w1 ⟨rfl, hb⟩)
    go_ret
    exact ⟨ret_bool (by rw [← HC.out]; simp [SU.ok, HK.out]), bnext (bal0 _ _) hb⟩
  have hn := hN x.key _ hk hs1
  have HK := Lib.hid hk
  clear hk
  cases hkn : knB x.known
  · have HKN := Lib.hid hkn
    have hk2 := knB_no hkn
    clear hkn
    rcases hk2 with hk2 | hk2
    all_goals
      go_enter Tryz.func44, Tryz.ntmps44
      go_wp2_with (go_at_call 65; refine (hn _).mono ?_; rintro e w1 ⟨rfl, hb⟩; obtain ⟨q0, q1, q2, q3, q4, q5⟩ := suQ ((BlkAt.new w (suV x) 77).next hb))
      go_ret
      exact ⟨ret_bool (by rw [← HC.out]; simp [SU.ok, HKN.out]), bnext (bal0 _ _) hb⟩
  have hkn2 := (knB_iff _).1 hkn
  obtain ⟨kn1, kn2⟩ := hkn2
  have HKN := Lib.hid hkn
  clear hkn
  obtain ⟨key, fund, frm, til, known, void⟩ := x
  cases void
  · cases hf : nmB fund
    · have hn2 := hN fund _ hf hs2
      have HF := Lib.hid hf
      clear hf
      go_enter Tryz.func44, Tryz.ntmps44
      go_wp2_with fail
      refine (hn _).mono ?_
      rintro e w1 ⟨rfl, hb⟩
      have B1 := (BlkAt.new w (suV ⟨key, fund, frm, til, known, false⟩) 77).next hb
      obtain ⟨q0, q1, q2, q3, q4, q5⟩ := suQ B1
      clear B1
      go_wp2_with fail
      refine (hn2 _).mono ?_
      rintro e w2 ⟨rfl, hb2⟩
      go_wp2_with fail
      go_ret
      exact ⟨ret_bool (by rw [← HC.out]; simp [SU.ok, HF.out]), bnext (bnext (bal0 _ _) hb) hb2⟩
    · have hn2 := hN fund _ hf hs2
      have HF := Lib.hid hf
      clear hf
      have hcs : frm < 0 ∨ (0 ≤ frm ∧ 73048 < frm) ∨ (0 ≤ frm ∧ frm ≤ 73048 ∧ til = 0) ∨ (0 ≤ frm ∧ frm ≤ 73048 ∧ til ≠ 0 ∧ til < frm) ∨ (0 ≤ frm ∧ frm ≤ 73048 ∧ til ≠ 0 ∧ frm ≤ til ∧ til ≤ 73048) ∨ (0 ≤ frm ∧ frm ≤ 73048 ∧ til ≠ 0 ∧ frm ≤ til ∧ 73048 < til) := by omega
      have HS : Hid (spanB ⟨key, fund, frm, til, known, false⟩ = c) := Lib.hid (by rw [← HC.out]; simp [SU.ok, HK.out, HKN.out, HF.out])
      clear HC
      clear hcs
      go_enter Tryz.func44, Tryz.ntmps44
      go_wp2_with fail
      refine (hn _).mono ?_
      rintro e w1 ⟨rfl, hb⟩
      have B1 := (BlkAt.new w (suV ⟨key, fund, frm, til, known, false⟩) 77).next hb
      obtain ⟨q0, q1, q2, q3, q4, q5⟩ := suQ B1
      have HB := Lib.hid B1
      clear B1
      go_wp2_with fail
      refine (hn2 _).mono ?_
      rintro e w2 ⟨rfl, hb2⟩
      clear q0 q1 q2 q3 q4 q5
      obtain ⟨q0, q1, q2, q3, q4, q5⟩ := suQ (HB.out.next hb2)
      clear HB
      go_wp2_with fail
      all_goals go_ret
      all_goals exact ⟨ret_bool (by rw [← HS.out, Bool.eq_iff_iff]; simp [spanB]; omega), bnext (bnext (bal0 _ _) hb) hb2⟩
  · go_enter Tryz.func44, Tryz.ntmps44
    go_wp2_with (go_at_call 65; refine (hn _).mono ?_; rintro e w1 ⟨rfl, hb⟩; obtain ⟨q0, q1, q2, q3, q4, q5⟩ := suQ ((BlkAt.new w (suV ⟨key, fund, frm, til, known, true⟩) 77).next hb))
    all_goals go_ret
    all_goals exact ⟨ret_bool (by rw [← HC.out]; simp [SU.ok, HK.out, HKN.out]; simp_all), bnext (bal0 _ _) hb⟩
theorem suval_any (hN : NameC 72) (x : SU) (w : World) (hs : x.small) : Calls Tryz.prog 100 #[.agg #[.string x.key, .string x.fund, .int .i64 x.frm, .int .i64 x.til, .int .i64 x.known, .bool x.void]] w (RetB (.bool x.ok) w) := by
  obtain ⟨hs1, hs2⟩ := hs
  obtain ⟨c, hc⟩ : ∃ c, x.ok = c := ⟨_, rfl⟩
  rw [hc]
  have HC := Lib.hid hc
  clear hc
  cases hk : nmB x.key
  · have hn := hN x.key _ hk hs1
    have HK := Lib.hid hk
    clear hk
    go_enter Tryz.func100, Tryz.ntmps100
    go_wp2_with (go_at_call 72; refine (hn _).mono ?_; rintro e w1 ⟨rfl, hb⟩)
    go_ret
    exact ⟨ret_bool (by rw [← HC.out]; simp [SU.ok, HK.out]), bnext (bal0 _ _) hb⟩
  have hn := hN x.key _ hk hs1
  have HK := Lib.hid hk
  clear hk
  cases hkn : knB x.known
  · have HKN := Lib.hid hkn
    have hk2 := knB_no hkn
    clear hkn
    rcases hk2 with hk2 | hk2
    all_goals
      go_enter Tryz.func100, Tryz.ntmps100
      go_wp2_with (go_at_call 72; refine (hn _).mono ?_; rintro e w1 ⟨rfl, hb⟩; obtain ⟨q0, q1, q2, q3, q4, q5⟩ := suQ ((BlkAt.new w (suV x) 77).next hb))
      go_ret
      exact ⟨ret_bool (by rw [← HC.out]; simp [SU.ok, HKN.out]), bnext (bal0 _ _) hb⟩
  have hkn2 := (knB_iff _).1 hkn
  obtain ⟨kn1, kn2⟩ := hkn2
  have HKN := Lib.hid hkn
  clear hkn
  obtain ⟨key, fund, frm, til, known, void⟩ := x
  cases void
  · cases hf : nmB fund
    · have hn2 := hN fund _ hf hs2
      have HF := Lib.hid hf
      clear hf
      go_enter Tryz.func100, Tryz.ntmps100
      go_wp2_with fail
      refine (hn _).mono ?_
      rintro e w1 ⟨rfl, hb⟩
      have B1 := (BlkAt.new w (suV ⟨key, fund, frm, til, known, false⟩) 77).next hb
      obtain ⟨q0, q1, q2, q3, q4, q5⟩ := suQ B1
      clear B1
      go_wp2_with fail
      refine (hn2 _).mono ?_
      rintro e w2 ⟨rfl, hb2⟩
      go_wp2_with fail
      go_ret
      exact ⟨ret_bool (by rw [← HC.out]; simp [SU.ok, HF.out]), bnext (bnext (bal0 _ _) hb) hb2⟩
    · have hn2 := hN fund _ hf hs2
      have HF := Lib.hid hf
      clear hf
      have hcs : frm < 0 ∨ (0 ≤ frm ∧ 73048 < frm) ∨ (0 ≤ frm ∧ frm ≤ 73048 ∧ til = 0) ∨ (0 ≤ frm ∧ frm ≤ 73048 ∧ til ≠ 0 ∧ til < frm) ∨ (0 ≤ frm ∧ frm ≤ 73048 ∧ til ≠ 0 ∧ frm ≤ til ∧ til ≤ 73048) ∨ (0 ≤ frm ∧ frm ≤ 73048 ∧ til ≠ 0 ∧ frm ≤ til ∧ 73048 < til) := by omega
      have HS : Hid (spanB ⟨key, fund, frm, til, known, false⟩ = c) := Lib.hid (by rw [← HC.out]; simp [SU.ok, HK.out, HKN.out, HF.out])
      clear HC
      clear hcs
      go_enter Tryz.func100, Tryz.ntmps100
      go_wp2_with fail
      refine (hn _).mono ?_
      rintro e w1 ⟨rfl, hb⟩
      have B1 := (BlkAt.new w (suV ⟨key, fund, frm, til, known, false⟩) 77).next hb
      obtain ⟨q0, q1, q2, q3, q4, q5⟩ := suQ B1
      have HB := Lib.hid B1
      clear B1
      go_wp2_with fail
      refine (hn2 _).mono ?_
      rintro e w2 ⟨rfl, hb2⟩
      clear q0 q1 q2 q3 q4 q5
      obtain ⟨q0, q1, q2, q3, q4, q5⟩ := suQ (HB.out.next hb2)
      clear HB
      go_wp2_with fail
      all_goals go_ret
      all_goals exact ⟨ret_bool (by rw [← HS.out, Bool.eq_iff_iff]; simp [spanB]; omega), bnext (bnext (bal0 _ _) hb) hb2⟩
  · go_enter Tryz.func100, Tryz.ntmps100
    go_wp2_with (go_at_call 72; refine (hn _).mono ?_; rintro e w1 ⟨rfl, hb⟩; obtain ⟨q0, q1, q2, q3, q4, q5⟩ := suQ ((BlkAt.new w (suV ⟨key, fund, frm, til, known, true⟩) 77).next hb))
    all_goals go_ret
    all_goals exact ⟨ret_bool (by rw [← HC.out]; simp [SU.ok, HK.out, HKN.out]; simp_all), bnext (bal0 _ _) hb⟩
end
end Go.Proofs.YtffmmkjoknghoaaGreat
