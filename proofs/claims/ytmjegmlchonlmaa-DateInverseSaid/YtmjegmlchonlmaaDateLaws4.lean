/-
  The law that dates and numbers, and texts and numbers, are inverse to each other: plain facts on texts of days; the walk.
-/
import Derived.Test.YtmjegmlchonlmaaDateLaws2
namespace Go.Proofs.Ytmjegmlchonlmaa
open Go.RowKit
set_option maxHeartbeats 4000000
set_option linter.unusedVariables false

/-- The byte of a digit. -/
def gb (k : Int) : UInt8 := UInt8.ofNat (48 + k).toNat
theorem gb_nat {k : Int} (h1 : 0 ≤ k) (h2 : k ≤ 9) : ((gb k).toNat : Int) = 48 + k := by
  unfold gb
  rw [UInt8.toNat_ofNat']
  omega
theorem gb_dg {k : Int} (h1 : 0 ≤ k) (h2 : k ≤ 9) : isDg (gb k) = true := by
  have := gb_nat h1 h2
  unfold isDg
  rw [decide_eq_true_eq]
  omega
theorem fmtS_list (y m d : Int) : (fmtS y m d).data.toList = [gb (y / 1000 % 10), gb (y / 100 % 10), gb (y / 10 % 10), gb (y / 1 % 10), 45, gb (m / 10 % 10), gb (m / 1 % 10), 45, gb (d / 10 % 10), gb (d / 1 % 10)] := rfl
theorem fmtS_data (y m d : Int) : (fmtS y m d).data = #[gb (y / 1000 % 10), gb (y / 100 % 10), gb (y / 10 % 10), gb (y / 1 % 10), 45, gb (m / 10 % 10), gb (m / 1 % 10), 45, gb (d / 10 % 10), gb (d / 1 % 10)] := rfl
theorem ext_list (s : ByteArray) (a b : Nat) : (s.extract a b).data.toList = (s.data.toList.drop a).take (b - a) := by
  rw [ByteArray.data_extract, Array.toList_extract]
theorem numI_of {s : ByteArray} {l : List UInt8} (h : s.data.toList = l) (hd : ∀ c ∈ l, isDg c = true) : numB s = true ∧ numI s = numV l := by
  have hb : numB s = true := by
    unfold numB
    rw [h, List.all_eq_true]
    exact hd
  refine ⟨hb, ?_⟩
  unfold numI
  rw [if_pos hb, h]
theorem parse_fmt {n y m d : Int} (h : CV n y m d) : ParseR (fmtS y m d) n 0 := by
  have y1 := h.y1
  have y2 := h.y2
  have m1 := h.m1
  have m2 := h.m2
  have d1 := h.d1
  have d2 : d ≤ 31 := by have := h.d2; have := len_bd y m; omega
  obtain ⟨a1, a2⟩ := numI_of (s := (fmtS y m d).extract 0 4) (l := [gb (y / 1000 % 10), gb (y / 100 % 10), gb (y / 10 % 10), gb (y / 1 % 10)]) (by rw [ext_list, fmtS_list]; rfl)
    (by intro c hc; simp only [List.mem_cons, List.not_mem_nil, or_false] at hc; rcases hc with rfl | rfl | rfl | rfl <;> exact gb_dg (by omega) (by omega))
  obtain ⟨b1, b2⟩ := numI_of (s := (fmtS y m d).extract 5 7) (l := [gb (m / 10 % 10), gb (m / 1 % 10)]) (by rw [ext_list, fmtS_list]; rfl)
    (by intro c hc; simp only [List.mem_cons, List.not_mem_nil, or_false] at hc; rcases hc with rfl | rfl <;> exact gb_dg (by omega) (by omega))
  obtain ⟨c1, c2⟩ := numI_of (s := (fmtS y m d).extract 8 (fmtS y m d).size) (l := [gb (d / 10 % 10), gb (d / 1 % 10)]) (by rw [ext_list, fmtS_list]; rfl)
    (by intro c hc; simp only [List.mem_cons, List.not_mem_nil, or_false] at hc; rcases hc with rfl | rfl <;> exact gb_dg (by omega) (by omega))
  simp only [numV, List.foldl] at a2 b2 c2
  rw [gb_nat (by omega) (by omega), gb_nat (by omega) (by omega), gb_nat (by omega) (by omega), gb_nat (by omega) (by omega)] at a2
  rw [gb_nat (by omega) (by omega), gb_nat (by omega) (by omega)] at b2
  rw [gb_nat (by omega) (by omega), gb_nat (by omega) (by omega)] at c2
  have hy : numI ((fmtS y m d).extract 0 4) = y := by rw [a2]; omega
  have hm : numI ((fmtS y m d).extract 5 7) = m := by rw [b2]; omega
  have hd : numI ((fmtS y m d).extract 8 (fmtS y m d).size) = d := by rw [c2]; omega
  refine .inr ⟨?_, .inl ⟨?_, rfl⟩⟩
  · unfold formB
    rw [dif_pos (show (fmtS y m d).size = 10 from rfl), a1, b1, c1, decide_eq_true (by exact ⟨rfl, rfl⟩)]
    rfl
  · rw [hy, hm, hd]
    exact h

theorem bl_lt {a b : Int} {l r : List UInt8} (h1 : 0 ≤ a) (h2 : a < b) (h3 : b ≤ 9) : Op.bytesLess (gb a :: l) (gb b :: r) = true := by
  have e1 := gb_nat h1 (show a ≤ 9 by omega)
  have e2 := gb_nat (show 0 ≤ b by omega) h3
  have hlt : gb a < gb b := by
    rw [UInt8.lt_iff_toNat_lt]
    omega
  unfold Op.bytesLess
  simp [hlt]
theorem bl_eq {a b : UInt8} {l r : List UInt8} (h : a = b) : Op.bytesLess (a :: l) (b :: r) = Op.bytesLess l r := by
  subst h
  rw [Op.bytesLess]
  simp
theorem dec4 {a : Int} (h1 : 0 ≤ a) (h2 : a ≤ 9999) : a = 1000 * (a / 1000 % 10) + 100 * (a / 100 % 10) + 10 * (a / 10 % 10) + a / 1 % 10 := by omega
theorem bl4 {a b : Int} {l r : List UInt8} (h1 : 0 ≤ a) (h2 : a < b) (h3 : b ≤ 9999) :
    Op.bytesLess (gb (a / 1000 % 10) :: gb (a / 100 % 10) :: gb (a / 10 % 10) :: gb (a / 1 % 10) :: l) (gb (b / 1000 % 10) :: gb (b / 100 % 10) :: gb (b / 10 % 10) :: gb (b / 1 % 10) :: r) = true := by
  have ea := dec4 h1 (show a ≤ 9999 by omega)
  have eb := dec4 (show 0 ≤ b by omega) h3
  obtain ⟨a1, a2⟩ : 0 ≤ a / 1000 % 10 ∧ a / 1000 % 10 ≤ 9 := by omega
  obtain ⟨a3, a4⟩ : 0 ≤ a / 100 % 10 ∧ a / 100 % 10 ≤ 9 := by omega
  obtain ⟨a5, a6⟩ : 0 ≤ a / 10 % 10 ∧ a / 10 % 10 ≤ 9 := by omega
  obtain ⟨a7, a8⟩ : 0 ≤ a / 1 % 10 ∧ a / 1 % 10 ≤ 9 := by omega
  obtain ⟨b1, b2⟩ : 0 ≤ b / 1000 % 10 ∧ b / 1000 % 10 ≤ 9 := by omega
  obtain ⟨b3, b4⟩ : 0 ≤ b / 100 % 10 ∧ b / 100 % 10 ≤ 9 := by omega
  obtain ⟨b5, b6⟩ : 0 ≤ b / 10 % 10 ∧ b / 10 % 10 ≤ 9 := by omega
  obtain ⟨b7, b8⟩ : 0 ≤ b / 1 % 10 ∧ b / 1 % 10 ≤ 9 := by omega
  generalize a / 1000 % 10 = x1 at *
  generalize a / 100 % 10 = x2 at *
  generalize a / 10 % 10 = x3 at *
  generalize a / 1 % 10 = x4 at *
  generalize b / 1000 % 10 = y1 at *
  generalize b / 100 % 10 = y2 at *
  generalize b / 10 % 10 = y3 at *
  generalize b / 1 % 10 = y4 at *
  by_cases c1 : x1 < y1
  · exact bl_lt a1 c1 b2
  rw [bl_eq (show gb x1 = gb y1 by congr 1; omega)]
  by_cases c2 : x2 < y2
  · exact bl_lt a3 c2 b4
  rw [bl_eq (show gb x2 = gb y2 by congr 1; omega)]
  by_cases c3 : x3 < y3
  · exact bl_lt a5 c3 b6
  rw [bl_eq (show gb x3 = gb y3 by congr 1; omega)]
  exact bl_lt a7 (by omega) b8
theorem bl2 {a b : Int} {l r : List UInt8} (h1 : 0 ≤ a) (h2 : a < b) (h3 : b ≤ 99) :
    Op.bytesLess (gb (a / 10 % 10) :: gb (a / 1 % 10) :: l) (gb (b / 10 % 10) :: gb (b / 1 % 10) :: r) = true := by
  by_cases c3 : a / 10 % 10 < b / 10 % 10
  · exact bl_lt (by omega) c3 (by omega)
  rw [bl_eq (show gb (a / 10 % 10) = gb (b / 10 % 10) by congr 1; omega)]
  exact bl_lt (by omega) (by omega) (by omega)
theorem ba_toList (s : ByteArray) : s.toList = s.data.toList := by
  exact ByteArray.toList_eq s
/-- A later day has a later text. -/
theorem fmt_less {n y m d y' m' d' : Int} (h : CV n y m d) (h' : CV (n + 1) y' m' d') (hn : (y' = y ∧ m' = m ∧ d' = d + 1) ∨ (y' = y ∧ m' = m + 1) ∨ y' = y + 1) : Op.bytesLess (fmtS y m d).toList (fmtS y' m' d').toList = true := by
  have y1 := h.y1
  have y2 := h'.y2
  have m1 := h.m1
  have m2 := h'.m2
  have d1 := h.d1
  have d2 : d' ≤ 31 := by have := h'.d2; have := len_bd y' m'; omega
  rw [ba_toList, ba_toList, fmtS_list, fmtS_list]
  rcases hn with ⟨rfl, rfl, rfl⟩ | ⟨rfl, rfl⟩ | rfl
  · rw [bl_eq rfl, bl_eq rfl, bl_eq rfl, bl_eq rfl, bl_eq rfl, bl_eq rfl, bl_eq rfl, bl_eq rfl]
    exact bl2 (by omega) (by omega) (by omega)
  · rw [bl_eq rfl, bl_eq rfl, bl_eq rfl, bl_eq rfl, bl_eq rfl]
    exact bl2 (by omega) (by omega) (by omega)
  · exact bl4 (by omega) (by omega) (by omega)
/-- The date of the next day. -/
theorem CV.next {n y m d : Int} (h : CV n y m d) (hn : n < 73048) : ∃ y' m' d', CV (n + 1) y' m' d' ∧
    ((d < lenM y m ∧ y' = y ∧ m' = m ∧ d' = d + 1) ∨ (d = lenM y m ∧ d' = 1 ∧ m < 12 ∧ y' = y ∧ m' = m + 1) ∨ (d = lenM y m ∧ d' = 1 ∧ m = 12 ∧ y' = y + 1 ∧ m' = 1)) := by
  by_cases hd : d < lenM y m
  · exact ⟨y, m, d + 1, ⟨h.y1, h.y2, h.m1, h.m2, by have := h.d1; omega, by omega, by have := h.eq; omega⟩, .inl ⟨hd, rfl, rfl, rfl⟩⟩
  · have e : d = lenM y m := by have := h.d2; omega
    rw [e] at h
    obtain ⟨y', m', h1, h2⟩ := h.first hn
    refine ⟨y', m', 1, h1, .inr ?_⟩
    rcases h2 with ⟨rfl, rfl⟩ | ⟨rfl, rfl, rfl⟩
    · exact .inl ⟨e, rfl, by have := h1.m2; omega, rfl, rfl⟩
    · exact .inr ⟨e, rfl, rfl, rfl, rfl⟩

set_option maxRecDepth 100000 in
theorem dateInverse_any (A : Option Addr) (L : List Int) (cap : Nat) (w : World) (hL : IntsAt w A L) :
    Calls Try.prog 11 #[.slice A L.length cap] w (RetB (.bool true) w) := by
  have ht0 := ts_start (cap := cap) hL
  clear hL
  go_enter Try.func11, Try.ntmps11
  go_wp2_with fail
  refine (day_any w.heap.size w.heap.size 100000 _ (ht0.less (by omega))).mono ?_
  rintro e w1 ⟨n, hv1, hv2, rfl, ht1, ho1⟩
  have hT1 := ht0.draw ht1 ho1
  clear ht0 ht1 ho1
  obtain ⟨y, m, d, h1⟩ := cv_any n hv1 hv2
  have HP := Lib.hid (parse_fmt h1)
  have H1 := Lib.hid h1
  clear h1
  go_wp2_with fail
  refine (dcivil_is (.inl ⟨H1.out, rfl⟩) _).mono ?_
  rintro e w1' ⟨rfl, rfl⟩
  go_wp2_with fail
  refine (dfrom_is (.inl ⟨H1.out, rfl⟩) _).mono ?_
  rintro e w1' ⟨rfl, rfl⟩
  go_wp2_with fail
  refine (dfmt_is (.inl ⟨_, _, _, H1.out, rfl, rfl⟩) _).mono ?_
  rintro e w2 ⟨rfl, hb2⟩
  have hT2 := hT1.next hb2
  clear hT1 hb2
  go_wp2_with fail
  refine (dparse_is HP.out _).mono ?_
  rintro e w2' ⟨rfl, rfl⟩
  by_cases hn : n = 73048
  · subst hn
    go_wp2_with fail
    refine (known5_any _).mono ?_
    rintro e w3 ⟨rfl, hb3⟩
    have hT3 := hT2.next hb3
    go_wp2_with fail
    go_ret
    exact ⟨rfl, hT3.below⟩
  · have hne : (n == 73048) = false := beq_eq_false_iff_ne.2 hn
    obtain ⟨y', m', d', h2, hcase⟩ := H1.out.next (by omega)
    have HL := Lib.hid (fmt_less H1.out h2 (by omega))
    have H2 := Lib.hid h2
    have y1 := H1.out.y1
    have y2 := H1.out.y2
    have m1 := H1.out.m1
    have m2 := H1.out.m2
    have d1 := H1.out.d1
    have d2 := H1.out.d2
    have len31 := len_bd y m
    obtain ⟨l28, l31⟩ := len31
    have hlen : Hid (LenR y m (lenM y m) 0) := Lib.hid (.inl ⟨⟨H1.out.y1, H1.out.y2, H1.out.m1, H1.out.m2⟩, rfl, rfl⟩)
    generalize lenM y m = lm at *
    clear h2 hn
    have HC := Lib.hid hcase
    clear hcase
    go_wp2_with fail
    refine (dlen_is hlen.out _).mono ?_
    rintro e w3 ⟨rfl, rfl⟩
    go_wp2_with fail
    refine (dcivil_is (.inl ⟨H2.out, rfl⟩) _).mono ?_
    rintro e w3 ⟨rfl, rfl⟩
    go_wp2_with fail
    refine (dfmt_is (.inl ⟨_, _, _, H2.out, rfl, rfl⟩) _).mono ?_
    rintro e w3 ⟨rfl, hb3⟩
    have hT3 := hT2.next hb3
    clear hT2 hb3
    have hcase := HC.out
    rcases hcase with ⟨c1, c2, c3, c4⟩ | ⟨c1, c2, c3, c4, c5⟩ | ⟨c1, c2, c3, c4, c5⟩
    · have b1 : (y' == y) = true := beq_iff_eq.2 c2
      have b2 : (m' == m) = true := beq_iff_eq.2 c3
      have b3 : (d' == d + 1) = true := beq_iff_eq.2 c4
      clear c2 c3 c4
      go_wp2_with fail
      refine (known5_any _).mono ?_
      rintro e w4 ⟨rfl, hb4⟩
      have hT4 := hT3.next hb4
      go_wp2_with fail
      go_ret
      exact ⟨ret_bool HL.out, hT4.below⟩
    · have b1 : (y' == y) = true := beq_iff_eq.2 c4
      have b2 : (m' == m) = false := beq_eq_false_iff_ne.2 (by omega)
      have b3 : (d' == 1) = true := beq_iff_eq.2 c2
      have b4 : (d == lm) = true := beq_iff_eq.2 c1
      have b5 : (m' == m + 1) = true := beq_iff_eq.2 c5
      have c6 : lm ≤ d := by omega
      clear c1 c2 c3 c4 c5
      go_wp2_with fail
      refine (known5_any _).mono ?_
      rintro e w4 ⟨rfl, hb4⟩
      have hT4 := hT3.next hb4
      go_wp2_with fail
      go_ret
      exact ⟨ret_bool HL.out, hT4.below⟩
    · have b1 : (y' == y) = false := beq_eq_false_iff_ne.2 (by omega)
      have b2 : (y' == y + 1) = true := beq_iff_eq.2 c4
      have b3 : (d' == 1) = true := beq_iff_eq.2 c2
      have b4 : (d == lm) = true := beq_iff_eq.2 c1
      have b5 : (m' == 1) = true := beq_iff_eq.2 c5
      have b6 : (m == 12) = true := beq_iff_eq.2 c3
      have c6 : lm ≤ d := by omega
      clear c1 c2 c3 c4 c5
      go_wp2_with fail
      refine (known5_any _).mono ?_
      rintro e w4 ⟨rfl, hb4⟩
      have hT4 := hT3.next hb4
      go_wp2_with fail
      go_ret
      exact ⟨ret_bool HL.out, hT4.below⟩
end Go.Proofs.Ytmjegmlchonlmaa
