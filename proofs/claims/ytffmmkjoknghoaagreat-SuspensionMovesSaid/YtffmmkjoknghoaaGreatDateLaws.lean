/-
  What all functions of dates return, in one relation each; the sanity check; the law on arbitrary arguments and on texts.
-/
import Derived.Test.YtffmmkjoknghoaaGreatDateParse
import Derived.Test.YtffmmkjoknghoaaGreatDateFmt
import Derived.Test.YtffmmkjoknghoaaGreatDateWalk
namespace Go.Proofs.YtffmmkjoknghoaaGreat
open Go.RowKit
set_option maxHeartbeats 4000000
set_option linter.unusedVariables false

def dayR (n : Int) : Prop := 0 ≤ n ∧ n ≤ 73048
def LenR (y m v e : Int) : Prop := (monthR y m ∧ v = lenM y m ∧ e = 0) ∨ (¬monthR y m ∧ v = 0 ∧ e = 51)
def FromR (y m d v e : Int) : Prop := (CV v y m d ∧ e = 0) ∨ (¬dateR y m d ∧ v = 0 ∧ e = 51)
def CivilR (n y m d e : Int) : Prop := (CV n y m d ∧ e = 0) ∨ (¬(0 ≤ n ∧ n ≤ 73048) ∧ y = 0 ∧ m = 0 ∧ d = 0 ∧ e = 50)
def WeekR (n v e : Int) : Prop := (0 ≤ n ∧ n ≤ 73048 ∧ v = (n + 5) % 7 ∧ e = 0) ∨ (¬(0 ≤ n ∧ n ≤ 73048) ∧ v = 0 ∧ e = 50)
def EndR (n v e : Int) : Prop := (∃ y m d, CV n y m d ∧ v = n + lenM y m - d ∧ e = 0) ∨ (¬(0 ≤ n ∧ n ≤ 73048) ∧ v = 0 ∧ e = 50)
def AddR (n a v e : Int) : Prop :=
  (∃ y m d d', CV n y m d ∧ addR y m a ∧ d' = min d (lenM (2000 + (12 * (y - 2000) + m - 1 + a) / 12) ((12 * (y - 2000) + m - 1 + a) % 12 + 1)) ∧
    CV v (2000 + (12 * (y - 2000) + m - 1 + a) / 12) ((12 * (y - 2000) + m - 1 + a) % 12 + 1) d' ∧ e = 0) ∨
  (∃ y m d, CV n y m d ∧ ¬addR y m a ∧ v = 0 ∧ e = 51) ∨ (¬(0 ≤ n ∧ n ≤ 73048) ∧ v = 0 ∧ e = 50)
def FmtR (n : Int) (s : ByteArray) (e : Int) : Prop := (∃ y m d, CV n y m d ∧ s = fmtS y m d ∧ e = 0) ∨ (¬(0 ≤ n ∧ n ≤ 73048) ∧ s = ⟨#[]⟩ ∧ e = 50)
theorem day_or (n : Int) : (∃ y m d, CV n y m d) ∨ ¬(0 ≤ n ∧ n ≤ 73048) := by
  by_cases h : 0 ≤ n ∧ n ≤ 73048
  · exact .inl (cv_any n h.1 h.2)
  · exact .inr h
theorem len_ex (y m : Int) : ∃ v e, LenR y m v e := by
  by_cases h : monthR y m
  · exact ⟨_, _, .inl ⟨h, rfl, rfl⟩⟩
  · exact ⟨_, _, .inr ⟨h, rfl, rfl⟩⟩
theorem from_ex (y m d : Int) : ∃ v e, FromR y m d v e := by
  by_cases h : dateR y m d
  · obtain ⟨n, hn⟩ := h.cv
    exact ⟨_, _, .inl ⟨hn, rfl⟩⟩
  · exact ⟨_, _, .inr ⟨h, rfl, rfl⟩⟩
theorem civil_ex (n : Int) : ∃ y m d e, CivilR n y m d e := by
  rcases day_or n with ⟨y, m, d, h⟩ | h
  · exact ⟨_, _, _, _, .inl ⟨h, rfl⟩⟩
  · exact ⟨_, _, _, _, .inr ⟨h, rfl, rfl, rfl, rfl⟩⟩
theorem week_ex (n : Int) : ∃ v e, WeekR n v e := by
  by_cases h : 0 ≤ n ∧ n ≤ 73048
  · exact ⟨_, _, .inl ⟨h.1, h.2, rfl, rfl⟩⟩
  · exact ⟨_, _, .inr ⟨h, rfl, rfl⟩⟩
theorem end_ex (n : Int) : ∃ v e, EndR n v e := by
  rcases day_or n with ⟨y, m, d, h⟩ | h
  · exact ⟨_, _, .inl ⟨_, _, _, h, rfl, rfl⟩⟩
  · exact ⟨_, _, .inr ⟨h, rfl, rfl⟩⟩
theorem add_cv {y m d a : Int} (hd : 1 ≤ d) (ha : addR y m a) : ∃ v, CV v (2000 + (12 * (y - 2000) + m - 1 + a) / 12) ((12 * (y - 2000) + m - 1 + a) % 12 + 1) (min d (lenM (2000 + (12 * (y - 2000) + m - 1 + a) / 12) ((12 * (y - 2000) + m - 1 + a) % 12 + 1))) := by
  obtain ⟨a1, a2, a3, a4⟩ := ha
  have hb := len_bd (2000 + (12 * (y - 2000) + m - 1 + a) / 12) ((12 * (y - 2000) + m - 1 + a) % 12 + 1)
  exact ⟨_, by omega, by omega, by omega, by omega, by omega, by omega, rfl⟩
theorem add_ex (n a : Int) : ∃ v e, AddR n a v e := by
  rcases day_or n with ⟨y, m, d, h⟩ | h
  · by_cases ha : addR y m a
    · obtain ⟨v, hv⟩ := add_cv h.d1 ha
      exact ⟨v, 0, .inl ⟨y, m, d, _, h, ha, rfl, hv, rfl⟩⟩
    · exact ⟨0, 51, .inr (.inl ⟨y, m, d, h, ha, rfl, rfl⟩)⟩
  · exact ⟨0, 50, .inr (.inr ⟨h, rfl, rfl⟩)⟩
theorem fmt_ex (n : Int) : ∃ s e, FmtR n s e := by
  rcases day_or n with ⟨y, m, d, h⟩ | h
  · exact ⟨_, _, .inl ⟨_, _, _, h, rfl, rfl⟩⟩
  · exact ⟨_, _, .inr ⟨h, rfl, rfl⟩⟩
theorem dlen_is {y m v e : Int} (h : LenR y m v e) (w : World) : Calls Tryz.prog 194 #[.int .i64 y, .int .i64 m] w (RetW (.tuple #[.int .i64 v, .int .i64 e]) w) := by
  rcases h with ⟨h, rfl, rfl⟩ | ⟨h, rfl, rfl⟩
  · exact dlength_in h.1 h.2.1 h.2.2.1 h.2.2.2 w
  · exact dlength_out h w
theorem rlen_is {y m v e : Int} (h : LenR y m v e) (w : World) : Calls Tryz.prog 144 #[.int .i64 y, .int .i64 m] w (RetW (.tuple #[.int .i64 v, .int .i64 e]) w) := by
  rcases h with ⟨h, rfl, rfl⟩ | ⟨h, rfl, rfl⟩
  · exact rlength_in h.1 h.2.1 h.2.2.1 h.2.2.2 w
  · exact rlength_out h w
theorem rfrom_is {y m d v e : Int} (h : FromR y m d v e) (w : World) : Calls Tryz.prog 123 #[.int .i64 y, .int .i64 m, .int .i64 d] w (RetW (.tuple #[.int .i64 v, .int .i64 e]) w) := by
  rcases h with ⟨h, rfl⟩ | ⟨h, rfl, rfl⟩
  · exact rfrom_in h w
  · exact rfrom_out h w
theorem dcivil_is {n y m d e : Int} (h : CivilR n y m d e) (w : World) : Calls Tryz.prog 190 #[.int .i64 n] w (RetW (.tuple #[.int .i64 y, .int .i64 m, .int .i64 d, .int .i64 e]) w) := by
  rcases h with ⟨h, rfl⟩ | ⟨h, rfl, rfl, rfl, rfl⟩
  · exact dcivil_in h w
  · exact dcivil_out h w
theorem rcivil_is {n y m d e : Int} (h : CivilR n y m d e) (w : World) : Calls Tryz.prog 122 #[.int .i64 n] w (RetW (.tuple #[.int .i64 y, .int .i64 m, .int .i64 d, .int .i64 e]) w) := by
  rcases h with ⟨h, rfl⟩ | ⟨h, rfl, rfl, rfl, rfl⟩
  · exact rcivil_in h w
  · exact rcivil_out h w
theorem dweek_is {n v e : Int} (h : WeekR n v e) (w : World) : Calls Tryz.prog 186 #[.int .i64 n] w (RetW (.tuple #[.int .i64 v, .int .i64 e]) w) := by
  rcases h with ⟨h, h', rfl, rfl⟩ | ⟨h, rfl, rfl⟩
  · exact dweek_in h h' w
  · exact dweek_out h w
theorem rweek_is {n v e : Int} (h : WeekR n v e) (w : World) : Calls Tryz.prog 121 #[.int .i64 n] w (RetW (.tuple #[.int .i64 v, .int .i64 e]) w) := by
  rcases h with ⟨h, h', rfl, rfl⟩ | ⟨h, rfl, rfl⟩
  · exact rweek_in h h' w
  · exact rweek_out h w
theorem dend_is {n v e : Int} (h : EndR n v e) (w : World) : Calls Tryz.prog 191 #[.int .i64 n] w (RetW (.tuple #[.int .i64 v, .int .i64 e]) w) := by
  rcases h with ⟨y, m, d, h, rfl, rfl⟩ | ⟨h, rfl, rfl⟩
  · exact dend_in h w
  · exact dend_out h w
theorem rend_is {n v e : Int} (h : EndR n v e) (w : World) : Calls Tryz.prog 124 #[.int .i64 n] w (RetW (.tuple #[.int .i64 v, .int .i64 e]) w) := by
  rcases h with ⟨y, m, d, h, rfl, rfl⟩ | ⟨h, rfl, rfl⟩
  · exact rend_in h w
  · exact rend_out h w
theorem kn1 : FromR 2000 2 29 59 0 := .inl ⟨⟨by decide, by decide, by decide, by decide, by decide, by decide, by decide⟩, rfl⟩
theorem kn2 : FromR 2100 2 29 0 51 := .inr ⟨fun h => by have := h.2.2; revert this; decide, rfl, rfl⟩
theorem kn3 : WeekR 0 5 0 := .inl ⟨by decide, by decide, by decide, rfl⟩
theorem kn4 : ParseR ⟨#[50, 48, 50, 52, 45, 48, 49, 45, 51, 49]⟩ 8796 0 := .inr ⟨by decide +kernel, .inl ⟨⟨by decide +kernel, by decide +kernel, by decide +kernel, by decide +kernel, by decide +kernel, by decide +kernel, by decide +kernel⟩, rfl⟩⟩
theorem kn5 : AddR 8796 13 9190 0 := .inl ⟨2024, 1, 31, 28, ⟨by decide, by decide, by decide, by decide, by decide, by decide, by decide⟩, ⟨by decide, by decide, by decide, by decide⟩, by decide, ⟨by decide, by decide, by decide, by decide, by decide, by decide, by decide⟩, rfl⟩
theorem kn6 : FmtR 9190 ⟨#[50, 48, 50, 53, 45, 48, 50, 45, 50, 56]⟩ 0 := .inl ⟨2025, 2, 28, ⟨by decide, by decide, by decide, by decide, by decide, by decide, by decide⟩, by decide +kernel, rfl⟩
end Go.Proofs.YtffmmkjoknghoaaGreat
