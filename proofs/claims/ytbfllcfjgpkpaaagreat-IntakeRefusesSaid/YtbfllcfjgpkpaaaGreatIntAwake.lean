/-
  Intake: the examples of the chapter.
-/
import Derived.Test.YtbfllcfjgpkpaaaGreatIntTk
import Derived.Test.YtbfllcfjgpkpaaaGreatIntPlain
import Derived.Test.YtbfllcfjgpkpaaaGreatSusLaws
import Derived.Test.YtbfllcfjgpkpaaaGreatRow
import Derived.Test.YtbfllcfjgpkpaaaGreatScene6
import Derived.Deep.DrawnRows
namespace Go.Proofs.YtbfllcfjgpkpaaaGreat
open Go.RowKit
set_option linter.unusedVariables false
set_option maxHeartbeats 4000000
theorem fr_ex (s : SC) (z : ZN) (c : CN) : ∃ fr : Int → Int × Int, ∀ t, ForR s z c t (fr t).1 (fr t).2 :=
  ⟨fun t => ((for_ex s z c t).choose, (for_ex s z c t).choose_spec.choose), fun t => (for_ex s z c t).choose_spec.choose_spec⟩
theorem dl_exF (s : SC) (z : ZN) (c : CN) : ∃ dl : Int → Int × Int, ∀ d, DlnR s z c d (dl d).1 (dl d).2 :=
  ⟨fun t => ((dln_ex s z c t).choose, (dln_ex s z c t).choose_spec.choose), fun t => (dln_ex s z c t).choose_spec.choose_spec⟩
def s24 : SC := ⟨1, 0, 0, 0, 720⟩
theorem s24_ok : s24.ok = true := by decide +kernel
def o1B : ByteArray := ⟨#[111, 49]⟩
def awO (known : Int) : OR := ⟨o1B, ⟨#[]⟩, ⟨#[97, 110, 110]⟩, alpha, ⟨#[97]⟩, 5, 0, 0, 2880, known, false⟩
def awV (t known : Int) : OR := ⟨o1B, ⟨#[]⟩, ⟨#[]⟩, ⟨#[]⟩, ⟨#[]⟩, 0, 0, 0, t, known, true⟩
def awL4 : List OR := [awO 1, awO 2, awV 3601 3, awV 3600 4]
def awL3 : List OR := [awO 1, awO 2, awV 3601 3]
theorem aw_fr : ForR s24 zAw cAw 2880 2 0 := .inr (.inr ⟨aErr_ok s24_ok zAw_ok cAw_ok, by omega, by omega, .inr ⟨by decide +kernel, rfl⟩⟩)
theorem aw_de : DeR s24 zAw cAw 2 0 := .inr (.inr (.inr ⟨aErr_ok s24_ok zAw_ok cAw_ok, by decide, by decide +kernel, rfl⟩))
theorem aw_dl : DlnR s24 zAw cAw 2 3600 0 := .inr ⟨aw_de, .inr ⟨2, by decide +kernel, .inr ⟨by decide +kernel, rfl⟩⟩⟩
theorem aw_ex : ∃ fr dl : Int → Int × Int, (∀ t, ForR s24 zAw cAw t (fr t).1 (fr t).2) ∧ (∀ d, DlnR s24 zAw cAw d (dl d).1 (dl d).2) ∧ fr 2880 = (2, 0) ∧ dl 2 = (3600, 0) := by
  obtain ⟨fr, hfr⟩ := fr_ex s24 zAw cAw
  obtain ⟨dl, hdl⟩ := dl_exF s24 zAw cAw
  refine ⟨fun t => if t = 2880 then (2, 0) else fr t, fun d => if d = 2 then (3600, 0) else dl d, fun t => ?_, fun d => ?_, by simp, by simp⟩
  · by_cases h : t = 2880
    · subst h
      exact aw_fr
    · simp only [h, if_false]
      exact hfr t
  · by_cases h : d = 2
    · subst h
      exact aw_dl
    · simp only [h, if_false]
      exact hdl d
theorem aw_c (k known : Int) (h : known ≤ k) : cntO k alpha (awO known) = true := by simp [cntO, awO, h]
theorem aw_cv (k t known : Int) (h : known ≤ k) : cntO k alpha (awV t known) = true := by simp [cntO, awV, h]
theorem aw_rep : repB (awO 2) (awO 1) = true := by simp [repB, awO]
theorem aw_n1 {fr dl : Int → Int × Int} (h1 : fr 2880 = (2, 0)) (h2 : dl 2 = (3600, 0)) (l : List OR) (hl : l[0]? = some (awO 1)) (k : Int) (hk : 1 ≤ k) : nowF fr dl l k alpha o1B 1 = some (0, 2) := by
  rw [nowF_succ hl, if_pos ⟨aw_c k 1 hk, rfl⟩]
  simp [nowF, stepK, awO, h1]
theorem aw_n2 {fr dl : Int → Int × Int} (h1 : fr 2880 = (2, 0)) (h2 : dl 2 = (3600, 0)) (l : List OR) (hl : l[0]? = some (awO 1)) (hl1 : l[1]? = some (awO 2)) (k : Int) (hk : 2 ≤ k) : nowF fr dl l k alpha o1B 2 = some (0, 2) := by
  rw [nowF_succ hl1, if_pos ⟨aw_c k 2 hk, rfl⟩, aw_n1 h1 h2 l hl k (by omega)]
  simp only [stepK, h2, hl, aw_rep]
  simp [awO]
theorem aw_n3 {fr dl : Int → Int × Int} (h1 : fr 2880 = (2, 0)) (h2 : dl 2 = (3600, 0)) (l : List OR) (hl : l[0]? = some (awO 1)) (hl1 : l[1]? = some (awO 2)) (hl2 : l[2]? = some (awV 3601 3)) (k : Int) (hk : 3 ≤ k) : nowF fr dl l k alpha o1B 3 = some (0, 2) := by
  rw [nowF_succ hl2, if_pos ⟨aw_cv k _ 3 hk, rfl⟩, aw_n2 h1 h2 l hl hl1 k (by omega)]
  simp only [stepK, h2]
  simp [awV]
theorem aw_st {fr dl : Int → Int × Int} (h1 : fr 2880 = (2, 0)) (h2 : dl 2 = (3600, 0)) : stA 4 (fun j => stF fr dl awL4 4 alpha j 4) = #[.int .i64 3, .int .i64 7, .int .i64 4, .int .i64 1] := by
  have n0 : nowF fr dl awL4 4 alpha o1B 0 = none := rfl
  have n1 := aw_n1 h1 h2 awL4 rfl 4 (by omega)
  have n2 := aw_n2 h1 h2 awL4 rfl rfl 4 (by omega)
  have n3 := aw_n3 h1 h2 awL4 rfl rfl rfl 4 (by omega)
  have e0 : stF fr dl awL4 4 alpha 0 4 = 3 := by
    rw [stF_succ (show awL4[3]? = some (awV 3600 4) from rfl), if_pos (aw_cv 4 _ 4 (by omega)), show (awV 3600 4).key = o1B from rfl, n3]
    simp [stepK, awV, h2]
  have e1 : stF fr dl awL4 4 alpha 1 4 = 7 := by
    rw [stF_succ (show awL4[3]? = some (awV 3600 4) from rfl), if_pos (aw_cv 4 _ 4 (by omega)), show (awV 3600 4).key = o1B from rfl, n3, if_neg (by omega), if_neg (by simp)]
    rw [stF_succ (show awL4[2]? = some (awV 3601 3) from rfl), if_pos (aw_cv 4 _ 3 (by omega)), show (awV 3601 3).key = o1B from rfl, n2, if_neg (by omega), if_neg (by simp)]
    rw [stF_succ (show awL4[1]? = some (awO 2) from rfl), if_pos (aw_c 4 2 (by omega)), show (awO 2).key = o1B from rfl, n1, if_pos rfl]
    simp only [stepK, h2, show awL4[0]? = some (awO 1) from rfl, aw_rep]
    simp [awO]
  have e2 : stF fr dl awL4 4 alpha 2 4 = 4 := by
    rw [stF_succ (show awL4[3]? = some (awV 3600 4) from rfl), if_pos (aw_cv 4 _ 4 (by omega)), show (awV 3600 4).key = o1B from rfl, n3, if_neg (by omega), if_neg (by simp)]
    rw [stF_succ (show awL4[2]? = some (awV 3601 3) from rfl), if_pos (aw_cv 4 _ 3 (by omega)), show (awV 3601 3).key = o1B from rfl, n2, if_pos rfl]
    simp [stepK, awV, h2]
  have e3 : stF fr dl awL4 4 alpha 3 4 = 1 := by
    rw [stF_succ (show awL4[3]? = some (awV 3600 4) from rfl), if_pos (aw_cv 4 _ 4 (by omega)), show (awV 3600 4).key = o1B from rfl, n3, if_pos rfl]
    simp [stepK, awV, h2]
  have : stA 4 (fun j => stF fr dl awL4 4 alpha j 4) = #[.int .i64 (stF fr dl awL4 4 alpha 0 4), .int .i64 (stF fr dl awL4 4 alpha 1 4), .int .i64 (stF fr dl awL4 4 alpha 2 4), .int .i64 (stF fr dl awL4 4 alpha 3 4)] := rfl
  rw [this, e0, e1, e2, e3]
theorem aw_cur {fr dl : Int → Int × Int} (h1 : fr 2880 = (2, 0)) (h2 : dl 2 = (3600, 0)) (key : ByteArray) : curC fr dl 3 alpha key none awL3 = if key = o1B then some (awO 1, 2) else none := by
  by_cases hk : key = o1B
  · subst hk
    rw [if_pos rfl]
    show curC fr dl 3 alpha o1B none [awO 1, awO 2, awV 3601 3] = _
    have s1 : stepC fr dl none (awO 1) = (some (awO 1, 2), 1) := by simp [stepC, awO, h1]
    have s2 : stepC fr dl (some (awO 1, 2)) (awO 2) = (some (awO 1, 2), 7) := by
      simp only [stepC, h2, aw_rep]
      simp [awO]
    have s3 : stepC fr dl (some (awO 1, 2)) (awV 3601 3) = (some (awO 1, 2), 4) := by
      simp only [stepC, h2]
      simp [awV]
    rw [curC, if_pos ⟨aw_c 3 1 (by omega), rfl⟩, s1, curC, if_pos ⟨aw_c 3 2 (by omega), rfl⟩, s2, curC, if_pos ⟨aw_cv 3 _ 3 (by omega), rfl⟩, s3]
    rfl
  · rw [if_neg hk]
    have h3 : ∀ x ∈ awL3, ¬ (cntO 3 alpha x = true ∧ x.key = key) := by
      intro x hx h
      have : x.key = o1B := by
        simp [awL3] at hx
        rcases hx with rfl | rfl | rfl <;> rfl
      exact hk (h.2.symm.trans this)
    show curC fr dl 3 alpha key none [awO 1, awO 2, awV 3601 3] = _
    rw [curC, if_neg (h3 _ (by simp [awL3])), curC, if_neg (h3 _ (by simp [awL3])), curC, if_neg (h3 _ (by simp [awL3]))]
    rfl
theorem aw_tk {fr dl : Int → Int × Int} (h1 : fr 2880 = (2, 0)) (h2 : dl 2 = (3600, 0)) : TakenC (fun key => curC fr dl 3 alpha key none awL3) [(awO 1, 2)] := by
  refine ⟨List.pairwise_singleton _ _, fun o d => ?_⟩
  show _ ↔ curC fr dl 3 alpha o.key none awL3 = some (o, d)
  rw [aw_cur h1 h2]
  constructor
  · intro h
    simp at h
    obtain ⟨rfl, rfl⟩ := h
    rfl
  · intro h
    split at h
    · injection h with h
      rw [h]
      simp
    · cases h
theorem aw_b4 : bookErr awL4 = 0 := by decide +kernel
theorem aw_b3 : bookErr awL3 = 0 := by decide +kernel
/-- A list of orders that lies in a block of its own. -/
theorem ord_blk {W : World} {g : Nat} {cs : Array Value} {t : TypeId} (L : List OR) (hb : BlkAt W g cs t) (he : cs.toList = (orL L).flatten) (hs : ∀ x ∈ L, x.small) (hl : L.length ≤ 4096) : OrAt W (some ⟨g, 0, none⟩) L := by
  refine ⟨⟨by simp; omega, fun k r hr => ⟨g, 0, rfl, hb.lt, fun j v hv => ?_⟩⟩, hs⟩
  have h1 := flat_get (n := 11) (orL L) k r (orL_len L) hr j v hv
  rw [← he] at h1
  rw [Nat.zero_add]
  exact hb.cell (by simpa using h1)
theorem awO_small (k : Int) : (awO k).small := ⟨show o1B.size ≤ maxLen by decide, show (⟨#[]⟩ : ByteArray).size ≤ maxLen by decide, show (⟨#[97, 110, 110]⟩ : ByteArray).size ≤ maxLen by decide, show alpha.size ≤ maxLen by decide, show (⟨#[97]⟩ : ByteArray).size ≤ maxLen by decide⟩
theorem awV_small (t k : Int) : (awV t k).small := ⟨show o1B.size ≤ maxLen by decide, show (⟨#[]⟩ : ByteArray).size ≤ maxLen by decide, show (⟨#[]⟩ : ByteArray).size ≤ maxLen by decide, show (⟨#[]⟩ : ByteArray).size ≤ maxLen by decide, show (⟨#[]⟩ : ByteArray).size ≤ maxLen by decide⟩
theorem aw_s4 : ∀ x ∈ awL4, x.small := by
  intro x hx
  simp [awL4] at hx
  rcases hx with rfl | rfl | rfl | rfl
  · exact awO_small _
  · exact awO_small _
  · exact awV_small _ _
  · exact awV_small _ _
theorem aw_s3 : ∀ x ∈ awL3, x.small := fun x hx => aw_s4 x (by simp [awL3] at hx; simp [awL4]; rcases hx with h | h | h <;> simp [h])
def AwS (w : World) (e : Ending) (w' : World) : Prop :=
  ∃ gs, e = .returned (.tuple #[.slice (some ⟨gs, 0, none⟩) 4 4, .int .i64 0]) ∧ BlkAt w' gs #[.int .i64 3, .int .i64 7, .int .i64 4, .int .i64 1] 3 ∧ Below w.heap.size w w'
theorem awS (w : World) (g : Nat) (h : OrAt w (some ⟨g, 0, none⟩) awL4) : Calls Tryz.prog 11 #[.slice (some ⟨g, 0, none⟩) 4 4, .int .i64 4, .string ⟨#[97, 108, 112, 104, 97]⟩, .agg (sV s24), .agg (pV zAw none 0 cAw none 0)] w (AwS w) := by
  obtain ⟨fr, dl, hfr, hdl, h1, h2⟩ := aw_ex
  have hP : DPar.Ok ⟨awL4, some ⟨g, 0, none⟩, 4, s24, zAw, none, 0, cAw, none, 0, fr, dl⟩ w := ⟨h, zAw_at w, cAw_at w, hfr, hdl, (show awL4.length ≤ 4096 by decide)⟩
  refine (stat_ok hP (k := 4) (fund := alpha) aw_b4 (by decide) (by decide +kernel) (by decide) zAw_ok cAw_ok s24_ok).mono ?_
  rintro e w' ⟨gs, he, hb, hbl, -⟩
  refine ⟨gs, he, hb.is ?_, hbl⟩
  exact aw_st h1 h2
def AwT (w : World) (e : Ending) (w' : World) : Prop :=
  ∃ A cap, e = .returned (.tuple #[.slice A 1 cap, .int .i64 0]) ∧ TkAt w' A [(awO 1, 2)] ∧ Below w.heap.size w w'
theorem awT (w : World) (g : Nat) (h : OrAt w (some ⟨g, 0, none⟩) awL3) : Calls Tryz.prog 13 #[.slice (some ⟨g, 0, none⟩) 3 3, .int .i64 3, .string ⟨#[97, 108, 112, 104, 97]⟩, .agg (sV s24), .agg (pV zAw none 0 cAw none 0)] w (AwT w) := by
  obtain ⟨fr, dl, hfr, hdl, h1, h2⟩ := aw_ex
  have hP : DPar.Ok ⟨awL3, some ⟨g, 0, none⟩, 3, s24, zAw, none, 0, cAw, none, 0, fr, dl⟩ w := ⟨h, zAw_at w, cAw_at w, hfr, hdl, (show awL3.length ≤ 4096 by decide)⟩
  refine (taken_ok hP (k := 3) (fund := alpha) aw_b3 (by decide) (by decide +kernel) (by decide) zAw_ok cAw_ok s24_ok).mono ?_
  rintro e w' ⟨v, L, rfl, hO, hT⟩
  have hL : L = [(awO 1, 2)] := TakenC.unique (hT.toC aw_b3) (aw_tk h1 h2) (fun _ => rfl)
  subst hL
  obtain ⟨A, cap, rfl, hA⟩ := hO.taken (by decide)
  exact ⟨A, cap, rfl, hA, hO.below⟩
/-- Two lists of numbers, held against each other. -/
theorem r23same_any (L : List Int) (A A' : Option Addr) (c c' : Nat) (w : World) (h1 : IntsAt w A L) (h2 : IntsAt w A' L) : Calls Tryz.prog 15 #[.slice A L.length c, .slice A' L.length c'] w (RetB (.bool true) w) := by
  have hln := h1.1
  have H1 := Lib.hid h1
  have H2 := Lib.hid h2
  clear h1 h2
  go_enter Tryz.func15, Tryz.ntmps15
  go_wp2_with fail
  go_loopw [5] (fun iv wr => ∃ i : Nat, i ≤ L.length ∧ iv = .int .i64 i ∧ Below w.heap.size w wr) (fun iv _ => L.length - (intOf iv).toNat)
  case atStart => exact ⟨0, by omega, rfl, Below.refl _ _⟩
  case round =>
    obtain ⟨i, hi, rfl, hB⟩ := hrel
    by_cases hlt : i < L.length
    · obtain ⟨p, hp⟩ : ∃ p, L[i]? = some p := ⟨_, List.getElem?_eq_getElem hlt⟩
      obtain ⟨b, o, rfl, -, q0⟩ := (H1.out.below hB).2 i p hp
      obtain ⟨b', o', rfl, -, r0⟩ := (H2.out.below hB).2 i p hp
      have HB := Lib.hid hB
      have hi0 : (0 : Int) ≤ (i : Int) := by omega
      have hi1 : (i : Int) < (L.length : Int) := by omega
      clear hp hB
      go_wp2_with fail
      go_quiet (fail)
      clear q0 r0
      go_wp2_with fail
      go_roundw
      case rel => exact ⟨i + 1, by omega, by go_num, bnext HB.out (Go.below_drewN (Below.refl _ _) nq)⟩
      case measure => simp [intOf]; omega
    · go_wp2_with fail
      go_ret
      exact ⟨rfl, hB⟩
def DlyP (w : World) (e : Ending) (w' : World) : Prop := e = .returned (.tuple #[.agg #[.int .i64 1, .int .i64 0, .int .i64 0, .int .i64 0, .int .i64 720], .agg #[.string ⟨#[104, 111, 109, 101]⟩, .int .i64 0, .slice none 0 0, .string ⟨#[100, 97, 121, 115]⟩, .bool false, .bool false, .bool false, .bool false, .bool false, .bool true, .bool true, .slice none 0 0]]) ∧ Below w.heap.size w w'
theorem daily_any (w : World) : Calls Tryz.prog 21 #[] w (DlyP w) := by
  go_enter Tryz.func21, Tryz.ntmps21
  go_wp2_with fail
  exact bodyPost_ret (v := .tuple #[.agg #[.int .i64 1, .int .i64 0, .int .i64 0, .int .i64 0, .int .i64 720], .agg #[.string ⟨#[104, 111, 109, 101]⟩, .int .i64 0, .slice none 0 0, .string ⟨#[100, 97, 121, 115]⟩, .bool false, .bool false, .bool false, .bool false, .bool false, .bool true, .bool true, .slice none 0 0]]) (by simp [results, Tryz.f21, go_sem]) rfl ⟨rfl, bal (bal0 _ _) _⟩
theorem rowA1 : RowV Tryz.prog 57 #[.string ⟨#[111, 49]⟩, .string ⟨#[]⟩, .string ⟨#[97, 110, 110]⟩, .string ⟨#[97, 108, 112, 104, 97]⟩, .string ⟨#[97]⟩, .int .i64 5, .int .i64 0, .int .i64 0, .int .i64 2880, .int .i64 1, .bool false] := rowOr (awO 1)
theorem rowA2 : RowV Tryz.prog 57 #[.string ⟨#[111, 49]⟩, .string ⟨#[]⟩, .string ⟨#[97, 110, 110]⟩, .string ⟨#[97, 108, 112, 104, 97]⟩, .string ⟨#[97]⟩, .int .i64 5, .int .i64 0, .int .i64 0, .int .i64 2880, .int .i64 2, .bool false] := rowOr (awO 2)
theorem rowAV : RowV Tryz.prog 57 #[.string ⟨#[111, 49]⟩, .string ⟨#[]⟩, .string ⟨#[]⟩, .string ⟨#[]⟩, .string ⟨#[]⟩, .int .i64 0, .int .i64 0, .int .i64 0, .int .i64 3601, .int .i64 3, .bool true] := rowOr (awV 3601 3)
theorem rowAS : RowV Tryz.prog 28 #[.int .i64 1, .int .i64 0, .int .i64 0, .int .i64 0, .int .i64 720] := rowS s24
theorem rowAP : RowV Tryz.prog 37 #[.string ⟨#[104, 111, 109, 101]⟩, .int .i64 0, .slice none 0 0, .string ⟨#[100, 97, 121, 115]⟩, .bool false, .bool false, .bool false, .bool false, .bool false, .bool true, .bool true, .slice none 0 0] := rowP zAw none 0 cAw none 0
/-- The blocks of the check. -/
structure AwB (w W : World) (G g1 g2 g3 g4 : Nat) : Prop where
  s : BlkAt W G #[.int .i64 1, .int .i64 0, .int .i64 0, .int .i64 0, .int .i64 720] 28
  p : BlkAt W g1 #[.string ⟨#[104, 111, 109, 101]⟩, .int .i64 0, .slice none 0 0, .string ⟨#[100, 97, 121, 115]⟩, .bool false, .bool false, .bool false, .bool false, .bool false, .bool true, .bool true, .slice none 0 0] 37
  a : BlkAt W g2 #[.string ⟨#[111, 49]⟩, .string ⟨#[]⟩, .string ⟨#[97, 110, 110]⟩, .string ⟨#[97, 108, 112, 104, 97]⟩, .string ⟨#[97]⟩, .int .i64 5, .int .i64 0, .int .i64 0, .int .i64 2880, .int .i64 1, .bool false] 57
  b : BlkAt W g3 #[.string ⟨#[111, 49]⟩, .string ⟨#[]⟩, .string ⟨#[97, 110, 110]⟩, .string ⟨#[97, 108, 112, 104, 97]⟩, .string ⟨#[97]⟩, .int .i64 5, .int .i64 0, .int .i64 0, .int .i64 2880, .int .i64 2, .bool false] 57
  l : BlkAt W g4 #[.string ⟨#[111, 49]⟩, .string ⟨#[]⟩, .string ⟨#[]⟩, .string ⟨#[]⟩, .string ⟨#[]⟩, .int .i64 0, .int .i64 0, .int .i64 0, .int .i64 3601, .int .i64 3, .bool true] 57
  below : Below w.heap.size w W
theorem AwB.next {w W W' : World} {G g1 g2 g3 g4 : Nat} (h : AwB w W G g1 g2 g3 g4) (hb : Below W.heap.size W W') : AwB w W' G g1 g2 g3 g4 := ⟨h.s.next hb, h.p.next hb, h.a.next hb, h.b.next hb, h.l.next hb, bnext h.below hb⟩
theorem AwB.lit {w w1 : World} (hb : Below w.heap.size w w1) (o o2 : Obj) : AwB w (((((((w1.alloc (.cells #[.int .i64 1, .int .i64 0, .int .i64 0, .int .i64 0, .int .i64 720] 28)).alloc (.cells #[.string ⟨#[104, 111, 109, 101]⟩, .int .i64 0, .slice none 0 0, .string ⟨#[100, 97, 121, 115]⟩, .bool false, .bool false, .bool false, .bool false, .bool false, .bool true, .bool true, .slice none 0 0] 37)).alloc (.cells #[.string ⟨#[111, 49]⟩, .string ⟨#[]⟩, .string ⟨#[97, 110, 110]⟩, .string ⟨#[97, 108, 112, 104, 97]⟩, .string ⟨#[97]⟩, .int .i64 5, .int .i64 0, .int .i64 0, .int .i64 2880, .int .i64 1, .bool false] 57)).alloc (.cells #[.string ⟨#[111, 49]⟩, .string ⟨#[]⟩, .string ⟨#[97, 110, 110]⟩, .string ⟨#[97, 108, 112, 104, 97]⟩, .string ⟨#[97]⟩, .int .i64 5, .int .i64 0, .int .i64 0, .int .i64 2880, .int .i64 2, .bool false] 57)).alloc (.cells #[.string ⟨#[111, 49]⟩, .string ⟨#[]⟩, .string ⟨#[]⟩, .string ⟨#[]⟩, .string ⟨#[]⟩, .int .i64 0, .int .i64 0, .int .i64 0, .int .i64 3601, .int .i64 3, .bool true] 57)).alloc o).alloc o2) w1.heap.size (w1.heap.size + 1) (w1.heap.size + 1 + 1) (w1.heap.size + 1 + 1 + 1) (w1.heap.size + 1 + 1 + 1 + 1) :=
  ⟨((((((BlkAt.new _ _ _).al _).al _).al _).al _).al _).al _, (((((BlkAt.newAt _ _ _ (by simp)).al _).al _).al _).al _).al _, ((((BlkAt.newAt _ _ _ (by simp)).al _).al _).al _).al _, (((BlkAt.newAt _ _ _ (by simp)).al _).al _).al _, ((BlkAt.newAt _ _ _ (by simp)).al _).al _, bal (bal (bal (bal (bal (bal (bal hb _) _) _) _) _) _) _⟩
theorem aw_tkq {W : World} {A : Option Addr} (h : TkAt W A [(awO 1, 2)]) : ∃ b o, A = some ⟨b, o, none⟩ ∧ b < W.heap.size ∧ (W.cell? ⟨b, o, none⟩ = some (.string ⟨#[111, 49]⟩) ∧ W.cell? ⟨b, o + 1, none⟩ = some (.string ⟨#[]⟩) ∧ W.cell? ⟨b, o + 2, none⟩ = some (.string ⟨#[97, 110, 110]⟩) ∧ W.cell? ⟨b, o + 3, none⟩ = some (.string ⟨#[97, 108, 112, 104, 97]⟩) ∧ W.cell? ⟨b, o + 4, none⟩ = some (.string ⟨#[97]⟩) ∧ W.cell? ⟨b, o + 5, none⟩ = some (.int .i64 5) ∧ W.cell? ⟨b, o + 6, none⟩ = some (.int .i64 0) ∧ W.cell? ⟨b, o + 7, none⟩ = some (.int .i64 0) ∧ W.cell? ⟨b, o + 8, none⟩ = some (.int .i64 2880) ∧ W.cell? ⟨b, o + 9, none⟩ = some (.int .i64 1) ∧ W.cell? ⟨b, o + 10, none⟩ = some (.bool false) ∧ W.cell? ⟨b, o + 11, none⟩ = some (.int .i64 2) ∧ W.cell? ⟨b, o + 12, none⟩ = some (.int .i64 2)) := by
  obtain ⟨b, o, hA, hlt, hq⟩ := h.get (i := 0) rfl
  rw [Nat.zero_mul, Nat.add_zero] at hq
  exact ⟨b, o, hA, hlt, hq⟩
theorem ints_blk {W : World} {g : Nat} {cs : Array Value} {t : TypeId} (L : List Int) (hb : BlkAt W g cs t) (he : cs.toList = L.map (Value.int .i64)) (hl : L.length ≤ 4096) : IntsAt W (some ⟨g, 0, none⟩) L :=
  ⟨by omega, fun k x hx => ⟨g, 0, rfl, hb.lt, hb.cell (by rw [Nat.zero_add, ← Array.getElem?_toList, he, List.getElem?_map, hx]; rfl)⟩⟩
/-- What the last test of the check reads. -/
structure AwE (w W : World) (b o g2 gs : Nat) : Prop where
  q : (W.cell? ⟨b, o, none⟩ = some (.string ⟨#[111, 49]⟩) ∧ W.cell? ⟨b, o + 1, none⟩ = some (.string ⟨#[]⟩) ∧ W.cell? ⟨b, o + 2, none⟩ = some (.string ⟨#[97, 110, 110]⟩) ∧ W.cell? ⟨b, o + 3, none⟩ = some (.string ⟨#[97, 108, 112, 104, 97]⟩) ∧ W.cell? ⟨b, o + 4, none⟩ = some (.string ⟨#[97]⟩) ∧ W.cell? ⟨b, o + 5, none⟩ = some (.int .i64 5) ∧ W.cell? ⟨b, o + 6, none⟩ = some (.int .i64 0) ∧ W.cell? ⟨b, o + 7, none⟩ = some (.int .i64 0) ∧ W.cell? ⟨b, o + 8, none⟩ = some (.int .i64 2880) ∧ W.cell? ⟨b, o + 9, none⟩ = some (.int .i64 1) ∧ W.cell? ⟨b, o + 10, none⟩ = some (.bool false) ∧ W.cell? ⟨b, o + 11, none⟩ = some (.int .i64 2) ∧ W.cell? ⟨b, o + 12, none⟩ = some (.int .i64 2)) ∧ (W.cell? ⟨g2, 0, none⟩ = some (.string ⟨#[111, 49]⟩) ∧ W.cell? ⟨g2, 1, none⟩ = some (.string ⟨#[]⟩) ∧ W.cell? ⟨g2, 2, none⟩ = some (.string ⟨#[97, 110, 110]⟩) ∧ W.cell? ⟨g2, 3, none⟩ = some (.string ⟨#[97, 108, 112, 104, 97]⟩) ∧ W.cell? ⟨g2, 4, none⟩ = some (.string ⟨#[97]⟩) ∧ W.cell? ⟨g2, 5, none⟩ = some (.int .i64 5) ∧ W.cell? ⟨g2, 6, none⟩ = some (.int .i64 0) ∧ W.cell? ⟨g2, 7, none⟩ = some (.int .i64 0) ∧ W.cell? ⟨g2, 8, none⟩ = some (.int .i64 2880) ∧ W.cell? ⟨g2, 9, none⟩ = some (.int .i64 1) ∧ W.cell? ⟨g2, 10, none⟩ = some (.bool false))
  st : BlkAt W gs #[.int .i64 3, .int .i64 7, .int .i64 4, .int .i64 1] 3
  hb : b < W.heap.size
  h2 : g2 < W.heap.size
  below : Below w.heap.size w W
theorem AwE.next {w W W' : World} {b o g2 gs : Nat} (h : AwE w W b o g2 gs) (hb : Below W.heap.size W W') : AwE w W' b o g2 gs := by
  have c1 : ∀ o, W'.cell? ⟨b, o, none⟩ = W.cell? ⟨b, o, none⟩ := fun o => bcell hb b o h.hb
  have c2 : ∀ o, W'.cell? ⟨g2, o, none⟩ = W.cell? ⟨g2, o, none⟩ := fun o => bcell hb g2 o h.h2
  refine ⟨?_, h.st.next hb, Nat.lt_of_lt_of_le h.hb hb.size, Nat.lt_of_lt_of_le h.h2 hb.size, bnext h.below hb⟩
  simp only [c1, c2]
  exact h.q
set_option maxRecDepth 1000000 in
theorem awake24_any (w : World) : Calls Tryz.prog 7 #[] w (RetB (.bool true) w) := by
  go_enter Tryz.func7, Tryz.ntmps7
  go_wp2_with fail
  refine (daily_any _).mono ?_
  rintro e w1 ⟨rfl, hb1⟩
  have HB1 := Lib.hid hb1
  clear hb1
  go_wp2_with fail
  refine (awS _ _ ?_).mono ?_
  · exact ord_blk awL4 (BlkAt.newAt _ _ _ (by simp)) (by rfl) aw_s4 (by decide)
  rintro e w2 ⟨gs, rfl, hgs, hb2⟩
  have HA2 := Lib.hid ((AwB.lit HB1.out _ _).next hb2)
  have HG2 := Lib.hid hgs
  clear hb2 hgs HB1
  generalize w1.heap.size + 1 + 1 + 1 + 1 = g4 at *
  generalize w1.heap.size + 1 + 1 + 1 = g3 at *
  generalize w1.heap.size + 1 + 1 = g2 at *
  generalize w1.heap.size + 1 = g1 at *
  generalize w1.heap.size = G at *
  go_wp2_with (first
    | ((with_reducible refine wpl_load rfl 57 _ rfl _ ?_ HA2.out.a rowA1 ?_); exact rfl)
    | ((with_reducible refine wpl_load rfl 57 _ rfl _ ?_ HA2.out.b rowA2 ?_); exact rfl)
    | ((with_reducible refine wpl_load rfl 57 _ rfl _ ?_ HA2.out.l rowAV ?_); exact rfl)
    | ((with_reducible refine wpl_load rfl 28 _ rfl _ ?_ (HA2.out.s.al _) rowAS ?_); exact rfl)
    | ((with_reducible refine wpl_load rfl 37 _ rfl _ ?_ (HA2.out.p.al _) rowAP ?_); exact rfl))
  refine (awT _ _ ?_).mono ?_
  · exact ord_blk awL3 (BlkAt.newAt _ _ _ (by simp)) (by rfl) aw_s3 (by decide)
  rintro e w3 ⟨A, cap, rfl, hT, hb3⟩
  obtain ⟨b, o, rfl, hbl, hq⟩ := aw_tkq hT
  have HA3 := Lib.hid ((HA2.out.next (bal0 _ _)).next hb3)
  have HE := Lib.hid (show AwE w w3 b o g2 gs from ⟨⟨hq, ⟨HA3.out.a.cell rfl, HA3.out.a.cell rfl, HA3.out.a.cell rfl, HA3.out.a.cell rfl, HA3.out.a.cell rfl, HA3.out.a.cell rfl, HA3.out.a.cell rfl, HA3.out.a.cell rfl, HA3.out.a.cell rfl, HA3.out.a.cell rfl, HA3.out.a.cell rfl⟩⟩, (HG2.out.al _).next hb3, hbl, HA3.out.a.lt, HA3.out.below⟩)
  clear hT hq hb3 HA2 HG2 HA3 hbl
  go_wp2_with fail
  have HD := Lib.hid (HE.out.next ((Below.refl _ _).drew))
  have HY := Lib.hid (fun o => (HE.out.next (bal0 _ o)).next ((Below.refl _ _).drew))
  go_region_held3 (fun W => (W.cell? ⟨b, o, none⟩ = some (.string ⟨#[111, 49]⟩) ∧ W.cell? ⟨b, o + 1, none⟩ = some (.string ⟨#[]⟩) ∧ W.cell? ⟨b, o + 2, none⟩ = some (.string ⟨#[97, 110, 110]⟩) ∧ W.cell? ⟨b, o + 3, none⟩ = some (.string ⟨#[97, 108, 112, 104, 97]⟩) ∧ W.cell? ⟨b, o + 4, none⟩ = some (.string ⟨#[97]⟩) ∧ W.cell? ⟨b, o + 5, none⟩ = some (.int .i64 5) ∧ W.cell? ⟨b, o + 6, none⟩ = some (.int .i64 0) ∧ W.cell? ⟨b, o + 7, none⟩ = some (.int .i64 0) ∧ W.cell? ⟨b, o + 8, none⟩ = some (.int .i64 2880) ∧ W.cell? ⟨b, o + 9, none⟩ = some (.int .i64 1) ∧ W.cell? ⟨b, o + 10, none⟩ = some (.bool false) ∧ W.cell? ⟨b, o + 11, none⟩ = some (.int .i64 2) ∧ W.cell? ⟨b, o + 12, none⟩ = some (.int .i64 2)) ∧ (W.cell? ⟨g2, 0, none⟩ = some (.string ⟨#[111, 49]⟩) ∧ W.cell? ⟨g2, 1, none⟩ = some (.string ⟨#[]⟩) ∧ W.cell? ⟨g2, 2, none⟩ = some (.string ⟨#[97, 110, 110]⟩) ∧ W.cell? ⟨g2, 3, none⟩ = some (.string ⟨#[97, 108, 112, 104, 97]⟩) ∧ W.cell? ⟨g2, 4, none⟩ = some (.string ⟨#[97]⟩) ∧ W.cell? ⟨g2, 5, none⟩ = some (.int .i64 5) ∧ W.cell? ⟨g2, 6, none⟩ = some (.int .i64 0) ∧ W.cell? ⟨g2, 7, none⟩ = some (.int .i64 0) ∧ W.cell? ⟨g2, 8, none⟩ = some (.int .i64 2880) ∧ W.cell? ⟨g2, 9, none⟩ = some (.int .i64 1) ∧ W.cell? ⟨g2, 10, none⟩ = some (.bool false)))
    ((first
      | (with_reducible exact HD.out.q)
      | (with_reducible exact (HY.out _).q)
      | (with_reducible exact H4.out.q)))
    ((go_at_call 15; refine (r23same_any [3, 7, 4, 1] _ _ _ _ _ ?_ ?_).mono ?_; exact ints_blk _ (HY.out _).st rfl (by decide); exact ints_blk _ ((BlkAt.newAt _ _ _ (by simp)).drew) rfl (by decide); rintro e w4 ⟨rfl, hb4⟩; have H4 := Lib.hid ((HY.out _).next hb4)))
  all_goals
    go_wp2_with fail
    go_ret
    exact ⟨rfl, H4.out.below⟩
end Go.Proofs.YtbfllcfjgpkpaaaGreat
