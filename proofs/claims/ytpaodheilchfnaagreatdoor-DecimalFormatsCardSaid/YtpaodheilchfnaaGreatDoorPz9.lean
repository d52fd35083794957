/- What the laws lean on. -/
import Derived.Test.YtpaodheilchfnaaGreatDoorPz6
import Derived.Test.YtpaodheilchfnaaGreatDoorShelf2
namespace Go.Proofs.YtpaodheilchfnaaGreatDoor
set_option linter.unusedVariables false
set_option linter.unusedSimpArgs false
section
open Go.RowKit
set_option maxHeartbeats 2000000
def bs (l : List UInt8) : ByteArray := ⟨l.toArray⟩
theorem bs_size (l : List UInt8) : (bs l).size = l.length := by simp [bs, ByteArray.size]
theorem bs_list (l : List UInt8) : (bs l).data.toList = l := by simp [bs]
theorem bs_nil : bs [] = ⟨#[]⟩ := rfl
theorem bs_extract (l : List UInt8) (a b : Nat) : (bs l).extract a b = bs ((l.drop a).take (b - a)) := by
  unfold bs
  rw [ByteArray.extract_mk]
theorem bs_append (l m : List UInt8) : bs l ++ bs m = bs (l ++ m) := by
  apply ByteArray.ext
  simp [bs]
theorem bs_at {l : List UInt8} {i : Nat} (h : i < (bs l).size) (h2 : i < l.length) : (bs l)[i] = l[i] := by
  simp [bs, ByteArray.getElem_eq_getElem_data]
theorem bs_toList (l : List UInt8) : (bs l).toList = l := by simp [bs]
def isD (b : UInt8) : Bool := decide (48 ≤ b.toNat) && decide (b.toNat ≤ 57)
def cut1 (l : List UInt8) (c : UInt8) : List UInt8 × List UInt8 × Bool :=
  if 0 ≤ Lib.indexByte l c then (l.take (Lib.indexByte l c).toNat, l.drop ((Lib.indexByte l c).toNat + 1), true) else (l, [], false)
theorem idx_self (c : UInt8) : Lib.indexByte [c] c = 0 := by simp [Lib.indexByte]
theorem idx_ne (c : UInt8) (l : List UInt8) : Lib.indexByte l c < (l.length : Int) := by
  induction l with
  | nil => simp [Lib.indexByte]
  | cons b l ih =>
    simp only [Lib.indexByte, List.length_cons]
    split
    · omega
    · split <;> omega
set_option maxRecDepth 100000 in
theorem index1 (l : List UInt8) (c : UInt8) (w : World) : Calls Tryz.prog 147 #[.string (bs l), .string (bs [c])] w (RetB (.int .i64 (Lib.indexByte l c)) w) := by
  have g1 : ∀ w, Calls Tryz.prog 175 #[.string (bs l), .int .u8 c.toNat] w fun e w' => e = .returned (.int .i64 (Lib.indexByte l c)) ∧ w' = w := fun w => by
    have h := Tryz.stringslite_IndexByte (bs l) c.toNat w
    rw [bs_list] at h
    simpa using h
  have h1 := bs_size [c]
  have h2 := bs_toList [c]
  have h3 := bs_toList l
  rw [List.length_singleton] at h1
  have h4 := bs_at (l := [c]) (i := 0) (by rw [h1]; decide) (by simp)
  by_cases he : [c] = l
  · have HE := Lib.hid he
    have e1 : ([c] == l) = true := by rw [beq_iff_eq]; exact he
    clear he
    go_enter Tryz.func147, Tryz.ntmps147
    go_wp2_with ((go_at_call 175); refine (g1 _).mono ?_; rintro e W ⟨rfl, rfl⟩)
    go_ret
    exact ⟨ret_int (by rw [← HE.out, idx_self]), Below.refl _ _⟩
  · have e1 : ([c] == l) = false := by rw [beq_eq_false_iff_ne]; exact he
    clear he
    go_enter Tryz.func147, Tryz.ntmps147
    go_wp2_with ((go_at_call 175); refine (g1 _).mono ?_; rintro e W ⟨rfl, rfl⟩)
    go_ret
    exact ⟨rfl, Below.refl _ _⟩
set_option maxRecDepth 100000 in
theorem scut_any (l : List UInt8) (c : UInt8) (hl : l.length ≤ 9223372036854775807) {r : List UInt8 × List UInt8 × Bool} (hr : cut1 l c = r) (w : World) : Calls Tryz.prog 103 #[.string (bs l), .string (bs [c])] w (RetB (.tuple #[.string (bs r.1), .string (bs r.2.1), .bool r.2.2]) w) := by
  have F := Fr.start w
  have g1 := fun w => index1 l c w
  have hi := idx_ne c l
  have hg := Lib.indexByte_ge l c
  unfold cut1 at hr
  obtain ⟨i, hii⟩ : ∃ i, Lib.indexByte l c = i := ⟨_, rfl⟩
  rw [hii] at g1 hi hr hg
  have HR := Lib.hid hr
  have h1 := bs_size [c]
  have h2 := bs_size l
  rw [List.length_singleton] at h1
  clear hr hii
  go_enter Tryz.func103, Tryz.ntmps103
  by_cases h0 : 0 ≤ i
  · have hr := HR.out
    rw [if_pos h0] at hr
    subst hr
    obtain ⟨k, rfl⟩ : ∃ k : Nat, i = (k : Int) := ⟨i.toNat, by omega⟩
    have hk : k < l.length := by omega
    have e1 := bs_extract l 0 k
    have e2 := bs_extract l (k + 1) l.length
    rw [Nat.sub_zero, List.drop_zero] at e1
    rw [List.take_of_length_le (by rw [List.length_drop]; omega)] at e2
    have hk1 : k + 1 ≤ l.length := by omega
    have hk2 : k ≤ l.length := by omega
    have hk3 : ((k : Int) + 1).toNat = k + 1 := by omega
    have hk4 : (0 : Int) ≤ (k : Int) + 1 := by omega
    have hk5 : (k : Int) + 1 ≤ l.length := by omega
    have hk6 : (k : Int) ≤ l.length := by omega
    go_wp2_with ((go_at_call 147); (with_reducible refine fr_call F (g1 _) ?_); (clear F; intro W F); (try dsimp only))
    go_quiet (fail)
    go_wp2_with fail
    go_ret3
    exact ⟨rfl, bnext F.below (bdn _ _)⟩
  · have hr := HR.out
    rw [if_neg h0] at hr
    subst hr
    go_wp2_with ((go_at_call 147); (with_reducible refine fr_call F (g1 _) ?_); (clear F; intro W F); (try dsimp only))
    go_ret3
    exact ⟨rfl, F.below⟩
set_option maxRecDepth 100000 in
theorem digits_any (l : List UInt8) {lo hi : Int} (hl : l.length ≤ 9223372036854775807) {r : Bool} (hr : (decide (lo ≤ l.length) && decide ((l.length : Int) ≤ hi) && l.all isD) = r) (w : World) : Calls Tryz.prog 58 #[.string (bs l), .int .i64 lo, .int .i64 hi] w (RetB (.bool r) w) := by
  have HR := Lib.hid hr
  have hs := bs_size l
  clear hr
  go_enter Tryz.func58, Tryz.ntmps58
  by_cases h1 : (l.length : Int) < lo
  · have hr := HR.out
    rw [decide_eq_false (by omega)] at hr
    simp only [Bool.false_and] at hr
    subst hr
    go_wp2_with fail
    go_ret
    exact ⟨rfl, Below.refl _ _⟩
  by_cases h2 : hi < (l.length : Int)
  · have hr := HR.out
    rw [decide_eq_true (by omega), decide_eq_false (by omega)] at hr
    simp only [Bool.true_and, Bool.false_and] at hr
    subst hr
    go_wp2_with fail
    go_ret
    exact ⟨rfl, Below.refl _ _⟩
  have hr := HR.out
  rw [decide_eq_true (by omega), decide_eq_true (by omega)] at hr
  simp only [Bool.true_and] at hr
  have HR := Lib.hid hr
  clear hr
  go_wp2_with fail
  go_loopw [20] (fun iv wr => ∃ i : Nat, i ≤ l.length ∧ iv = .int .i64 i ∧ (l.take i).all isD = true ∧ Below w.heap.size w wr) (fun iv _ => l.length - (intOf iv).toNat)
  case atStart => exact ⟨0, by omega, rfl, by simp, Below.refl _ _⟩
  case round =>
    obtain ⟨i, hi2, rfl, ha, hbl⟩ := hrel
    have HA := Lib.hid ha
    clear ha
    by_cases hlt : i < l.length
    · obtain ⟨b, hb⟩ : ∃ b, l[i] = b := ⟨_, rfl⟩
      have e0 := bs_at (l := l) (i := i) (by rw [bs_size]; exact hlt) hlt
      obtain ⟨x, hx⟩ : ∃ x : Nat, b.toNat = x := ⟨_, rfl⟩
      have e1 : ((bs l)[i]'(by rw [bs_size]; exact hlt)).toNat = x := (congrArg UInt8.toNat (e0.trans hb)).trans hx
      have HB := Lib.hid (And.intro hb hx)
      clear hb hx e0
      by_cases c1 : (x : Int) < 48
      · have hr : false = r := by
          rw [← HR.out]
          refine (List.all_eq_false.2 ⟨b, HB.out.1 ▸ List.getElem_mem _, ?_⟩).symm
          rw [isD, HB.out.2, decide_eq_false (by omega), Bool.false_and]
          decide
        subst hr
        go_wp2_with fail
        go_ret
        exact ⟨rfl, hbl⟩
      by_cases c2 : (57 : Int) < (x : Int)
      · have hr : false = r := by
          rw [← HR.out]
          refine (List.all_eq_false.2 ⟨b, HB.out.1 ▸ List.getElem_mem _, ?_⟩).symm
          rw [isD, HB.out.2, decide_eq_false (p := x ≤ 57) (by omega), Bool.and_false]
          decide
        subst hr
        go_wp2_with fail
        go_ret
        exact ⟨rfl, hbl⟩
      have HN := Lib.hid (show (l.take (i + 1)).all isD = true by
        rw [List.take_succ_eq_append_getElem hlt, List.all_append, HA.out, HB.out.1]
        simp only [List.all_cons, List.all_nil, Bool.and_true, Bool.true_and, isD, HB.out.2]
        rw [decide_eq_true (by omega), decide_eq_true (by omega)]
        rfl)
      go_wp2_with fail
      go_roundw
      case rel => exact ⟨i + 1, by omega, by go_num, HN.out, hbl⟩
      case measure => simp [intOf]; omega
    · obtain rfl : i = l.length := by omega
      have hr : true = r := by
        have h := HA.out
        rw [List.take_length] at h
        rw [← HR.out, h]
      subst hr
      go_wp2_with fail
      go_ret
      exact ⟨rfl, hbl⟩
end
section
theorem sZ_z (z : Int) : sZ (decide (z < 0)) z.natAbs = z := by
  unfold sZ
  by_cases h : z < 0
  · rw [if_pos (decide_eq_true h)]
    omega
  · rw [if_neg (by simpa using h)]
    omega
def okZ (n d : Int) : Prop := okR (decide (n < 0)) n.natAbs (decide (d < 0)) d.natAbs
instance (n d : Int) : Decidable (okZ n d) := by unfold okZ; infer_instance
theorem bl_bp15 {a : Nat} : bl a ≤ 480 ↔ a < bp 15 := by rw [bl_le, bp_two, show 32 * 15 = 480 from rfl]
theorem okZ_iff {n d : Int} : okZ n d ↔ (n.natAbs < bp 15 ∧ d.natAbs < bp 15) ∧ 0 < d ∧ Int.gcd n d = 1 := by
  unfold okZ okR Int.gcd
  rw [bl_bp15, bl_bp15, sgN_z]
  constructor
  · rintro ⟨h1, -, -, h4, h5⟩
    exact ⟨h1, Int.sign_pos_iff.1 h4, h5⟩
  · rintro ⟨h1, h2, h3⟩
    refine ⟨h1, ?_, ?_, Int.sign_pos_iff.2 h2, h3⟩
    · by_cases h : n < 0
      · rw [decide_eq_true h, decide_eq_false (by omega)]; rfl
      · rw [decide_eq_false h]; rfl
    · rw [decide_eq_false (show ¬ d < 0 by omega)]; rfl
def lowN (n d : Int) : Int := n / (Int.gcd n d : Int)
def lowD (n d : Int) : Int := d / (Int.gcd n d : Int)
theorem gcd_pos {n d : Int} (h : 0 < d) : 0 < Int.gcd n d := Nat.pos_of_ne_zero (fun h0 => by have := (Int.gcd_eq_zero_iff.1 h0).2; omega)
theorem low_mul {n d : Int} (h : 0 < d) : lowN n d * (Int.gcd n d : Int) = n ∧ lowD n d * (Int.gcd n d : Int) = d :=
  ⟨Int.ediv_mul_cancel (Int.gcd_dvd_left _ _), Int.ediv_mul_cancel (Int.gcd_dvd_right _ _)⟩
theorem lowD_pos {n d : Int} (h : 0 < d) : 0 < lowD n d := by
  have h1 := (low_mul (n := n) h).2
  have h2 : (0 : Int) < Int.gcd n d := by have := gcd_pos (n := n) h; omega
  rcases Int.lt_or_le 0 (lowD n d) with h3 | h3
  · exact h3
  · have := Int.mul_nonpos_of_nonpos_of_nonneg h3 (Int.le_of_lt h2)
    omega
theorem low_gcd {n d : Int} (h : 0 < d) : Int.gcd (lowN n d) (lowD n d) = 1 := Int.gcd_ediv_gcd_ediv_gcd (gcd_pos h)
theorem lowN_abs (n d : Int) : (lowN n d).natAbs ≤ n.natAbs := Int.natAbs_ediv_le_natAbs _ _
theorem lowD_abs (n d : Int) : (lowD n d).natAbs ≤ d.natAbs := Int.natAbs_ediv_le_natAbs _ _
theorem mkR_low {n d : Int} (h : 0 < d) : mkR n d = if (lowN n d).natAbs < bp 15 ∧ (lowD n d).natAbs < bp 15 then (lowN n d, lowD n d, 0) else (0, 0, 10) := by
  unfold mkR
  rw [if_neg (by omega)]
  dsimp only
  rw [if_neg (show ¬ d < 0 by omega)]
  simp only [bl_bp15]
  rfl
theorem mkR_ok {n d : Int} (h : 0 < d) (hn : n.natAbs < bp 15) (hd : d.natAbs < bp 15) : mkR n d = (lowN n d, lowD n d, 0) ∧ okZ (lowN n d) (lowD n d) := by
  have h1 := Nat.lt_of_le_of_lt (lowN_abs n d) hn
  have h2 := Nat.lt_of_le_of_lt (lowD_abs n d) hd
  rw [mkR_low h, if_pos ⟨h1, h2⟩]
  exact ⟨rfl, okZ_iff.2 ⟨⟨h1, h2⟩, lowD_pos h, low_gcd h⟩⟩
theorem low_scale {n d c : Int} (hd : 0 < d) (hc : 0 < c) : lowN (n * c) (d * c) = lowN n d ∧ lowD (n * c) (d * c) = lowD n d := by
  have hg : (Int.gcd (n * c) (d * c) : Int) = (Int.gcd n d : Int) * c := by
    rw [Int.gcd_mul_right, Int.natCast_mul]
    congr 1
    omega
  unfold lowN lowD
  rw [hg, Int.mul_ediv_mul_of_pos_left _ _ hc, Int.mul_ediv_mul_of_pos_left _ _ hc]
  exact ⟨rfl, rfl⟩
theorem mkR_scale {n d c : Int} (hd : 0 < d) (hc : 0 < c) : mkR (n * c) (d * c) = mkR n d := by
  obtain ⟨h1, h2⟩ := low_scale (n := n) hd hc
  rw [mkR_low hd, mkR_low (Int.mul_pos hd hc), h1, h2]
theorem low_neg {n d : Int} (hd : 0 < d) : lowN (-n) d = -lowN n d ∧ lowD (-n) d = lowD n d := by
  unfold lowN lowD
  rw [Int.neg_gcd, Int.neg_ediv_of_dvd (Int.gcd_dvd_left _ _)]
  exact ⟨rfl, rfl⟩
end
section
open Go.RowKit
set_option maxHeartbeats 2000000
theorem bytesWorldB (w : World) (e : TypeId) (s : ByteArray) : Below w.heap.size w (Lib.bytesWorld w e s) :=
  ⟨rfl, rfl, rfl, by rw [Lib.bytesWorld_size]; omega, fun i hi => Lib.bytesWorld_at_old w e s i hi⟩
def numF (acc : Nat) (l : List UInt8) : Nat := l.foldl (fun n b => n * 10 + (b.toNat - 48)) acc
def numL (l : List UInt8) : Nat := numF 0 l
theorem numF_cons (acc : Nat) (b : UInt8) (l : List UInt8) : numF acc (b :: l) = numF (acc * 10 + (b.toNat - 48)) l := by unfold numF; rw [List.foldl_cons]
theorem numF_acc (l : List UInt8) : ∀ acc, numF acc l = acc * 10 ^ l.length + numF 0 l := by
  induction l with
  | nil => intro acc; simp [numF]
  | cons b l ih =>
    intro acc
    rw [numF_cons, numF_cons, ih, ih (0 * 10 + _), List.length_cons, Nat.pow_succ, Nat.zero_mul, Nat.zero_add, Nat.add_mul, Nat.mul_assoc, Nat.mul_comm 10, Nat.add_assoc]
theorem isD_iff {b : UInt8} : isD b = true ↔ 48 ≤ b.toNat ∧ b.toNat ≤ 57 := by simp [isD]
theorem numL_lt (l : List UInt8) (h : l.all isD = true) : numL l < 10 ^ l.length := by
  unfold numL
  induction l with
  | nil => simp [numF]
  | cons b l ih =>
    rw [List.all_cons, Bool.and_eq_true] at h
    have h1 := ih h.2
    have h2 := isD_iff.1 h.1
    rw [numF_cons, numF_acc, List.length_cons, Nat.pow_succ]
    have h3 : (0 * 10 + (b.toNat - 48)) * 10 ^ l.length ≤ 9 * 10 ^ l.length := Nat.mul_le_mul_right _ (by omega)
    omega
theorem parse_num (l : List UInt8) : ∀ acc, l.all isD = true → (acc + 1) * 10 ^ l.length ≤ 1000000000000000000 → Lib.parseUint10 acc l = .ok (numF acc l) := by
  induction l with
  | nil => intro acc _ _; rfl
  | cons b l ih =>
    intro acc h hl
    rw [List.all_cons, Bool.and_eq_true] at h
    have h2 := isD_iff.1 h.1
    rw [List.length_cons, Nat.pow_succ] at hl
    have h5 : 0 < 10 ^ l.length := Nat.pow_pos (by decide)
    have h3 : (acc * 10 + (b.toNat - 48) + 1) * 10 ^ l.length ≤ ((acc + 1) * 10) * 10 ^ l.length := Nat.mul_le_mul_right _ (by omega)
    have h4 : ((acc + 1) * 10) * 10 ^ l.length = (acc + 1) * (10 ^ l.length * 10) := by rw [Nat.mul_assoc, Nat.mul_comm 10]
    have h6 : (acc + 1) * 10 ≤ ((acc + 1) * 10) * 10 ^ l.length := Nat.le_mul_of_pos_right _ h5
    simp only [Lib.parseUint10]
    rw [if_pos h2, if_neg (by omega), if_neg (by omega), numF_cons]
    exact ih _ h.2 (by omega)
theorem atoi_num {l : List UInt8} (h : l.all isD = true) (h0 : l ≠ []) (hl : l.length ≤ 18) : Lib.atoiAll l = .ok (numL l : Int) := by
  cases l with
  | nil => exact absurd rfl h0
  | cons b l =>
    have h1 := h
    rw [List.all_cons, Bool.and_eq_true] at h1
    have h2 := isD_iff.1 h1.1
    have hp : 10 ^ (b :: l).length ≤ 10 ^ 18 := Nat.pow_le_pow_right (by decide) hl
    have h3 := parse_num (b :: l) 0 h (by omega)
    have h4 := numL_lt (b :: l) h
    unfold Lib.atoiAll
    dsimp only
    rw [if_neg (by omega)]
    unfold Lib.parseMag
    rw [if_neg (by simp), h3]
    dsimp only
    unfold numL at h4 ⊢
    rw [if_neg (by omega), if_neg (by omega), if_neg (by omega)]
theorem atoi_any {l : List UInt8} (h : l.all isD = true) (h0 : l ≠ []) (hl : l.length ≤ 18) (w : World) : Calls Tryz.prog 59 #[.string (bs l)] w (RetB (.tuple #[.int .i64 (numL l), .nilIface]) w) := by
  have h1 := Tryz.strconv_Atoi_ok (bs l) (by rw [bs_size]; omega) (numL l) (by rw [bs_list]; exact atoi_num h h0 hl) w
  refine h1.mono ?_
  rintro e W ⟨rfl, rfl | ⟨t, rfl⟩⟩
  · exact ⟨rfl, Below.refl _ _⟩
  · exact ⟨rfl, bytesWorldB _ _ _⟩
theorem cutPrefix_any (s : List UInt8) (c : UInt8) (w : World) : Calls Tryz.prog 56 #[.string (bs s), .string ⟨#[c]⟩] w (RetB (.tuple #[.string (bs (Lib.trimPrefix s [c])), .bool (Lib.hasPrefix s [c])]) w) := by
  have h := Tryz.strings_CutPrefix (bs s) ⟨#[c]⟩ w
  rw [bs_list] at h
  refine h.mono ?_
  rintro e W ⟨rfl, rfl⟩
  exact ⟨rfl, Below.refl _ _⟩
set_option maxRecDepth 100000 in
theorem cut_any (l : List UInt8) (c : UInt8) (hl : l.length ≤ 9223372036854775807) {r : List UInt8 × List UInt8 × Bool} (hr : cut1 l c = r) (w : World) : Calls Tryz.prog 57 #[.string (bs l), .string ⟨#[c]⟩] w (RetB (.tuple #[.string (bs r.1), .string (bs r.2.1), .bool r.2.2]) w) := by
  have F := Fr.start w
  have g1 := fun w => scut_any l c hl hr w
  have hc : bs [c] = ⟨#[c]⟩ := rfl
  rw [hc] at g1
  clear hr hc
  go_enter Tryz.func57, Tryz.ntmps57
  go_wp2_with ((go_at_call 103); (with_reducible refine fr_call F (g1 _) ?_); (clear F; intro W F); (try dsimp only))
  go_ret3
  exact ⟨rfl, F.below⟩
def dgs (l : List UInt8) (lo hi : Int) : Bool := decide (lo ≤ l.length) && decide ((l.length : Int) ≤ hi) && l.all isD
theorem dgs_iff {l : List UInt8} {lo hi : Int} : dgs l lo hi = true ↔ lo ≤ l.length ∧ (l.length : Int) ≤ hi ∧ l.all isD = true := by
  unfold dgs
  rw [Bool.and_eq_true, Bool.and_eq_true, decide_eq_true_eq, decide_eq_true_eq, and_assoc]
def prsB (a b : List UInt8) (neg : Bool) : Int × Int × Int :=
  let v : Nat := numL a * 10 ^ b.length + numL b
  if neg = true ∧ v = 0 then (0, 0, 32)
  else
    let z : Int := if neg = true then -(v : Int) else v
    (lowN z ((10 ^ b.length : Nat) : Int), lowD z ((10 ^ b.length : Nat) : Int), 0)
def prsR (s : List UInt8) (p : Int) : Int × Int × Int :=
  if p < 0 ∨ 9 < p then (0, 0, 30)
  else
    let c := cut1 (Lib.trimPrefix s [45]) 46
    if dgs c.1 1 15 = false ∨ (1 < c.1.length ∧ c.1.head? = some 48) ∨ (c.2.2 = true ∧ dgs c.2.1 1 p = false) then (0, 0, 32)
    else prsB c.1 c.2.1 (Lib.hasPrefix s [45])
theorem cut1_no {l : List UInt8} {c : UInt8} (h : (cut1 l c).2.2 = false) : (cut1 l c).2.1 = [] := by
  unfold cut1 at h ⊢
  split
  · rename_i h1
    rw [if_pos h1] at h
    simp at h
  · rfl
theorem trim_len (s p : List UInt8) : (Lib.trimPrefix s p).length ≤ s.length := by
  unfold Lib.trimPrefix
  split
  · rw [List.length_drop]; omega
  · omega
theorem cut1_len (l : List UInt8) (c : UInt8) : (cut1 l c).1.length ≤ l.length ∧ (cut1 l c).2.1.length ≤ l.length := by
  unfold cut1
  split
  · dsimp only
    rw [List.length_take, List.length_drop]
    omega
  · exact ⟨Nat.le_refl _, Nat.zero_le _⟩
end
end Go.Proofs.YtpaodheilchfnaaGreatDoor
