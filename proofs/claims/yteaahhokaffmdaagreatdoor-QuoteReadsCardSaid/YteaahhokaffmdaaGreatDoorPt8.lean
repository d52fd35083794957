/- What the laws lean on. -/
import Derived.Test.YteaahhokaffmdaaGreatDoorPt6
import Derived.Test.YteaahhokaffmdaaGreatDoorShelf2
namespace Go.Proofs.YteaahhokaffmdaaGreatDoor
set_option linter.unusedVariables false
set_option linter.unusedSimpArgs false
section
open Go.RowKit
set_option maxHeartbeats 2000000
def bs (l : List UInt8) : ByteArray := ⟨l.toArray⟩
theorem bs_size (l : List UInt8) : (bs l).size = l.length := by simp [bs, ByteArray.size]
theorem bs_list (l : List UInt8) : (bs l).data.toList = l := by simp [bs]
theorem bs_of (s : ByteArray) : bs s.data.toList = s := by simp [bs]
theorem bs_extract (l : List UInt8) (a b : Nat) : (bs l).extract a b = bs ((l.drop a).take (b - a)) := by
 unfold bs
 rw [ByteArray.extract_mk]
theorem bs_append (l m : List UInt8) : bs l ++ bs m = bs (l ++ m) := by
 apply ByteArray.ext
 simp [bs]
theorem bs_at {l : List UInt8} {i : Nat} (h : i < (bs l).size) (h2 : i < l.length) : (bs l)[i] = l[i] := by
 simp [bs, ByteArray.getElem_eq_getElem_data]
theorem bs_toList (l : List UInt8) : (bs l).toList = l := by simp [bs]
def isD (b : UInt8) : Bool := decide (48 ≤ b.toNat) && decide (b.toNat ≤ 57)
def cut1 (l : List UInt8) (c : UInt8) : List UInt8 × List UInt8 × Bool :=
 if 0 ≤ Lib.indexByte l c then (l.take (Lib.indexByte l c).toNat, l.drop ((Lib.indexByte l c).toNat + 1), true) else (l, [], false)
theorem idx_self (c : UInt8) : Lib.indexByte [c] c = 0 := by simp [Lib.indexByte]
theorem idx_ne (c : UInt8) (l : List UInt8) : Lib.indexByte l c < (l.length : Int) := by
 induction l with
 | nil => simp [Lib.indexByte]
 | cons b l ih =>
  simp only [Lib.indexByte, List.length_cons]
  split
  ·omega
  ·split <;> omega
set_option maxRecDepth 100000 in
theorem index1 (l : List UInt8) (c : UInt8) (w : World) : Calls Tryz.prog 176 #[.string (bs l), .string (bs [c])] w (RetB (.int .i64 (Lib.indexByte l c)) w) := by
 have g1 : ∀ w, Calls Tryz.prog 74 #[.string (bs l), .int .u8 c.toNat] w fun e w' => e = .returned (.int .i64 (Lib.indexByte l c)) ∧ w' = w := fun w => by
  have h := Tryz.stringslite_IndexByte (bs l) c.toNat w
  rw [bs_list] at h
  simpa using h
 have h1 := bs_size [c]
 have h2 := bs_toList [c]
 have h3 := bs_toList l
 rw [List.length_singleton] at h1
 have h4 := bs_at (l := [c]) (i := 0) (by rw [h1]; decide) (by simp)
 by_cases he : [c] = l
 ·have HE := Lib.hid he
  have e1 : ([c] == l) = true := by rw [beq_iff_eq]; exact he
  clear he
  go_enter Tryz.func176, Tryz.ntmps176
  go_wp2_with ((go_at_call 74); refine (g1 _).mono ?_; rintro e W ⟨rfl, rfl⟩)
  go_ret
  exact ⟨ret_int (by rw [← HE.out, idx_self]), Below.refl _ _⟩
 ·have e1 : ([c] == l) = false := by rw [beq_eq_false_iff_ne]; exact he
  clear he
  go_enter Tryz.func176, Tryz.ntmps176
  go_wp2_with ((go_at_call 74); refine (g1 _).mono ?_; rintro e W ⟨rfl, rfl⟩)
  go_ret
  exact ⟨rfl, Below.refl _ _⟩
set_option maxRecDepth 100000 in
theorem scut_any (l : List UInt8) (c : UInt8) (hl : l.length ≤ 9223372036854775807) {r : List UInt8 × List UInt8 × Bool} (hr : cut1 l c = r) (w : World) : Calls Tryz.prog 122 #[.string (bs l), .string (bs [c])] w (RetB (.tuple #[.string (bs r.1), .string (bs r.2.1), .bool r.2.2]) w) := by
 have F := Fr.start w
 have g1 := fun w => index1 l c w
 have hi := idx_ne c l
 have hg := Lib.indexByte_ge l c
 unfold cut1 at hr
 obtain ⟨i, hii⟩ : ∃ i, Lib.indexByte l c = i := ⟨_, rfl⟩
 rw [hii] at g1 hi hr hg
 have HR := Lib.hid hr
 have h1 := bs_size [c]
 have h2 := bs_size l
 rw [List.length_singleton] at h1
 clear hr hii
 go_enter Tryz.func122, Tryz.ntmps122
 by_cases h0 : 0 ≤ i
 ·have hr := HR.out
  rw [if_pos h0] at hr
  subst hr
  obtain ⟨k, rfl⟩ : ∃ k : Nat, i = (k : Int) := ⟨i.toNat, by omega⟩
  have hk : k < l.length := by omega
  have e1 := bs_extract l 0 k
  have e2 := bs_extract l (k + 1) l.length
  rw [Nat.sub_zero, List.drop_zero] at e1
  rw [List.take_of_length_le (by rw [List.length_drop]; omega)] at e2
  have hk1 : k + 1 ≤ l.length := by omega
  have hk2 : k ≤ l.length := by omega
  have hk3 : ((k : Int) + 1).toNat = k + 1 := by omega
  have hk4 : (0 : Int) ≤ (k : Int) + 1 := by omega
  have hk5 : (k : Int) + 1 ≤ l.length := by omega
  have hk6 : (k : Int) ≤ l.length := by omega
  go_wp2_with ((go_at_call 176); (with_reducible refine fr_call F (g1 _) ?_); (clear F; intro W F); (try dsimp only))
  go_quiet (fail)
  go_wp2_with fail
  go_ret3
  exact ⟨rfl, bnext F.below (bdn _ _)⟩
 ·have hr := HR.out
  rw [if_neg h0] at hr
  subst hr
  go_wp2_with ((go_at_call 176); (with_reducible refine fr_call F (g1 _) ?_); (clear F; intro W F); (try dsimp only))
  go_ret3
  exact ⟨rfl, F.below⟩
set_option maxRecDepth 100000 in
theorem digits_any (l : List UInt8) {lo hi : Int} (hl : l.length ≤ 9223372036854775807) {r : Bool} (hr : (decide (lo ≤ l.length) && decide ((l.length : Int) ≤ hi) && l.all isD) = r) (w : World) : Calls Tryz.prog 79 #[.string (bs l), .int .i64 lo, .int .i64 hi] w (RetB (.bool r) w) := by
 have HR := Lib.hid hr
 have hs := bs_size l
 clear hr
 go_enter Tryz.func79, Tryz.ntmps79
 by_cases h1 : (l.length : Int) < lo
 ·have hr := HR.out
  rw [decide_eq_false (by omega)] at hr
  simp only [Bool.false_and] at hr
  subst hr
  go_wp2_with fail
  go_ret
  exact ⟨rfl, Below.refl _ _⟩
 by_cases h2 : hi < (l.length : Int)
 ·have hr := HR.out
  rw [decide_eq_true (by omega), decide_eq_false (by omega)] at hr
  simp only [Bool.true_and, Bool.false_and] at hr
  subst hr
  go_wp2_with fail
  go_ret
  exact ⟨rfl, Below.refl _ _⟩
 have hr := HR.out
 rw [decide_eq_true (by omega), decide_eq_true (by omega)] at hr
 simp only [Bool.true_and] at hr
 have HR := Lib.hid hr
 clear hr
 go_wp2_with fail
 go_loopw [20] (fun iv wr => ∃ i : Nat, i ≤ l.length ∧ iv = .int .i64 i ∧ (l.take i).all isD = true ∧ Below w.heap.size w wr) (fun iv _ => l.length - (intOf iv).toNat)
 case atStart => exact ⟨0, by omega, rfl, by simp, Below.refl _ _⟩
 case round =>
  obtain ⟨i, hi2, rfl, ha, hbl⟩ := hrel
  have HA := Lib.hid ha
  clear ha
  by_cases hlt : i < l.length
  ·obtain ⟨b, hb⟩ : ∃ b, l[i] = b := ⟨_, rfl⟩
   have e0 := bs_at (l := l) (i := i) (by rw [bs_size]; exact hlt) hlt
   obtain ⟨x, hx⟩ : ∃ x : Nat, b.toNat = x := ⟨_, rfl⟩
   have e1 : ((bs l)[i]'(by rw [bs_size]; exact hlt)).toNat = x := (congrArg UInt8.toNat (e0.trans hb)).trans hx
   have HB := Lib.hid (And.intro hb hx)
   clear hb hx e0
   by_cases c1 : (x : Int) < 48
   ·have hr : false = r := by
     rw [← HR.out]
     refine (List.all_eq_false.2 ⟨b, HB.out.1 ▸ List.getElem_mem _, ?_⟩).symm
     rw [isD, HB.out.2, decide_eq_false (by omega), Bool.false_and]
     decide
    subst hr
    go_wp2_with fail
    go_ret
    exact ⟨rfl, hbl⟩
   by_cases c2 : (57 : Int) < (x : Int)
   ·have hr : false = r := by
     rw [← HR.out]
     refine (List.all_eq_false.2 ⟨b, HB.out.1 ▸ List.getElem_mem _, ?_⟩).symm
     rw [isD, HB.out.2, decide_eq_false (p := x ≤ 57) (by omega), Bool.and_false]
     decide
    subst hr
    go_wp2_with fail
    go_ret
    exact ⟨rfl, hbl⟩
   have HN := Lib.hid (show (l.take (i + 1)).all isD = true by
    rw [List.take_succ_eq_append_getElem hlt, List.all_append, HA.out, HB.out.1]
    simp only [List.all_cons, List.all_nil, Bool.and_true, Bool.true_and, isD, HB.out.2]
    rw [decide_eq_true (by omega), decide_eq_true (by omega)]
    rfl)
   go_wp2_with fail
   go_roundw
   case rel => exact ⟨i + 1, by omega, by go_num, HN.out, hbl⟩
   case measure => simp [intOf]; omega
  ·obtain rfl : i = l.length := by omega
   have hr : true = r := by
    have h := HA.out
    rw [List.take_length] at h
    rw [← HR.out, h]
   subst hr
   go_wp2_with fail
   go_ret
   exact ⟨rfl, hbl⟩
end
section
section
def cuts : List UInt8 → List (List UInt8)
 | [] => [[]]
 | c :: t => if c = 44 then [] :: cuts t else match cuts t with
  | [] => [[c]]
  | x :: l => (c :: x) :: l
theorem cuts_len : ∀ s : List UInt8, 1 ≤ (cuts s).length
 | [] => by simp [cuts]
 | c :: t => by
   have := cuts_len t
   unfold cuts
   split
   ·simp
   ·split <;> simp
theorem cuts_none : ∀ {s : List UInt8}, (44 : UInt8) ∉ s → cuts s = [s]
 | [], _ => rfl
 | c :: t, h => by
   have hc : c ≠ 44 := fun e => h (by rw [e]; exact List.mem_cons_self)
   have ht : (44 : UInt8) ∉ t := fun e => h (List.mem_cons_of_mem _ e)
   unfold cuts
   rw [if_neg hc, cuts_none ht]
theorem cuts_app : ∀ {a : List UInt8} (b : List UInt8), (44 : UInt8) ∉ a → cuts (a ++ 44 :: b) = a :: cuts b
 | [], b, _ => by rw [List.nil_append, cuts, if_pos rfl]
 | c :: t, b, h => by
   have hc : c ≠ 44 := fun e => h (by rw [e]; exact List.mem_cons_self)
   have ht : (44 : UInt8) ∉ t := fun e => h (List.mem_cons_of_mem _ e)
   show cuts (c :: (t ++ 44 :: b)) = _
   rw [cuts, if_neg hc, cuts_app b ht]
theorem cuts_at {s : List UInt8} {n : Nat} (hn : s[n]? = some 44) (h : (44 : UInt8) ∉ s.take n) : cuts s = s.take n :: cuts (s.drop (n + 1)) := by
 have hl := (List.getElem?_eq_some_iff.1 hn).1
 have hx := (List.getElem?_eq_some_iff.1 hn).2
 have e : s = s.take n ++ 44 :: s.drop (n + 1) := by
  conv => lhs; rw [← List.take_append_drop n s, List.drop_eq_getElem_cons hl, hx]
 conv => lhs; rw [e]
 exact cuts_app _ h
def capL (c : UInt8) : Bool := decide (65 ≤ c.toNat ∧ c.toNat ≤ 90)
def capChars (l : List UInt8) : Bool := l.all fun c => capL c || digB c
def capsB (l : List UInt8) : Bool := (match l with | c :: _ => capL c | [] => false) && capChars l
def paperB (s : List UInt8) : Bool := capsB s && decide (s.length ≤ 12)
def codeB (s : List UInt8) : Bool := decide (s.length = 3) && s.all capL
theorem cap_split (d : UInt8) : capL d = ((capL d || digB d) && decide (65 ≤ d.toNat)) := by
 unfold capL digB
 by_cases h1 : 65 ≤ d.toNat <;> by_cases h2 : d.toNat ≤ 90 <;> by_cases h3 : 48 ≤ d.toNat <;> by_cases h4 : d.toNat ≤ 57 <;> simp [h1, h2, h3, h4] <;> omega
theorem code_caps {s : List UInt8} : codeB s = (capsB s && decide (s.length = 3) && (match s with | [_, b, c] => decide (65 ≤ b.toNat) && decide (65 ≤ c.toNat) | _ => false)) := by
 match s with
 | [] => rfl
 | [_] => simp [codeB]
 | [_, _] => simp [codeB]
 | [a, b, c] =>
   have h1 := cap_split b
   have h2 := cap_split c
   simp only [codeB, capsB, capChars, List.length_cons, List.length_nil, List.all_cons, List.all_nil, Bool.and_true, decide_true, Bool.true_and]
   revert h1 h2
   generalize capL a = A
   generalize digB a = A'
   generalize capL b = B
   generalize digB b = B'
   generalize capL c = C
   generalize digB c = C'
   generalize decide (65 ≤ b.toNat) = B1
   generalize decide (65 ≤ c.toNat) = C1
   cases A <;> cases A' <;> cases B <;> cases C <;> cases B1 <;> cases C1 <;> cases B' <;> cases C' <;> decide
 | a :: b :: c :: d :: t => simp [codeB]
theorem capChars_bad (s : ByteArray) (k : Nat) (h : k < s.size) (hb : (capL s[k] || digB s[k]) = false) : capsB s.data.toList = false := by
 have : capChars s.data.toList = false := by
  unfold capChars
  rw [List.all_eq_false]
  exact ⟨s[k], List.getElem_mem (l := s.data.toList) (by simpa using h), by rw [hb]; simp⟩
 unfold capsB
 rw [this, Bool.and_false]
theorem capChars_snoc (s : ByteArray) (k : Nat) (h : k < s.size) (hb : (capL s[k] || digB s[k]) = true) (hp : capChars (s.data.toList.take k) = true) : capChars (s.data.toList.take (k + 1)) = true := by
 have e : s.data.toList.take (k + 1) = s.data.toList.take k ++ [s[k]] := by
  rw [List.take_add_one, List.getElem?_eq_getElem (by simpa using h)]
  rfl
 rw [e]
 unfold capChars at hp ⊢
 rw [List.all_append, hp]
 simp [hb]
theorem caps_head (s : ByteArray) (h : 0 < s.size) : ∃ r, s.data.toList = s[0] :: r :=
 ⟨_, List.drop_eq_getElem_cons (l := s.data.toList) (i := 0) (by simpa using h)⟩
theorem capsB_first (s : ByteArray) (h : 0 < s.size) (hc : capL s[0] = false) : capsB s.data.toList = false := by
 obtain ⟨r, hr⟩ := caps_head s h
 unfold capsB
 rw [hr]
 simp only [hc, Bool.false_and]
theorem capsB_good (s : ByteArray) (h : 0 < s.size) (hc : capL s[0] = true) (ha : capChars s.data.toList = true) : capsB s.data.toList = true := by
 obtain ⟨r, hr⟩ := caps_head s h
 unfold capsB
 rw [ha, hr]
 simp only [hc, Bool.and_true]
theorem capsB_empty (s : ByteArray) (h : s.size = 0) : capsB s.data.toList = false := by
 have : s.data.toList = [] := List.length_eq_zero_iff.1 (by simpa using h)
 rw [this]
 rfl
structure QT where
 src : List UInt8
 ins : List UInt8
 cur : List UInt8
 day : Int
 x : Bool
 a : Nat
 y : Bool
 b : Nat
 known : Int
 void : Bool
def q0 : QT := ⟨[], [], [], 0, false, 0, false, 0, 0, false⟩
def QT.key (q : QT) (d : List UInt8) : List UInt8 := q.src ++ 44 :: (q.ins ++ 44 :: d)
end
end
section
open Go.RowKit
def qHd (q : QT) : Array Value := #[.string (bs q.src), .string (bs q.ins), .string (bs q.cur), .int .i64 q.day]
def qTl (q : QT) : Array Value := #[.int .i64 q.known, .bool q.void]
def qC (q : QT) : Array Value := qHd q ++ (ratC q.x q.a q.y q.b ++ qTl q)
theorem qHd_size (q : QT) : (qHd q).size = 4 := rfl
theorem qTl_size (q : QT) : (qTl q).size = 2 := rfl
theorem qC_size (q : QT) : (qC q).size = 72 := by simp [qC, ratC_size, qHd_size, qTl_size]
section
variable (q : QT)
theorem q_src : (qC q)[0]? = some (.string (bs q.src)) := by unfold qC; rw [Array.getElem?_append_left (by rw [qHd_size]; decide)]; rfl
theorem q_ins : (qC q)[1]? = some (.string (bs q.ins)) := by unfold qC; rw [Array.getElem?_append_left (by rw [qHd_size]; decide)]; rfl
theorem q_cur : (qC q)[2]? = some (.string (bs q.cur)) := by unfold qC; rw [Array.getElem?_append_left (by rw [qHd_size]; decide)]; rfl
theorem q_day : (qC q)[3]? = some (.int .i64 q.day) := by unfold qC; rw [Array.getElem?_append_left (by rw [qHd_size]; decide)]; rfl
theorem q_known : (qC q)[70]? = some (.int .i64 q.known) := by
 unfold qC
 rw [Array.getElem?_append_right (by rw [qHd_size]; decide), qHd_size, Array.getElem?_append_right (by rw [ratC_size]; decide), ratC_size]
 rfl
theorem q_void : (qC q)[71]? = some (.bool q.void) := by
 unfold qC
 rw [Array.getElem?_append_right (by rw [qHd_size]; decide), qHd_size, Array.getElem?_append_right (by rw [ratC_size]; decide), ratC_size]
 rfl
theorem rat_len (x : Bool) (a : Nat) (y : Bool) (b : Nat) : (ratC x a y b).toList.length = 66 := by rw [Array.length_toList, ratC_size]
theorem q_rat : ((qC q).toList.drop 4).take (ratC q.x q.a q.y q.b).size = (ratC q.x q.a q.y q.b).toList := by
 unfold qC
 rw [Array.toList_append, Array.toList_append, List.drop_left' (by rw [Array.length_toList, qHd_size]), List.take_left' (by rw [Array.length_toList])]
end
theorem rowQuoT : RowT Tryz.prog 33 72 := ⟨⟨_, Tryz.underlying33, rfl⟩, by kernel_rfl⟩
theorem rowQ (q : QT) : RowV Tryz.prog 33 (qC q) := ⟨by rw [qC_size]; exact rowQuoT, by
 have h1 := (rowRat q.x q.a q.y q.b).one
 unfold qC
 rw [Array.all_append, Array.all_append, h1]
 simp [qHd, qTl, Value.oneCell']⟩
set_option maxRecDepth 100000 in
theorem qC_rat0 (s t u : List UInt8) (d k : Int) (v : Bool) : qC ⟨s, t, u, d, false, 0, false, 0, k, v⟩ = #[.string (bs s), .string (bs t), .string (bs u), .int .i64 d, .bool false, .int .u32 0, .int .u32 0, .int .u32 0, .int .u32 0, .int .u32 0, .int .u32 0, .int .u32 0, .int .u32 0, .int .u32 0, .int .u32 0, .int .u32 0, .int .u32 0, .int .u32 0, .int .u32 0, .int .u32 0, .int .u32 0, .int .u32 0, .int .u32 0, .int .u32 0, .int .u32 0, .int .u32 0, .int .u32 0, .int .u32 0, .int .u32 0, .int .u32 0, .int .u32 0, .int .u32 0, .int .u32 0, .int .u32 0, .int .u32 0, .int .u32 0, .int .u32 0, .bool false, .int .u32 0, .int .u32 0, .int .u32 0, .int .u32 0, .int .u32 0, .int .u32 0, .int .u32 0, .int .u32 0, .int .u32 0, .int .u32 0, .int .u32 0, .int .u32 0, .int .u32 0, .int .u32 0, .int .u32 0, .int .u32 0, .int .u32 0, .int .u32 0, .int .u32 0, .int .u32 0, .int .u32 0, .int .u32 0, .int .u32 0, .int .u32 0, .int .u32 0, .int .u32 0, .int .u32 0, .int .u32 0, .int .u32 0, .int .u32 0, .int .u32 0, .int .u32 0, .int .i64 k, .bool v] := by
 have h : ratC false 0 false 0 = #[.bool false, .int .u32 0, .int .u32 0, .int .u32 0, .int .u32 0, .int .u32 0, .int .u32 0, .int .u32 0, .int .u32 0, .int .u32 0, .int .u32 0, .int .u32 0, .int .u32 0, .int .u32 0, .int .u32 0, .int .u32 0, .int .u32 0, .int .u32 0, .int .u32 0, .int .u32 0, .int .u32 0, .int .u32 0, .int .u32 0, .int .u32 0, .int .u32 0, .int .u32 0, .int .u32 0, .int .u32 0, .int .u32 0, .int .u32 0, .int .u32 0, .int .u32 0, .int .u32 0, .bool false, .int .u32 0, .int .u32 0, .int .u32 0, .int .u32 0, .int .u32 0, .int .u32 0, .int .u32 0, .int .u32 0, .int .u32 0, .int .u32 0, .int .u32 0, .int .u32 0, .int .u32 0, .int .u32 0, .int .u32 0, .int .u32 0, .int .u32 0, .int .u32 0, .int .u32 0, .int .u32 0, .int .u32 0, .int .u32 0, .int .u32 0, .int .u32 0, .int .u32 0, .int .u32 0, .int .u32 0, .int .u32 0, .int .u32 0, .int .u32 0, .int .u32 0, .int .u32 0] := ratZ
 show qHd _ ++ (ratC false 0 false 0 ++ qTl _) = _
 rw [h]
 kernel_rfl
theorem qZ : qC q0 = #[.string ⟨#[]⟩, .string ⟨#[]⟩, .string ⟨#[]⟩, .int .i64 0, .bool false, .int .u32 0, .int .u32 0, .int .u32 0, .int .u32 0, .int .u32 0, .int .u32 0, .int .u32 0, .int .u32 0, .int .u32 0, .int .u32 0, .int .u32 0, .int .u32 0, .int .u32 0, .int .u32 0, .int .u32 0, .int .u32 0, .int .u32 0, .int .u32 0, .int .u32 0, .int .u32 0, .int .u32 0, .int .u32 0, .int .u32 0, .int .u32 0, .int .u32 0, .int .u32 0, .int .u32 0, .int .u32 0, .int .u32 0, .int .u32 0, .int .u32 0, .int .u32 0, .bool false, .int .u32 0, .int .u32 0, .int .u32 0, .int .u32 0, .int .u32 0, .int .u32 0, .int .u32 0, .int .u32 0, .int .u32 0, .int .u32 0, .int .u32 0, .int .u32 0, .int .u32 0, .int .u32 0, .int .u32 0, .int .u32 0, .int .u32 0, .int .u32 0, .int .u32 0, .int .u32 0, .int .u32 0, .int .u32 0, .int .u32 0, .int .u32 0, .int .u32 0, .int .u32 0, .int .u32 0, .int .u32 0, .int .u32 0, .int .u32 0, .int .u32 0, .int .u32 0, .int .i64 0, .bool false] := qC_rat0 [] [] [] 0 0 false
theorem built_quoZ : Tryz.prog.built 33 [] = some (qC q0) := by rw [qZ]; kernel_rfl
theorem built_quo5 (s t u : List UInt8) (k : Int) (v : Bool) : Tryz.prog.built 33 [(0, .string (bs s)), (1, .string (bs t)), (2, .string (bs u)), (5, .int .i64 k), (6, .bool v)] = some (qC ⟨s, t, u, 0, false, 0, false, 0, k, v⟩) := by
 rw [qC_rat0]
 kernel_rfl
theorem built_quo6 (s t u : List UInt8) (d k : Int) (v : Bool) : Tryz.prog.built 33 [(0, .string (bs s)), (1, .string (bs t)), (2, .string (bs u)), (3, .int .i64 d), (5, .int .i64 k), (6, .bool v)] = some (qC ⟨s, t, u, d, false, 0, false, 0, k, v⟩) := by
 rw [qC_rat0]
 kernel_rfl
section
variable {o : Oper} {a : Act} {W w : World} {F A L : List Ent} {K : Act → World → Prop} {Q : Exit → Act → World → Prop} {ops : Array Oper} {rest : List Oper} {dst : Option Tmp} {ty : TypeId} {pos : String} {af : Array Edge} {gd : Option (Nat × Bool)} {x y : Operand} {cs ds cs' : Array Value} {b : Nat} {t T : TypeId}
theorem alloc_quo (ho : o.op = .alloc 33) : (execOp a.eval o).run Tryz.prog W = .ok (.value (.pointer (some ⟨W.heap.size, 0, none⟩))) (W.alloc (.cells (qC q0) 33)) := by
 obtain ⟨dst, op, pos, af, g, x⟩ := o
 subst ho
 rw [qZ]
 go_simp
 rfl
theorem box_quo {x : Operand} {cs : Array Value} (ho : o.op = .box 33 x) (hx : a.eval x = .agg cs) : (execOp a.eval o).run Tryz.prog W = .ok (.value (.pointer (some ⟨W.heap.size, 0, none⟩))) (W.alloc (.cells cs 33)) := by
 obtain ⟨dst, op, pos, af, g, z⟩ := o
 subst ho
 unfold execOp
 simp only [hx]
 go_simp
theorem gA_quo (h : Fr w W F) (hk : Hold (∀ b W', Fr w W' ((b, qC q0, 33) :: F) → K (a.put dst (.pointer (some ⟨b, 0, none⟩))) W')) : OpW Tryz.prog ⟨dst, .alloc 33, ty, pos, af, gd⟩ a W K Q := op_alloc h (alloc_quo rfl) hk
theorem gX_quo (h : Fr w W F) (hx : a.eval x = .agg cs) (hk : Hold (∀ b W', Fr w W' ((b, cs, 33) :: F) → K (a.put dst (.pointer (some ⟨b, 0, none⟩))) W')) : OpW Tryz.prog ⟨dst, .box 33 x, ty, pos, af, gd⟩ a W K Q := op_alloc h (box_quo rfl hx) hk
theorem gB_quo0 (hk : K (a.put dst (.agg (qC q0))) W) : OpW Tryz.prog ⟨dst, .build 33 #[], ty, pos, af, gd⟩ a W K Q :=
 op_build _ _ rfl (by simp only [List.map_toArray, List.map_nil]; exact built_quoZ) hk
theorem wpS_mid (h : Fr w W F) (T : TypeId) {k : Nat} (ho : o.op = .store T x y) (hx : a.eval x = .pointer (some ⟨b, k, none⟩)) (hy : a.eval y = .agg ds) (hl : Lies F A b cs t L) (hr : RowV Tryz.prog T ds) (hs : k + ds.size ≤ cs.size) (he : spl cs k ds.toList = cs') (hk : ∀ W', Fr w W' (A ++ (b, cs', t) :: L) → K (a.put o.dst undef) W') : OpW Tryz.prog o a W K Q := by
 have hb := h.get hl
 rw [hl.eq] at h
 subst he
 refine ⟨wp_store_mid T x y ho b k ds hx hy (fun j hj => ⟨?_, hb.fz _⟩) hr.row.size hr.one ?_⟩
 ·rw [hb.cell (v := cs[k + j]'(by omega)) (Array.getElem?_eq_getElem _)]
  rfl
 ·rw [setCells_row _ _ _ _ hb]
  exact hk _ (h.rowA _)
theorem gLo (h : Fr w W F) {g o n i : Nat} {l : List (List Value)} (hr : RecsAt w (some ⟨g, o, none⟩) n l) (hi : l[i]? = some ds.toList) (hd : 0 < ds.size) (hx : a.eval x = .pointer (some ⟨g, o + i * n, none⟩)) (hv : RowV Tryz.prog T ds) (hk : K (a.put dst (.agg ds)) W) : OpW Tryz.prog ⟨dst, .load T x, ty, pos, af, gd⟩ a W K Q := by
 obtain ⟨g', o', hA, hlt, hc⟩ := hr.rows i _ hi
 injection hA with hA
 injection hA with e1 e2
 subst e1 e2
 obtain ⟨d, hu, hd2⟩ := hv.row.row
 exact ⟨wp_load_mid T x rfl g (o + i * n) hx ds.toList d (fun j v hj => (h.below.cell (p := ⟨g, o + i * n + j, none⟩) hlt).trans (hc j v hj)) hu (by cases d <;> simp_all [TypeDesc.isRow]) (by simpa using hv.row.size) hk⟩
theorem fLo (h : Fr w W F) {g o n i : Nat} {l : List (List Value)} (hw : Region.wanted ⟨dst, .load T x, ty, pos, af, gd⟩ (yielded ops a.tmps) = true) (hr : RecsAt w (some ⟨g, o, none⟩) n l) (hi : l[i]? = some ds.toList) (hd : 0 < ds.size) (hx : a.eval x = .pointer (some ⟨g, o + i * n, none⟩)) (hv : RowV Tryz.prog T ds) (hk : wpList Tryz.prog ops Q rest (a.put dst (.agg ds)) W) : wpList Tryz.prog ops Q (⟨dst, .load T x, ty, pos, af, gd⟩ :: rest) a W :=
 wpList_want hw fun K hK => (gLo h hr hi hd hx hv (hK _ _ hk)).out
end
section
variable (q : QT)
theorem q_set0 (v : List UInt8) : (qC q).setIfInBounds 0 (.string (bs v)) = qC { q with src := v } := Array.toList_inj.1 (by
 simp only [qC, Array.toList_setIfInBounds, Array.toList_append]
 rw [List.set_append_left _ _ (by rw [Array.length_toList, qHd_size]; decide)]
 rfl)
theorem q_set1 (v : List UInt8) : (qC q).setIfInBounds 1 (.string (bs v)) = qC { q with ins := v } := Array.toList_inj.1 (by
 simp only [qC, Array.toList_setIfInBounds, Array.toList_append]
 rw [List.set_append_left _ _ (by rw [Array.length_toList, qHd_size]; decide)]
 rfl)
theorem q_set2 (v : List UInt8) : (qC q).setIfInBounds 2 (.string (bs v)) = qC { q with cur := v } := Array.toList_inj.1 (by
 simp only [qC, Array.toList_setIfInBounds, Array.toList_append]
 rw [List.set_append_left _ _ (by rw [Array.length_toList, qHd_size]; decide)]
 rfl)
theorem q_set3 (v : Int) : (qC q).setIfInBounds 3 (.int .i64 v) = qC { q with day := v } := Array.toList_inj.1 (by
 simp only [qC, Array.toList_setIfInBounds, Array.toList_append]
 rw [List.set_append_left _ _ (by rw [Array.length_toList, qHd_size]; decide)]
 rfl)
theorem q_set70 (v : Int) : (qC q).setIfInBounds 70 (.int .i64 v) = qC { q with known := v } := Array.toList_inj.1 (by
 simp only [qC, Array.toList_setIfInBounds, Array.toList_append]
 rw [List.set_append_right _ _ (by rw [Array.length_toList, qHd_size]; decide), Array.length_toList, qHd_size, List.set_append_right _ _ (by rw [rat_len]; decide), rat_len]
 rfl)
theorem q_set71 (v : Bool) : (qC q).setIfInBounds 71 (.bool v) = qC { q with void := v } := Array.toList_inj.1 (by
 simp only [qC, Array.toList_setIfInBounds, Array.toList_append]
 rw [List.set_append_right _ _ (by rw [Array.length_toList, qHd_size]; decide), Array.length_toList, qHd_size, List.set_append_right _ _ (by rw [rat_len]; decide), rat_len]
 rfl)
theorem spl_list : ∀ (l : List Value) (cs : Array Value) (o : Nat), o + l.length ≤ cs.size → (spl cs o l).toList = cs.toList.take o ++ (l ++ cs.toList.drop (o + l.length))
 | [], cs, o, h => by simp [spl]
 | v :: r, cs, o, h => by
  rw [List.length_cons] at h
  have hl : o < cs.toList.length := by simpa using (by omega : o < cs.size)
  unfold spl
  rw [spl_list r _ _ (by simp; omega), Array.toList_setIfInBounds, List.length_cons, List.take_set, List.drop_set, if_pos (by omega)]
  have e1 : (cs.toList.take (o + 1)).set o v = cs.toList.take o ++ [v] := by
   rw [List.take_succ_eq_append_getElem hl, List.set_append_right _ _ (by rw [List.length_take]; exact Nat.min_le_left ..), List.length_take, Nat.min_eq_left (by omega), Nat.sub_self]
   rfl
  rw [e1, show o + 1 + r.length = o + (r.length + 1) by omega]
  simp
theorem q_spl (x : Bool) (a : Nat) (y : Bool) (b : Nat) : spl (qC q) 4 (ratC x a y b).toList = qC { q with x := x, a := a, y := y, b := b } := Array.toList_inj.1 (by
 rw [spl_list _ _ _ (by rw [rat_len, qC_size]; decide), rat_len]
 simp only [qC, Array.toList_append]
 rw [← List.drop_drop, List.take_left' (by rw [Array.length_toList, qHd_size]), List.drop_left' (by rw [Array.length_toList, qHd_size]), List.drop_left' (rat_len _ _ _ _)]
 rfl)
theorem q_splRC (n d : Int) : spl (qC q) 4 (RC n d).toList = qC { q with x := decide (n < 0), a := n.natAbs, y := decide (d < 0), b := d.natAbs } := q_spl q _ _ _ _
end
section
variable {P : Program} {D : Nat} {xs ys : Array Value} {f : Field} {fs : List Field} {u v : Value} {W : World}
theorem eqf_cons (hn : decide (f.name = "_") = false) (p1 : (part f.type xs f.offset).run P W = .ok u W) (q1 : (part f.type ys f.offset).run P W = .ok v W) (e1 : (Op.equalIn D f.type u v).run P W = .ok true W) (h : (Op.eqFields D xs ys fs).run P W = .ok true W) : (Op.eqFields D xs ys (f :: fs)).run P W = .ok true W := by
 have hn : f.name ≠ "_" := by simpa using hn
 simp only [Op.eqFields, if_pos hn, Sem.run_bind, p1, q1, e1, Result.andThen_ok]
 simp only [Bool.not_true, Bool.false_eq_true, if_false]
 exact h
theorem part_cell {T : TypeId} {k : Nat} (hT : ScT P T) (hc : xs[k]? = some v) : (part T xs k).run P W = .ok v W := by
 obtain ⟨d, hu, hd⟩ := hT.ag
 have ha : (isAgg T).run P W = .ok false W := by
  unfold isAgg
  rw [Sem.run_bind, run_underlying hu W]
  cases d <;> simp_all
 simp [part, ha, hc]
end
theorem eq_quo (q : QT) (ha : q.a < bp 32) (hb : q.b < bp 32) (w : World) : (Op.equalIn 10000 33 (.agg (qC q)) (.agg (qC q))).run Tryz.prog w = .ok true w := by
 obtain ⟨fs, hu, hfs⟩ : ∃ fs, Tryz.prog.underlying 33 = some (.struct fs) ∧ fs.toList.map (fun f => (decide (f.name = "_"), f.type, f.offset)) = [(false, 9, 0), (false, 9, 1), (false, 9, 2), (false, 3, 3), (false, 31, 4), (false, 3, 70), (false, 4, 71)] := ⟨_, Tryz.underlying33, by kernel_rfl⟩
 have hfo : Tryz.prog.fieldsOf 33 = fs := by
  unfold Program.fieldsOf
  rw [hu]
 rw [run_equalIn_agg w 9999 _ _ _ (by rw [hfo]; exact hu) (by kernel_rfl), hfo]
 generalize fs.toList = l at hfs
 obtain ⟨f1, l, rfl⟩ : ∃ f r, l = f :: r := by cases l with | nil => simp at hfs | cons f r => exact ⟨f, r, rfl⟩
 obtain ⟨f2, l, rfl⟩ : ∃ f r, l = f :: r := by cases l with | nil => simp at hfs | cons f r => exact ⟨f, r, rfl⟩
 obtain ⟨f3, l, rfl⟩ : ∃ f r, l = f :: r := by cases l with | nil => simp at hfs | cons f r => exact ⟨f, r, rfl⟩
 obtain ⟨f4, l, rfl⟩ : ∃ f r, l = f :: r := by cases l with | nil => simp at hfs | cons f r => exact ⟨f, r, rfl⟩
 obtain ⟨f5, l, rfl⟩ : ∃ f r, l = f :: r := by cases l with | nil => simp at hfs | cons f r => exact ⟨f, r, rfl⟩
 obtain ⟨f6, l, rfl⟩ : ∃ f r, l = f :: r := by cases l with | nil => simp at hfs | cons f r => exact ⟨f, r, rfl⟩
 obtain ⟨f7, l, rfl⟩ : ∃ f r, l = f :: r := by cases l with | nil => simp at hfs | cons f r => exact ⟨f, r, rfl⟩
 simp only [List.map_cons, List.cons.injEq, Prod.mk.injEq, List.map_eq_nil_iff] at hfs
 obtain ⟨⟨n1, t1, o1⟩, ⟨n2, t2, o2⟩, ⟨n3, t3, o3⟩, ⟨n4, t4, o4⟩, ⟨n5, t5, o5⟩, ⟨n6, t6, o6⟩, ⟨n7, t7, o7⟩, rfl⟩ := hfs
 have hst : ∀ s : ByteArray, (Op.equalIn 9999 9 (.string s) (.string s)).run Tryz.prog w = .ok true w := fun s => by rw [run_equalIn_string w 9998 _ _ _ Tryz.underlying9]; simp
 have hin : ∀ k : Int, (Op.equalIn 9999 3 (.int .i64 k) (.int .i64 k)).run Tryz.prog w = .ok true w := fun s => by rw [run_equalIn_int w 9998 _ _ _ _ _ Tryz.underlying3]; simp
 have hra : (Op.equalIn 9999 31 (.agg (ratC q.x q.a q.y q.b)) (.agg (ratC q.x q.a q.y q.b))).run Tryz.prog w = .ok true w := by
  refine (eq_two (D := 9998) ⟨_, Tryz.underlying31, by kernel_rfl⟩ (by kernel_rfl) (fun w => part_row (rat_num _ _ _ _) (rowInt _ _) w) (fun w => part_row (rat_num _ _ _ _) (rowInt _ _) w) (fun w => part_row (rat_den _ _ _ _) (rowInt _ _) w) (fun w => part_row (rat_den _ _ _ _) (rowInt _ _) w)
   (fun w => eq_int 9995 _ _ _ _ ha ha w) (fun w => eq_int 9995 _ _ _ _ hb hb w) w).trans ?_
  simp
 refine eqf_cons n1 (u := .string (bs q.src)) (v := .string (bs q.src)) ?_ ?_ ?_ ?_
 ·rw [t1, o1]; exact part_cell scStr (q_src q)
 ·rw [t1, o1]; exact part_cell scStr (q_src q)
 ·rw [t1]; exact hst _
 refine eqf_cons n2 (u := .string (bs q.ins)) (v := .string (bs q.ins)) ?_ ?_ ?_ ?_
 ·rw [t2, o2]; exact part_cell scStr (q_ins q)
 ·rw [t2, o2]; exact part_cell scStr (q_ins q)
 ·rw [t2]; exact hst _
 refine eqf_cons n3 (u := .string (bs q.cur)) (v := .string (bs q.cur)) ?_ ?_ ?_ ?_
 ·rw [t3, o3]; exact part_cell scStr (q_cur q)
 ·rw [t3, o3]; exact part_cell scStr (q_cur q)
 ·rw [t3]; exact hst _
 refine eqf_cons n4 (u := .int .i64 q.day) (v := .int .i64 q.day) ?_ ?_ ?_ ?_
 ·rw [t4, o4]; exact part_cell scInt (q_day q)
 ·rw [t4, o4]; exact part_cell scInt (q_day q)
 ·rw [t4]; exact hin _
 refine eqf_cons n5 (u := .agg (ratC q.x q.a q.y q.b)) (v := .agg (ratC q.x q.a q.y q.b)) ?_ ?_ ?_ ?_
 ·rw [t5, o5]; exact part_row (q_rat q) (rowRat _ _ _ _) w
 ·rw [t5, o5]; exact part_row (q_rat q) (rowRat _ _ _ _) w
 ·rw [t5]; exact hra
 refine eqf_cons n6 (u := .int .i64 q.known) (v := .int .i64 q.known) ?_ ?_ ?_ ?_
 ·rw [t6, o6]; exact part_cell scInt (q_known q)
 ·rw [t6, o6]; exact part_cell scInt (q_known q)
 ·rw [t6]; exact hin _
 refine eqf_cons n7 (u := .bool q.void) (v := .bool q.void) ?_ ?_ ?_ ?_
 ·rw [t7, o7]; exact part_cell scBool (q_void q)
 ·rw [t7, o7]; exact part_cell scBool (q_void q)
 ·rw [t7, run_equalIn_bool' w 9998 _ _ _ Tryz.underlying4]; simp
 ·simp [Op.eqFields]
end
section
open Go.RowKit
section
variable {P : Program} {op : Op} {a : Act} {w W : World} {F F' A L : List Ent} {v v0 : Value} {Q : Exit → Act → World → Prop} {ops : Array Oper} {rest : List Oper} {dst : Option Tmp} {ty : TypeId} {pos : String} {af : Array Edge} {gd : Option (Nat × Bool)} {b k : Nat} {cs ds cs' : Array Value} {t T : TypeId} {x y : Operand}
theorem yLc (hx : a.eval x = .pointer (some ⟨b, k, none⟩)) (hl : Lies F A b cs t L) (hT : ScT P T) (hc : cs[k]? = some v) : Yld P (.load T x) a F v := ⟨fun h hk => gLc h hx hl hT hc hk⟩
theorem sSc (hx : a.eval x = .pointer (some ⟨b, k, none⟩)) (hy : a.eval y = v) (hl : Lies F A b cs t L) (hT : ScT P T) (h1 : v.oneCell' = true) (hc : cs[k]? = some v0) (he : cs.setIfInBounds k v = cs') (hF : A ++ (b, cs', t) :: L = F') : Str P (.store T x y) a F F' := ⟨fun h hk => gSc h hx hy hl hT h1 hc he (by rw [hF]; exact hk)⟩
end
section
variable {op : Op} {a : Act} {w W : World} {F F' A L : List Ent} {b k : Nat} {cs ds cs' : Array Value} {t T : TypeId} {x y : Operand}
theorem sSm (hx : a.eval x = .pointer (some ⟨b, k, none⟩)) (hy : a.eval y = .agg ds) (hl : Lies F A b cs t L) (hr : RowV Tryz.prog T ds) (hs : k + ds.size ≤ cs.size) (he : spl cs k ds.toList = cs') (hF : A ++ (b, cs', t) :: L = F') : Str Tryz.prog (.store T x y) a F F' :=
 ⟨fun {w W K Q ty pos af gd} h hk => wpS_mid (o := ⟨none, .store T x y, ty, pos, af, gd⟩) h T rfl hx hy hl hr hs he (by rw [hF]; exact hk)⟩
theorem nA_quo : Nw Tryz.prog (.alloc 33) a F (qC q0) 33 := ⟨fun h hk => gA_quo h hk⟩
theorem nX_quo (hx : a.eval x = .agg cs) : Nw Tryz.prog (.box 33 x) a F cs 33 := ⟨fun h hk => gX_quo h hx hk⟩
theorem yB_quo0 : Yld Tryz.prog (.build 33 #[]) a F (.agg (qC q0)) := ⟨fun h hk => gB_quo0 hk⟩
theorem jYQ {p : Prop} (h : p := by (first
 | (apply yL; exact rfl; exact tL; (first | with_reducible exact rowQ _ | exact tR3))
 | (apply yLc; exact rfl; exact tL; (first | with_reducible exact scStr | with_reducible exact scInt | with_reducible exact scBool); (first | with_reducible exact q_src _ | with_reducible exact q_ins _ | with_reducible exact q_cur _ | with_reducible exact q_day _ | with_reducible exact q_known _ | with_reducible exact q_void _ | exact rfl))
 | (apply yLm; exact rfl; exact tL; (first | with_reducible exact q_rat _ | exact tM3); exact tR3)
 | exact yB_quo0 | exact yB_int0 | exact yB_mag0 | exact yB_mag1 | exact yB_int rfl rfl | exact yB_rat0 | exact yB_rat rfl rfl | exact yB_arr0)) : p := h
theorem kYQ {p q : Prop} (h : p ∧ q := by (refine ⟨?_, ?_⟩; exact rfl; exact jYQ)) : p ∧ q := h
theorem jTQ {p : Prop} (h : p := by (first
 | (apply sS; exact rfl; exact rfl; exact tL; (first | with_reducible exact rowQ _ | exact tR3); (first | with_reducible exact (qC_size _).trans (qC_size _).symm | exact tS2); (simp only [z7, z8]; exact rfl))
 | (apply sSm; exact rfl; exact rfl; exact tL; (first | with_reducible exact rowRC _ _ | with_reducible exact rowRat _ _ _ _); (simp only [qC_size, ratC_size, RC_size]; decide); (first | with_reducible exact q_splRC _ _ _ | with_reducible exact q_spl _ _ _ _ _); (simp only [z7, z8]; exact rfl))
 | (apply sSc; exact rfl; (go_simp; exact rfl); exact tL; (first | with_reducible exact scStr | with_reducible exact scInt | with_reducible exact scBool); exact rfl; (first | with_reducible exact q_src _ | with_reducible exact q_ins _ | with_reducible exact q_cur _ | with_reducible exact q_day _ | with_reducible exact q_known _ | with_reducible exact q_void _ | exact rfl); (first | with_reducible exact q_set0 _ _ | with_reducible exact q_set1 _ _ | with_reducible exact q_set2 _ _ | with_reducible exact q_set3 _ _ | with_reducible exact q_set70 _ _ | with_reducible exact q_set71 _ _ | exact rfl); (simp only [z7, z8]; exact rfl)))) : p := h
theorem kTQ {p q : Prop} (h : p ∧ q := by (refine ⟨?_, ?_⟩; exact rfl; exact jTQ)) : p ∧ q := h
theorem jNQ {p : Prop} (h : p := by ((first | exact nA_int | exact nX_int rfl | exact nA_mag | exact nX_mag rfl | exact nA_rat | exact nX_rat rfl | exact nA_arr | exact nX_arr rfl | exact nA_quo | exact nX_quo rfl))) : p := h
theorem kNQ {p q : Prop} (h : p ∧ q := by (refine ⟨?_, ?_⟩; exact rfl; exact jNQ)) : p ∧ q := h
end
section
variable {P : Program} {op : Op} {a : Act} {w W : World} {F F' : List Ent} {v : Value} {Q : Exit → Act → World → Prop} {ops : Array Oper} {rest : List Oper} {dst : Option Tmp} {ty : TypeId} {pos : String} {af : Array Edge} {gd : Option (Nat × Bool)} {cs : Array Value} {t : TypeId}
theorem aYQ (hk : wpList P ops Q rest (a.put dst v) W) (h : Fr w W F := by exact F) (hc : Region.wanted ⟨dst, op, ty, pos, af, gd⟩ (yielded ops a.tmps) = true ∧ Yld P op a F v := by exact kYQ) : wpList P ops Q (⟨dst, op, ty, pos, af, gd⟩ :: rest) a W := fY h hc hk
theorem aTQ (hk : ∀ W', Fr w W' F' → wpList P ops Q rest a W') (h : Fr w W F := by exact F) (hc : Region.wanted ⟨none, op, ty, pos, af, gd⟩ (yielded ops a.tmps) = true ∧ Str P op a F F' := by exact kTQ) : wpList P ops Q (⟨none, op, ty, pos, af, gd⟩ :: rest) a W := fT h hc hk
theorem aNQ (hk : Hold (∀ b W', Fr w W' ((b, cs, t) :: F) → wpList P ops Q rest (a.put dst (.pointer (some ⟨b, 0, none⟩))) W')) (h : Fr w W F := by exact F) (hc : Region.wanted ⟨dst, op, ty, pos, af, gd⟩ (yielded ops a.tmps) = true ∧ Nw P op a F cs t := by exact kNQ) : wpList P ops Q (⟨dst, op, ty, pos, af, gd⟩ :: rest) a W := fN h hc hk
end
end
section
theorem sZ_z (z : Int) : sZ (decide (z < 0)) z.natAbs = z := by
 unfold sZ
 by_cases h : z < 0
 ·rw [if_pos (decide_eq_true h)]
  omega
 ·rw [if_neg (by simpa using h)]
  omega
def okZ (n d : Int) : Prop := okR (decide (n < 0)) n.natAbs (decide (d < 0)) d.natAbs
instance (n d : Int) : Decidable (okZ n d) := by unfold okZ; infer_instance
theorem bl_bp15 {a : Nat} : bl a ≤ 480 ↔ a < bp 15 := by rw [bl_le, bp_two, show 32 * 15 = 480 from rfl]
theorem okZ_iff {n d : Int} : okZ n d ↔ (n.natAbs < bp 15 ∧ d.natAbs < bp 15) ∧ 0 < d ∧ Int.gcd n d = 1 := by
 unfold okZ okR Int.gcd
 rw [bl_bp15, bl_bp15, sgN_z]
 constructor
 ·rintro ⟨h1, -, -, h4, h5⟩
  exact ⟨h1, Int.sign_pos_iff.1 h4, h5⟩
 ·rintro ⟨h1, h2, h3⟩
  refine ⟨h1, ?_, ?_, Int.sign_pos_iff.2 h2, h3⟩
  ·by_cases h : n < 0
   ·rw [decide_eq_true h, decide_eq_false (by omega)]; rfl
   ·rw [decide_eq_false h]; rfl
  ·rw [decide_eq_false (show ¬ d < 0 by omega)]; rfl
def lowN (n d : Int) : Int := n / (Int.gcd n d : Int)
def lowD (n d : Int) : Int := d / (Int.gcd n d : Int)
theorem gcd_pos {n d : Int} (h : 0 < d) : 0 < Int.gcd n d := Nat.pos_of_ne_zero (fun h0 => by have := (Int.gcd_eq_zero_iff.1 h0).2; omega)
theorem low_mul {n d : Int} (h : 0 < d) : lowN n d * (Int.gcd n d : Int) = n ∧ lowD n d * (Int.gcd n d : Int) = d :=
 ⟨Int.ediv_mul_cancel (Int.gcd_dvd_left _ _), Int.ediv_mul_cancel (Int.gcd_dvd_right _ _)⟩
theorem lowD_pos {n d : Int} (h : 0 < d) : 0 < lowD n d := by
 have h1 := (low_mul (n := n) h).2
 have h2 : (0 : Int) < Int.gcd n d := by have := gcd_pos (n := n) h; omega
 rcases Int.lt_or_le 0 (lowD n d) with h3 | h3
 ·exact h3
 ·have := Int.mul_nonpos_of_nonpos_of_nonneg h3 (Int.le_of_lt h2)
  omega
theorem low_gcd {n d : Int} (h : 0 < d) : Int.gcd (lowN n d) (lowD n d) = 1 := Int.gcd_ediv_gcd_ediv_gcd (gcd_pos h)
theorem lowN_abs (n d : Int) : (lowN n d).natAbs ≤ n.natAbs := Int.natAbs_ediv_le_natAbs _ _
theorem lowD_abs (n d : Int) : (lowD n d).natAbs ≤ d.natAbs := Int.natAbs_ediv_le_natAbs _ _
theorem mkR_low {n d : Int} (h : 0 < d) : mkR n d = if (lowN n d).natAbs < bp 15 ∧ (lowD n d).natAbs < bp 15 then (lowN n d, lowD n d, 0) else (0, 0, 10) := by
 unfold mkR
 rw [if_neg (by omega)]
 dsimp only
 rw [if_neg (show ¬ d < 0 by omega)]
 simp only [bl_bp15]
 rfl
theorem mkR_ok {n d : Int} (h : 0 < d) (hn : n.natAbs < bp 15) (hd : d.natAbs < bp 15) : mkR n d = (lowN n d, lowD n d, 0) ∧ okZ (lowN n d) (lowD n d) := by
 have h1 := Nat.lt_of_le_of_lt (lowN_abs n d) hn
 have h2 := Nat.lt_of_le_of_lt (lowD_abs n d) hd
 rw [mkR_low h, if_pos ⟨h1, h2⟩]
 exact ⟨rfl, okZ_iff.2 ⟨⟨h1, h2⟩, lowD_pos h, low_gcd h⟩⟩
theorem low_scale {n d c : Int} (hd : 0 < d) (hc : 0 < c) : lowN (n * c) (d * c) = lowN n d ∧ lowD (n * c) (d * c) = lowD n d := by
 have hg : (Int.gcd (n * c) (d * c) : Int) = (Int.gcd n d : Int) * c := by
  rw [Int.gcd_mul_right, Int.natCast_mul]
  congr 1
  omega
 unfold lowN lowD
 rw [hg, Int.mul_ediv_mul_of_pos_left _ _ hc, Int.mul_ediv_mul_of_pos_left _ _ hc]
 exact ⟨rfl, rfl⟩
theorem mkR_scale {n d c : Int} (hd : 0 < d) (hc : 0 < c) : mkR (n * c) (d * c) = mkR n d := by
 obtain ⟨h1, h2⟩ := low_scale (n := n) hd hc
 rw [mkR_low hd, mkR_low (Int.mul_pos hd hc), h1, h2]
theorem low_neg {n d : Int} (hd : 0 < d) : lowN (-n) d = -lowN n d ∧ lowD (-n) d = lowD n d := by
 unfold lowN lowD
 rw [Int.neg_gcd, Int.neg_ediv_of_dvd (Int.gcd_dvd_left _ _)]
 exact ⟨rfl, rfl⟩
theorem low_self {n d : Int} (h : okZ n d) : lowN n d = n ∧ lowD n d = d := by
 obtain ⟨-, -, h3⟩ := okZ_iff.1 h
 unfold lowN lowD
 rw [h3]
 exact ⟨Int.ediv_one _, Int.ediv_one _⟩
end
section
open Go.RowKit
set_option maxHeartbeats 2000000
theorem bytesWorldB (w : World) (e : TypeId) (s : ByteArray) : Below w.heap.size w (Lib.bytesWorld w e s) :=
 ⟨rfl, rfl, rfl, by rw [Lib.bytesWorld_size]; omega, fun i hi => Lib.bytesWorld_at_old w e s i hi⟩
def numF (acc : Nat) (l : List UInt8) : Nat := l.foldl (fun n b => n * 10 + (b.toNat - 48)) acc
def numL (l : List UInt8) : Nat := numF 0 l
theorem numF_cons (acc : Nat) (b : UInt8) (l : List UInt8) : numF acc (b :: l) = numF (acc * 10 + (b.toNat - 48)) l := by unfold numF; rw [List.foldl_cons]
theorem numF_append (acc : Nat) (l m : List UInt8) : numF acc (l ++ m) = numF (numF acc l) m := by simp [numF]
theorem numF_acc (l : List UInt8) : ∀ acc, numF acc l = acc * 10 ^ l.length + numF 0 l := by
 induction l with
 | nil => intro acc; simp [numF]
 | cons b l ih =>
  intro acc
  rw [numF_cons, numF_cons, ih, ih (0 * 10 + _), List.length_cons, Nat.pow_succ, Nat.zero_mul, Nat.zero_add, Nat.add_mul, Nat.mul_assoc, Nat.mul_comm 10, Nat.add_assoc]
theorem isD_iff {b : UInt8} : isD b = true ↔ 48 ≤ b.toNat ∧ b.toNat ≤ 57 := by simp [isD]
theorem numL_lt (l : List UInt8) (h : l.all isD = true) : numL l < 10 ^ l.length := by
 unfold numL
 induction l with
 | nil => simp [numF]
 | cons b l ih =>
  rw [List.all_cons, Bool.and_eq_true] at h
  have h1 := ih h.2
  have h2 := isD_iff.1 h.1
  rw [numF_cons, numF_acc, List.length_cons, Nat.pow_succ]
  have h3 : (0 * 10 + (b.toNat - 48)) * 10 ^ l.length ≤ 9 * 10 ^ l.length := Nat.mul_le_mul_right _ (by omega)
  omega
theorem parse_num (l : List UInt8) : ∀ acc, l.all isD = true → (acc + 1) * 10 ^ l.length ≤ 1000000000000000000 → Lib.parseUint10 acc l = .ok (numF acc l) := by
 induction l with
 | nil => intro acc _ _; rfl
 | cons b l ih =>
  intro acc h hl
  rw [List.all_cons, Bool.and_eq_true] at h
  have h2 := isD_iff.1 h.1
  rw [List.length_cons, Nat.pow_succ] at hl
  have h5 : 0 < 10 ^ l.length := Nat.pow_pos (by decide)
  have h3 : (acc * 10 + (b.toNat - 48) + 1) * 10 ^ l.length ≤ ((acc + 1) * 10) * 10 ^ l.length := Nat.mul_le_mul_right _ (by omega)
  have h4 : ((acc + 1) * 10) * 10 ^ l.length = (acc + 1) * (10 ^ l.length * 10) := by rw [Nat.mul_assoc, Nat.mul_comm 10]
  have h6 : (acc + 1) * 10 ≤ ((acc + 1) * 10) * 10 ^ l.length := Nat.le_mul_of_pos_right _ h5
  simp only [Lib.parseUint10]
  rw [if_pos h2, if_neg (by omega), if_neg (by omega), numF_cons]
  exact ih _ h.2 (by omega)
theorem atoi_num {l : List UInt8} (h : l.all isD = true) (h0 : l ≠ []) (hl : l.length ≤ 18) : Lib.atoiAll l = .ok (numL l : Int) := by
 cases l with
 | nil => exact absurd rfl h0
 | cons b l =>
  have h1 := h
  rw [List.all_cons, Bool.and_eq_true] at h1
  have h2 := isD_iff.1 h1.1
  have hp : 10 ^ (b :: l).length ≤ 10 ^ 18 := Nat.pow_le_pow_right (by decide) hl
  have h3 := parse_num (b :: l) 0 h (by omega)
  have h4 := numL_lt (b :: l) h
  unfold Lib.atoiAll
  dsimp only
  rw [if_neg (by omega)]
  unfold Lib.parseMag
  rw [if_neg (by simp), h3]
  dsimp only
  unfold numL at h4 ⊢
  rw [if_neg (by omega), if_neg (by omega), if_neg (by omega)]
theorem atoi_any {l : List UInt8} (h : l.all isD = true) (h0 : l ≠ []) (hl : l.length ≤ 18) (w : World) : Calls Tryz.prog 80 #[.string (bs l)] w (RetB (.tuple #[.int .i64 (numL l), .nilIface]) w) := by
 have h1 := Tryz.strconv_Atoi_ok (bs l) (by rw [bs_size]; omega) (numL l) (by rw [bs_list]; exact atoi_num h h0 hl) w
 refine h1.mono ?_
 rintro e W ⟨rfl, rfl | ⟨t, rfl⟩⟩
 ·exact ⟨rfl, Below.refl _ _⟩
 ·exact ⟨rfl, bytesWorldB _ _ _⟩
theorem cutPrefix_any (s : List UInt8) (c : UInt8) (w : World) : Calls Tryz.prog 77 #[.string (bs s), .string ⟨#[c]⟩] w (RetB (.tuple #[.string (bs (Lib.trimPrefix s [c])), .bool (Lib.hasPrefix s [c])]) w) := by
 have h := Tryz.strings_CutPrefix (bs s) ⟨#[c]⟩ w
 rw [bs_list] at h
 refine h.mono ?_
 rintro e W ⟨rfl, rfl⟩
 exact ⟨rfl, Below.refl _ _⟩
set_option maxRecDepth 100000 in
theorem cut_any (l : List UInt8) (c : UInt8) (hl : l.length ≤ 9223372036854775807) {r : List UInt8 × List UInt8 × Bool} (hr : cut1 l c = r) (w : World) : Calls Tryz.prog 78 #[.string (bs l), .string ⟨#[c]⟩] w (RetB (.tuple #[.string (bs r.1), .string (bs r.2.1), .bool r.2.2]) w) := by
 have F := Fr.start w
 have g1 := fun w => scut_any l c hl hr w
 have hc : bs [c] = ⟨#[c]⟩ := rfl
 rw [hc] at g1
 clear hr hc
 go_enter Tryz.func78, Tryz.ntmps78
 go_wp2_with ((go_at_call 122); (with_reducible refine fr_call F (g1 _) ?_); (clear F; intro W F); (try dsimp only))
 go_ret3
 exact ⟨rfl, F.below⟩
def dgs (l : List UInt8) (lo hi : Int) : Bool := decide (lo ≤ l.length) && decide ((l.length : Int) ≤ hi) && l.all isD
theorem dgs_iff {l : List UInt8} {lo hi : Int} : dgs l lo hi = true ↔ lo ≤ l.length ∧ (l.length : Int) ≤ hi ∧ l.all isD = true := by
 unfold dgs
 rw [Bool.and_eq_true, Bool.and_eq_true, decide_eq_true_eq, decide_eq_true_eq, and_assoc]
def prsB (a b : List UInt8) (neg : Bool) : Int × Int × Int :=
 let v : Nat := numL a * 10 ^ b.length + numL b
 if neg = true ∧ v = 0 then (0, 0, 32)
 else
  let z : Int := if neg = true then -(v : Int) else v
  (lowN z ((10 ^ b.length : Nat) : Int), lowD z ((10 ^ b.length : Nat) : Int), 0)
def prsR (s : List UInt8) (p : Int) : Int × Int × Int :=
 if p < 0 ∨ 9 < p then (0, 0, 30)
 else
  let c := cut1 (Lib.trimPrefix s [45]) 46
  if dgs c.1 1 15 = false ∨ (1 < c.1.length ∧ c.1.head? = some 48) ∨ (c.2.2 = true ∧ dgs c.2.1 1 p = false) then (0, 0, 32)
  else prsB c.1 c.2.1 (Lib.hasPrefix s [45])
theorem cut1_no {l : List UInt8} {c : UInt8} (h : (cut1 l c).2.2 = false) : (cut1 l c).2.1 = [] := by
 unfold cut1 at h ⊢
 split
 ·rename_i h1
  rw [if_pos h1] at h
  simp at h
 ·rfl
theorem trim_len (s p : List UInt8) : (Lib.trimPrefix s p).length ≤ s.length := by
 unfold Lib.trimPrefix
 split
 ·rw [List.length_drop]; omega
 ·omega
theorem cut1_len (l : List UInt8) (c : UInt8) : (cut1 l c).1.length ≤ l.length ∧ (cut1 l c).2.1.length ≤ l.length := by
 unfold cut1
 split
 ·dsimp only
  rw [List.length_take, List.length_drop]
  omega
 ·exact ⟨Nat.le_refl _, Nat.zero_le _⟩
end
end Go.Proofs.YteaahhokaffmdaaGreatDoor
