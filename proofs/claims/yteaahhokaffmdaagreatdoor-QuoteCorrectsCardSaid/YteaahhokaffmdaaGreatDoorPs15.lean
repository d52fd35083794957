/- What the laws lean on. -/
import Derived.Test.YteaahhokaffmdaaGreatDoorPs13
import Derived.Test.YteaahhokaffmdaaGreatDoorShelf4
import Derived.Lib.ConvBytes
import Derived.Deep.Fields
import Derived.Deep.Strs
import Derived.ShutString
import Derived.ChangeOld
import Derived.LaidMore
import Derived.Stop.Joined
import Derived.SevenTiedAt
import Derived.Test.YteaahhokaffmdaaGreatDoorTie
import Derived.Lay
import Derived.LaidOnce
import Derived.KernelRfl
namespace Go.Proofs.YteaahhokaffmdaaGreatDoor
set_option linter.unusedVariables false
set_option linter.unusedSimpArgs false
section
open Go.RowKit
set_option maxHeartbeats 4000000
def arrC (P : List (List UInt8)) : Array Value := ((P ++ List.replicate (5 - P.length) []).map fun l => Value.string (bs l)).toArray
theorem arr_at {P : List (List UInt8)} (h : P.length < 5) : (arrC P)[P.length]? = some (.string (bs [])) := by
  unfold arrC
  rw [List.getElem?_toArray, List.getElem?_map, List.getElem?_append_right (Nat.le_refl _), Nat.sub_self, List.getElem?_replicate, if_pos (by omega)]
  rfl
theorem arr_set {P : List (List UInt8)} (h : P.length < 5) (x : List UInt8) : (arrC P).setIfInBounds P.length (.string (bs x)) = arrC (P ++ [x]) := by
  apply Array.toList_inj.1
  unfold arrC
  rw [Array.toList_setIfInBounds, List.toList_toArray, List.toList_toArray, List.map_append, List.set_append_right _ _ (by simp), List.length_map, Nat.sub_self]
  obtain ⟨m, hm⟩ : ∃ m, 5 - P.length = m + 1 := ⟨4 - P.length, by omega⟩
  rw [hm, List.length_append, List.length_singleton, show 5 - (P.length + 1) = m by omega, List.replicate_succ, List.map_cons, List.set_cons_zero, List.append_assoc, List.map_append, List.map_append]
  rfl
theorem arr_five (a b c d p : List UInt8) : arrC [a, b, c, d, p] = #[.string (bs a), .string (bs b), .string (bs c), .string (bs d), .string (bs p)] := rfl
section
variable {o : Oper} {a : Act} {W w : World} {F A L : List Ent} {K : Act → World → Prop} {Q : Exit → Act → World → Prop} {ops : Array Oper} {rest : List Oper} {dst : Option Tmp} {ty : TypeId} {pos : String} {af : Array Edge} {gd : Option (Nat × Bool)} {x y : Operand} {cs cs' : Array Value} {b k : Nat} {t T : TypeId} {v v0 : Value}
theorem alloc_s5 (ho : o.op = .alloc 73) : (execOp a.eval o).run Tryz.prog W = .ok (.value (.pointer (some ⟨W.heap.size, 0, none⟩))) (W.alloc (.cells (arrC []) 73)) := by
  obtain ⟨dst, op, pos, af, g, x⟩ := o
  subst ho
  rw [show arrC [] = #[.string ⟨#[]⟩, .string ⟨#[]⟩, .string ⟨#[]⟩, .string ⟨#[]⟩, .string ⟨#[]⟩] from rfl]
  go_simp
theorem fA_s5 (h : Fr w W F) (hw : Region.wanted ⟨dst, .alloc 73, ty, pos, af, gd⟩ (yielded ops a.tmps) = true) (hk : Hold (∀ b W', Fr w W' ((b, arrC [], 73) :: F) → wpList Tryz.prog ops Q rest (a.put dst (.pointer (some ⟨b, 0, none⟩))) W')) : wpList Tryz.prog ops Q (⟨dst, .alloc 73, ty, pos, af, gd⟩ :: rest) a W := wplF_alloc h hw (alloc_s5 rfl) hk
theorem fScK (h : Fr w W F) (hw : Region.wanted ⟨none, .store T x y, ty, pos, af, gd⟩ (yielded ops a.tmps) = true) (hx : a.eval x = .pointer (some ⟨b, k, none⟩)) (hy : a.eval y = v) (hl : Lies F A b cs t L) (hT : ScT Tryz.prog T) (h1 : v.oneCell' = true) (hc : cs[k]? = some v0) (he : cs.setIfInBounds k v = cs') (hk : ∀ W', W' = W.setCell ⟨b, k, none⟩ v → Fr w W' (A ++ (b, cs', t) :: L) → wpList Tryz.prog ops Q rest a W') : wpList Tryz.prog ops Q (⟨none, .store T x y, ty, pos, af, gd⟩ :: rest) a W := by
  refine wpList_want hw fun K hK => ?_
  have hb := h.get hl
  unfold Oper.wp execOp
  simp only [hx, hy, Instr.storeAt, Instr.sureAddr, Sem.run_bind, Sem.run_pure, Result.andThen_ok, run_store_cell hT h1 (hb.cell hc) (hb.fz k)]
  have e := hl.eq
  subst e
  subst he
  exact hK _ _ (hk _ rfl (h.cellA k v))
theorem fB_quo5 {x0 x1 x2 x5 x6 : Operand} {s1 s2 s3 : List UInt8} {n : Int} {c : Bool} (hw : Region.wanted ⟨dst, .build 33 #[(0, x0), (1, x1), (2, x2), (5, x5), (6, x6)], ty, pos, af, gd⟩ (yielded ops a.tmps) = true) (h0 : a.eval x0 = .string (bs s1)) (h1 : a.eval x1 = .string (bs s2)) (h2 : a.eval x2 = .string (bs s3)) (h5 : a.eval x5 = .int .i64 n) (h6 : a.eval x6 = .bool c) (hk : wpList Tryz.prog ops Q rest (a.put dst (.agg (qC ⟨s1, s2, s3, 0, false, 0, false, 0, n, c⟩))) W) : wpList Tryz.prog ops Q (⟨dst, .build 33 #[(0, x0), (1, x1), (2, x2), (5, x5), (6, x6)], ty, pos, af, gd⟩ :: rest) a W :=
  wplF_build hw _ _ rfl (by simp only [List.map_toArray, List.map_cons, List.map_nil, h0, h1, h2, h5, h6]; exact built_quo5 s1 s2 s3 n c) hk
end
theorem bytes_far {w : World} {g b k : Nat} {s : ByteArray} {v : Value} (h : Lib.Bytes w g 0 s) (hn : g ≠ b) : Lib.Bytes (w.setCell ⟨b, k, none⟩ v) g 0 s := fun i hi => (World.cell?_of_block (w := w) (a := ⟨g, 0 + i, none⟩) (Below.heap_setCell w ⟨b, k, none⟩ v g hn)).trans (h i hi)
theorem bytes_made (w : World) (s : ByteArray) : ∃ cap W', s.size ≤ cap ∧ (convert 9 74 (.string s)).run Tryz.prog w = .ok (.slice (some ⟨w.heap.size, 0, none⟩) s.size cap) W' ∧ Lib.Bytes W' w.heap.size 0 s ∧ Below w.heap.size w W' := by
  refine ⟨grownCap w s.size 0 5, Lib.bytesWorld w 5 s, grownCap_ge _ _ _ _, Lib.run_convert_string_bytes w _ _ _ s Tryz.underlying9 Tryz.underlying74 Tryz.underlying5, fun i hi => ?_, ?_⟩
  · rw [Nat.zero_add, Lib.bytesWorld_cell w _ s i hi]
    simp [List.getD, hi]
    rfl
  · refine ⟨rfl, rfl, rfl, ?_, fun j hj => Lib.bytesWorld_at_old w _ s j hj⟩
    rw [Lib.bytesWorld_size]
    omega
theorem qprs_len {l : List (List UInt8)} {v e k : Int} (h : l.length ≠ 5) : qprs l v e k = (q0, 140) := by
  unfold qprs
  split
  · simp at h
  · rfl
theorem piece_of {W : World} {g o o' R : Nat} {s : List UInt8} (hb : Lib.Bytes W g 0 (bs s)) (ho : o ≤ s.length) (ho2 : o' ≤ s.length) (hoo : o < s.length → o' = o) (hR : s.length - o = R) {n c : Nat} (hn : n ≤ R) :
    (convert 74 9 (.slice (some ⟨g, o', none⟩) n c)).run Tryz.prog W = .ok (.string (bs ((s.drop o).take n))) W := by
  have hs := bs_size s
  have hl : o' + n ≤ (bs s).size := by
    rw [hs]
    rcases Nat.lt_or_ge o s.length with h | h
    · have := hoo h; omega
    · omega
  have h := Lib.run_convert_window (P := Tryz.prog) W 74 5 9 Tryz.underlying74 Tryz.underlying5 Tryz.underlying9 g 0 (bs s) hb o' n c hl
  rw [Nat.zero_add] at h
  rw [h, bs_extract, Nat.add_sub_cancel_left]
  rcases Nat.lt_or_ge o s.length with h2 | h2
  · rw [hoo h2]
  · obtain rfl : n = 0 := by omega
    rw [List.take_zero, List.take_zero]
theorem cuts_le : ∀ {s : List UInt8} {x : List UInt8}, x ∈ cuts s → x.length ≤ s.length
  | [], x, h => by
    rw [cuts, List.mem_singleton] at h
    rw [h]
    exact Nat.le_refl _
  | c :: t, x, h => by
    rw [List.length_cons]
    unfold cuts at h
    split at h
    · rcases List.mem_cons.1 h with rfl | h
      · simp
      · have := cuts_le h; omega
    · split at h
      · rw [List.mem_singleton] at h
        rw [h]
        simp
      · rename_i y l he
        rcases List.mem_cons.1 h with rfl | h
        · have := cuts_le (s := t) (x := y) (by rw [he]; exact List.mem_cons_self)
          simp
          omega
        · have := cuts_le (s := t) (x := x) (by rw [he]; exact List.mem_cons_of_mem _ h)
          omega
theorem pieces_le {s : List UInt8} {a b c d p : List UInt8} (h : cuts s = [a, b, c, d, p]) : a.length ≤ s.length ∧ b.length ≤ s.length ∧ c.length ≤ s.length ∧ p.length ≤ s.length := by
  have k : ∀ x ∈ [a, b, c, d, p], x.length ≤ s.length := fun x hx => cuts_le (by rw [h]; exact hx)
  exact ⟨k a (by simp), k b (by simp), k c (by simp), k p (by simp)⟩
theorem wr64 {x : Int} (h1 : -9223372036854775808 ≤ x) (h2 : x ≤ 9223372036854775807) : RowKit.wrap64 x = x := by
  unfold RowKit.wrap64
  omega
set_option maxRecDepth 100000 in
theorem qparse_any (s : List UInt8) (k : Int) (hs : s.length ≤ 9223372036854775806) {v e : Int} (hd : ∀ a b c d p, cuts s = [a, b, c, d, p] → ParseR (bs d) v e) {r : QT × Int} (hr : qprs (cuts s) v e k = r) (w : World) : Calls Tryz.prog 24 #[.string (bs s), .int .i64 k] w (RetB (.tuple #[.agg (qC r.1), .int .i64 r.2]) w) := by
  have F := Fr.start w
  have HR := Lib.hid hr
  have HDT := Lib.hid hd
  clear hr hd
  obtain ⟨r1, r2⟩ := r
  dsimp only
  go_enter Tryz.func24, Tryz.ntmps24
  go_wp2_with (first | go_skip | refine aYQ ?_ | (refine aTQ ?_; clear F; intro W F) | refine aNQ ?_)
  (clear F; intro b4 W F; try simp only [Act.put, z6, z1, z2])
  go_wp2_with (first | go_skip | ((with_reducible apply fA_s5 F); exact rfl) | refine aYQ ?_ | (refine aTQ ?_; clear F; intro W F) | refine aNQ ?_)
  (clear F; intro b6 W F; try simp only [Act.put, z6, z1, z2])
  obtain ⟨cap, W2, hcap, hcv, hby, hbl⟩ := bytes_made W (bs s)
  rw [bs_size] at hcap hcv
  have hn6 : b6 < W.heap.size := F.here.lt
  have HBL := Lib.hid hbl
  have HBY := Lib.hid hby
  clear hbl hby
  generalize hg : W.heap.size = g at *
  go_upto_region 3 with (first | go_skip | refine aYQ ?_ | (refine aTQ ?_; clear F; intro W F) | refine aNQ ?_)
  replace F := F.next (by rw [hg]; exact HBL.out)
  have HN6 := Lib.hid (show g ≠ b6 by omega)
  clear HBL hcv hn6 hg
  go_wp2_with (first | go_skip | refine aYQ ?_ | (refine aTQ ?_; clear F; intro W F) | refine aNQ ?_)
  go_loopw [7, 16] (fun rv iv wr => ∃ (i o o' : Nat) (P : List (List UInt8)), i ≤ 5 ∧ iv = .int .i64 i ∧ P.length = i ∧ (o ≤ s.length ∧ o' ≤ s.length ∧ (o < s.length → o' = o)) ∧ rv = .slice (some ⟨g, o', none⟩) (s.length - o) (cap - o) ∧ ((i < 5 → cuts s = P ++ cuts (s.drop o)) ∧ (i = 5 → cuts s = P)) ∧ Lib.Bytes wr g 0 (bs s) ∧ Fr w wr [(b6, arrC P, 73), (b4, qC q0, 33)]) (fun _ iv _ => 5 - (intOf iv).toNat)
  case atStart => exact ⟨0, 0, 0, [], by omega, rfl, rfl, ⟨by omega, by omega, fun _ => rfl⟩, rfl, ⟨fun _ => rfl, fun h => absurd h (by decide)⟩, HBY.out, F⟩
  case round =>
    clear F HBY
    obtain ⟨i, o, o', P, hi, rfl, hPl, ⟨ho, ho2, hoo⟩, rfl, ⟨hc1, hc2⟩, hby, F⟩ := hrel
    by_cases hlt : i < 5
    · obtain ⟨R, hR⟩ : ∃ R, s.length - o = R := ⟨_, rfl⟩
      obtain ⟨C, hC⟩ : ∃ C, cap - o = C := ⟨_, rfl⟩
      have hRC : R ≤ C := by omega
      have HP := Lib.hid (fun n c (hn : n ≤ R) => piece_of (c := c) hby ho ho2 hoo hR hn)
      have HBY := Lib.hid hby
      obtain ⟨T, hT⟩ : ∃ T, s.drop o = T := ⟨_, rfl⟩
      have hTl : T.length = R := by rw [← hT, List.length_drop, hR]
      have HC := Lib.hid (hc1 hlt)
      rw [hT] at HP HC
      have hcv1 := HP.out R C (Nat.le_refl _)
      rw [List.take_of_length_le (by omega)] at hcv1
      have gi : ∀ w, Calls Tryz.prog 46 #[.string (bs T), .int .u8 44] w fun e w' => e = .returned (.int .i64 (Lib.indexByte T 44)) ∧ w' = w := fun w => by
        have h := Tryz.strings_IndexByte (bs T) 44 w
        rw [bs_list] at h
        simpa using h
      have hge := Lib.indexByte_ge T 44
      have hne := idx_ne 44 T
      obtain ⟨N, hN⟩ : ∃ N, Lib.indexByte T 44 = N := ⟨_, rfl⟩
      rw [hN] at gi hge hne
      have HN := Lib.hid hN
      have HT := Lib.hid hT
      have hRs : R ≤ 9223372036854775806 := by omega
      have HO3 := Lib.hid ho2
      have HRR := Lib.hid (And.intro hR (And.intro hC (And.intro ho hoo)))
      have HPL := Lib.hid hPl
      rw [hR, hC]
      clear hc1 hc2 hby hT hN hR hC ho ho2 hoo hPl
      rcases (show N = -1 ∨ ∃ n : Nat, N = (n : Int) by rcases Int.lt_or_le N 0 with h | h; exact .inl (by omega); exact .inr ⟨N.toNat, by omega⟩) with rfl | ⟨n, rfl⟩
      · have hcT : cuts s = P ++ [T] := by rw [HC.out, cuts_no HN.out]
        by_cases h4 : i = 4
        · subst h4
          have HCT := Lib.hid hcT
          have hcv2 := HP.out R R (Nat.le_refl _)
          rw [List.take_of_length_le (by omega)] at hcv2
          obtain ⟨hR, hC, ho, hoo⟩ := HRR.out
          have HAT := Lib.hid (by rw [← HPL.out]; exact arr_at (by rw [HPL.out]; omega) : (arrC P)[4]? = some (.string (bs [])))
          have HAS := Lib.hid (by rw [← HPL.out]; exact arr_set (by rw [HPL.out]; omega) _ : (arrC P).setIfInBounds 4 (.string (bs T)) = arrC (P ++ [T]))
          have HPN := Lib.hid (show (P ++ [T]).length = 5 by rw [List.length_append, HPL.out, List.length_singleton])
          have HE := Lib.hid (And.intro (show s.length - (o + R) = R - R by omega) (And.intro (show cap - (o + R) = C - R by omega) (show o + R ≤ s.length by omega)))
          have hb6 := HN6.out
          have HO2 := Lib.hid (show o' + R ≤ s.length by have h3 := HO3.out; rcases Nat.lt_or_ge o s.length with h | h; rw [hoo h]; omega; omega)
          clear hR hC ho hoo hcT hge hne HRR
          have m1 : min ((R : Int) + 1) (R : Int) = (R : Int) := by omega
          have w1 := wr64 (x := (R : Int) + 1) (by omega) (by omega)
          by_cases hCn : C = R
          · subst hCn
            go_wp2_with (first | go_skip | (go_at_call 46; refine (gi _).mono ?_; rintro e W ⟨rfl, rfl⟩; (try dsimp only)) | ((with_reducible apply fScK F); exact rfl; exact rfl; (go_simp; exact rfl); (exact tL); (with_reducible exact scStr); exact rfl; (exact HAT.out); (exact HAS.out); (clear F; intro W hW F; have HW := Lib.hid hW; clear hW; simp only [z7, z8] at F)) | refine aYQ ?_ | (refine aTQ ?_; clear F; intro W F) | refine aNQ ?_)
            go_roundw
            case rel => exact ⟨5, o + C, o', P ++ [T], by omega, by go_num, HPN.out, ⟨HE.out.2.2, by have := HO2.out; omega, fun h => by have := HE.out; omega⟩, by rw [HE.out.1, HE.out.2.1, Nat.sub_self], ⟨fun h => by omega, fun _ => HCT.out⟩, by rw [HW.out]; exact bytes_far HBY.out hb6, F⟩
            case measure => simp [intOf]
          · go_wp2_with (first | go_skip | (go_at_call 46; refine (gi _).mono ?_; rintro e W ⟨rfl, rfl⟩; (try dsimp only)) | ((with_reducible apply fScK F); exact rfl; exact rfl; (go_simp; exact rfl); (exact tL); (with_reducible exact scStr); exact rfl; (exact HAT.out); (exact HAS.out); (clear F; intro W hW F; have HW := Lib.hid hW; clear hW; simp only [z7, z8] at F)) | refine aYQ ?_ | (refine aTQ ?_; clear F; intro W F) | refine aNQ ?_)
            go_roundw
            case rel => exact ⟨5, o + R, o' + R, P ++ [T], by omega, by go_num, HPN.out, ⟨HE.out.2.2, HO2.out, fun h => by have := HE.out; omega⟩, by rw [HE.out.1, HE.out.2.1, Nat.sub_self], ⟨fun h => by omega, fun _ => HCT.out⟩, by rw [HW.out]; exact bytes_far HBY.out hb6, F⟩
            case measure => simp [intOf]
        · have t4 : ((i : Int) == 4) = false := by rw [beq_eq_false_iff_ne]; omega
          have hres := HR.out
          rw [qprs_len (by rw [hcT, List.length_append, HPL.out, List.length_singleton]; omega)] at hres
          cases hres
          clear hcT h4 hge hne
          go_wp2_with (first | go_skip | (go_at_call 46; refine (gi _).mono ?_; rintro e W ⟨rfl, rfl⟩; (try dsimp only)) | refine aYQ ?_ | (refine aTQ ?_; clear F; intro W F) | refine aNQ ?_)
          exact bodyPost_ret (res_cs rfl rfl rfl (Fr.get F tL) (rowQ _)) rfl ⟨rfl, F.below⟩
      · by_cases h4 : i = 4
        · subst h4
          have hres := HR.out
          rw [qprs_len (by
            have h1 := cuts_len (T.drop (n + 1))
            rw [HC.out, cuts_yes HN.out, List.length_append, HPL.out, List.length_cons]
            omega)] at hres
          cases hres
          have t0 : decide ((n : Int) < 0) = false := decide_eq_false (by omega)
          clear hge hne
          go_wp2_with (first | go_skip | (go_at_call 46; refine (gi _).mono ?_; rintro e W ⟨rfl, rfl⟩; (try dsimp only)) | refine aYQ ?_ | (refine aTQ ?_; clear F; intro W F) | refine aNQ ?_)
          exact bodyPost_ret (res_cs rfl rfl rfl (Fr.get F tL) (rowQ _)) rfl ⟨rfl, F.below⟩
        · have hnR : n < R := by omega
          have hi4 : i < 4 := by omega
          obtain ⟨hR, hC, ho, hoo⟩ := HRR.out
          have ho1 : o < s.length := by omega
          obtain rfl : o' = o := hoo ho1
          have hcT : cuts s = (P ++ [T.take n]) ++ cuts (s.drop (o' + (n + 1))) := by
            rw [HC.out, cuts_yes HN.out, ← HT.out, List.drop_drop, List.append_assoc]
            rfl
          have HCT := Lib.hid hcT
          have hcv2 := HP.out n n (Nat.le_of_lt hnR)
          have HAT := Lib.hid (by rw [← HPL.out]; exact arr_at (by rw [HPL.out]; omega) : (arrC P)[i]? = some (.string (bs [])))
          have HAS := Lib.hid (by rw [← HPL.out]; exact arr_set (by rw [HPL.out]; omega) _ : (arrC P).setIfInBounds i (.string (bs (T.take n))) = arrC (P ++ [T.take n]))
          have HPN := Lib.hid (show (P ++ [T.take n]).length = i + 1 by rw [List.length_append, HPL.out, List.length_singleton])
          have HE := Lib.hid (And.intro (show s.length - (o' + (n + 1)) = R - (n + 1) by omega) (And.intro (show cap - (o' + (n + 1)) = C - (n + 1) by omega) (show o' + (n + 1) ≤ s.length by omega)))
          have t4 : ((i : Int) == 4) = false := by rw [beq_eq_false_iff_ne]; omega
          have t0 : decide ((n : Int) < 0) = false := decide_eq_false (by omega)
          have hb6 := HN6.out
          clear hR hC ho hoo ho1 hcT hge hne h4 HRR
          have m1 : min ((n : Int) + 1) (R : Int) = (n : Int) + 1 := by omega
          have m2 : (0 : Int) ≤ (n : Int) + 1 := by omega
          have m3 : (n : Int) + 1 ≤ (R : Int) := by omega
          have m4 : ((n : Int) + 1).toNat = n + 1 := by omega
          have hnb : (n : Int) + 1 ≤ 9223372036854775807 := by omega
          by_cases hCn : C = n + 1
          · have hlast : ¬ (o' + (n + 1) < s.length) := by have := HE.out; omega
            have HL := Lib.hid hlast
            clear hlast
            subst hCn
            have w1 := wr64 (x := (n : Int) + 1) (by omega) (by omega)
            clear hnb
            go_wp2_with (first | go_skip | (go_at_call 46; refine (gi _).mono ?_; rintro e W ⟨rfl, rfl⟩; (try dsimp only)) | ((with_reducible apply fScK F); exact rfl; exact rfl; (go_simp; exact rfl); (exact tL); (with_reducible exact scStr); exact rfl; (exact HAT.out); (exact HAS.out); (clear F; intro W hW F; have HW := Lib.hid hW; clear hW; simp only [z7, z8] at F)) | refine aYQ ?_ | (refine aTQ ?_; clear F; intro W F) | refine aNQ ?_)
            go_roundw
            case rel => exact ⟨i + 1, o' + (n + 1), o', P ++ [T.take n], by omega, by go_num, HPN.out, ⟨HE.out.2.2, by have := HE.out.2.2; omega, fun _ => by exact absurd ‹_› HL.out⟩, by rw [HE.out.1, HE.out.2.1, show R - (n + 1) = 0 by omega, Nat.sub_self], ⟨fun _ => HCT.out, fun h => by omega⟩, by rw [HW.out]; exact bytes_far HBY.out hb6, F⟩
            case measure => simp [intOf]; omega
          · skip
            have w1 := wr64 (x := (n : Int) + 1) (by omega) (by omega)
            clear hnb
            go_wp2_with (first | go_skip | (go_at_call 46; refine (gi _).mono ?_; rintro e W ⟨rfl, rfl⟩; (try dsimp only)) | ((with_reducible apply fScK F); exact rfl; exact rfl; (go_simp; exact rfl); (exact tL); (with_reducible exact scStr); exact rfl; (exact HAT.out); (exact HAS.out); (clear F; intro W hW F; have HW := Lib.hid hW; clear hW; simp only [z7, z8] at F)) | refine aYQ ?_ | (refine aTQ ?_; clear F; intro W F) | refine aNQ ?_)
            go_roundw
            case rel => exact ⟨i + 1, o' + (n + 1), o' + (n + 1), P ++ [T.take n], by omega, by go_num, HPN.out, ⟨HE.out.2.2, by have := HE.out.2.2; omega, fun _ => by rfl⟩, by rw [HE.out.1, HE.out.2.1], ⟨fun _ => HCT.out, fun h => by omega⟩, by rw [HW.out]; exact bytes_far HBY.out hb6, F⟩
            case measure => simp [intOf]; omega
    · obtain rfl : i = 5 := by omega
      have hcP := hc2 rfl
      obtain ⟨l0, l1, l2, l3, l4, rfl⟩ : ∃ l0 l1 l2 l3 l4, P = [l0, l1, l2, l3, l4] := by
        match P, hPl with
        | [a, b, c, d, p], _ => exact ⟨a, b, c, d, p, rfl⟩
      have hres := HR.out
      have g1 := fun w => dparse_is (HDT.out l0 l1 l2 l3 l4 hcP) w
      rw [hcP] at hres
      rw [arr_five] at F
      have HL := Lib.hid (pieces_le hcP)
      obtain ⟨c, hc⟩ : ∃ c, decide (l4 = [45]) = c := ⟨_, rfl⟩
      have ec : ((bs l4).toList == [45]) = c := by rw [bs_toList, ← hc, Bool.eq_iff_iff]; simp
      unfold qprs at hres
      dsimp only at hres
      have HRS := Lib.hid hres
      clear hc1 hc2 hPl hcP hby ho ho2 hoo hres HR HDT hlt hi
      cases c
      · have hne : ¬ l4 = [45] := by simpa using hc
        have hres := HRS.out
        rw [if_neg hne, decide_eq_false hne] at hres
        obtain ⟨rr, hrr⟩ : ∃ r, prsR l4 6 = r := ⟨_, rfl⟩
        have g2 := fun w => parse_any l4 6 (Nat.le_trans HL.out.2.2.2 (Nat.le_trans hs (by decide))) hrr w
        have hpb := prs_b l4 6
        rw [hrr] at hpb hres
        obtain ⟨rn, rd, re⟩ := rr
        dsimp only at g2 hpb hres
        have hwf : QT.wf ⟨l0, l1, l2, v, decide (rn < 0), rn.natAbs, decide (rd < 0), rd.natAbs, k, false⟩ := ⟨hpb.1, hpb.2, Nat.le_trans HL.out.1 (Nat.le_trans hs (by decide)), Nat.le_trans HL.out.2.1 (Nat.le_trans hs (by decide)), Nat.le_trans HL.out.2.2.1 (Nat.le_trans hs (by decide))⟩
        obtain ⟨c3, h3⟩ : ∃ c, QT.right ⟨l0, l1, l2, v, decide (rn < 0), rn.natAbs, decide (rd < 0), rd.natAbs, k, false⟩ = c := ⟨_, rfl⟩
        obtain ⟨c4, h4⟩ : ∃ c, knB k = c := ⟨_, rfl⟩
        have g3 := fun w => right_any hwf h3 w
        have g4 := fun w => qknown_any h4 w
        rw [h3, h4] at hres
        have HRR := Lib.hid hres
        clear hwf hpb hrr h3 h4 hres HRS hc hne HL hs hcap
        go_wp2_with (first | go_skip | ((with_reducible apply fB_quo5); exact rfl; exact rfl; exact rfl; exact rfl; exact rfl; exact rfl) | (go_at_call 47; refine (g1 _).mono ?_; rintro e' W ⟨rfl, rfl⟩; (try dsimp only)) | ((go_at_call 48); (with_reducible refine fr_call F (g2 _) ?_); (clear F; intro W F); (try dsimp only)) | refine aYQ ?_ | (refine aTQ ?_; clear F; intro W F) | refine aNQ ?_)
        (clear F; intro b11 W F; try simp only [Act.put, z6, z1, z2])
        go_upto_region 20 with (first | go_skip | ((with_reducible apply fB_quo5); exact rfl; exact rfl; exact rfl; exact rfl; exact rfl; exact rfl) | (go_at_call 47; refine (g1 _).mono ?_; rintro e' W ⟨rfl, rfl⟩; (try dsimp only)) | ((go_at_call 48); (with_reducible refine fr_call F (g2 _) ?_); (clear F; intro W F); (try dsimp only)) | refine aYQ ?_ | (refine aTQ ?_; clear F; intro W F) | refine aNQ ?_)
        by_cases he : e = 0
        · by_cases hf : re = 0
          · subst he hf
            cases c3
            · skip
              have hr := HRR.out
              rw [if_pos (by simp)] at hr
              cases hr
              clear HRR
              go_wp2_with (first | go_skip | ((go_at_call 37); (with_reducible refine fr_call F (g3 _) ?_); (clear F; intro W F); (try dsimp only)) | ((go_at_call 38); (with_reducible refine fr_call F (g4 _) ?_); (clear F; intro W F); (try dsimp only)) | refine aYQ ?_ | (refine aTQ ?_; clear F; intro W F) | refine aNQ ?_)
              exact bodyPost_ret (res_cs rfl rfl rfl (Fr.get F tL) (rowQ _)) rfl ⟨rfl, F.below⟩
            · cases c4
              · skip
                have hr := HRR.out
                rw [if_neg (by simp), if_pos rfl] at hr
                cases hr
                clear HRR
                go_wp2_with (first | go_skip | ((go_at_call 37); (with_reducible refine fr_call F (g3 _) ?_); (clear F; intro W F); (try dsimp only)) | ((go_at_call 38); (with_reducible refine fr_call F (g4 _) ?_); (clear F; intro W F); (try dsimp only)) | refine aYQ ?_ | (refine aTQ ?_; clear F; intro W F) | refine aNQ ?_)
                exact bodyPost_ret (res_cs rfl rfl rfl (Fr.get F tL) (rowQ _)) rfl ⟨rfl, F.below⟩
              · skip
                have hr := HRR.out
                rw [if_neg (by simp), if_neg (by decide)] at hr
                cases hr
                clear HRR
                go_wp2_with (first | go_skip | ((go_at_call 37); (with_reducible refine fr_call F (g3 _) ?_); (clear F; intro W F); (try dsimp only)) | ((go_at_call 38); (with_reducible refine fr_call F (g4 _) ?_); (clear F; intro W F); (try dsimp only)) | refine aYQ ?_ | (refine aTQ ?_; clear F; intro W F) | refine aNQ ?_)
                exact bodyPost_ret (res_cs rfl rfl rfl (Fr.get F tL) (rowQ _)) rfl ⟨rfl, F.below⟩
          · have tf : (re != 0) = true := by rw [bne_iff_ne]; exact hf
            subst he
            have hr := HRR.out
            rw [if_pos (by simp [hf])] at hr
            cases hr
            clear HRR
            go_wp2_with (first | go_skip | ((go_at_call 37); (with_reducible refine fr_call F (g3 _) ?_); (clear F; intro W F); (try dsimp only)) | ((go_at_call 38); (with_reducible refine fr_call F (g4 _) ?_); (clear F; intro W F); (try dsimp only)) | refine aYQ ?_ | (refine aTQ ?_; clear F; intro W F) | refine aNQ ?_)
            exact bodyPost_ret (res_cs rfl rfl rfl (Fr.get F tL) (rowQ _)) rfl ⟨rfl, F.below⟩
        · have te : (e != 0) = true := by rw [bne_iff_ne]; exact he
          have hr := HRR.out
          rw [if_pos (by simp [he])] at hr
          cases hr
          clear HRR
          go_wp2_with (first | go_skip | ((go_at_call 37); (with_reducible refine fr_call F (g3 _) ?_); (clear F; intro W F); (try dsimp only)) | ((go_at_call 38); (with_reducible refine fr_call F (g4 _) ?_); (clear F; intro W F); (try dsimp only)) | refine aYQ ?_ | (refine aTQ ?_; clear F; intro W F) | refine aNQ ?_)
          exact bodyPost_ret (res_cs rfl rfl rfl (Fr.get F tL) (rowQ _)) rfl ⟨rfl, F.below⟩
      · have hp : l4 = [45] := by simpa using hc
        have hres := HRS.out
        rw [if_pos hp, decide_eq_true hp] at hres
        have hres2 : (if e ≠ 0 ∨ (0 : Int) ≠ 0 ∨ QT.right ⟨l0, l1, l2, v, false, 0, false, 0, k, true⟩ = false then (q0, 140) else if knB k = false then (q0, 130) else ((⟨l0, l1, l2, v, false, 0, false, 0, k, true⟩ : QT), (0 : Int))) = (r1, r2) := hres
        have hwf : QT.wf ⟨l0, l1, l2, v, false, 0, false, 0, k, true⟩ := ⟨bp_pos 32, bp_pos 32, Nat.le_trans HL.out.1 (Nat.le_trans hs (by decide)), Nat.le_trans HL.out.2.1 (Nat.le_trans hs (by decide)), Nat.le_trans HL.out.2.2.1 (Nat.le_trans hs (by decide))⟩
        obtain ⟨c3, h3⟩ : ∃ c, QT.right ⟨l0, l1, l2, v, false, 0, false, 0, k, true⟩ = c := ⟨_, rfl⟩
        obtain ⟨c4, h4⟩ : ∃ c, knB k = c := ⟨_, rfl⟩
        have g3 := fun w => right_any hwf h3 w
        have g4 := fun w => qknown_any h4 w
        rw [h3, h4] at hres2
        have HRR := Lib.hid hres2
        clear hwf h3 h4 hres hres2 HRS hc hp HL hs hcap
        go_wp2_with (first | go_skip | ((with_reducible apply fB_quo5); exact rfl; exact rfl; exact rfl; exact rfl; exact rfl; exact rfl) | (go_at_call 47; refine (g1 _).mono ?_; rintro e' W ⟨rfl, rfl⟩; (try dsimp only)) | refine aYQ ?_ | (refine aTQ ?_; clear F; intro W F) | refine aNQ ?_)
        (clear F; intro b11 W F; try simp only [Act.put, z6, z1, z2])
        go_upto_region 20 with (first | go_skip | ((with_reducible apply fB_quo5); exact rfl; exact rfl; exact rfl; exact rfl; exact rfl; exact rfl) | (go_at_call 47; refine (g1 _).mono ?_; rintro e' W ⟨rfl, rfl⟩; (try dsimp only)) | refine aYQ ?_ | (refine aTQ ?_; clear F; intro W F) | refine aNQ ?_)
        by_cases he : e = 0
        · subst he
          cases c3
          · skip
            have hr := HRR.out
            rw [if_pos (by simp)] at hr
            cases hr
            clear HRR
            go_wp2_with (first | go_skip | ((go_at_call 37); (with_reducible refine fr_call F (g3 _) ?_); (clear F; intro W F); (try dsimp only)) | ((go_at_call 38); (with_reducible refine fr_call F (g4 _) ?_); (clear F; intro W F); (try dsimp only)) | refine aYQ ?_ | (refine aTQ ?_; clear F; intro W F) | refine aNQ ?_)
            exact bodyPost_ret (res_cs rfl rfl rfl (Fr.get F tL) (rowQ _)) rfl ⟨rfl, F.below⟩
          · cases c4
            · skip
              have hr := HRR.out
              rw [if_neg (by simp), if_pos rfl] at hr
              cases hr
              clear HRR
              go_wp2_with (first | go_skip | ((go_at_call 37); (with_reducible refine fr_call F (g3 _) ?_); (clear F; intro W F); (try dsimp only)) | ((go_at_call 38); (with_reducible refine fr_call F (g4 _) ?_); (clear F; intro W F); (try dsimp only)) | refine aYQ ?_ | (refine aTQ ?_; clear F; intro W F) | refine aNQ ?_)
              exact bodyPost_ret (res_cs rfl rfl rfl (Fr.get F tL) (rowQ _)) rfl ⟨rfl, F.below⟩
            · skip
              have hr := HRR.out
              rw [if_neg (by simp), if_neg (by decide)] at hr
              cases hr
              clear HRR
              go_wp2_with (first | go_skip | ((go_at_call 37); (with_reducible refine fr_call F (g3 _) ?_); (clear F; intro W F); (try dsimp only)) | ((go_at_call 38); (with_reducible refine fr_call F (g4 _) ?_); (clear F; intro W F); (try dsimp only)) | refine aYQ ?_ | (refine aTQ ?_; clear F; intro W F) | refine aNQ ?_)
              exact bodyPost_ret (res_cs rfl rfl rfl (Fr.get F tL) (rowQ _)) rfl ⟨rfl, F.below⟩
        · have te : (e != 0) = true := by rw [bne_iff_ne]; exact he
          have hr := HRR.out
          rw [if_pos (by simp [he])] at hr
          cases hr
          clear HRR
          go_wp2_with (first | go_skip | ((go_at_call 37); (with_reducible refine fr_call F (g3 _) ?_); (clear F; intro W F); (try dsimp only)) | ((go_at_call 38); (with_reducible refine fr_call F (g4 _) ?_); (clear F; intro W F); (try dsimp only)) | refine aYQ ?_ | (refine aTQ ?_; clear F; intro W F) | refine aNQ ?_)
          exact bodyPost_ret (res_cs rfl rfl rfl (Fr.get F tL) (rowQ _)) rfl ⟨rfl, F.below⟩
end
section
open Go.RowKit
set_option maxHeartbeats 4000000
theorem res_css {P : Program} {w : World} {fn : Func} {p q r : Tmp} {T t : TypeId} (h : fn.results = #[.cell p T, .tmp q, .tmp r]) {tmps : Array Value} {g : Nat} {cs : Array Value} {u v : Value} (hp : tmps.getD p undef = .pointer (some ⟨g, 0, none⟩)) (hq : tmps.getD q undef = u) (hv : tmps.getD r undef = v) (hb : BlkAt w g cs t) (hr : RowV P T cs) :
    (results fn tmps).run P w = .ok (.tuple #[.agg cs, u, v]) w := by
  have hp' : tmps[p]?.getD undef = .pointer (some ⟨g, 0, none⟩) := by simpa using hp
  have hq' : tmps[q]?.getD undef = u := by simpa using hq
  have hv' : tmps[r]?.getD undef = v := by simpa using hv
  simp [results, h, hp', hq', hv', asAddr, run_loadVar_blk hb hr]
def atP (s i : List UInt8) (d : Int) (q : QT) : Bool := (q.src == s) && ((q.ins == i) && (q.day == d))
def atV (V : List QT) (s i : List UInt8) (d : Int) : QT × Bool := match V.find? (atP s i d) with | some q => (q, true) | none => (q0, false)
theorem find_yes {V : List QT} {j : Nat} {q : QT} {p : QT → Bool} (hq : V[j]? = some q) (h0 : (V.take j).find? p = none) (h : p q = true) : V.find? p = some q := by
  obtain ⟨hl, e⟩ := List.getElem?_eq_some_iff.1 hq
  conv => lhs; rw [← List.take_append_drop j V, List.drop_eq_getElem_cons hl, e]
  rw [List.find?_append, h0, List.find?_cons, h]
  rfl
theorem find_no {V : List QT} {j : Nat} {q : QT} {p : QT → Bool} (hq : V[j]? = some q) (h0 : (V.take j).find? p = none) (h : p q = false) : (V.take (j + 1)).find? p = none := by
  obtain ⟨hl, e⟩ := List.getElem?_eq_some_iff.1 hq
  rw [List.take_succ_eq_append_getElem hl, e, List.find?_append, h0, List.find?_cons, h]
  rfl
theorem OwnL.list {w W W' : World} {L : List Ent} {e : TypeId} {sz n : Nat} {v : Value} {xs : List Value} (h : OwnL W W' e sz v n xs) (F : Fr w W L) : ∃ X, SlG e sz v n xs X ∧ Fr w W' (X ++ L) := by
  rcases h.own.2 with ⟨h1, h2⟩ | ⟨g, cap, cur, h1, h2, h3, h4, h5, h6, h7⟩
  · exact ⟨[], ⟨h.own.1, .inl ⟨h1, h2, rfl⟩⟩, F.next h.below⟩
  · exact ⟨[(g, cur, e)], ⟨h.own.1, .inr ⟨g, cap, cur, h1, rfl, h4, h5, h6, h7⟩⟩, F.push h.below h2 ⟨h3⟩⟩
theorem cur_row {V : List QT} {cur : Array Value} {j : Nat} {q : QT} (ht : cur.toList.take (V.length * 72) = qCs V) (hj : V[j]? = some q) (m : Nat) (v : Value) (hv : (qC q)[m]? = some v) : cur[j * 72 + m]? = some v := by
  have h1 : (V.map fun q => (qC q).toList)[j]? = some (qC q).toList := by rw [List.getElem?_map, hj, Option.map_some]
  have h2 := flat_get (n := 72) (V.map fun q => (qC q).toList) j _ (fun x hx => by
    obtain ⟨y, -, rfl⟩ := List.mem_map.1 hx
    rw [Array.length_toList, qC_size]) h1 m v (by rw [Array.getElem?_toList]; exact hv)
  have h3 : (qCs V)[j * 72 + m]? = some v := h2
  rw [← ht, List.getElem?_take] at h3
  split at h3
  · rw [Array.getElem?_toList] at h3
    exact h3
  · cases h3
theorem row_of {cur : Array Value} {k : Nat} {q : QT} (H : ∀ m v, (qC q)[m]? = some v → cur[k + m]? = some v) : (cur.toList.drop k).take (qC q).size = (qC q).toList := by
  have hlen : k + 72 ≤ cur.size := by
    have h1 : 71 < (qC q).size := by rw [qC_size]; decide
    have := H 71 _ (Array.getElem?_eq_getElem h1)
    have := (Array.getElem?_eq_some_iff.1 this).1
    omega
  apply List.ext_getElem?
  intro m
  by_cases hm : m < (qC q).size
  · rw [List.getElem?_take_of_lt hm, List.getElem?_drop, Array.getElem?_toList, Array.getElem?_toList, H m _ (Array.getElem?_eq_getElem hm), Array.getElem?_eq_getElem hm]
  · rw [List.getElem?_eq_none (by rw [List.length_take]; omega), List.getElem?_eq_none (by rw [Array.length_toList]; omega)]
section
variable {L : List QT} {A : Option Addr} {cp : Nat} {k d : Int} {s i : List UInt8} {w : World} {er : Int} {r : QT × Bool}
set_option maxRecDepth 100000 in
theorem qat_any (hL : L.length ≤ 1000000000000) (h : QuAt w A L) (her : bkErr L = er) (hr : (if er = 0 then atV (visQ L k) s i d else (q0, false)) = r) : Calls Tryz.prog 11 #[.slice A L.length cp, .int .i64 k, .string (bs s), .string (bs i), .int .i64 d] w (RetB (.tuple #[.agg (qC r.1), .bool r.2, .int .i64 er]) w) := by
  have F := Fr.start w
  have HA := Lib.hid h
  have g1 := fun W (hb : Below w.heap.size w W) => qvis_any (cp := cp) (k := k) hL (h.below hb) her
  clear h her hL
  obtain ⟨r1, r2⟩ := r
  dsimp only
  by_cases h0 : er = 0
  · subst h0
    rw [if_pos rfl] at hr
    simp only [if_true] at g1
    obtain ⟨V, hV⟩ : ∃ V, visQ L k = V := ⟨_, rfl⟩
    rw [hV] at g1 hr
    have HRR := Lib.hid hr
    clear hr hV
    go_enter Tryz.func11, Tryz.ntmps11
    go_wp2_with (first | go_skip | refine aYQ ?_ | (refine aTQ ?_; clear F; intro W F) | refine aNQ ?_)
    (clear F; intro b10 W F; try simp only [Act.put, z6, z1, z2])
    go_wp2_with (first | go_skip | (go_at_call 9; refine (g1 _ F.below).mono ?_; rintro e W2 ⟨v, rfl, hO⟩; obtain ⟨X, S, F2⟩ := hO.list F; clear F hO g1 HA; have F := F2; clear F2; obtain ⟨A2, cp2, hv2⟩ : ∃ A2 cp2, v = .slice A2 V.length cp2 := (by rcases S.is with ⟨h1, h2, -⟩ | ⟨g, cap, cur, h1, -⟩; exact ⟨none, 0, by rw [h1, h2]⟩; exact ⟨_, _, h1⟩); subst hv2; have HS := Lib.hid S; clear S; (try dsimp only)) | refine aYQ ?_ | (refine aTQ ?_; clear F; intro W F) | refine aNQ ?_)
    have hVl : V.length ≤ 9223372036854775807 := by
      rcases HS.out.is with ⟨-, h2, -⟩ | ⟨g, cap, cur, -, -, h3, h4, -⟩
      · omega
      · unfold maxLen at h4; omega
    go_loopw [29] (fun jv wr => ∃ j : Nat, j ≤ V.length ∧ jv = .int .i64 j ∧ (V.take j).find? (atP s i d) = none ∧ Fr w wr (X ++ [(b10, qC q0, 33)])) (fun jv _ => V.length - (intOf jv).toNat)
    case atStart => exact ⟨0, by omega, rfl, by simp, F⟩
    case round =>
      clear F
      obtain ⟨j, hj, rfl, hf, F⟩ := hrel
      have HFI := Lib.hid hf
      clear hf
      by_cases hlt : j < V.length
      · rcases HS.out.is with ⟨-, h2, -⟩ | ⟨g, cap, cur, h1, h2, h3, h4, h5, h6⟩
        · omega
        cases h1
        subst h2
        obtain ⟨q, hq⟩ : ∃ q, V[j]? = some q := ⟨_, List.getElem?_eq_getElem hlt⟩
        have H6 := Lib.hid h6
        have HQ := Lib.hid hq
        simp only [z7, z8] at F
        obtain ⟨c1, e1⟩ : ∃ c, (q.src == s) = c := ⟨_, rfl⟩
        obtain ⟨c2, e2⟩ : ∃ c, (q.ins == i) = c := ⟨_, rfl⟩
        obtain ⟨c3, e3⟩ : ∃ c, (q.day == d) = c := ⟨_, rfl⟩
        have HP : Hid (atP s i d q = (c1 && (c2 && c3))) := Lib.hid (by unfold atP; rw [e1, e2, e3])
        rw [← bs_toList q.src, ← bs_toList s] at e1
        rw [← bs_toList q.ins, ← bs_toList i] at e2
        clear hq h3 h4 h5 h6 HS
        cases hp : (c1 && (c2 && c3))
        · have HN := Lib.hid (find_no HQ.out HFI.out (by rw [HP.out, hp]))
          rcases (show c1 = false ∨ (c1 = true ∧ c2 = false) ∨ (c1 = true ∧ c2 = true ∧ c3 = false) by revert hp; cases c1 <;> cases c2 <;> cases c3 <;> simp) with rfl | ⟨rfl, rfl⟩ | ⟨rfl, rfl, rfl⟩
          all_goals
            clear hp
            go_wp2_with (first | go_skip | ((with_reducible apply fLm F); exact rfl; exact rfl; (exact tL); (with_reducible exact row_of (cur_row H6.out HQ.out)); (with_reducible exact rowQ _)) | refine aYQ ?_ | (refine aTQ ?_; clear F; intro W F) | refine aNQ ?_)
            (clear F; intro b16 W F; try simp only [Act.put, z6, z1, z2])
            go_wp2_with (first | go_skip | refine aYQ ?_ | (refine aTQ ?_; clear F; intro W F) | refine aNQ ?_)
            go_roundw
            case rel => exact ⟨j + 1, by omega, by go_num, HN.out, F.tl⟩
            case measure => simp [intOf]; omega
        · obtain ⟨rfl, rfl, rfl⟩ : c1 = true ∧ c2 = true ∧ c3 = true := by revert hp; cases c1 <;> cases c2 <;> cases c3 <;> simp
          have hY := find_yes HQ.out HFI.out (by rw [HP.out, hp])
          have hR := HRR.out
          unfold atV at hR
          rw [hY] at hR
          cases hR
          clear hp hY
          go_wp2_with (first | go_skip | ((with_reducible apply fLm F); exact rfl; exact rfl; (exact tL); (with_reducible exact row_of (cur_row H6.out HQ.out)); (with_reducible exact rowQ _)) | refine aYQ ?_ | (refine aTQ ?_; clear F; intro W F) | refine aNQ ?_)
          (clear F; intro b16 W F; try simp only [Act.put, z6, z1, z2])
          go_wp2_with (first | go_skip | refine aYQ ?_ | (refine aTQ ?_; clear F; intro W F) | refine aNQ ?_)
          exact bodyPost_ret (res_css rfl rfl rfl rfl (Fr.get F tL) (rowQ _)) rfl ⟨rfl, F.below⟩
      · obtain rfl : j = V.length := by omega
        have hR := HRR.out
        have hn := HFI.out
        rw [List.take_length] at hn
        unfold atV at hR
        rw [hn] at hR
        cases hR
        clear hn
        replace F : Fr w wr [(b10, qC q0, 33)] := F.sub (List.sublist_append_right _ _)
        clear HS
        go_wp2_with (first | go_skip | refine aYQ ?_ | (refine aTQ ?_; clear F; intro W F) | refine aNQ ?_)
        exact bodyPost_ret (res_css rfl rfl rfl rfl (Fr.get F tL) (rowQ _)) rfl ⟨rfl, F.below⟩
  · rw [if_neg h0] at hr
    cases hr
    simp only [if_neg h0] at g1
    have t0 : (er != 0) = true := by rw [bne_iff_ne]; exact h0
    clear h0 HA
    go_enter Tryz.func11, Tryz.ntmps11
    go_wp2_with (first | go_skip | refine aYQ ?_ | (refine aTQ ?_; clear F; intro W F) | refine aNQ ?_)
    (clear F; intro b10 W F; try simp only [Act.put, z6, z1, z2])
    go_wp2_with (first | go_skip | (go_at_call 9; refine (g1 _ F.below).mono ?_; rintro e W2 ⟨v, rfl, hO⟩; have F2 := F.next hO.below; clear F hO g1; have F := F2; clear F2; (try dsimp only)) | refine aYQ ?_ | (refine aTQ ?_; clear F; intro W F) | refine aNQ ?_)
    exact bodyPost_ret (res_css rfl rfl rfl rfl (Fr.get F tL) (rowQ _)) rfl ⟨rfl, F.below⟩
end
end
section
open Go.RowKit
set_option maxHeartbeats 4000000
abbrev kS : List UInt8 := [98, 108, 111, 111, 109, 98, 101, 114, 103]
abbrev kI : List UInt8 := [65, 67, 77, 69]
abbrev kC : List UInt8 := [85, 83, 68]
abbrev kD : List UInt8 := [50, 48, 50, 54, 45, 48, 49, 45, 48, 53]
abbrev kP : List UInt8 := [49, 48, 49, 46, 50, 53]
abbrev kL : List UInt8 := [98, 108, 111, 111, 109, 98, 101, 114, 103, 44, 65, 67, 77, 69, 44, 85, 83, 68, 44, 50, 48, 50, 54, 45, 48, 49, 45, 48, 53, 44, 49, 48, 49, 46, 50, 53]
abbrev kM : List UInt8 := [98, 108, 111, 111, 109, 98, 101, 114, 103, 44, 65, 67, 77, 69, 44, 85, 83, 68, 44, 50, 48, 50, 54, 45, 48, 49, 45, 48, 53, 44, 45]
def qA : QT := ⟨kS, kI, kC, 9501, false, 405, false, 4, 3, false⟩
def qB : QT := ⟨kS, kI, kC, 9501, false, 0, false, 0, 4, true⟩
theorem cuts_L : cuts kL = [kS, kI, kC, kD, kP] := by decide +kernel
theorem cuts_M : cuts kM = [kS, kI, kC, kD, [45]] := by decide +kernel
theorem kn_day : ParseR (bs kD) 9501 0 := .inr ⟨by decide +kernel, .inl ⟨⟨by decide +kernel, by decide +kernel, by decide +kernel, by decide +kernel, by decide +kernel, by decide +kernel, by decide +kernel⟩, rfl⟩⟩
theorem ok405 : okZ 405 4 := okZ_iff.2 ⟨⟨Nat.lt_of_lt_of_le (by decide) bp15_big, Nat.lt_of_lt_of_le (by decide) bp15_big⟩, by decide, by decide⟩
theorem priceA : QT.price qA = true := by
  obtain ⟨s, h1, -⟩ := txt_back (p := 6) ok405 (by decide) (by decide) (by decide)
  have h2 : (txtR (okR qA.x qA.a qA.y qA.b) (sZ qA.x qA.a) (sZ qA.y qA.b) 6).2 = 0 := by
    show (txtR (okZ 405 4) 405 4 ((6 : Nat) : Int)).2 = 0
    rw [h1]
  unfold QT.price priceB
  rw [h2]
  decide
theorem rightA : QT.right qA = true := by
  unfold QT.right
  rw [priceA]
  decide +kernel
theorem rightB : QT.right qB = true := by
  unfold QT.right
  rw [show (if qB.void = true then qB.noP else qB.price) = true from rfl]
  decide +kernel
theorem kn_prs : prsR kP 6 = (405, 4, 0) := by decide +kernel
theorem kA : qprs (cuts kL) 9501 0 3 = (qA, 0) := by
  rw [cuts_L]
  unfold qprs
  dsimp only
  have hk : ¬ kP = [45] := by decide
  rw [if_neg hk, kn_prs, decide_eq_false hk]
  have h : QT.right ⟨kS, kI, kC, 9501, decide ((405 : Int) < 0), (405 : Int).natAbs, decide ((4 : Int) < 0), (4 : Int).natAbs, 3, false⟩ = true := rightA
  dsimp only
  rw [h]
  rfl
theorem kB : qprs (cuts kM) 9501 0 4 = (qB, 0) := by
  rw [cuts_M]
  unfold qprs
  dsimp only
  rw [if_pos rfl, decide_eq_true (p := ([45] : List UInt8) = [45]) rfl]
  have h : QT.right ⟨kS, kI, kC, 9501, decide ((0 : Int) < 0), (0 : Int).natAbs, decide ((0 : Int) < 0), (0 : Int).natAbs, 4, true⟩ = true := rightB
  dsimp only
  rw [h]
  rfl
theorem hd_L {s p' : List UInt8} (hc : cuts s = [kS, kI, kC, kD, p']) : ∀ a b c d p, cuts s = [a, b, c, d, p] → ParseR (bs d) 9501 0 := by
  intro a b c d p h
  rw [hc] at h
  injection h with _ h
  injection h with _ h
  injection h with _ h
  injection h with h _
  rw [← h]
  exact kn_day
theorem flatC_two (a b : QT) : (flatC [.agg (qC a), .agg (qC b)]).toList = (([a, b].map fun q => (qC q).toList)).flatten := by simp [flatC, Value.cells]
theorem quAt2 {W : World} {g : Nat} {a b : QT} {t : TypeId} (h : BlkAt W g (flatC [.agg (qC a), .agg (qC b)]) t) (ha : a.wf) (hb : b.wf) : QuAt W (some ⟨g, 0, none⟩) [a, b] := by
  refine ⟨⟨by simp, fun k r hr => ⟨g, 0, rfl, h.lt, fun j v hj => ?_⟩⟩, ?_, ?_, ?_, ?_, ?_⟩
  · rw [Nat.zero_add]
    refine h.cell ?_
    rw [← Array.getElem?_toList, flatC_two]
    exact flat_get _ k r (fun x hx => by
      obtain ⟨y, -, rfl⟩ := List.mem_map.1 hx
      rw [Array.length_toList, qC_size]) hr j v hj
  all_goals
    intro q hq
    simp only [List.mem_cons, List.not_mem_nil, or_false] at hq
    rcases hq with rfl | rfl
  · exact ha.a
  · exact hb.a
  · exact ha.b
  · exact hb.b
  · exact ha.s1
  · exact hb.s1
  · exact ha.s2
  · exact hb.s2
  · exact ha.s3
  · exact hb.s3
theorem lt32 {x : Nat} (h : x < bp 15) : x < bp 32 := Nat.lt_of_lt_of_le h (bp_le (by decide))
theorem wfA : qA.wf := ⟨lt32 (Nat.lt_of_lt_of_le (by decide) bp15_big), lt32 (Nat.lt_of_lt_of_le (by decide) bp15_big), by decide, by decide, by decide⟩
theorem wfB : qB.wf := ⟨bp_pos 32, bp_pos 32, by decide, by decide, by decide⟩
theorem bkAB : bkErr [qA, qB] = 0 := by
  have h1 : [qA, qB].all QT.ok = true := by
    simp only [List.all_cons, List.all_nil, QT.ok, rightA, rightB]
    decide
  have hk : 1 ≤ qA.mark.key.size ∧ qA.mark.key.size ≤ 64 := by
    have := dayL_len qA.day
    unfold QT.mark QT.key
    dsimp only
    rw [bs_size]
    simp only [List.length_append, List.length_cons]
    have e1 : qA.src.length = 9 := rfl
    have e2 : qA.ins.length = 4 := rfl
    omega
  have hA : qA.mark.ok = true := MK.ok_iff.2 ⟨hk, by decide⟩
  have hB : qB.mark.ok = true := MK.ok_iff.2 ⟨hk, by decide⟩
  unfold bkErr
  rw [if_pos h1]
  unfold mkErr mksB
  simp only [List.map_cons, List.map_nil, mksFrom, hA, hB]
  decide
theorem visAB3 : visQ [qA, qB] 3 = [qA] := by
  have h : vis ([qA, qB].map QT.mark) 3 = [0] := by
    obtain ⟨K, hK⟩ : ∃ K, qA.mark.key = K := ⟨_, rfl⟩
    have e1 : qA.mark = ⟨K, 3, false⟩ := by rw [← hK]; rfl
    have e2 : qB.mark = ⟨K, 4, true⟩ := by rw [← hK]; rfl
    rw [List.map_cons, List.map_cons, List.map_nil, e1, e2]
    simp [vis, visF, visAt, lastF]
  unfold visQ
  rw [h]
  rfl
theorem visAB4 : visQ [qA, qB] 4 = [] := by
  have h : vis ([qA, qB].map QT.mark) 4 = [] := by
    obtain ⟨K, hK⟩ : ∃ K, qA.mark.key = K := ⟨_, rfl⟩
    have e1 : qA.mark = ⟨K, 3, false⟩ := by rw [← hK]; rfl
    have e2 : qB.mark = ⟨K, 4, true⟩ := by rw [← hK]; rfl
    rw [List.map_cons, List.map_cons, List.map_nil, e1, e2]
    simp [vis, visF, visAt, lastF]
  unfold visQ
  rw [h]
  rfl
theorem k405 : mkR 405 4 = (405, 4, 0) := by decide +kernel
theorem kn_facts : ∃ a b : QT, (∀ w, Calls Tryz.prog 24 #[.string ⟨#[98, 108, 111, 111, 109, 98, 101, 114, 103, 44, 65, 67, 77, 69, 44, 85, 83, 68, 44, 50, 48, 50, 54, 45, 48, 49, 45, 48, 53, 44, 49, 48, 49, 46, 50, 53]⟩, .int .i64 3] w (RetB (.tuple #[.agg (qC a), .int .i64 0]) w)) ∧
    (∀ w, Calls Tryz.prog 24 #[.string ⟨#[98, 108, 111, 111, 109, 98, 101, 114, 103, 44, 65, 67, 77, 69, 44, 85, 83, 68, 44, 50, 48, 50, 54, 45, 48, 49, 45, 48, 53, 44, 45]⟩, .int .i64 4] w (RetB (.tuple #[.agg (qC b), .int .i64 0]) w)) ∧
    (∀ w g t c, BlkAt w g (flatC [.agg (qC a), .agg (qC b)]) t → Calls Tryz.prog 11 #[.slice (some ⟨g, 0, none⟩) 2 c, .int .i64 3, .string ⟨#[98, 108, 111, 111, 109, 98, 101, 114, 103]⟩, .string ⟨#[65, 67, 77, 69]⟩, .int .i64 9501] w (RetB (.tuple #[.agg (qC a), .bool true, .int .i64 0]) w)) ∧
    (∀ w g t c, BlkAt w g (flatC [.agg (qC a), .agg (qC b)]) t → Calls Tryz.prog 11 #[.slice (some ⟨g, 0, none⟩) 2 c, .int .i64 4, .string ⟨#[98, 108, 111, 111, 109, 98, 101, 114, 103]⟩, .string ⟨#[65, 67, 77, 69]⟩, .int .i64 9501] w (RetB (.tuple #[.agg (qC q0), .bool false, .int .i64 0]) w)) ∧
    b.void = true ∧ (∀ w, (Op.equalIn 10000 31 (.agg (ratC a.x a.a a.y a.b)) (.agg (RC 405 4))).run Tryz.prog w = .ok true w) ∧ (∀ w, (Op.equalIn 10000 33 (.agg (qC a)) (.agg (qC a))).run Tryz.prog w = .ok true w) :=
  ⟨qA, qB, fun w => qparse_any kL 3 (by decide) (hd_L cuts_L) kA w, fun w => qparse_any kM 4 (by decide) (hd_L cuts_M) kB w,
    fun w g t c h => qat_any (L := [qA, qB]) (s := kS) (i := kI) (er := 0) (r := (qA, true)) (by decide) (quAt2 h wfA wfB) bkAB (by rw [if_pos rfl, visAB3]; rfl),
    fun w g t c h => qat_any (L := [qA, qB]) (s := kS) (i := kI) (er := 0) (r := (q0, false)) (by decide) (quAt2 h wfA wfB) bkAB (by rw [if_pos rfl, visAB4]; rfl),
    rfl, fun w => eq_rat false 405 false 4 false 405 false 4 wfA.a wfA.b wfA.a wfA.b w, fun w => eq_quo qA wfA.a wfA.b w⟩
theorem q_all2 (a b : QT) : [Value.agg (qC a), .agg (qC b)].all (fun v => v.cells.size == 72) = true := by simp [Value.cells, qC_size]
set_option maxRecDepth 100000 in
theorem qknown14_any (w : World) : Calls Tryz.prog 13 #[] w (RetB (.bool true) w) := by
  have F := Fr.start w
  obtain ⟨a, b, g1, g2, g3, g4, hv, qe, qq⟩ := kn_facts
  have g5 := fun w => makeOf_any (n := 405) (d := 4) (by decide) (by decide) (by decide) (by decide) k405 w
  go_enter Tryz.func13, Tryz.ntmps13
  go_wp2_with (first | go_skip | ((go_at_call 24); (with_reducible refine fr_call F (g1 _) ?_); (clear F; intro W F); (try dsimp only)) | refine aYQ ?_ | (refine aTQ ?_; clear F; intro W F) | refine aNQ ?_)
  (clear F; intro b1 W F; try simp only [Act.put, z6, z1, z2])
  go_wp2_with (first | go_skip | ((go_at_call 24); (with_reducible refine fr_call F (g2 _) ?_); (clear F; intro W F); (try dsimp only)) | refine aYQ ?_ | (refine aTQ ?_; clear F; intro W F) | refine aNQ ?_)
  (clear F; intro b3 W F; try simp only [Act.put, z6, z1, z2])
  go_wp2_with (first | go_skip | ((with_reducible apply fSli F slQuo); exact rfl; exact rfl; exact rfl; decide; decide; (go_simp; exact rfl); (exact q_all2 _ _)) | refine aYQ ?_ | (refine aTQ ?_; clear F; intro W F) | refine aNQ ?_)
  (clear F; intro b22 W F; try simp only [Act.put, z6, z1, z2])
  go_wp2_with (first | go_skip | ((go_at_call 11); (with_reducible refine fr_call F (g3 _ _ _ _ (Fr.get F tL)) ?_); (clear F; intro W F); (try dsimp only)) | refine aYQ ?_ | (refine aTQ ?_; clear F; intro W F) | refine aNQ ?_)
  (clear F; intro b5 W F; try simp only [Act.put, z6, z1, z2])
  go_wp2_with (first | go_skip | ((with_reducible apply fSli F slQuo); exact rfl; exact rfl; exact rfl; decide; decide; (go_simp; exact rfl); (exact q_all2 _ _)) | refine aYQ ?_ | (refine aTQ ?_; clear F; intro W F) | refine aNQ ?_)
  (clear F; intro b30 W F; try simp only [Act.put, z6, z1, z2])
  go_wp2_with (first | go_skip | ((go_at_call 11); (with_reducible refine fr_call F (g4 _ _ _ _ (Fr.get F tL)) ?_); (clear F; intro W F); (try dsimp only)) | refine aYQ ?_ | (refine aTQ ?_; clear F; intro W F) | refine aNQ ?_)
  (clear F; intro b8 W F; try simp only [Act.put, z6, z1, z2])
  go_upto_region 5 with (first | go_skip | refine aYQ ?_ | (refine aTQ ?_; clear F; intro W F) | refine aNQ ?_)
  try simp only [Act.put, z6, z1, z2]
  refine wp_region_bm 37 (by kernel_rfl) rfl ?_
  replace F := F.drew
  revert F
  generalize World.drew _ = W
  intro F
  refine dg_one 0 1 (by kernel_rfl) rfl (by kernel_rfl) rfl (fun K hK => ?_)
  (simp only [z3, z4, z5])
  ((refine ⟨?_⟩); go_simp)
  (refine hK _ _ ?_; clear hK K)
  refine dg_one 1 3 (by kernel_rfl) rfl (by kernel_rfl) rfl (fun K hK => ?_)
  (simp only [z3, z4, z5])
  ((refine ⟨?_⟩); go_simp)
  (refine hK _ _ ?_; clear hK K)
  refine dg_one 2 7 (by kernel_rfl) rfl (by kernel_rfl) rfl (fun K hK => ?_)
  (simp only [z3, z4, z5])
  ((refine ⟨?_⟩); go_simp)
  (refine hK _ _ ?_; clear hK K)
  refine dg_one 3 15 (by kernel_rfl) rfl (by kernel_rfl) rfl (fun K hK => ?_)
  (simp only [z3, z4, z5])
  ((refine ⟨?_⟩); go_simp)
  (refine hK _ _ ?_; clear hK K)
  refine dg_one 4 31 (by kernel_rfl) rfl (by kernel_rfl) rfl (fun K hK => ?_)
  (simp only [z3, z4, z5])
  ((refine ⟨?_⟩); go_simp)
  (refine hK _ _ ?_; clear hK K)
  refine dg_one 5 63 (by kernel_rfl) rfl (by kernel_rfl) rfl (fun K hK => ?_)
  (simp only [z3, z4, z5])
  ((refine ⟨?_⟩); go_simp)
  (refine hK _ _ ?_; clear hK K)
  refine dg_one 6 127 (by kernel_rfl) rfl (by kernel_rfl) rfl (fun K hK => ?_)
  (simp only [z3, z4, z5])
  ((refine ⟨?_⟩); go_simp)
  (refine hK _ _ ?_; clear hK K)
  refine dg_one 7 255 (by kernel_rfl) rfl (by kernel_rfl) rfl (fun K hK => ?_)
  (simp only [z3, z4, z5])
  ((refine ⟨?_⟩); go_simp)
  (refine hK _ _ ?_; clear hK K)
  refine dg_one 8 511 (by kernel_rfl) rfl (by kernel_rfl) rfl (fun K hK => ?_)
  (simp only [z3, z4, z5])
  (first | ((with_reducible apply gLc F); exact rfl; (exact tL); (with_reducible exact scBool); (first | (with_reducible exact q_src _) | (with_reducible exact q_ins _) | (with_reducible exact q_cur _) | (with_reducible exact q_day _) | (with_reducible exact q_known _) | (with_reducible exact q_void _) | exact rfl); go_simp) | ((refine ⟨?_⟩); go_simp))
  (refine hK _ _ ?_; clear hK K)
  refine dg_one 9 1023 (by kernel_rfl) rfl (by kernel_rfl) rfl (fun K hK => ?_)
  (simp only [z3, z4, z5])
  ((refine ⟨?_⟩); go_simp)
  (refine hK _ _ ?_; clear hK K)
  refine dg_one 10 2047 (by kernel_rfl) rfl (by kernel_rfl) rfl (fun K hK => ?_)
  (simp only [z3, z4, z5])
  ((refine ⟨?_⟩); go_simp)
  (refine hK _ _ ?_; clear hK K)
  (refine dg_take 11 46 4095 (v := ?_) rfl (by kernel_rfl) (by kernel_rfl) (by kernel_rfl) (by kernel_rfl) (by kernel_rfl) (fun _ _ _ h => h) (Or.inl ⟨by kernel_rfl, ?_⟩) ?_; rotate_left; (focus (intro w; go_simp; try (with_reducible rfl))); (simp only [z1, z2]))
  apply dg_meet (f' := 23) (m' := 16383)
  · intro M
    refine dg_ready [12, 13] (by kernel_rfl) rfl ?_
    refine dg_want 12 8191 rfl (by kernel_rfl) rfl (fun K hK => ?_) ?_
    · skip
      (simp only [z3, z4, z5])
      (first | ((with_reducible apply gL F); exact rfl; (exact tL); (exact tR3); go_simp) | ((with_reducible apply gLm F); exact rfl; (exact tL); (first | (with_reducible exact q_rat _) | (exact tM3)); (exact tR3); go_simp) | ((refine ⟨?_⟩); go_simp))
      (refine hK _ _ ?_; clear hK K)
      refine dg_one 13 16383 (by kernel_rfl) rfl (by kernel_rfl) rfl (fun K hK => ?_)
      (simp only [z3, z4, z5])
      ((refine ⟨?_⟩); go_simp; (first | ((with_reducible refine fr_call F (g5 _) ?_); (try clear F); (intro W F); (try dsimp only)) | skip))
      (refine hK _ _ ?_; clear hK K)
      exact M _ F
    refine dg_want 13 12287 rfl (by kernel_rfl) rfl (fun K hK => ?_) ?_
    · skip
      (simp only [z3, z4, z5])
      ((refine ⟨?_⟩); go_simp; (first | ((with_reducible refine fr_call F (g5 _) ?_); (try clear F); (intro W F); (try dsimp only)) | skip))
      (refine hK _ _ ?_; clear hK K)
      refine dg_one 12 16383 (by kernel_rfl) rfl (by kernel_rfl) rfl (fun K hK => ?_)
      (simp only [z3, z4, z5])
      (first | ((with_reducible apply gL F); exact rfl; (exact tL); (exact tR3); go_simp) | ((with_reducible apply gLm F); exact rfl; (exact tL); (first | (with_reducible exact q_rat _) | (exact tM3)); (exact tR3); go_simp) | ((refine ⟨?_⟩); go_simp))
      (refine hK _ _ ?_; clear hK K)
      exact M _ F
    exact dg_nil
  clear F
  intro W F
  refine dg_one 14 32767 (by kernel_rfl) rfl (by kernel_rfl) rfl (fun K hK => ?_)
  (simp only [z3, z4, z5])
  ((refine ⟨?_⟩); go_simp)
  (refine hK _ _ ?_; clear hK K)
  refine dg_one 15 65535 (by kernel_rfl) rfl (by kernel_rfl) rfl (fun K hK => ?_)
  (simp only [z3, z4, z5])
  ((refine ⟨?_⟩); go_simp)
  (refine hK _ _ ?_; clear hK K)
  refine dg_one 16 131071 (by kernel_rfl) rfl (by kernel_rfl) rfl (fun K hK => ?_)
  (simp only [z3, z4, z5])
  ((refine ⟨?_⟩); go_simp)
  (refine hK _ _ ?_; clear hK K)
  refine dg_one 17 262143 (by kernel_rfl) rfl (by kernel_rfl) rfl (fun K hK => ?_)
  (simp only [z3, z4, z5])
  ((refine ⟨?_⟩); go_simp)
  (refine hK _ _ ?_; clear hK K)
  refine dg_one 18 524287 (by kernel_rfl) rfl (by kernel_rfl) rfl (fun K hK => ?_)
  (simp only [z3, z4, z5])
  ((refine ⟨?_⟩); go_simp)
  (refine hK _ _ ?_; clear hK K)
  refine dg_one 19 1048575 (by kernel_rfl) rfl (by kernel_rfl) rfl (fun K hK => ?_)
  (simp only [z3, z4, z5])
  ((refine ⟨?_⟩); go_simp)
  (refine hK _ _ ?_; clear hK K)
  refine dg_one 20 2097151 (by kernel_rfl) rfl (by kernel_rfl) rfl (fun K hK => ?_)
  (simp only [z3, z4, z5])
  ((refine ⟨?_⟩); go_simp)
  (refine hK _ _ ?_; clear hK K)
  refine dg_one 21 4194303 (by kernel_rfl) rfl (by kernel_rfl) rfl (fun K hK => ?_)
  (simp only [z3, z4, z5])
  ((refine ⟨?_⟩); go_simp)
  (refine hK _ _ ?_; clear hK K)
  refine dg_one 22 8388607 (by kernel_rfl) rfl (by kernel_rfl) rfl (fun K hK => ?_)
  (simp only [z3, z4, z5])
  ((refine ⟨?_⟩); go_simp)
  (refine hK _ _ ?_; clear hK K)
  refine dg_one 23 16777215 (by kernel_rfl) rfl (by kernel_rfl) rfl (fun K hK => ?_)
  (simp only [z3, z4, z5])
  ((refine ⟨?_⟩); go_simp)
  (refine hK _ _ ?_; clear hK K)
  apply dg_meet (f' := 11) (m' := 67108863)
  · intro M
    refine dg_ready [24, 25] (by kernel_rfl) rfl ?_
    refine dg_want 24 33554431 rfl (by kernel_rfl) rfl (fun K hK => ?_) ?_
    · skip
      (simp only [z3, z4, z5])
      (first | ((with_reducible apply gL F); exact rfl; (exact tL); (with_reducible exact rowQ _); go_simp) | ((refine ⟨?_⟩); go_simp))
      (refine hK _ _ ?_; clear hK K)
      refine dg_one 25 67108863 (by kernel_rfl) rfl (by kernel_rfl) rfl (fun K hK => ?_)
      (simp only [z3, z4, z5])
      (first | ((with_reducible apply gL F); exact rfl; (exact tL); (with_reducible exact rowQ _); go_simp) | ((refine ⟨?_⟩); go_simp))
      (refine hK _ _ ?_; clear hK K)
      exact M _ F
    refine dg_want 25 50331647 rfl (by kernel_rfl) rfl (fun K hK => ?_) ?_
    · skip
      (simp only [z3, z4, z5])
      (first | ((with_reducible apply gL F); exact rfl; (exact tL); (with_reducible exact rowQ _); go_simp) | ((refine ⟨?_⟩); go_simp))
      (refine hK _ _ ?_; clear hK K)
      refine dg_one 24 67108863 (by kernel_rfl) rfl (by kernel_rfl) rfl (fun K hK => ?_)
      (simp only [z3, z4, z5])
      (first | ((with_reducible apply gL F); exact rfl; (exact tL); (with_reducible exact rowQ _); go_simp) | ((refine ⟨?_⟩); go_simp))
      (refine hK _ _ ?_; clear hK K)
      exact M _ F
    exact dg_nil
  clear F
  intro W F
  refine dg_one 26 134217727 (by kernel_rfl) rfl (by kernel_rfl) rfl (fun K hK => ?_)
  (simp only [z3, z4, z5])
  ((refine ⟨?_⟩); go_simp)
  (refine hK _ _ ?_; clear hK K)
  refine dg_one 27 268435455 (by kernel_rfl) rfl (by kernel_rfl) rfl (fun K hK => ?_)
  (simp only [z3, z4, z5])
  ((refine ⟨?_⟩); go_simp)
  (refine hK _ _ ?_; clear hK K)
  refine dg_one 28 536870911 (by kernel_rfl) rfl (by kernel_rfl) rfl (fun K hK => ?_)
  (simp only [z3, z4, z5])
  ((refine ⟨?_⟩); go_simp)
  (refine hK _ _ ?_; clear hK K)
  refine dg_one 29 1073741823 (by kernel_rfl) rfl (by kernel_rfl) rfl (fun K hK => ?_)
  (simp only [z3, z4, z5])
  ((refine ⟨?_⟩); go_simp)
  (refine hK _ _ ?_; clear hK K)
  refine dg_one 30 2147483647 (by kernel_rfl) rfl (by kernel_rfl) rfl (fun K hK => ?_)
  (simp only [z3, z4, z5])
  ((refine ⟨?_⟩); go_simp)
  (refine hK _ _ ?_; clear hK K)
  refine dg_one 31 4294967295 (by kernel_rfl) rfl (by kernel_rfl) rfl (fun K hK => ?_)
  (simp only [z3, z4, z5])
  ((refine ⟨?_⟩); go_simp)
  (refine hK _ _ ?_; clear hK K)
  refine dg_one 32 8589934591 (by kernel_rfl) rfl (by kernel_rfl) rfl (fun K hK => ?_)
  (simp only [z3, z4, z5])
  ((refine ⟨?_⟩); go_simp)
  (refine hK _ _ ?_; clear hK K)
  refine dg_one 33 17179869183 (by kernel_rfl) rfl (by kernel_rfl) rfl (fun K hK => ?_)
  (simp only [z3, z4, z5])
  ((refine ⟨?_⟩); go_simp)
  (refine hK _ _ ?_; clear hK K)
  refine dg_one 34 34359738367 (by kernel_rfl) rfl (by kernel_rfl) rfl (fun K hK => ?_)
  (simp only [z3, z4, z5])
  ((refine ⟨?_⟩); go_simp)
  (refine hK _ _ ?_; clear hK K)
  refine dg_one 35 68719476735 (by kernel_rfl) rfl (by kernel_rfl) rfl (fun K hK => ?_)
  (simp only [z3, z4, z5])
  ((refine ⟨?_⟩); go_simp)
  (refine hK _ _ ?_; clear hK K)
  refine dg_one 36 137438953471 (by kernel_rfl) rfl (by kernel_rfl) rfl (fun K hK => ?_)
  (simp only [z3, z4, z5])
  ((refine ⟨?_⟩); go_simp)
  (refine hK _ _ ?_; clear hK K)
  refine dg_end (by kernel_rfl) ?_ _
  go_wp2_with (first | go_skip | refine aYQ ?_ | (refine aTQ ?_; clear F; intro W F) | refine aNQ ?_)
  go_ret
  exact ⟨rfl, F.below⟩
end
section
open Go.RowKit
set_option maxHeartbeats 4000000
theorem VisP.at {W0 W : World} {V : List QT} {v : Value} (h : OwnL W0 W 33 72 v V.length (qCs V)) (hl : V.length ≤ 9223372036854775807) : ∃ A c, v = .slice A V.length c ∧ RecsAt W A 72 (V.map fun q => (qC q).toList) := by
  obtain ⟨hn, A, cap, hv, hr, -⟩ := h.recs (fun x hx => by
    obtain ⟨y, -, rfl⟩ := List.mem_map.1 hx
    rw [Array.length_toList, qC_size]) (by decide) (by simpa using hl)
  exact ⟨A, cap, hv, hr⟩
theorem visQ_mem {L : List QT} {k : Int} {q : QT} (h : q ∈ visQ L k) : q ∈ L := by
  unfold visQ atIs at h
  obtain ⟨i, -, hi⟩ := List.mem_flatMap.1 h
  unfold atI at hi
  split at hi
  · rename_i y hy
    rw [List.mem_singleton] at hi
    rw [hi]
    exact List.mem_of_getElem? hy
  · cases hi
theorem atV_of {V : List QT} {s i : List UInt8} {d : Int} {p : QT → Prop} (h0 : p q0) (h : ∀ q ∈ V, p q) : p (atV V s i d).1 := by
  unfold atV
  split
  · rename_i q hq
    exact h q (List.mem_of_find?_eq_some hq)
  · exact h0
end
section
open Go.RowKit
set_option maxHeartbeats 4000000
theorem mksFrom_snoc {x : MK} : ∀ {l : List MK} {last : Int}, mksFrom last l = true → x.ok = true → (∀ y ∈ l, y.known < x.known) → last < x.known → mksFrom last (l ++ [x]) = true
  | [], last, _, h1, _, h2 => by
      show (x.ok && decide (last < x.known) && true) = true
      rw [h1, decide_eq_true h2]
      rfl
  | y :: l, last, h, h1, h2, h3 => by
      have h' : (y.ok && decide (last < y.known) && mksFrom y.known l) = true := h
      rw [Bool.and_eq_true] at h'
      show (y.ok && decide (last < y.known) && mksFrom y.known (l ++ [x])) = true
      rw [h'.1, mksFrom_snoc h'.2 h1 (fun z hz => h2 z (List.mem_cons_of_mem _ hz)) (h2 y (List.mem_cons_self ..))]
      rfl
theorem mark_ok {q : QT} (h : q.right = true) (hk : q.known ≤ 2147483647) : q.mark.ok = true := by
  have hd := dayL_len q.day
  unfold QT.right at h
  simp only [Bool.and_eq_true, decide_eq_true_eq] at h
  obtain ⟨h1, h2, -⟩ := h
  unfold nameB at h1
  unfold paperB at h2
  simp only [Bool.and_eq_true, decide_eq_true_eq] at h1 h2
  refine MK.ok_iff.2 ⟨?_, hk⟩
  unfold QT.mark QT.key
  dsimp only
  rw [bs_size]
  simp only [List.length_append, List.length_cons]
  omega
structure MB (L : List QT) (k : Int) : Prop where
  ok : L.all QT.ok = true
  ms : mksFrom 0 (L.map QT.mark) = true
  le : ∀ q ∈ L, q.known ≤ k
  pos : 0 ≤ k
  mem : ∀ q ∈ L, QuoV q.known q
theorem MB.nil : MB [] 0 := ⟨rfl, rfl, by simp, Int.le_refl 0, by simp⟩
theorem MB.le_trans {L : List QT} {k m : Int} (h : MB L k) (hm : k ≤ m) : MB L m := ⟨h.ok, h.ms, fun q hq => Int.le_trans (h.le q hq) hm, Int.le_trans h.pos hm, h.mem⟩
theorem MB.snoc {L : List QT} {k m : Int} {q : QT} (h : MB L k) (hq : QuoV m q) (hk : k < m) (hm : m ≤ 2147483647) : MB (L ++ [q]) m := by
  have hp := h.pos
  have e := hq.known
  refine ⟨?_, ?_, fun x hx => ?_, by omega, fun x hx => ?_⟩
  · rw [List.all_append, h.ok]
    simp only [List.all_cons, List.all_nil, Bool.and_true, Bool.true_and]
    unfold QT.ok
    rw [hq.right, e, Bool.true_and]
    exact (knB_iff m).2 ⟨by omega, hm⟩
  · rw [List.map_append]
    refine mksFrom_snoc h.ms (mark_ok hq.right (by omega)) (fun y hy => ?_) ?_
    · obtain ⟨x, hx, rfl⟩ := List.mem_map.1 hy
      have := h.le x hx
      show x.known < q.known
      omega
    · show 0 < q.known
      omega
  · rcases List.mem_append.1 hx with hx | hx
    · have := h.le x hx
      omega
    · rw [List.mem_singleton.1 hx]
      omega
  · rcases List.mem_append.1 hx with hx | hx
    · exact h.mem x hx
    · rw [List.mem_singleton.1 hx, e]
      exact hq
theorem MB.err {L : List QT} {k : Int} (h : MB L k) (hl : L.length ≤ 4096) : bkErr L = 0 := by
  unfold bkErr
  rw [if_pos h.ok]
  rw [mkErr_from (by rw [List.length_map]; exact hl), if_pos h.ms]
theorem lt32' {x : Nat} (h : x < bp 15) : x < bp 32 := Nat.lt_of_lt_of_le h (bp_le (by decide))
theorem right_lens {q : QT} (h : q.right = true) : q.src.length ≤ 9223372036854775807 ∧ q.ins.length ≤ 9223372036854775807 ∧ q.cur.length ≤ 9223372036854775807 := by
  unfold QT.right at h
  simp only [Bool.and_eq_true, decide_eq_true_eq] at h
  obtain ⟨h1, h2, h3, -⟩ := h
  unfold nameB at h1
  unfold paperB at h2
  unfold codeB at h3
  simp only [Bool.and_eq_true, decide_eq_true_eq] at h1 h2 h3
  omega
theorem MB.at {L : List QT} {k : Int} (h : MB L k) {W0 W : World} {v : Value} (hO : OwnL W0 W 33 72 v L.length (qCs L)) (hl : L.length ≤ 9223372036854775807) : ∃ A c, v = .slice A L.length c ∧ QuAt W A L := by
  obtain ⟨hn, A, cap, hv, hr, -⟩ := hO.recs (fun x hx => by
    obtain ⟨y, -, rfl⟩ := List.mem_map.1 hx
    rw [Array.length_toList, qC_size]) (by decide) (by simpa using hl)
  exact ⟨A, cap, hv, hr, fun q hq => lt32' (h.mem q hq).a, fun q hq => lt32' (h.mem q hq).b, fun q hq => (right_lens (h.mem q hq).right).1, fun q hq => (right_lens (h.mem q hq).right).2.1, fun q hq => (right_lens (h.mem q hq).right).2.2⟩
def QuosP (n : Nat) (B b N : Nat) (w : World) (e : Ending) (w' : World) : Prop :=
  ∃ (L : List QT) (v : Value) (X : List Ent) (u : World), e = .returned v ∧ L.length = n ∧ MB L ((6 * n : Nat) : Int) ∧ SlG 33 72 v n (qCs L) X ∧ Tp w u B b N ∧ Fr u w' X
theorem pick_gap {r : Int} (h : r ∈ [0, 0, 1, 5]) : 0 ≤ r ∧ r ≤ 5 := by
  simp only [List.mem_cons, List.not_mem_nil, or_false] at h
  omega
theorem pick_day {r : Int} (h : r ∈ [0, 0, 0, 1]) : 0 ≤ r ∧ r ≤ 1 := by
  simp only [List.mem_cons, List.not_mem_nil, or_false] at h
  omega
set_option maxRecDepth 100000 in
theorem tquotes {B b N n : Nat} {w : World} {day : Int} (hn : n ≤ 100) (hd : 0 ≤ day ∧ day ≤ 73048) (h : TapeAt w B b (N + 11 * n)) : Calls Tryz.prog 18 #[.pointer (some ⟨b, 0, none⟩), .int .i64 n, .int .i64 day] w (QuosP n B b N w) := by
  have F := Fr.start w
  have T := Tp.start h
  clear h
  go_enter Tryz.func18, Tryz.ntmps18
  go_wp2_with (first | go_skip | ((with_reducible apply fSli F slInt); exact rfl; exact rfl; exact rfl; decide; decide; (go_simp; exact rfl); exact rfl) | ((with_reducible apply fSli F slStr); exact rfl; exact rfl; exact rfl; decide; decide; (go_simp; exact rfl); exact rfl))
  go_loopw [7, 8, 9] (fun lv kv iv wr => ∃ (i : Nat) (kn : Int) (L : List QT) (X : List Ent) (u : World), i ≤ n ∧ kv = .int .i64 kn ∧ iv = .int .i64 i ∧ L.length = i ∧ kn ≤ ((6 * i : Nat) : Int) ∧ MB L kn ∧ SlG 33 72 lv i (qCs L) X ∧ Tp w u B b (N + 11 * (n - i)) ∧ Fr u wr X) (fun _ _ iv _ => n - (intOf iv).toNat)
  case atStart => exact ⟨0, 0, [], [], _, by omega, rfl, rfl, rfl, by omega, MB.nil, SlG.nil _ _, T, F⟩
  case round =>
    clear F T
    obtain ⟨i, kn, L, X, u, hi, rfl, rfl, hLi, hk, hM, S, T, F⟩ := hrel
    have HS := Lib.hid S
    have HM := Lib.hid hM
    have HL := Lib.hid hLi
    have hk0 := hM.pos
    clear S hM hLi
    by_cases hlt : i < n
    · obtain ⟨M, hM1⟩ : ∃ M, N + 11 * (n - i) = M + 11 ∧ M = N + 11 * (n - (i + 1)) := ⟨N + 11 * (n - (i + 1)), by omega, rfl⟩
      rw [hM1.1] at T
      have HMM := Lib.hid hM1.2
      clear hM1
      go_wp2_with (first | go_skip | ((with_reducible apply fSli F slInt); exact rfl; exact rfl; exact rfl; decide; decide; (go_simp; exact rfl); exact rfl) | ((with_reducible apply fSli F slStr); exact rfl; exact rfl; exact rfl; decide; decide; (go_simp; exact rfl); exact rfl))
      (clear F; intro b17 W F; try simp only [Act.put, z6, z1, z2])
      go_wp2_with (first | go_skip | ((go_at_call 30); (with_reducible refine fr_tap F T (tpickF [0, 0, 1, 5] F T tL (by with_unfolding_all rfl) (by with_unfolding_all rfl) (by simp) (by simp)) ?_); (try clear F T); (rintro _ u W ⟨r, rfl, hr⟩ T F); (replace hr := pick_gap hr); (try dsimp only)) | ((with_reducible apply fSli F slInt); exact rfl; exact rfl; exact rfl; decide; decide; (go_simp; exact rfl); exact rfl) | ((with_reducible apply fSli F slStr); exact rfl; exact rfl; exact rfl; decide; decide; (go_simp; exact rfl); exact rfl))
      (clear F; intro b25 W F; try simp only [Act.put, z6, z1, z2])
      go_wp2_with (first | go_skip | ((go_at_call 30); (with_reducible refine fr_tap F T (tpickF [0, 0, 0, 1] F T tL (by with_unfolding_all rfl) (by with_unfolding_all rfl) (by simp) (by simp)) ?_); (try clear F T); (rintro _ u W ⟨s, rfl, hs⟩ T F); (replace hs := pick_day hs); (try dsimp only)) | ((with_reducible apply fSli F slInt); exact rfl; exact rfl; exact rfl; decide; decide; (go_simp; exact rfl); exact rfl) | ((with_reducible apply fSli F slStr); exact rfl; exact rfl; exact rfl; decide; decide; (go_simp; exact rfl); exact rfl))
      go_wp2_with (first | go_skip | ((go_at_call 23); (with_reducible refine fr_tap F T (tquote (N := M) (by omega) (T.at F)) ?_); (try clear F T); (rintro _ u W ⟨q, rfl, hq⟩ T F); (try dsimp only)) | ((with_reducible apply fSli F slQuo); exact rfl; exact rfl; exact rfl; decide; decide; (go_simp; exact rfl); (exact q_all _)) | ((with_reducible apply fSli F slInt); exact rfl; exact rfl; exact rfl; decide; decide; (go_simp; exact rfl); exact rfl) | ((with_reducible apply fSli F slStr); exact rfl; exact rfl; exact rfl; decide; decide; (go_simp; exact rfl); exact rfl))
      (clear F; intro b31 W F; try simp only [Act.put, z6, z1, z2])
      replace F := F.sub (L' := (b31, flatC [.agg (qC q)], 33) :: X) (List.Sublist.cons_cons _ (List.Sublist.cons _ (List.Sublist.cons _ (List.Sublist.refl _))))
      have hk2 : kn + (1 + r) ≤ 2147483647 := by omega
      have HM2 := Lib.hid (HM.out.snoc hq (by omega) hk2)
      clear hq hk2 HM
      go_wp2_with (first | go_skip | ((with_reducible apply fPushB elQuo (n := i) (by unfold maxLen; omega) (by omega) HS.out F); exact rfl; exact rfl; exact rfl; exact q_flat q; exact q_one q; (clear F HS); (intro v' X' W' S' F')) | ((with_reducible apply fSli F slInt); exact rfl; exact rfl; exact rfl; decide; decide; (go_simp; exact rfl); exact rfl) | ((with_reducible apply fSli F slStr); exact rfl; exact rfl; exact rfl; decide; decide; (go_simp; exact rfl); exact rfl))
      go_roundw
      case rel => exact ⟨i + 1, kn + (1 + r), L ++ [q], X', u, by omega, rfl, by go_num, by rw [List.length_append, HL.out]; rfl, by omega, HM2.out, by rw [qCs_snoc, ← flatC_q]; exact S', by rw [← HMM.out]; exact T, F'⟩
      case measure => simp [intOf]; omega
    · obtain rfl : i = n := by omega
      go_wp2_with (first | go_skip | ((with_reducible apply fSli F slInt); exact rfl; exact rfl; exact rfl; decide; decide; (go_simp; exact rfl); exact rfl) | ((with_reducible apply fSli F slStr); exact rfl; exact rfl; exact rfl; decide; decide; (go_simp; exact rfl); exact rfl))
      go_ret
      refine ⟨L, _, X, u, rfl, HL.out, HM.out.le_trans hk, HS.out, ?_, F⟩
      exact T.less (by omega)
end
section
theorem parse_uniq {s : ByteArray} {n m : Int} (h : ParseR s n 0) (h' : ParseR s m 0) : n = m := by
  rcases h with ⟨-, -, h⟩ | ⟨h0, ⟨h1, -⟩ | ⟨-, -, h⟩⟩
  · cases h
  · rcases h' with ⟨-, -, h⟩ | ⟨-, ⟨h2, -⟩ | ⟨-, -, h⟩⟩
    · cases h
    · rw [h1.eq, h2.eq]
    · cases h
  · cases h
theorem key_inj {s i s' i' : List UInt8} {d d' : Int} (hs : (44 : UInt8) ∉ s) (hi : (44 : UInt8) ∉ i) (hs' : (44 : UInt8) ∉ s') (hi' : (44 : UInt8) ∉ i') (hd : 0 ≤ d ∧ d ≤ 73048) (hd' : 0 ≤ d' ∧ d' ≤ 73048)
    (h : s ++ 44 :: (i ++ 44 :: dayL d) = s' ++ 44 :: (i' ++ 44 :: dayL d')) : s = s' ∧ i = i' ∧ d = d' := by
  obtain ⟨p1, n1⟩ := day_back hd
  obtain ⟨p2, n2⟩ := day_back hd'
  have h2 := congrArg cuts h
  rw [cuts_app _ hs, cuts_app _ hi, cuts_none n1, cuts_app _ hs', cuts_app _ hi', cuts_none n2] at h2
  injection h2 with e1 h2
  injection h2 with e2 h2
  injection h2 with e3 _
  rw [e3] at p1
  exact ⟨e1, e2, parse_uniq p1 p2⟩
theorem mark_inj {x q : QT} (hx : x.right = true) (hq : q.right = true) (h : x.mark.key = q.mark.key) : x.src = q.src ∧ x.ins = q.ins ∧ x.day = q.day := by
  obtain ⟨a1, a2, -, a4, -⟩ := right_parts hx
  obtain ⟨b1, b2, -, b4, -⟩ := right_parts hq
  exact key_inj (name_no44 a1) (paper_no44 a2) (name_no44 b1) (paper_no44 b2) a4 b4 (bs_inj h)
theorem mark_same {x q : QT} (h1 : x.src = q.src) (h2 : x.ins = q.ins) (h3 : x.day = q.day) : x.mark.key = q.mark.key := by
  unfold QT.mark QT.key
  dsimp only
  rw [h1, h2, h3]
section
variable {ms : List MK} {m : MK} {k : Int} {key : ByteArray}
theorem lastF_app : ∀ n : Nat, n ≤ ms.length → lastF (ms ++ [m]) k key n = lastF ms k key n
  | 0, _ => rfl
  | n + 1, h => by
      unfold lastF
      rw [List.getElem?_append_left (by omega), lastF_app n (by omega)]
theorem lastF_big {k' : Int} (h : ∀ x ∈ ms, x.known ≤ k ∧ x.known ≤ k') : ∀ n : Nat, lastF ms k key n = lastF ms k' key n
  | 0 => rfl
  | n + 1 => by
      unfold lastF
      cases hx : ms[n]? with
      | none => exact lastF_big h n
      | some x =>
        obtain ⟨h1, h2⟩ := h x (List.mem_of_getElem? hx)
        dsimp only
        rw [lastF_big h n]
        simp only [h1, h2]
theorem app_last : (ms ++ [m])[ms.length]? = some m := by simp
theorem lastF_snoc : lastF (ms ++ [m]) k key (ms ++ [m]).length = if m.known ≤ k ∧ m.key = key then (ms.length : Int) else lastF ms k key ms.length := by
  rw [List.length_append, show [m].length = 1 from rfl, lastF, app_last, lastF_app _ (Nat.le_refl _)]
end
theorem visF_range (ms : List MK) (k : Int) (L : List QT) : ∀ n : Nat, atIs L (visF ms k n) = (List.range n).flatMap fun j => if visAt ms k j = true then atI L j else []
  | 0 => rfl
  | n + 1 => by
      rw [visF, List.range_succ, List.flatMap_append, ← visF_range ms k L n]
      unfold atIs
      rw [List.flatMap_append]
      congr 1
      rw [List.flatMap_cons, List.flatMap_nil, List.append_nil]
      split
      · rw [List.flatMap_cons, List.flatMap_nil, List.append_nil]
      · rfl
theorem visQ_range (L : List QT) (k : Int) : visQ L k = (List.range L.length).flatMap fun j => if visAt (L.map QT.mark) k j = true then atI L j else [] := by
  unfold visQ vis
  rw [visF_range, List.length_map]
theorem flatMap_congr' {α β : Type} {l : List α} {f g : α → List β} (h : ∀ x ∈ l, f x = g x) : l.flatMap f = l.flatMap g := by
  induction l with
  | nil => rfl
  | cons x l ih => rw [List.flatMap_cons, List.flatMap_cons, h x (List.mem_cons_self ..), ih fun y hy => h y (List.mem_cons_of_mem _ hy)]
theorem atI_app {L : List QT} {q : QT} {j : Nat} (h : j < L.length) : atI (L ++ [q]) j = atI L j := by
  unfold atI
  rw [Int.toNat_natCast, List.getElem?_append_left h]
theorem atI_last {L : List QT} {q : QT} : atI (L ++ [q]) (L.length : Nat) = [q] := by
  unfold atI
  rw [Int.toNat_natCast]
  simp
section
variable {L : List QT} {q : QT} {K : Int}
theorem vis_before (h : ∀ x ∈ L, x.known ≤ K) (h2 : K < q.known) : visQ (L ++ [q]) K = visQ L K := by
  rw [visQ_range, visQ_range, List.length_append, show [q].length = 1 from rfl, List.range_succ, List.flatMap_append, List.map_append]
  have e1 : visAt (L.map QT.mark ++ [q].map QT.mark) K L.length = false := by
    unfold visAt
    rw [show L.length = (L.map QT.mark).length by rw [List.length_map], show [q].map QT.mark = [q.mark] from rfl, app_last]
    have : ¬ q.mark.known ≤ K := by show ¬ q.known ≤ K; omega
    dsimp only
    rw [decide_eq_false this]
    simp
  rw [List.flatMap_cons, List.flatMap_nil, e1, if_neg (by decide), List.append_nil, List.append_nil]
  refine flatMap_congr' fun j hj => ?_
  have hj2 : j < L.length := List.mem_range.1 hj
  rw [atI_app hj2]
  have e2 : visAt (L.map QT.mark ++ [q].map QT.mark) K j = visAt (L.map QT.mark) K j := by
    unfold visAt
    rw [List.getElem?_append_left (by rw [List.length_map]; exact hj2)]
    cases (L.map QT.mark)[j]? with
    | none => rfl
    | some x =>
      dsimp only
      rw [show [q].map QT.mark = [q.mark] from rfl, lastF_snoc, if_neg (by rintro ⟨h3, -⟩; have : q.known ≤ K := h3; omega)]
  rw [e2]
theorem vis_all {K' : Int} (h : ∀ x ∈ L, x.known ≤ K ∧ x.known ≤ K') : visQ L K = visQ L K' := by
  rw [visQ_range, visQ_range]
  refine flatMap_congr' fun j hj => ?_
  have hm : ∀ x ∈ L.map QT.mark, x.known ≤ K ∧ x.known ≤ K' := by
    intro x hx
    obtain ⟨y, hy, rfl⟩ := List.mem_map.1 hx
    exact h y hy
  have e2 : visAt (L.map QT.mark) K j = visAt (L.map QT.mark) K' j := by
    unfold visAt
    cases hx : (L.map QT.mark)[j]? with
    | none => rfl
    | some x =>
      obtain ⟨h1, h2⟩ := hm x (List.mem_of_getElem? hx)
      dsimp only
      rw [lastF_big hm, decide_eq_true h1, decide_eq_true h2]
  rw [e2]
theorem vis_from (h : ∀ x ∈ L, x.known ≤ K) (h2 : q.known ≤ K) : visQ (L ++ [q]) K = (visQ L K).filter (fun x => decide (x.mark.key ≠ q.mark.key)) ++ (if q.void = true then [] else [q]) := by
  rw [visQ_range, visQ_range, List.length_append, show [q].length = 1 from rfl, List.range_succ, List.flatMap_append, List.map_append, show [q].map QT.mark = [q.mark] from rfl]
  have hq : q.mark.known ≤ K := h2
  congr 1
  · rw [List.filter_flatMap]
    refine flatMap_congr' fun j hj => ?_
    have hj2 : j < L.length := List.mem_range.1 hj
    rw [atI_app hj2]
    have e2 : visAt (L.map QT.mark ++ [q.mark]) K j = (visAt (L.map QT.mark) K j && decide ((L[j]).mark.key ≠ q.mark.key)) := by
      unfold visAt
      rw [List.getElem?_append_left (by rw [List.length_map]; exact hj2), List.getElem?_map, List.getElem?_eq_getElem hj2, Option.map_some]
      dsimp only
      rw [lastF_snoc]
      by_cases hk : q.mark.key = (L[j]).mark.key
      · rw [if_pos ⟨hq, hk⟩, decide_eq_false (p := ((L.map QT.mark).length : Int) = j) (by rw [List.length_map]; omega), decide_eq_false (p := (L[j]).mark.key ≠ q.mark.key) (by intro h; exact h hk.symm), Bool.and_false, Bool.and_false]
      · rw [if_neg (fun h => hk h.2), decide_eq_true (p := (L[j]).mark.key ≠ q.mark.key) (fun h => hk h.symm), Bool.and_true]
    rw [e2]
    have e3 : atI L j = [L[j]] := by
      unfold atI
      rw [Int.toNat_natCast, List.getElem?_eq_getElem hj2]
    rw [e3]
    cases visAt (L.map QT.mark) K j
    · rfl
    · rw [Bool.true_and]
      simp only [if_true, List.filter_cons, List.filter_nil]
  · rw [List.flatMap_cons, List.flatMap_nil, List.append_nil, atI_last]
    have e1 : visAt (L.map QT.mark ++ [q.mark]) K L.length = !q.void := by
      unfold visAt
      rw [show L.length = (L.map QT.mark).length by rw [List.length_map], app_last]
      dsimp only
      rw [lastF_snoc, if_pos ⟨hq, rfl⟩, decide_eq_true hq, decide_eq_true rfl]
      show (!q.void && true && true) = !q.void
      rw [Bool.and_true, Bool.and_true]
    rw [e1]
    cases q.void <;> rfl
end
theorem find_filter_same {V : List QT} {p a : QT → Bool} (h : ∀ x ∈ V, a x = true → p x = true) : (V.filter p).find? a = V.find? a := by
  induction V with
  | nil => rfl
  | cons x V ih =>
    have ih := ih fun y hy => h y (List.mem_cons_of_mem _ hy)
    have hx := h x (List.mem_cons_self ..)
    rw [List.filter_cons, List.find?_cons]
    cases ha : a x
    · split
      · rw [List.find?_cons, ha]
        exact ih
      · exact ih
    · rw [if_pos (hx ha), List.find?_cons, ha]
theorem find_filter_none {V : List QT} {p a : QT → Bool} (h : ∀ x ∈ V, a x = true → p x = false) : (V.filter p).find? a = none := by
  rw [List.find?_eq_none]
  intro x hx ha
  obtain ⟨h1, h2⟩ := List.mem_filter.1 hx
  rw [h x h1 ha] at h2
  cases h2
theorem at_corrects {L : List QT} {q : QT} {k M : Int} (hL : MB L k) (hq : QuoV q.known q) (h1 : k < q.known) (h2 : q.known ≤ M) (s i : List UInt8) (d : Int) :
    atV (visQ (L ++ [q]) (q.known - 1)) s i d = atV (visQ L M) s i d ∧ atV (visQ (L ++ [q]) q.known) s i d = if s = q.src ∧ i = q.ins ∧ d = q.day then (if q.void = true then (q0, false) else (q, true)) else atV (visQ L M) s i d := by
  have hk := hL.le
  have a1 : visQ (L ++ [q]) (q.known - 1) = visQ L (q.known - 1) := vis_before (fun x hx => by have := hk x hx; omega) (by omega)
  have a2 : visQ L (q.known - 1) = visQ L M := vis_all fun x hx => by have := hk x hx; omega
  have a3 : visQ L q.known = visQ L M := vis_all fun x hx => by have := hk x hx; omega
  refine ⟨by rw [a1, a2], ?_⟩
  rw [vis_from (fun x hx => by have := hk x hx; omega) (Int.le_refl _), a3]
  have hV : ∀ x ∈ visQ L M, x.right = true := fun x hx => (hL.mem x (visQ_mem hx)).right
  generalize visQ L M = V at *
  have hat : ∀ x : QT, atP s i d x = true → x.src = s ∧ x.ins = i ∧ x.day = d := by
    intro x hx
    unfold atP at hx
    simp only [Bool.and_eq_true, beq_iff_eq] at hx
    exact hx
  unfold atV
  by_cases ho : s = q.src ∧ i = q.ins ∧ d = q.day
  · rw [if_pos ho]
    obtain ⟨rfl, rfl, rfl⟩ := ho
    have e1 : (V.filter (fun x => decide (x.mark.key ≠ q.mark.key))).find? (atP q.src q.ins q.day) = none := find_filter_none fun x hx ha => by
      obtain ⟨b1, b2, b3⟩ := hat x ha
      exact decide_eq_false (fun h => h (mark_same b1 b2 b3))
    have e2 : atP q.src q.ins q.day q = true := by simp [atP]
    rw [List.find?_append, e1]
    cases q.void
    · simp [e2]
    · simp
  · rw [if_neg ho]
    have e1 : (V.filter (fun x => decide (x.mark.key ≠ q.mark.key))).find? (atP s i d) = V.find? (atP s i d) := find_filter_same fun x hx ha => by
      obtain ⟨b1, b2, b3⟩ := hat x ha
      refine decide_eq_true fun h => ho ?_
      obtain ⟨c1, c2, c3⟩ := mark_inj (hV x hx) hq.right h
      exact ⟨b1.symm.trans c1, b2.symm.trans c2, b3.symm.trans c3⟩
    have e2 : atP s i d q = false := by
      cases h : atP s i d q
      · rfl
      · obtain ⟨b1, b2, b3⟩ := hat q h
        exact absurd ⟨b1.symm, b2.symm, b3.symm⟩ ho
    have e3 : (if q.void = true then ([] : List QT) else [q]).find? (atP s i d) = none := by
      split
      · rfl
      · rw [List.find?_cons, e2]
        rfl
    rw [List.find?_append, e1, e3, Option.or_none]
end
section
section
open Go.ChangeShapes Go.WideShapes Go.ChangeAt Go.RowKit Go.Deep
theorem own : ownKnob Tryz.prog.godebug = none := by kernel_rfl
theorem laidOut : laidOutB Tryz.prog = true := by kernel_rfl
section
variable {H : Type} {enc : TypeId × Value → H}
theorem trodAll_below {P : Program} (hl : laidOutB P = true) {W W' : World} (hb : Below W.heap.size W W') : ∀ {ts : List TypeId} {vs : List Value} {ds : List (DataW H)} {ps : List MemPlace},
    (∀ t ∈ ts, P.readableRec t = true ∧ t < P.types.size) → DataW.TrodAll enc P W 0 (fun _ => true) true ts vs ds ps → (∀ x ∈ ps, x.block < W.heap.size) →
    DataW.TrodAll enc P W' 0 (fun b => decide (b < W.heap.size)) true ts vs ds ps
  | [], [], [], _, _, h, _ => h
  | t :: _, _ :: _, _ :: _, _, hT, ⟨p, q, h1, h2, e⟩, hs =>
    ⟨p, q, Below.trod hl (hT t (by simp)).1 (hT t (by simp)).2 h1 hb (fun x hx => hs x (by rw [e]; exact List.mem_append_left _ hx)),
      trodAll_below hl hb (fun u hu => hT u (by simp [hu])) h2 (fun x hx => hs x (by rw [e]; exact List.mem_append_right _ hx)), e⟩
theorem law_post {f : Func} {s : ChangeSpec} {W W' : World} {args : Array Value} {ds : List (DataW H)} {before : List MemPlace} {e : Ending}
    (hv : s.vars = []) (hs : s.fn H ds = { results := [.lit (.bool true)], args := ds })
    (hT0 : (f.params.toList.all fun t => Tryz.prog.readableRec t && decide (t < Tryz.prog.types.size)) = true) (hR : f.resultTypes = #[4])
    (hW : DataW.Whole enc Tryz.prog f.params.toList s.vars false W args.toList ds [] before) (h : RetB (.bool true) W e W') :
    ∃ v, e = .returned v ∧ s.post enc Tryz.prog f false true false false W args v W' := by
  have hT : ∀ t ∈ f.params.toList, Tryz.prog.readableRec t = true ∧ t < Tryz.prog.types.size := fun t ht => by
    have := List.all_eq_true.1 hT0 t ht
    simpa using this
  obtain ⟨he, hb⟩ := h
  have hlt := hW.lt
  refine ⟨_, he, ds, [], before, [], before, [], hW, ?_, ?_, ?_, ?_, fun h => by cases h⟩
  · rw [hR]
    simp only [List.append_nil, hs]
    exact trodAll_mk1 (shut_bool Tryz.underlying4 _)
  · obtain ⟨p, q, hA, hV, rfl, _, _⟩ := hW
    rw [hv] at hV
    obtain ⟨_, rfl⟩ := trodVars_none hV
    simp only [List.append_nil, hs]
    have hA' : DataW.TrodAll enc Tryz.prog W 0 (fun _ => true) true f.params.toList args.toList ds p := hA
    exact trodAll_below laidOut hb hT hA' (fun x hx => hlt x (by simpa using hx))
  · simp only [List.append_nil, hs, hv]
    rfl
  · exact hb.frame _
end
end
section
open Go.ChangeShapes Go.WideShapes Go.ChangeAt Go.RowKit Go.Deep
def IntsAt (W : World) (A : Option Addr) (L : List Int) : Prop :=
  L.length ≤ 9223372036854775807 ∧ ∀ k x, L[k]? = some x → ∃ bb o, A = some ⟨bb, o, none⟩ ∧ bb < W.heap.size ∧ W.cell? ⟨bb, o + k, none⟩ = some (.int .i64 x)
section
variable {H : Type} {enc : TypeId × Value → H}
theorem open_ints1 {W : World} {A : Option Addr} {len cap : Nat} {d : DataW H} {p : List MemPlace} (h : DataW.Trod enc Tryz.prog W 0 (fun _ => true) true 40 (.slice A len cap) d p) :
    ∃ L : List Int, len = L.length ∧ IntsAt W A L := by
  obtain ⟨fuel, hf⟩ := h
  rcases open_ints Tryz.underlying40 Tryz.underlying3 (by kernel_rfl) hf with ⟨hcs, _⟩ | ⟨x, l, c, zs, hcs, _, hl, hm, hz, _, hcell, hwz⟩
  · simp [Value.cells] at hcs
    obtain ⟨rfl, rfl, rfl⟩ := hcs
    exact ⟨[], rfl, by simp, fun k x hx => by simp at hx⟩
  · simp [Value.cells] at hcs
    obtain ⟨rfl, rfl, rfl⟩ := hcs
    have hzl : zs.length = cap := by simpa using hz
    unfold maxLen at hm
    refine ⟨zs.take len, by simp; omega, by simp; omega, fun k y hk => ?_⟩
    have hk1 : k < len := by
      have := (List.getElem?_eq_some_iff.1 hk).1
      simp at this
      omega
    obtain ⟨b, off, rfl, hc⟩ := ints_at hcell (by omega)
    have hck := hc k (by omega)
    have hy : zs.getD k 0 = y := by
      rw [List.getElem?_take_of_lt hk1] at hk
      simp [List.getD, hk]
    rw [hy] at hck
    exact ⟨b, off, rfl, blt hck, hck⟩
end
theorem tape_start {w : World} {A : Option Addr} {L : List Int} {cap : Nat} (h : IntsAt w A L) :
    TapeAt (w.alloc (.cells #[.slice A L.length cap, .int .i64 0] 43)) w.heap.size w.heap.size 1000000000 :=
  ⟨Nat.le_refl _, A, L, cap, 0, h.1, by omega, heap_alloc_new w _, fun k x hx => by
    obtain ⟨bb, o, hA, hlt, hc⟩ := h.2 k x hx
    exact ⟨bb, o, hA, hlt, cell_al _ hlt hc⟩⟩
end
end
section
open Go.RowKit
set_option maxHeartbeats 4000000
theorem qtape_out {w u W : World} {o : Obj} {N : Nat} {L : List Ent} (T : Tp (w.alloc o) u w.heap.size w.heap.size N) (F : Fr u W L) : Below w.heap.size w W := by
  exact (bal0 w o).trans (only_to_below (T.out F) (Nat.le_refl _) (by simp))
theorem quos_tp {w u u2 W : World} {B b M N : Nat} {L : List Ent} (F : Fr u W L) (T : Tp w u B b M) (h : Tp W u2 B b N) : Tp w u2 B b N := ⟨only_trans (T.out F) h.only, h.tape⟩
theorem SlG.book {u W : World} {A : Option Addr} {c : Nat} {L : List QT} {X : List Ent} {k : Int} (S : SlG 33 72 (.slice A L.length c) L.length (qCs L) X) (hM : MB L k) (hl : L.length ≤ 1000) (F : Fr u W X) : QuAt W A L := by
  obtain ⟨A', c', e, h⟩ := hM.at (S.ownL F) (by omega)
  cases e
  exact h
theorem Fr.last {w W : World} {X : List Ent} {x : Ent} (F : Fr w W (x :: X)) : Fr w W X := F.sub (List.Sublist.cons _ (List.Sublist.refl _))
end
section
open Go.RowKit
set_option maxHeartbeats 4000000
theorem QuoV.wf {k : Int} {q : QT} (h : QuoV k q) : q.wf := ⟨lt32' h.a, lt32' h.b, (right_lens h.right).1, (right_lens h.right).2.1, (right_lens h.right).2.2⟩
end
section
open Go.RowKit
set_option maxHeartbeats 4000000
set_option maxRecDepth 100000 in
theorem quoteCorrects_any (A0 : Option Addr) (L0 : List Int) (cap : Nat) {w : World} (hL : IntsAt w A0 L0) : Calls Tryz.prog 5 #[.slice A0 L0.length cap] w (RetB (.bool true) w) := by
  have T0 := tape_start (cap := cap) hL
  have HO := Lib.hid (fun u W N L (T : Tp (w.alloc (.cells #[.slice A0 L0.length cap, .int .i64 0] 43)) u w.heap.size w.heap.size N) (F : Fr u W L) => (show RetB (.bool true) w (.returned (.bool true)) W from ⟨rfl, qtape_out T F⟩))
  clear hL
  go_enter Tryz.func5, Tryz.ntmps5
  go_upto_region 2 with fail
  have F := Fr.start (w.alloc (.cells #[.slice A0 L0.length cap, .int .i64 0] 43))
  have T := Tp.start T0
  clear T0
  generalize w.alloc (.cells #[.slice A0 L0.length cap, .int .i64 0] 43) = w1 at *
  generalize w.heap.size = b at *
  go_wp2_with (first | go_skip | ((go_at_call 19); (with_reducible refine fr_tap F T (tnext _ (by decide) (by decide) (T.at F)) ?_); (try clear F T); (rintro _ u W ⟨n, rfl, hn⟩ T F); (have hn2 : n ≤ 100 := by omega); (have T9 := T.less (M := 1000 + 11 * n) (by omega)); (try dsimp only)) | (go_at_call 18; (refine (tquotes hn2 (by decide) (T9.at F)).mono ?_); (rintro e W2 ⟨L, v, X, u2, rfl, hLn, hM, S, T2, F2⟩); (replace T := quos_tp F T9 T2); (clear F T2 T9); have F := F2; clear F2; (try dsimp only)) | ((go_at_call 23); (with_reducible refine fr_tap F T (tquote (N := 991) (by decide) (T.at F)) ?_); (try clear F T); (rintro _ u W ⟨q, rfl, hq⟩ T F); (try dsimp only)) | refine aYQ ?_ | ((with_reducible apply fSli F slInt); exact rfl; exact rfl; exact rfl; decide; decide; (go_simp; exact rfl); exact rfl) | ((with_reducible apply fSli F slStr); exact rfl; exact rfl; exact rfl; decide; decide; (go_simp; exact rfl); exact rfl) | (refine aTQ ?_; clear F; intro W F) | refine aNQ ?_)
  (clear F; intro b7 W F; try simp only [Act.put, z6, z1, z2])
  go_upto_region 6 with (first | go_skip | refine aYQ ?_ | ((with_reducible apply fSli F slInt); exact rfl; exact rfl; exact rfl; decide; decide; (go_simp; exact rfl); exact rfl) | ((with_reducible apply fSli F slStr); exact rfl; exact rfl; exact rfl; decide; decide; (go_simp; exact rfl); exact rfl) | (refine aTQ ?_; clear F; intro W F) | refine aNQ ?_)
  rename World => W0
  have HF0 := Lib.hid F
  have hB7 := F.here
  have hFX := F.tl
  clear F
  have F := Fr.start W0
  try simp only [Act.put, z6, z1, z2]
  refine wp_region_bm 7 (by kernel_rfl) rfl ?_
  replace F := F.drew
  revert F
  generalize World.drew _ = W
  intro F
  (refine dg_take 1 39 2 (v := ?_) rfl (by kernel_rfl) (by kernel_rfl) (by kernel_rfl) (by kernel_rfl) (by kernel_rfl) (fun _ _ _ h => h) (Or.inl ⟨by kernel_rfl, ?_⟩) ?_; rotate_left; (focus (intro w; go_simp; try (with_reducible rfl))); (simp only [z1, z2]))
  apply dg_m4 (f' := 2) (m' := 31) (H := fun (b38 : Nat) (v40 : Value) (X40 : Ents) (b42 : Nat) (W : World) => SlG 33 72 v40 n (qCs L) X40 ∧ Fr W0 W X40 ∧ BlkAt W b42 (flatC [.agg (qC q)]) 33)
  · intro M
    refine dg_ready [0, 3] (by kernel_rfl) rfl ?_
    refine dg_want 0 3 rfl (by kernel_rfl) rfl (fun K hK => ?_) ?_
    · skip
      (simp only [z3, z4, z5])
      ((with_reducible apply gSli0 F slQuo); intro b38 W F; (try go_simp))
      (refine hK _ _ ?_; clear hK K)
      refine dg_ready [2, 3] (by kernel_rfl) rfl ?_
      refine dg_want 2 7 rfl (by kernel_rfl) rfl (fun K hK => ?_) ?_
      · skip
        (simp only [z3, z4, z5])
        ((with_reducible refine gPushB S hFX (by omega) (F.sub (by repeat (first | exact List.Sublist.slnil | apply List.Sublist.cons_cons | apply List.Sublist.cons))) ?_ ?_ ?_); exact rfl; exact rfl; (intro v40 X40 W S40 F40 H40); (try (have B42 := H40 _ _ _ (Fr.get F (b := b42) (cs := flatC [.agg (qC q)]) (t := 33) tL) (by intro e; have h := F.dis; simp [e] at h))); clear F H40; (have F := F40); clear F40; (try go_simp))
        (refine hK _ _ ?_; clear hK K)
        refine dg_one 3 15 (by kernel_rfl) rfl (by kernel_rfl) rfl (fun K hK => ?_)
        (simp only [z3, z4, z5])
        (first | ((with_reducible apply gLB F hB7); exact rfl; (with_reducible exact rowQ _); go_simp) | (first | ((with_reducible apply gL F); exact rfl; (exact tL); (with_reducible exact rowQ _); go_simp) | ((refine ⟨?_⟩); go_simp)))
        (refine hK _ _ ?_; clear hK K)
        refine dg_one 4 31 (by kernel_rfl) rfl (by kernel_rfl) rfl (fun K hK => ?_)
        (simp only [z3, z4, z5])
        ((with_reducible apply gSli F slQuo); exact rfl; exact rfl; decide; decide; (go_simp; exact rfl); (exact q_all _); intro b42 W F; (try go_simp))
        (refine hK _ _ ?_; clear hK K)
        exact M b38 v40 X40 b42 W (by first | exact ⟨S40, F, B42⟩ | exact ⟨S40, F.tl, F.here⟩)
      refine dg_want 3 11 rfl (by kernel_rfl) rfl (fun K hK => ?_) ?_
      · skip
        (simp only [z3, z4, z5])
        (first | ((with_reducible apply gLB F hB7); exact rfl; (with_reducible exact rowQ _); go_simp) | (first | ((with_reducible apply gL F); exact rfl; (exact tL); (with_reducible exact rowQ _); go_simp) | ((refine ⟨?_⟩); go_simp)))
        (refine hK _ _ ?_; clear hK K)
        refine dg_ready [2, 4] (by kernel_rfl) rfl ?_
        refine dg_want 2 15 rfl (by kernel_rfl) rfl (fun K hK => ?_) ?_
        · skip
          (simp only [z3, z4, z5])
          ((with_reducible refine gPushB S hFX (by omega) (F.sub (by repeat (first | exact List.Sublist.slnil | apply List.Sublist.cons_cons | apply List.Sublist.cons))) ?_ ?_ ?_); exact rfl; exact rfl; (intro v40 X40 W S40 F40 H40); (try (have B42 := H40 _ _ _ (Fr.get F (b := b42) (cs := flatC [.agg (qC q)]) (t := 33) tL) (by intro e; have h := F.dis; simp [e] at h))); clear F H40; (have F := F40); clear F40; (try go_simp))
          (refine hK _ _ ?_; clear hK K)
          refine dg_one 4 31 (by kernel_rfl) rfl (by kernel_rfl) rfl (fun K hK => ?_)
          (simp only [z3, z4, z5])
          ((with_reducible apply gSli F slQuo); exact rfl; exact rfl; decide; decide; (go_simp; exact rfl); (exact q_all _); intro b42 W F; (try go_simp))
          (refine hK _ _ ?_; clear hK K)
          exact M b38 v40 X40 b42 W (by first | exact ⟨S40, F, B42⟩ | exact ⟨S40, F.tl, F.here⟩)
        refine dg_want 4 27 rfl (by kernel_rfl) rfl (fun K hK => ?_) ?_
        · skip
          (simp only [z3, z4, z5])
          ((with_reducible apply gSli F slQuo); exact rfl; exact rfl; decide; decide; (go_simp; exact rfl); (exact q_all _); intro b42 W F; (try go_simp))
          (refine hK _ _ ?_; clear hK K)
          refine dg_one 2 31 (by kernel_rfl) rfl (by kernel_rfl) rfl (fun K hK => ?_)
          (simp only [z3, z4, z5])
          ((with_reducible refine gPushB S hFX (by omega) (F.sub (by repeat (first | exact List.Sublist.slnil | apply List.Sublist.cons_cons | apply List.Sublist.cons))) ?_ ?_ ?_); exact rfl; exact rfl; (intro v40 X40 W S40 F40 H40); (try (have B42 := H40 _ _ _ (Fr.get F (b := b42) (cs := flatC [.agg (qC q)]) (t := 33) tL) (by intro e; have h := F.dis; simp [e] at h))); clear F H40; (have F := F40); clear F40; (try go_simp))
          (refine hK _ _ ?_; clear hK K)
          exact M b38 v40 X40 b42 W (by first | exact ⟨S40, F, B42⟩ | exact ⟨S40, F.tl, F.here⟩)
        exact dg_nil
      exact dg_nil
    refine dg_want 3 10 rfl (by kernel_rfl) rfl (fun K hK => ?_) ?_
    · skip
      (simp only [z3, z4, z5])
      (first | ((with_reducible apply gLB F hB7); exact rfl; (with_reducible exact rowQ _); go_simp) | (first | ((with_reducible apply gL F); exact rfl; (exact tL); (with_reducible exact rowQ _); go_simp) | ((refine ⟨?_⟩); go_simp)))
      (refine hK _ _ ?_; clear hK K)
      refine dg_ready [0, 4] (by kernel_rfl) rfl ?_
      refine dg_want 0 11 rfl (by kernel_rfl) rfl (fun K hK => ?_) ?_
      · skip
        (simp only [z3, z4, z5])
        ((with_reducible apply gSli0 F slQuo); intro b38 W F; (try go_simp))
        (refine hK _ _ ?_; clear hK K)
        refine dg_ready [2, 4] (by kernel_rfl) rfl ?_
        refine dg_want 2 15 rfl (by kernel_rfl) rfl (fun K hK => ?_) ?_
        · skip
          (simp only [z3, z4, z5])
          ((with_reducible refine gPushB S hFX (by omega) (F.sub (by repeat (first | exact List.Sublist.slnil | apply List.Sublist.cons_cons | apply List.Sublist.cons))) ?_ ?_ ?_); exact rfl; exact rfl; (intro v40 X40 W S40 F40 H40); (try (have B42 := H40 _ _ _ (Fr.get F (b := b42) (cs := flatC [.agg (qC q)]) (t := 33) tL) (by intro e; have h := F.dis; simp [e] at h))); clear F H40; (have F := F40); clear F40; (try go_simp))
          (refine hK _ _ ?_; clear hK K)
          refine dg_one 4 31 (by kernel_rfl) rfl (by kernel_rfl) rfl (fun K hK => ?_)
          (simp only [z3, z4, z5])
          ((with_reducible apply gSli F slQuo); exact rfl; exact rfl; decide; decide; (go_simp; exact rfl); (exact q_all _); intro b42 W F; (try go_simp))
          (refine hK _ _ ?_; clear hK K)
          exact M b38 v40 X40 b42 W (by first | exact ⟨S40, F, B42⟩ | exact ⟨S40, F.tl, F.here⟩)
        refine dg_want 4 27 rfl (by kernel_rfl) rfl (fun K hK => ?_) ?_
        · skip
          (simp only [z3, z4, z5])
          ((with_reducible apply gSli F slQuo); exact rfl; exact rfl; decide; decide; (go_simp; exact rfl); (exact q_all _); intro b42 W F; (try go_simp))
          (refine hK _ _ ?_; clear hK K)
          refine dg_one 2 31 (by kernel_rfl) rfl (by kernel_rfl) rfl (fun K hK => ?_)
          (simp only [z3, z4, z5])
          ((with_reducible refine gPushB S hFX (by omega) (F.sub (by repeat (first | exact List.Sublist.slnil | apply List.Sublist.cons_cons | apply List.Sublist.cons))) ?_ ?_ ?_); exact rfl; exact rfl; (intro v40 X40 W S40 F40 H40); (try (have B42 := H40 _ _ _ (Fr.get F (b := b42) (cs := flatC [.agg (qC q)]) (t := 33) tL) (by intro e; have h := F.dis; simp [e] at h))); clear F H40; (have F := F40); clear F40; (try go_simp))
          (refine hK _ _ ?_; clear hK K)
          exact M b38 v40 X40 b42 W (by first | exact ⟨S40, F, B42⟩ | exact ⟨S40, F.tl, F.here⟩)
        exact dg_nil
      refine dg_want 4 26 rfl (by kernel_rfl) rfl (fun K hK => ?_) ?_
      · skip
        (simp only [z3, z4, z5])
        ((with_reducible apply gSli F slQuo); exact rfl; exact rfl; decide; decide; (go_simp; exact rfl); (exact q_all _); intro b42 W F; (try go_simp))
        (refine hK _ _ ?_; clear hK K)
        refine dg_one 0 27 (by kernel_rfl) rfl (by kernel_rfl) rfl (fun K hK => ?_)
        (simp only [z3, z4, z5])
        ((with_reducible apply gSli0 F slQuo); intro b38 W F; (try go_simp))
        (refine hK _ _ ?_; clear hK K)
        refine dg_one 2 31 (by kernel_rfl) rfl (by kernel_rfl) rfl (fun K hK => ?_)
        (simp only [z3, z4, z5])
        ((with_reducible refine gPushB S hFX (by omega) (F.sub (by repeat (first | exact List.Sublist.slnil | apply List.Sublist.cons_cons | apply List.Sublist.cons))) ?_ ?_ ?_); exact rfl; exact rfl; (intro v40 X40 W S40 F40 H40); (try (have B42 := H40 _ _ _ (Fr.get F (b := b42) (cs := flatC [.agg (qC q)]) (t := 33) tL) (by intro e; have h := F.dis; simp [e] at h))); clear F H40; (have F := F40); clear F40; (try go_simp))
        (refine hK _ _ ?_; clear hK K)
        exact M b38 v40 X40 b42 W (by first | exact ⟨S40, F, B42⟩ | exact ⟨S40, F.tl, F.here⟩)
      exact dg_nil
    exact dg_nil
  clear F
  intro b38 v40 X40 b42 W hM
  obtain ⟨S40, F, B42⟩ := hM
  refine dg_one 5 63 (by kernel_rfl) rfl (by kernel_rfl) rfl (fun K hK => ?_)
  (simp only [z3, z4, z5])
  ((with_reducible refine gPushQ S40 F (by omega) B42 ?_ ?_ ?_); exact rfl; exact rfl; (clear F); (intro v43 X43 W S43 F); (try go_simp))
  (refine hK _ _ ?_; clear hK K)
  refine dg_one 6 127 (by kernel_rfl) rfl (by kernel_rfl) rfl (fun K hK => ?_)
  (simp only [z3, z4, z5])
  ((refine ⟨?_⟩); go_simp)
  (refine hK _ _ ?_; clear hK K)
  refine dg_end (by kernel_rfl) ?_ _
  replace F := HF0.out.join F
  clear S40 B42 HF0 hB7
  subst hLn
  have hM2 := hM.snoc hq (by omega) (by decide)
  have hl2 : (L ++ [q]).length = L.length + 1 := by simp
  have S2 : SlG 33 72 v43 (L ++ [q]).length (qCs (L ++ [q])) X43 := by rw [hl2, qCs_snoc]; exact S43
  clear S43
  have hqk := hq.known
  have hq2 : QuoV q.known q := by have h := hq; rw [← hqk] at h; exact h
  have hco := fun s i d => at_corrects hM hq2 (M := 2147483647) (by omega) (by omega) s i d
  rw [hqk] at hco
  obtain ⟨A, c, rfl, -⟩ := hM.at (S.ownL hFX) (by omega)
  obtain ⟨A', c', rfl, -⟩ := hM2.at (S2.ownL (F.sub (List.sublist_append_left _ _))) (by omega)
  rw [hl2]
  obtain ⟨R, hR⟩ : ∃ R : Bs → Bs → Int → QT × Bool, ∀ s i d, atV (visQ L 2147483647) s i d = R s i d := ⟨_, fun _ _ _ => rfl⟩
  have hRa : ∀ s i d, (R s i d).1.a < bp 32 ∧ (R s i d).1.b < bp 32 := fun s i d => by
    rw [← hR]
    exact atV_of (p := fun q => q.a < bp 32 ∧ q.b < bp 32) ⟨bp_pos 32, bp_pos 32⟩ (fun x hx => ⟨lt32' (hM.mem x (visQ_mem hx)).a, lt32' (hM.mem x (visQ_mem hx)).b⟩)
  simp only [hR] at hco
  have gA : ∀ (s i : Bs) (d : Int) (u W : World), Fr u W (X43 ++ (b7, qC q, 33) :: X) → Calls Tryz.prog 11 #[.slice A L.length c, .int .i64 2147483647, .string (bs s), .string (bs i), .int .i64 d] W (RetB (.tuple #[.agg (qC (R s i d).1), .bool (R s i d).2, .int .i64 0]) W) := fun s i d u W F =>
    qat_any (er := 0) (by omega) (S.book hM (by omega) (F.sub ((List.Sublist.cons _ (List.Sublist.refl _)).trans (List.sublist_append_right _ _)))) (hM.err (by omega)) (by rw [if_pos rfl, hR])
  have gB : ∀ (k : Int) (r : QT × Bool) (s i : Bs) (d : Int) (u W : World), atV (visQ (L ++ [q]) k) s i d = r → Fr u W (X43 ++ (b7, qC q, 33) :: X) → Calls Tryz.prog 11 #[.slice A' (L.length + 1) c', .int .i64 k, .string (bs s), .string (bs i), .int .i64 d] W (RetB (.tuple #[.agg (qC r.1), .bool r.2, .int .i64 0]) W) := fun k r s i d u W hr F => by
    have h := qat_any (cp := c') (k := k) (s := s) (i := i) (d := d) (er := 0) (r := r) (by omega) (S2.book hM2 (by omega) (F.sub (List.sublist_append_left _ _))) (hM2.err (by omega)) (by rw [if_pos rfl, hr])
    rw [hl2] at h
    exact h
  have gC := fun s i d u W F => gB 99 (R s i d) s i d u W (hco s i d).1 F
  have gD := fun s i d u W F => gB 100 _ s i d u W (hco s i d).2 F
  have qqR := fun s i d w => eq_quo (R s i d).1 (hRa s i d).1 (hRa s i d).2 w
  have qq := fun w => eq_quo q hq.wf.a hq.wf.b w
  clear gB hco hRa hR hM hM2 S S2 hFX hqk hq2 hq hl2 hn2
  generalize L.length = n at *
  go_wp2_with (first | go_skip | refine aYQ ?_ | ((with_reducible apply fSli F slInt); exact rfl; exact rfl; exact rfl; decide; decide; (go_simp; exact rfl); exact rfl) | ((with_reducible apply fSli F slStr); exact rfl; exact rfl; exact rfl; decide; decide; (go_simp; exact rfl); exact rfl) | (refine aTQ ?_; clear F; intro W F) | refine aNQ ?_)
  go_loopw [9] (fun iv wr => ∃ (i : Nat) (u : World), i ≤ 4 ∧ iv = .int .i64 i ∧ Tp w1 u b b (3 * (4 - i)) ∧ Fr u wr (X43 ++ (b7, qC q, 33) :: X)) (fun iv _ => 5 - (intOf iv).toNat)
  case atStart => exact ⟨0, _, by omega, rfl, T.less (by omega), F⟩
  case round =>
    clear F T
    obtain ⟨i, u, hi, rfl, T, F⟩ := hrel
    by_cases hlt : i < 4
    · obtain ⟨M, hM1, hM2⟩ : ∃ M, 3 * (4 - i) = M + 3 ∧ M = 3 * (4 - (i + 1)) := ⟨3 * (4 - (i + 1)), by omega, rfl⟩
      rw [hM1] at T
      have HM2 := Lib.hid hM2
      clear hM1 hM2
      go_upto_region 10 with (first | go_skip | refine aYQ ?_ | ((with_reducible apply fSli F slInt); exact rfl; exact rfl; exact rfl; decide; decide; (go_simp; exact rfl); exact rfl) | ((with_reducible apply fSli F slStr); exact rfl; exact rfl; exact rfl; decide; decide; (go_simp; exact rfl); exact rfl) | (refine aTQ ?_; clear F; intro W F) | refine aNQ ?_)
      try simp only [Act.put, z6, z1, z2]
      refine wp_region_bm 14 (by kernel_rfl) rfl ?_
      replace F := F.drew
      revert F
      generalize World.drew _ = W
      intro F
      (refine dg_take 1 49 2 (v := ?_) rfl (by kernel_rfl) (by kernel_rfl) (by kernel_rfl) (by kernel_rfl) (by kernel_rfl) (fun _ _ _ h => h) (Or.inl ⟨by kernel_rfl, ?_⟩) ?_; rotate_left; (focus (intro w; go_simp; try (with_reducible rfl))); (simp only [z1, z2]))
      (refine dg_take 5 53 34 (v := ?_) rfl (by kernel_rfl) (by kernel_rfl) (by kernel_rfl) (by kernel_rfl) (by kernel_rfl) (fun _ _ _ h => h) (Or.inl ⟨by kernel_rfl, ?_⟩) ?_; rotate_left; (focus (intro w; go_simp; try (with_reducible rfl))); (simp only [z1, z2]))
      (refine dg_take 7 55 162 (v := ?_) rfl (by kernel_rfl) (by kernel_rfl) (by kernel_rfl) (by kernel_rfl) (by kernel_rfl) (fun _ _ _ h => h) (Or.inl ⟨by kernel_rfl, ?_⟩) ?_; rotate_left; (focus (intro w; go_simp; try (with_reducible rfl))); (simp only [z1, z2]))
      (refine dg_take 8 56 418 (v := ?_) rfl (by kernel_rfl) (by kernel_rfl) (by kernel_rfl) (by kernel_rfl) (by kernel_rfl) (fun _ _ _ h => h) (Or.inl ⟨by kernel_rfl, ?_⟩) ?_; rotate_left; (focus (intro w; go_simp; try (with_reducible rfl))); (simp only [z1, z2]))
      refine dg_one 0 419 (by kernel_rfl) rfl (by kernel_rfl) rfl (fun K hK => ?_)
      (simp only [z3, z4, z5])
      ((refine ⟨?_⟩); go_simp; (first | ((refine (sources_any _).mono ?_); (rintro e W2 ⟨g, rfl, hb1, hb2, hb3⟩); (replace F := Fr.push F hb1 hb2 hb3); (clear hb1 hb2 hb3); (try dsimp only)) | ((with_reducible refine fr_tap F T (tnext 4 (by decide) (by decide) (T.at F)) ?_); (try clear F T); (rintro _ u W ⟨j, rfl, hj⟩ T F); (try dsimp only)) | ((with_reducible refine fr_tap F T (tnext 3 (by decide) (by decide) (T.at F)) ?_); (try clear F T); (rintro _ u W ⟨k, rfl, hk⟩ T F); (try dsimp only)) | ((with_reducible refine fr_tap F T (tpaper (T.at F)) ?_); (try clear F T); (rintro _ u W ⟨p, rfl, hp⟩ T F); (try dsimp only)) | skip))
      (refine hK _ _ ?_; clear hK K)
      refine dg_one 2 423 (by kernel_rfl) rfl (by kernel_rfl) rfl (fun K hK => ?_)
      (simp only [z3, z4, z5])
      ((refine ⟨?_⟩); go_simp; (first | ((refine (sources_any _).mono ?_); (rintro e W2 ⟨g, rfl, hb1, hb2, hb3⟩); (replace F := Fr.push F hb1 hb2 hb3); (clear hb1 hb2 hb3); (try dsimp only)) | ((with_reducible refine fr_tap F T (tnext 4 (by decide) (by decide) (T.at F)) ?_); (try clear F T); (rintro _ u W ⟨j, rfl, hj⟩ T F); (try dsimp only)) | ((with_reducible refine fr_tap F T (tnext 3 (by decide) (by decide) (T.at F)) ?_); (try clear F T); (rintro _ u W ⟨k, rfl, hk⟩ T F); (try dsimp only)) | ((with_reducible refine fr_tap F T (tpaper (T.at F)) ?_); (try clear F T); (rintro _ u W ⟨p, rfl, hp⟩ T F); (try dsimp only)) | skip))
      (refine hK _ _ ?_; clear hK K)
      (refine dg_take 3 51 431 (v := ?_) rfl (by kernel_rfl) (by kernel_rfl) (by kernel_rfl) (by kernel_rfl) (by kernel_rfl) (fun _ _ _ h => h) (Or.inl ⟨by kernel_rfl, ?_⟩) ?_; rotate_left; (focus (intro w; go_simp; try (with_reducible rfl))); (simp only [z1, z2]))
      apply dg_m3 (f' := 1) (m' := 8191) (H := fun (p : Bs) (k : Nat) (u : World) (W : World) => (k : Int) < 3 ∧ Tp w1 u b b M ∧ Fr u W ((g, srcC, 9) :: (X43 ++ (b7, qC q, 33) :: X)))
      · intro M
        refine dg_ready [4, 6] (by kernel_rfl) rfl ?_
        refine dg_want 4 447 rfl (by kernel_rfl) rfl (fun K hK => ?_) ?_
        · skip
          (simp only [z3, z4, z5])
          (first | ((with_reducible apply gLc F); exact rfl; (exact tL); (with_reducible exact scStr); (exact src_at (by omega)); go_simp) | (first | ((with_reducible apply gLc F); exact rfl; (exact tL); (with_reducible exact scStr); (first | (with_reducible exact q_src _) | (with_reducible exact q_ins _) | (with_reducible exact q_cur _) | (with_reducible exact q_day _) | (with_reducible exact q_known _) | (with_reducible exact q_void _) | exact rfl); go_simp) | ((refine ⟨?_⟩); go_simp)))
          (refine hK _ _ ?_; clear hK K)
          refine dg_one 6 511 (by kernel_rfl) rfl (by kernel_rfl) rfl (fun K hK => ?_)
          (simp only [z3, z4, z5])
          ((refine ⟨?_⟩); go_simp; (first | ((refine (sources_any _).mono ?_); (rintro e W2 ⟨g, rfl, hb1, hb2, hb3⟩); (replace F := Fr.push F hb1 hb2 hb3); (clear hb1 hb2 hb3); (try dsimp only)) | ((with_reducible refine fr_tap F T (tnext 4 (by decide) (by decide) (T.at F)) ?_); (try clear F T); (rintro _ u W ⟨j, rfl, hj⟩ T F); (try dsimp only)) | ((with_reducible refine fr_tap F T (tnext 3 (by decide) (by decide) (T.at F)) ?_); (try clear F T); (rintro _ u W ⟨k, rfl, hk⟩ T F); (try dsimp only)) | ((with_reducible refine fr_tap F T (tpaper (T.at F)) ?_); (try clear F T); (rintro _ u W ⟨p, rfl, hp⟩ T F); (try dsimp only)) | skip))
          (refine hK _ _ ?_; clear hK K)
          refine dg_one 9 1023 (by kernel_rfl) rfl (by kernel_rfl) rfl (fun K hK => ?_)
          (simp only [z3, z4, z5])
          ((refine ⟨?_⟩); go_simp; (first | ((refine (sources_any _).mono ?_); (rintro e W2 ⟨g, rfl, hb1, hb2, hb3⟩); (replace F := Fr.push F hb1 hb2 hb3); (clear hb1 hb2 hb3); (try dsimp only)) | ((with_reducible refine fr_tap F T (tnext 4 (by decide) (by decide) (T.at F)) ?_); (try clear F T); (rintro _ u W ⟨j, rfl, hj⟩ T F); (try dsimp only)) | ((with_reducible refine fr_tap F T (tnext 3 (by decide) (by decide) (T.at F)) ?_); (try clear F T); (rintro _ u W ⟨k, rfl, hk⟩ T F); (try dsimp only)) | ((with_reducible refine fr_tap F T (tpaper (T.at F)) ?_); (try clear F T); (rintro _ u W ⟨p, rfl, hp⟩ T F); (try dsimp only)) | skip))
          (refine hK _ _ ?_; clear hK K)
          (refine dg_take 10 58 2047 (v := ?_) rfl (by kernel_rfl) (by kernel_rfl) (by kernel_rfl) (by kernel_rfl) (by kernel_rfl) (fun _ _ _ h => h) (Or.inl ⟨by kernel_rfl, ?_⟩) ?_; rotate_left; (focus (intro w; go_simp; try (with_reducible rfl))); (simp only [z1, z2]))
          refine dg_one 11 4095 (by kernel_rfl) rfl (by kernel_rfl) rfl (fun K hK => ?_)
          (simp only [z3, z4, z5])
          ((refine ⟨?_⟩); go_simp)
          (refine hK _ _ ?_; clear hK K)
          refine dg_one 12 8191 (by kernel_rfl) rfl (by kernel_rfl) rfl (fun K hK => ?_)
          (simp only [z3, z4, z5])
          ((refine ⟨?_⟩); go_simp)
          (refine hK _ _ ?_; clear hK K)
          exact M p k u W ⟨hk, T, F⟩
        refine dg_want 6 495 rfl (by kernel_rfl) rfl (fun K hK => ?_) ?_
        · skip
          (simp only [z3, z4, z5])
          ((refine ⟨?_⟩); go_simp; (first | ((refine (sources_any _).mono ?_); (rintro e W2 ⟨g, rfl, hb1, hb2, hb3⟩); (replace F := Fr.push F hb1 hb2 hb3); (clear hb1 hb2 hb3); (try dsimp only)) | ((with_reducible refine fr_tap F T (tnext 4 (by decide) (by decide) (T.at F)) ?_); (try clear F T); (rintro _ u W ⟨j, rfl, hj⟩ T F); (try dsimp only)) | ((with_reducible refine fr_tap F T (tnext 3 (by decide) (by decide) (T.at F)) ?_); (try clear F T); (rintro _ u W ⟨k, rfl, hk⟩ T F); (try dsimp only)) | ((with_reducible refine fr_tap F T (tpaper (T.at F)) ?_); (try clear F T); (rintro _ u W ⟨p, rfl, hp⟩ T F); (try dsimp only)) | skip))
          (refine hK _ _ ?_; clear hK K)
          refine dg_ready [4, 9] (by kernel_rfl) rfl ?_
          refine dg_want 4 511 rfl (by kernel_rfl) rfl (fun K hK => ?_) ?_
          · skip
            (simp only [z3, z4, z5])
            (first | ((with_reducible apply gLc F); exact rfl; (exact tL); (with_reducible exact scStr); (exact src_at (by omega)); go_simp) | (first | ((with_reducible apply gLc F); exact rfl; (exact tL); (with_reducible exact scStr); (first | (with_reducible exact q_src _) | (with_reducible exact q_ins _) | (with_reducible exact q_cur _) | (with_reducible exact q_day _) | (with_reducible exact q_known _) | (with_reducible exact q_void _) | exact rfl); go_simp) | ((refine ⟨?_⟩); go_simp)))
            (refine hK _ _ ?_; clear hK K)
            refine dg_one 9 1023 (by kernel_rfl) rfl (by kernel_rfl) rfl (fun K hK => ?_)
            (simp only [z3, z4, z5])
            ((refine ⟨?_⟩); go_simp; (first | ((refine (sources_any _).mono ?_); (rintro e W2 ⟨g, rfl, hb1, hb2, hb3⟩); (replace F := Fr.push F hb1 hb2 hb3); (clear hb1 hb2 hb3); (try dsimp only)) | ((with_reducible refine fr_tap F T (tnext 4 (by decide) (by decide) (T.at F)) ?_); (try clear F T); (rintro _ u W ⟨j, rfl, hj⟩ T F); (try dsimp only)) | ((with_reducible refine fr_tap F T (tnext 3 (by decide) (by decide) (T.at F)) ?_); (try clear F T); (rintro _ u W ⟨k, rfl, hk⟩ T F); (try dsimp only)) | ((with_reducible refine fr_tap F T (tpaper (T.at F)) ?_); (try clear F T); (rintro _ u W ⟨p, rfl, hp⟩ T F); (try dsimp only)) | skip))
            (refine hK _ _ ?_; clear hK K)
            (refine dg_take 10 58 2047 (v := ?_) rfl (by kernel_rfl) (by kernel_rfl) (by kernel_rfl) (by kernel_rfl) (by kernel_rfl) (fun _ _ _ h => h) (Or.inl ⟨by kernel_rfl, ?_⟩) ?_; rotate_left; (focus (intro w; go_simp; try (with_reducible rfl))); (simp only [z1, z2]))
            refine dg_one 11 4095 (by kernel_rfl) rfl (by kernel_rfl) rfl (fun K hK => ?_)
            (simp only [z3, z4, z5])
            ((refine ⟨?_⟩); go_simp)
            (refine hK _ _ ?_; clear hK K)
            refine dg_one 12 8191 (by kernel_rfl) rfl (by kernel_rfl) rfl (fun K hK => ?_)
            (simp only [z3, z4, z5])
            ((refine ⟨?_⟩); go_simp)
            (refine hK _ _ ?_; clear hK K)
            exact M p k u W ⟨hk, T, F⟩
          refine dg_want 9 1007 rfl (by kernel_rfl) rfl (fun K hK => ?_) ?_
          · skip
            (simp only [z3, z4, z5])
            ((refine ⟨?_⟩); go_simp; (first | ((refine (sources_any _).mono ?_); (rintro e W2 ⟨g, rfl, hb1, hb2, hb3⟩); (replace F := Fr.push F hb1 hb2 hb3); (clear hb1 hb2 hb3); (try dsimp only)) | ((with_reducible refine fr_tap F T (tnext 4 (by decide) (by decide) (T.at F)) ?_); (try clear F T); (rintro _ u W ⟨j, rfl, hj⟩ T F); (try dsimp only)) | ((with_reducible refine fr_tap F T (tnext 3 (by decide) (by decide) (T.at F)) ?_); (try clear F T); (rintro _ u W ⟨k, rfl, hk⟩ T F); (try dsimp only)) | ((with_reducible refine fr_tap F T (tpaper (T.at F)) ?_); (try clear F T); (rintro _ u W ⟨p, rfl, hp⟩ T F); (try dsimp only)) | skip))
            (refine hK _ _ ?_; clear hK K)
            (refine dg_take 10 58 2031 (v := ?_) rfl (by kernel_rfl) (by kernel_rfl) (by kernel_rfl) (by kernel_rfl) (by kernel_rfl) (fun _ _ _ h => h) (Or.inl ⟨by kernel_rfl, ?_⟩) ?_; rotate_left; (focus (intro w; go_simp; try (with_reducible rfl))); (simp only [z1, z2]))
            refine dg_one 4 2047 (by kernel_rfl) rfl (by kernel_rfl) rfl (fun K hK => ?_)
            (simp only [z3, z4, z5])
            (first | ((with_reducible apply gLc F); exact rfl; (exact tL); (with_reducible exact scStr); (exact src_at (by omega)); go_simp) | (first | ((with_reducible apply gLc F); exact rfl; (exact tL); (with_reducible exact scStr); (first | (with_reducible exact q_src _) | (with_reducible exact q_ins _) | (with_reducible exact q_cur _) | (with_reducible exact q_day _) | (with_reducible exact q_known _) | (with_reducible exact q_void _) | exact rfl); go_simp) | ((refine ⟨?_⟩); go_simp)))
            (refine hK _ _ ?_; clear hK K)
            refine dg_one 11 4095 (by kernel_rfl) rfl (by kernel_rfl) rfl (fun K hK => ?_)
            (simp only [z3, z4, z5])
            ((refine ⟨?_⟩); go_simp)
            (refine hK _ _ ?_; clear hK K)
            refine dg_one 12 8191 (by kernel_rfl) rfl (by kernel_rfl) rfl (fun K hK => ?_)
            (simp only [z3, z4, z5])
            ((refine ⟨?_⟩); go_simp)
            (refine hK _ _ ?_; clear hK K)
            exact M p k u W ⟨hk, T, F⟩
          exact dg_nil
        exact dg_nil
      clear F T
      intro p k u W hM
      obtain ⟨hk, T, F⟩ := hM
      refine dg_one 13 16383 (by kernel_rfl) rfl (by kernel_rfl) rfl (fun K hK => ?_)
      (simp only [z3, z4, z5])
      ((refine ⟨?_⟩); go_simp)
      (refine hK _ _ ?_; clear hK K)
      refine dg_end (by kernel_rfl) ?_ _
      replace F := Fr.last F
      clear hj hk
      generalize srcAt j = s0 at *
      generalize IntKind.i64.wrap (9497 - (k : Int)) = d0 at *
      go_wp2_with (first | go_skip | ((go_at_call 11); (with_reducible refine fr_call F (gA _ _ _ _ _ F) ?_); (clear F; intro W F); (try dsimp only)) | refine aYQ ?_ | ((with_reducible apply fSli F slInt); exact rfl; exact rfl; exact rfl; decide; decide; (go_simp; exact rfl); exact rfl) | ((with_reducible apply fSli F slStr); exact rfl; exact rfl; exact rfl; decide; decide; (go_simp; exact rfl); exact rfl) | (refine aTQ ?_; clear F; intro W F) | refine aNQ ?_)
      (clear F; intro b13 W F; try simp only [Act.put, z6, z1, z2])
      go_wp2_with (first | go_skip | ((go_at_call 11); (with_reducible refine fr_call F (gC _ _ _ _ _ (Fr.last F)) ?_); (clear F; intro W F); (try dsimp only)) | refine aYQ ?_ | ((with_reducible apply fSli F slInt); exact rfl; exact rfl; exact rfl; decide; decide; (go_simp; exact rfl); exact rfl) | ((with_reducible apply fSli F slStr); exact rfl; exact rfl; exact rfl; decide; decide; (go_simp; exact rfl); exact rfl) | (refine aTQ ?_; clear F; intro W F) | refine aNQ ?_)
      (clear F; intro b16 W F; try simp only [Act.put, z6, z1, z2])
      have gD2 := fun u W => gD s0 p d0 u W
      obtain ⟨c1, e1⟩ : ∃ c, (s0 == q.src) = c := ⟨_, rfl⟩
      obtain ⟨c2, e2⟩ : ∃ c, (p == q.ins) = c := ⟨_, rfl⟩
      obtain ⟨c3, e3⟩ : ∃ c, (d0 == q.day) = c := ⟨_, rfl⟩
      have hown : (s0 = q.src ∧ p = q.ins ∧ d0 = q.day) ↔ (c1 && (c2 && c3)) = true := by
        rw [← e1, ← e2, ← e3]
        simp
      rw [← bs_toList s0, ← bs_toList q.src] at e1
      rw [← bs_toList p, ← bs_toList q.ins] at e2
      have qr := qqR s0 p d0
      generalize R s0 p d0 = r at *
      obtain ⟨r1, r2⟩ := r
      dsimp only at gD2 qr
      cases hp : (c1 && (c2 && c3))
      · rw [if_neg (fun h => by rw [hown.1 h] at hp; cases hp)] at gD2
        clear hown
        rcases (show c1 = false ∨ (c1 = true ∧ c2 = false) ∨ (c1 = true ∧ c2 = true ∧ c3 = false) by revert hp; cases c1 <;> cases c2 <;> cases c3 <;> simp) with rfl | ⟨rfl, rfl⟩ | ⟨rfl, rfl, rfl⟩
        all_goals
          clear hp
          go_wp2_with (first | go_skip | ((go_at_call 11); (with_reducible refine fr_call F (gD2 _ _ (Fr.last (Fr.last F))) ?_); (clear F; intro W F); (try dsimp only)) | refine aYQ ?_ | ((with_reducible apply fSli F slInt); exact rfl; exact rfl; exact rfl; decide; decide; (go_simp; exact rfl); exact rfl) | ((with_reducible apply fSli F slStr); exact rfl; exact rfl; exact rfl; decide; decide; (go_simp; exact rfl); exact rfl) | (refine aTQ ?_; clear F; intro W F) | refine aNQ ?_)
          (clear F; intro b19 W F; try simp only [Act.put, z6, z1, z2])
          go_wp2_with (first | go_skip | refine aYQ ?_ | ((with_reducible apply fSli F slInt); exact rfl; exact rfl; exact rfl; decide; decide; (go_simp; exact rfl); exact rfl) | ((with_reducible apply fSli F slStr); exact rfl; exact rfl; exact rfl; decide; decide; (go_simp; exact rfl); exact rfl) | (refine aTQ ?_; clear F; intro W F) | refine aNQ ?_)
          go_roundw
          case rel => exact ⟨i + 1, u, by omega, by go_num, by rw [← HM2.out]; exact T, Fr.last (Fr.last (Fr.last F))⟩
          case measure => simp [intOf]; omega
      · rw [if_pos (hown.2 hp)] at gD2
        clear hown
        obtain ⟨rfl, rfl, rfl⟩ : c1 = true ∧ c2 = true ∧ c3 = true := by revert hp; cases c1 <;> cases c2 <;> cases c3 <;> simp
        clear hp
        cases hv : q.void
        all_goals
          rw [hv] at gD2
          simp only [if_true, Bool.false_eq_true, if_false] at gD2
          go_wp2_with (first | go_skip | ((go_at_call 11); (with_reducible refine fr_call F (gD2 _ _ (Fr.last (Fr.last F))) ?_); (clear F; intro W F); (try dsimp only)) | refine aYQ ?_ | ((with_reducible apply fSli F slInt); exact rfl; exact rfl; exact rfl; decide; decide; (go_simp; exact rfl); exact rfl) | ((with_reducible apply fSli F slStr); exact rfl; exact rfl; exact rfl; decide; decide; (go_simp; exact rfl); exact rfl) | (refine aTQ ?_; clear F; intro W F) | refine aNQ ?_)
          (clear F; intro b19 W F; try simp only [Act.put, z6, z1, z2])
          go_wp2_with (first | go_skip | refine aYQ ?_ | ((with_reducible apply fSli F slInt); exact rfl; exact rfl; exact rfl; decide; decide; (go_simp; exact rfl); exact rfl) | ((with_reducible apply fSli F slStr); exact rfl; exact rfl; exact rfl; decide; decide; (go_simp; exact rfl); exact rfl) | (refine aTQ ?_; clear F; intro W F) | refine aNQ ?_)
          go_roundw
          case rel => exact ⟨i + 1, u, by omega, by go_num, by rw [← HM2.out]; exact T, Fr.last (Fr.last (Fr.last F))⟩
          case measure => simp [intOf]; omega
    · have gE := fun u W => gD q.src q.ins q.day u W
      rw [if_pos ⟨rfl, rfl, rfl⟩] at gE
      clear gA gC gD qqR
      cases hv : q.void
      all_goals
        rw [hv] at gE
        simp only [if_true, Bool.false_eq_true, if_false] at gE
        go_wp2_with (first | go_skip | ((go_at_call 11); (with_reducible refine fr_call F (gE _ _ F) ?_); (clear F; intro W F); (try dsimp only)) | refine aYQ ?_ | ((with_reducible apply fSli F slInt); exact rfl; exact rfl; exact rfl; decide; decide; (go_simp; exact rfl); exact rfl) | ((with_reducible apply fSli F slStr); exact rfl; exact rfl; exact rfl; decide; decide; (go_simp; exact rfl); exact rfl) | (refine aTQ ?_; clear F; intro W F) | refine aNQ ?_)
        (clear F; intro b23 W F; try simp only [Act.put, z6, z1, z2])
        go_wp2_with (first | go_skip | ((go_at_call 13); (with_reducible refine fr_call F (qknown14_any _) ?_); (clear F; intro W F); (try dsimp only)) | refine aYQ ?_ | ((with_reducible apply fSli F slInt); exact rfl; exact rfl; exact rfl; decide; decide; (go_simp; exact rfl); exact rfl) | ((with_reducible apply fSli F slStr); exact rfl; exact rfl; exact rfl; decide; decide; (go_simp; exact rfl); exact rfl) | (refine aTQ ?_; clear F; intro W F) | refine aNQ ?_)
        go_ret
        exact HO.out _ _ _ _ T F
end
section
open Go.ChangeShapes Go.WideShapes Go.ChangeAt Go.RowKit Go.Deep
theorem gP10 : Tryz.prog.globalNamed "internal/strconv.uint64pow10" = some 6 := by kernel_rfl
end
section
open Go.ChangeShapes Go.WideShapes Go.ChangeAt Go.RowKit Go.Deep
abbrev laid7 : List (String × DataW Unit) := [("math/bits.deBruijn32tab", Rows.laid_math_bits_deBruijn32tab), ("math/bits.deBruijn64tab", Rows.laid_math_bits_deBruijn64tab), ("internal/strconv.uint64pow10", Rows.laid_internal_strconv_uint64pow10), ("unicode/utf8.acceptRanges", Rows.laid_unicode_utf8_acceptRanges), ("strconv.ErrRange", Rows.laid_strconv_ErrRange), ("strconv.ErrSyntax", Rows.laid_strconv_ErrSyntax), ("unicode/utf8.first", Rows.laid_unicode_utf8_first)]
theorem tab7 {W : World} (h : laidMetH Tryz.prog laid7 W) : Tab W := by
  rw [MakeChecks.laidMetH_plain _ _ _ (by kernel_rfl)] at h
  obtain ⟨ps, ⟨g0, t0, cs0, f0, p0, q0, hg0, ht0, hv0, hd0, ⟨g1, t1, cs1, f1, p1, q1, hg1, ht1, hv1, hd1, ⟨g2, t2, cs2, f2, p2, q2, hg2, ht2, hv2, hd2, _, _⟩, _⟩, _⟩, _, _⟩ := h
  obtain rfl := Option.some.inj (gP10.symm.trans hg2)
  obtain ⟨t, e, n, hty, hu, he, hce, hct⟩ : ∃ t e n, (Tryz.prog.globals[6]?).map (·.type) = some t ∧ Tryz.prog.underlying t = some (.array n e) ∧ Tryz.prog.underlying e = some (.int .u64) ∧ Tryz.prog.cellsOf e = 1 ∧ Tryz.prog.cellsOf t = n := ⟨_, _, _, by kernel_rfl, Tryz.underlying261, Tryz.underlying171, by kernel_rfl, by kernel_rfl⟩
  obtain rfl := Option.some.inj (hty.symm.trans ht2)
  unfold Tab Lib.TabIs
  rw [hv2, ← Lib.cells_of_tab hu he hce hct hd2]
theorem door7 (os : Os) (args : Array Value) : laidMetH Tryz.prog laid7 ((World.laidAll Tryz.prog os laid7).forCall (fun _ _ => 0) ⟨#[], args, []⟩).memory := by
  rw [MakeChecks.laidMetH_plain _ _ _ (by kernel_rfl)]
  exact laidMet_laidAll _ (by kernel_rfl) (by kernel_rfl)
end
section
def hH : List Char := [104, 97, 114, 110, 101, 115, 115].map Char.ofNat
def hS : List Char := [49, 97, 50, 56, 100, 98, 50, 50, 52, 102, 101, 101, 52, 56, 52, 54, 48, 98, 99, 55, 55, 102, 98, 101, 100, 49, 48, 98, 50, 100, 101, 55, 53, 101, 54, 98, 54, 102, 100, 55, 101, 51, 48, 100, 98, 52, 55, 55, 100, 57, 57, 98, 53, 53, 102, 48, 101, 99, 57, 57, 51, 49, 97, 57].map Char.ofNat
def hC : List Char := [99, 117, 116].map Char.ofNat
def hQ : List Char := [97, 116, 32, 102, 117, 110, 100, 97, 100, 109, 105, 110, 47, 102, 117, 110, 100, 97, 100, 109, 105, 110, 108, 97, 119, 49, 52, 46, 81, 117, 111, 116, 101, 66, 111, 111, 107, 115, 32, 102, 117, 110, 100, 97, 100, 109, 105, 110, 47, 102, 117, 110, 100, 97, 100, 109, 105, 110, 108, 97, 119, 49, 52, 46, 81, 117, 111, 116, 101, 80, 108, 97, 121, 115, 32, 102, 117, 110, 100, 97, 100, 109, 105, 110, 47, 102, 117, 110, 100, 97, 100, 109, 105, 110, 108, 97, 119, 49, 52, 46, 81, 117, 111, 116, 101, 67, 111, 114, 114, 101, 99, 116, 115, 32, 102, 117, 110, 100, 97, 100, 109, 105, 110, 47, 102, 117, 110, 100, 97, 100, 109, 105, 110, 108, 97, 119, 49, 52, 46, 81, 117, 111, 116, 101, 76, 105, 110, 101, 115, 32, 102, 117, 110, 100, 97, 100, 109, 105, 110, 47, 102, 117, 110, 100, 97, 100, 109, 105, 110, 108, 97, 119, 49, 52, 46, 81, 117, 111, 116, 101, 82, 101, 97, 100, 115, 32, 102, 117, 110, 100, 97, 100, 109, 105, 110, 47, 102, 117, 110, 100, 97, 100, 109, 105, 110, 108, 97, 119, 49, 52, 46, 81, 117, 111, 116, 101, 66, 97, 99, 107].map Char.ofNat
def hB : Char := Char.ofNat 32
theorem ord_eq : Tryz.prog.initOrder = String.ofList (hH ++ hB :: (hS ++ hB :: (hC ++ hB :: hQ))) := by kernel_rfl
theorem ord_list : Tryz.prog.initOrder.toList = hH ++ hB :: (hS ++ hB :: (hC ++ hB :: hQ)) := by rw [ord_eq]; exact String.toList_ofList
theorem words_app (p r : List Char) (h : p.all (fun c => decide (c ≠ hB)) = true) : wordsSigns (p ++ hB :: r) = p :: wordsSigns r := by
  induction p with
  | nil => rfl
  | cons c p ih =>
    simp only [List.all_cons, Bool.and_eq_true, decide_eq_true_eq] at h
    have ih' := ih h.2
    show wordsSigns (c :: (p ++ hB :: r)) = (c :: p) :: wordsSigns r
    rw [wordsSigns.eq_def]
    split
    · rename_i hh; cases hh
    · rename_i r' hh
      injection hh with h1 h2
      exact absurd h1 h.1
    · rename_i c' r' _ hh
      injection hh with h1 h2
      subst h1 h2
      rw [ih']
theorem behind_at (h : List Char) (t : List Char) (r : List (List Char)) (hh : ((h == "harness".toList || h == "ownmain".toList) && isSumSigns t) = true) : behindMainWord (h :: t :: r) = r := by
  show (if ((h == "harness".toList || h == "ownmain".toList) && isSumSigns t) = true then r else h :: t :: r) = r
  rw [if_pos hh]
theorem behind : behindMainWord (wordsSigns Tryz.prog.initOrder.toList) = hC :: wordsSigns hQ := by
  rw [ord_list, words_app _ _ (by decide +kernel), words_app _ _ (by decide +kernel), words_app _ _ (by decide +kernel)]
  exact behind_at _ _ _ (by decide +kernel)
theorem st1 (o : String) (os : List String) (w : List Char) (ws : List (List Char)) (h : (w == o.toList) = false) : stripLifts (o :: os) (w :: ws) = stripLifts os (w :: ws) := by
  rw [stripLifts, h]; rfl
theorem strip_cut (ws : List (List Char)) : stripLifts liftWords (hC :: ws) = ([], hC :: ws) := by
  show stripLifts ["finals", "reflectrows", "leanrows", "onebuild", "publicsums", "eqguard", "ownunsafe", "libbeside", "ownbeside", "reflbeside", "aliases", "afterinit", "crcplain", "roadunsafe", "fmthandon"] (hC :: ws) = _
  rw [st1 _ _ _ _ (by decide +kernel), st1 _ _ _ _ (by decide +kernel), st1 _ _ _ _ (by decide +kernel), st1 _ _ _ _ (by decide +kernel), st1 _ _ _ _ (by decide +kernel), st1 _ _ _ _ (by decide +kernel), st1 _ _ _ _ (by decide +kernel), st1 _ _ _ _ (by decide +kernel), st1 _ _ _ _ (by decide +kernel), st1 _ _ _ _ (by decide +kernel), st1 _ _ _ _ (by decide +kernel), st1 _ _ _ _ (by decide +kernel), st1 _ _ _ _ (by decide +kernel), st1 _ _ _ _ (by decide +kernel), st1 _ _ _ _ (by decide +kernel)]
  rfl
theorem mayEnter_of (P : Program) (ws : List (List Char)) (h : behindMainWord (wordsSigns P.initOrder.toList) = hC :: ws) (h1 : P.laysLater = false) (h2 : P.bearsReflect = false) (h3 : P.doorFits [] = true) : P.mayEnter = true := by
  unfold Program.mayEnter
  rw [h]
  simp only [strip_cut, h1, h2, h3]
  have e : ((List.head? (hC :: ws)) == some "cut".toList) = true := by
    show (hC == "cut".toList) = true
    decide +kernel
  rw [e]
  simp
theorem headLifts_of (P : Program) (ws : List (List Char)) (h : behindMainWord (wordsSigns P.initOrder.toList) = hC :: ws) : P.headLifts = [] := by
  unfold Program.headLifts
  rw [h]
  simp only [strip_cut]
  split <;> rfl
theorem liftsFinal_of (P : Program) (ws : List (List Char)) (h : behindMainWord (wordsSigns P.initOrder.toList) = hC :: ws) : P.liftsFinal = false := by
  unfold Program.liftsFinal
  rw [h, headLifts_of P ws h]
  have e : ((List.head? (hC :: ws)) == some "carried".toList) = false := by
    show (hC == "carried".toList) = false
    decide +kernel
  simp only [e]
  simp
theorem make_of (P : Program) (ws : List (List Char)) (h : behindMainWord (wordsSigns P.initOrder.toList) = hC :: ws) : P.make = some .cut := by
  unfold Program.make
  rw [h]
  have e1 : (hC == "gc".toList || hC == "spec".toList) = false := by decide +kernel
  have e2 : (hC == "cut".toList) = true := by decide +kernel
  simp only [e1, e2]
  simp
theorem mayEnter_eq : Tryz.prog.mayEnter = true := mayEnter_of _ _ behind (by kernel_rfl) (by kernel_rfl) (by kernel_rfl)
theorem liftsFinal_eq : Tryz.prog.liftsFinal = false := liftsFinal_of _ _ behind
theorem make_eq : Tryz.prog.make = some .cut := make_of _ _ behind
end
end Go.Proofs.YteaahhokaffmdaaGreatDoor
