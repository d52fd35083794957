/- What the laws lean on. -/
import Derived.Test.YteaahhokaffmdaaGreatDoorPr11
import Derived.Test.YteaahhokaffmdaaGreatDoorShelf4
import Derived.Lib.ConvBytes
namespace Go.Proofs.YteaahhokaffmdaaGreatDoor
set_option linter.unusedVariables false
set_option linter.unusedSimpArgs false
section
open Go.RowKit
set_option maxHeartbeats 4000000
def arrC (P : List (List UInt8)) : Array Value := ((P ++ List.replicate (5 - P.length) []).map fun l => Value.string (bs l)).toArray
theorem arr_at {P : List (List UInt8)} (h : P.length < 5) : (arrC P)[P.length]? = some (.string (bs [])) := by
  unfold arrC
  rw [List.getElem?_toArray, List.getElem?_map, List.getElem?_append_right (Nat.le_refl _), Nat.sub_self, List.getElem?_replicate, if_pos (by omega)]
  rfl
theorem arr_set {P : List (List UInt8)} (h : P.length < 5) (x : List UInt8) : (arrC P).setIfInBounds P.length (.string (bs x)) = arrC (P ++ [x]) := by
  apply Array.toList_inj.1
  unfold arrC
  rw [Array.toList_setIfInBounds, List.toList_toArray, List.toList_toArray, List.map_append, List.set_append_right _ _ (by simp), List.length_map, Nat.sub_self]
  obtain ⟨m, hm⟩ : ∃ m, 5 - P.length = m + 1 := ⟨4 - P.length, by omega⟩
  rw [hm, List.length_append, List.length_singleton, show 5 - (P.length + 1) = m by omega, List.replicate_succ, List.map_cons, List.set_cons_zero, List.append_assoc, List.map_append, List.map_append]
  rfl
theorem arr_five (a b c d p : List UInt8) : arrC [a, b, c, d, p] = #[.string (bs a), .string (bs b), .string (bs c), .string (bs d), .string (bs p)] := rfl
section
variable {o : Oper} {a : Act} {W w : World} {F A L : List Ent} {K : Act → World → Prop} {Q : Exit → Act → World → Prop} {ops : Array Oper} {rest : List Oper} {dst : Option Tmp} {ty : TypeId} {pos : String} {af : Array Edge} {gd : Option (Nat × Bool)} {x y : Operand} {cs cs' : Array Value} {b k : Nat} {t T : TypeId} {v v0 : Value}
theorem alloc_s5 (ho : o.op = .alloc 73) : (execOp a.eval o).run Tryz.prog W = .ok (.value (.pointer (some ⟨W.heap.size, 0, none⟩))) (W.alloc (.cells (arrC []) 73)) := by
  obtain ⟨dst, op, pos, af, g, x⟩ := o
  subst ho
  rw [show arrC [] = #[.string ⟨#[]⟩, .string ⟨#[]⟩, .string ⟨#[]⟩, .string ⟨#[]⟩, .string ⟨#[]⟩] from rfl]
  go_simp
theorem fA_s5 (h : Fr w W F) (hw : Region.wanted ⟨dst, .alloc 73, ty, pos, af, gd⟩ (yielded ops a.tmps) = true) (hk : Hold (∀ b W', Fr w W' ((b, arrC [], 73) :: F) → wpList Tryz.prog ops Q rest (a.put dst (.pointer (some ⟨b, 0, none⟩))) W')) : wpList Tryz.prog ops Q (⟨dst, .alloc 73, ty, pos, af, gd⟩ :: rest) a W := wplF_alloc h hw (alloc_s5 rfl) hk
theorem fScK (h : Fr w W F) (hw : Region.wanted ⟨none, .store T x y, ty, pos, af, gd⟩ (yielded ops a.tmps) = true) (hx : a.eval x = .pointer (some ⟨b, k, none⟩)) (hy : a.eval y = v) (hl : Lies F A b cs t L) (hT : ScT Tryz.prog T) (h1 : v.oneCell' = true) (hc : cs[k]? = some v0) (he : cs.setIfInBounds k v = cs') (hk : ∀ W', W' = W.setCell ⟨b, k, none⟩ v → Fr w W' (A ++ (b, cs', t) :: L) → wpList Tryz.prog ops Q rest a W') : wpList Tryz.prog ops Q (⟨none, .store T x y, ty, pos, af, gd⟩ :: rest) a W := by
  refine wpList_want hw fun K hK => ?_
  have hb := h.get hl
  unfold Oper.wp execOp
  simp only [hx, hy, Instr.storeAt, Instr.sureAddr, Sem.run_bind, Sem.run_pure, Result.andThen_ok, run_store_cell hT h1 (hb.cell hc) (hb.fz k)]
  have e := hl.eq
  subst e
  subst he
  exact hK _ _ (hk _ rfl (h.cellA k v))
theorem fB_quo5 {x0 x1 x2 x5 x6 : Operand} {s1 s2 s3 : List UInt8} {n : Int} {c : Bool} (hw : Region.wanted ⟨dst, .build 33 #[(0, x0), (1, x1), (2, x2), (5, x5), (6, x6)], ty, pos, af, gd⟩ (yielded ops a.tmps) = true) (h0 : a.eval x0 = .string (bs s1)) (h1 : a.eval x1 = .string (bs s2)) (h2 : a.eval x2 = .string (bs s3)) (h5 : a.eval x5 = .int .i64 n) (h6 : a.eval x6 = .bool c) (hk : wpList Tryz.prog ops Q rest (a.put dst (.agg (qC ⟨s1, s2, s3, 0, false, 0, false, 0, n, c⟩))) W) : wpList Tryz.prog ops Q (⟨dst, .build 33 #[(0, x0), (1, x1), (2, x2), (5, x5), (6, x6)], ty, pos, af, gd⟩ :: rest) a W :=
  wplF_build hw _ _ rfl (by simp only [List.map_toArray, List.map_cons, List.map_nil, h0, h1, h2, h5, h6]; exact built_quo5 s1 s2 s3 n c) hk
end
theorem bytes_far {w : World} {g b k : Nat} {s : ByteArray} {v : Value} (h : Lib.Bytes w g 0 s) (hn : g ≠ b) : Lib.Bytes (w.setCell ⟨b, k, none⟩ v) g 0 s := fun i hi => (World.cell?_of_block (w := w) (a := ⟨g, 0 + i, none⟩) (Below.heap_setCell w ⟨b, k, none⟩ v g hn)).trans (h i hi)
theorem bytes_made (w : World) (s : ByteArray) : ∃ cap W', s.size ≤ cap ∧ (convert 9 74 (.string s)).run Tryz.prog w = .ok (.slice (some ⟨w.heap.size, 0, none⟩) s.size cap) W' ∧ Lib.Bytes W' w.heap.size 0 s ∧ Below w.heap.size w W' := by
  refine ⟨grownCap w s.size 0 5, Lib.bytesWorld w 5 s, grownCap_ge _ _ _ _, Lib.run_convert_string_bytes w _ _ _ s Tryz.underlying9 Tryz.underlying74 Tryz.underlying5, fun i hi => ?_, ?_⟩
  · rw [Nat.zero_add, Lib.bytesWorld_cell w _ s i hi]
    simp [List.getD, hi]
    rfl
  · refine ⟨rfl, rfl, rfl, ?_, fun j hj => Lib.bytesWorld_at_old w _ s j hj⟩
    rw [Lib.bytesWorld_size]
    omega
theorem qprs_len {l : List (List UInt8)} {v e k : Int} (h : l.length ≠ 5) : qprs l v e k = (q0, 140) := by
  unfold qprs
  split
  · simp at h
  · rfl
theorem piece_of {W : World} {g o o' R : Nat} {s : List UInt8} (hb : Lib.Bytes W g 0 (bs s)) (ho : o ≤ s.length) (ho2 : o' ≤ s.length) (hoo : o < s.length → o' = o) (hR : s.length - o = R) {n c : Nat} (hn : n ≤ R) :
    (convert 74 9 (.slice (some ⟨g, o', none⟩) n c)).run Tryz.prog W = .ok (.string (bs ((s.drop o).take n))) W := by
  have hs := bs_size s
  have hl : o' + n ≤ (bs s).size := by
    rw [hs]
    rcases Nat.lt_or_ge o s.length with h | h
    · have := hoo h; omega
    · omega
  have h := Lib.run_convert_window (P := Tryz.prog) W 74 5 9 Tryz.underlying74 Tryz.underlying5 Tryz.underlying9 g 0 (bs s) hb o' n c hl
  rw [Nat.zero_add] at h
  rw [h, bs_extract, Nat.add_sub_cancel_left]
  rcases Nat.lt_or_ge o s.length with h2 | h2
  · rw [hoo h2]
  · obtain rfl : n = 0 := by omega
    rw [List.take_zero, List.take_zero]
theorem cuts_le : ∀ {s : List UInt8} {x : List UInt8}, x ∈ cuts s → x.length ≤ s.length
  | [], x, h => by
    rw [cuts, List.mem_singleton] at h
    rw [h]
    exact Nat.le_refl _
  | c :: t, x, h => by
    rw [List.length_cons]
    unfold cuts at h
    split at h
    · rcases List.mem_cons.1 h with rfl | h
      · simp
      · have := cuts_le h; omega
    · split at h
      · rw [List.mem_singleton] at h
        rw [h]
        simp
      · rename_i y l he
        rcases List.mem_cons.1 h with rfl | h
        · have := cuts_le (s := t) (x := y) (by rw [he]; exact List.mem_cons_self)
          simp
          omega
        · have := cuts_le (s := t) (x := x) (by rw [he]; exact List.mem_cons_of_mem _ h)
          omega
theorem pieces_le {s : List UInt8} {a b c d p : List UInt8} (h : cuts s = [a, b, c, d, p]) : a.length ≤ s.length ∧ b.length ≤ s.length ∧ c.length ≤ s.length ∧ p.length ≤ s.length := by
  have k : ∀ x ∈ [a, b, c, d, p], x.length ≤ s.length := fun x hx => cuts_le (by rw [h]; exact hx)
  exact ⟨k a (by simp), k b (by simp), k c (by simp), k p (by simp)⟩
theorem wr64 {x : Int} (h1 : -9223372036854775808 ≤ x) (h2 : x ≤ 9223372036854775807) : RowKit.wrap64 x = x := by
  unfold RowKit.wrap64
  omega
set_option maxRecDepth 100000 in
theorem qparse_any (s : List UInt8) (k : Int) (hs : s.length ≤ 9223372036854775806) {v e : Int} (hd : ∀ a b c d p, cuts s = [a, b, c, d, p] → ParseR (bs d) v e) {r : QT × Int} (hr : qprs (cuts s) v e k = r) (w : World) : Calls Tryz.prog 24 #[.string (bs s), .int .i64 k] w (RetB (.tuple #[.agg (qC r.1), .int .i64 r.2]) w) := by
  have F := Fr.start w
  have HR := Lib.hid hr
  have HDT := Lib.hid hd
  clear hr hd
  obtain ⟨r1, r2⟩ := r
  dsimp only
  go_enter Tryz.func24, Tryz.ntmps24
  go_wp2_with (first | go_skip | refine aYQ ?_ | (refine aTQ ?_; clear F; intro W F) | refine aNQ ?_)
  (clear F; intro b4 W F; try simp only [Act.put, z6, z1, z2])
  go_wp2_with (first | go_skip | ((with_reducible apply fA_s5 F); exact rfl) | refine aYQ ?_ | (refine aTQ ?_; clear F; intro W F) | refine aNQ ?_)
  (clear F; intro b6 W F; try simp only [Act.put, z6, z1, z2])
  obtain ⟨cap, W2, hcap, hcv, hby, hbl⟩ := bytes_made W (bs s)
  rw [bs_size] at hcap hcv
  have hn6 : b6 < W.heap.size := F.here.lt
  have HBL := Lib.hid hbl
  have HBY := Lib.hid hby
  clear hbl hby
  generalize hg : W.heap.size = g at *
  go_upto_region 3 with (first | go_skip | refine aYQ ?_ | (refine aTQ ?_; clear F; intro W F) | refine aNQ ?_)
  replace F := F.next (by rw [hg]; exact HBL.out)
  have HN6 := Lib.hid (show g ≠ b6 by omega)
  clear HBL hcv hn6 hg
  go_wp2_with (first | go_skip | refine aYQ ?_ | (refine aTQ ?_; clear F; intro W F) | refine aNQ ?_)
  go_loopw [7, 16] (fun rv iv wr => ∃ (i o o' : Nat) (P : List (List UInt8)), i ≤ 5 ∧ iv = .int .i64 i ∧ P.length = i ∧ (o ≤ s.length ∧ o' ≤ s.length ∧ (o < s.length → o' = o)) ∧ rv = .slice (some ⟨g, o', none⟩) (s.length - o) (cap - o) ∧ ((i < 5 → cuts s = P ++ cuts (s.drop o)) ∧ (i = 5 → cuts s = P)) ∧ Lib.Bytes wr g 0 (bs s) ∧ Fr w wr [(b6, arrC P, 73), (b4, qC q0, 33)]) (fun _ iv _ => 5 - (intOf iv).toNat)
  case atStart => exact ⟨0, 0, 0, [], by omega, rfl, rfl, ⟨by omega, by omega, fun _ => rfl⟩, rfl, ⟨fun _ => rfl, fun h => absurd h (by decide)⟩, HBY.out, F⟩
  case round =>
    clear F HBY
    obtain ⟨i, o, o', P, hi, rfl, hPl, ⟨ho, ho2, hoo⟩, rfl, ⟨hc1, hc2⟩, hby, F⟩ := hrel
    by_cases hlt : i < 5
    · obtain ⟨R, hR⟩ : ∃ R, s.length - o = R := ⟨_, rfl⟩
      obtain ⟨C, hC⟩ : ∃ C, cap - o = C := ⟨_, rfl⟩
      have hRC : R ≤ C := by omega
      have HP := Lib.hid (fun n c (hn : n ≤ R) => piece_of (c := c) hby ho ho2 hoo hR hn)
      have HBY := Lib.hid hby
      obtain ⟨T, hT⟩ : ∃ T, s.drop o = T := ⟨_, rfl⟩
      have hTl : T.length = R := by rw [← hT, List.length_drop, hR]
      have HC := Lib.hid (hc1 hlt)
      rw [hT] at HP HC
      have hcv1 := HP.out R C (Nat.le_refl _)
      rw [List.take_of_length_le (by omega)] at hcv1
      have gi : ∀ w, Calls Tryz.prog 46 #[.string (bs T), .int .u8 44] w fun e w' => e = .returned (.int .i64 (Lib.indexByte T 44)) ∧ w' = w := fun w => by
        have h := Tryz.strings_IndexByte (bs T) 44 w
        rw [bs_list] at h
        simpa using h
      have hge := Lib.indexByte_ge T 44
      have hne := idx_ne 44 T
      obtain ⟨N, hN⟩ : ∃ N, Lib.indexByte T 44 = N := ⟨_, rfl⟩
      rw [hN] at gi hge hne
      have HN := Lib.hid hN
      have HT := Lib.hid hT
      have hRs : R ≤ 9223372036854775806 := by omega
      have HO3 := Lib.hid ho2
      have HRR := Lib.hid (And.intro hR (And.intro hC (And.intro ho hoo)))
      have HPL := Lib.hid hPl
      rw [hR, hC]
      clear hc1 hc2 hby hT hN hR hC ho ho2 hoo hPl
      rcases (show N = -1 ∨ ∃ n : Nat, N = (n : Int) by rcases Int.lt_or_le N 0 with h | h; exact .inl (by omega); exact .inr ⟨N.toNat, by omega⟩) with rfl | ⟨n, rfl⟩
      · have hcT : cuts s = P ++ [T] := by rw [HC.out, cuts_no HN.out]
        by_cases h4 : i = 4
        · subst h4
          have HCT := Lib.hid hcT
          have hcv2 := HP.out R R (Nat.le_refl _)
          rw [List.take_of_length_le (by omega)] at hcv2
          obtain ⟨hR, hC, ho, hoo⟩ := HRR.out
          have HAT := Lib.hid (by rw [← HPL.out]; exact arr_at (by rw [HPL.out]; omega) : (arrC P)[4]? = some (.string (bs [])))
          have HAS := Lib.hid (by rw [← HPL.out]; exact arr_set (by rw [HPL.out]; omega) _ : (arrC P).setIfInBounds 4 (.string (bs T)) = arrC (P ++ [T]))
          have HPN := Lib.hid (show (P ++ [T]).length = 5 by rw [List.length_append, HPL.out, List.length_singleton])
          have HE := Lib.hid (And.intro (show s.length - (o + R) = R - R by omega) (And.intro (show cap - (o + R) = C - R by omega) (show o + R ≤ s.length by omega)))
          have hb6 := HN6.out
          have HO2 := Lib.hid (show o' + R ≤ s.length by have h3 := HO3.out; rcases Nat.lt_or_ge o s.length with h | h; rw [hoo h]; omega; omega)
          clear hR hC ho hoo hcT hge hne HRR
          have m1 : min ((R : Int) + 1) (R : Int) = (R : Int) := by omega
          have w1 := wr64 (x := (R : Int) + 1) (by omega) (by omega)
          by_cases hCn : C = R
          · subst hCn
            go_wp2_with (first | go_skip | (go_at_call 46; refine (gi _).mono ?_; rintro e W ⟨rfl, rfl⟩; (try dsimp only)) | ((with_reducible apply fScK F); exact rfl; exact rfl; (go_simp; exact rfl); (exact tL); (with_reducible exact scStr); exact rfl; (exact HAT.out); (exact HAS.out); (clear F; intro W hW F; have HW := Lib.hid hW; clear hW; simp only [z7, z8] at F)) | refine aYQ ?_ | (refine aTQ ?_; clear F; intro W F) | refine aNQ ?_)
            go_roundw
            case rel => exact ⟨5, o + C, o', P ++ [T], by omega, by go_num, HPN.out, ⟨HE.out.2.2, by have := HO2.out; omega, fun h => by have := HE.out; omega⟩, by rw [HE.out.1, HE.out.2.1, Nat.sub_self], ⟨fun h => by omega, fun _ => HCT.out⟩, by rw [HW.out]; exact bytes_far HBY.out hb6, F⟩
            case measure => simp [intOf]
          · go_wp2_with (first | go_skip | (go_at_call 46; refine (gi _).mono ?_; rintro e W ⟨rfl, rfl⟩; (try dsimp only)) | ((with_reducible apply fScK F); exact rfl; exact rfl; (go_simp; exact rfl); (exact tL); (with_reducible exact scStr); exact rfl; (exact HAT.out); (exact HAS.out); (clear F; intro W hW F; have HW := Lib.hid hW; clear hW; simp only [z7, z8] at F)) | refine aYQ ?_ | (refine aTQ ?_; clear F; intro W F) | refine aNQ ?_)
            go_roundw
            case rel => exact ⟨5, o + R, o' + R, P ++ [T], by omega, by go_num, HPN.out, ⟨HE.out.2.2, HO2.out, fun h => by have := HE.out; omega⟩, by rw [HE.out.1, HE.out.2.1, Nat.sub_self], ⟨fun h => by omega, fun _ => HCT.out⟩, by rw [HW.out]; exact bytes_far HBY.out hb6, F⟩
            case measure => simp [intOf]
        · have t4 : ((i : Int) == 4) = false := by rw [beq_eq_false_iff_ne]; omega
          have hres := HR.out
          rw [qprs_len (by rw [hcT, List.length_append, HPL.out, List.length_singleton]; omega)] at hres
          cases hres
          clear hcT h4 hge hne
          go_wp2_with (first | go_skip | (go_at_call 46; refine (gi _).mono ?_; rintro e W ⟨rfl, rfl⟩; (try dsimp only)) | refine aYQ ?_ | (refine aTQ ?_; clear F; intro W F) | refine aNQ ?_)
          exact bodyPost_ret (res_cs rfl rfl rfl (Fr.get F tL) (rowQ _)) rfl ⟨rfl, F.below⟩
      · by_cases h4 : i = 4
        · subst h4
          have hres := HR.out
          rw [qprs_len (by
            have h1 := cuts_len (T.drop (n + 1))
            rw [HC.out, cuts_yes HN.out, List.length_append, HPL.out, List.length_cons]
            omega)] at hres
          cases hres
          have t0 : decide ((n : Int) < 0) = false := decide_eq_false (by omega)
          clear hge hne
          go_wp2_with (first | go_skip | (go_at_call 46; refine (gi _).mono ?_; rintro e W ⟨rfl, rfl⟩; (try dsimp only)) | refine aYQ ?_ | (refine aTQ ?_; clear F; intro W F) | refine aNQ ?_)
          exact bodyPost_ret (res_cs rfl rfl rfl (Fr.get F tL) (rowQ _)) rfl ⟨rfl, F.below⟩
        · have hnR : n < R := by omega
          have hi4 : i < 4 := by omega
          obtain ⟨hR, hC, ho, hoo⟩ := HRR.out
          have ho1 : o < s.length := by omega
          obtain rfl : o' = o := hoo ho1
          have hcT : cuts s = (P ++ [T.take n]) ++ cuts (s.drop (o' + (n + 1))) := by
            rw [HC.out, cuts_yes HN.out, ← HT.out, List.drop_drop, List.append_assoc]
            rfl
          have HCT := Lib.hid hcT
          have hcv2 := HP.out n n (Nat.le_of_lt hnR)
          have HAT := Lib.hid (by rw [← HPL.out]; exact arr_at (by rw [HPL.out]; omega) : (arrC P)[i]? = some (.string (bs [])))
          have HAS := Lib.hid (by rw [← HPL.out]; exact arr_set (by rw [HPL.out]; omega) _ : (arrC P).setIfInBounds i (.string (bs (T.take n))) = arrC (P ++ [T.take n]))
          have HPN := Lib.hid (show (P ++ [T.take n]).length = i + 1 by rw [List.length_append, HPL.out, List.length_singleton])
          have HE := Lib.hid (And.intro (show s.length - (o' + (n + 1)) = R - (n + 1) by omega) (And.intro (show cap - (o' + (n + 1)) = C - (n + 1) by omega) (show o' + (n + 1) ≤ s.length by omega)))
          have t4 : ((i : Int) == 4) = false := by rw [beq_eq_false_iff_ne]; omega
          have t0 : decide ((n : Int) < 0) = false := decide_eq_false (by omega)
          have hb6 := HN6.out
          clear hR hC ho hoo ho1 hcT hge hne h4 HRR
          have m1 : min ((n : Int) + 1) (R : Int) = (n : Int) + 1 := by omega
          have m2 : (0 : Int) ≤ (n : Int) + 1 := by omega
          have m3 : (n : Int) + 1 ≤ (R : Int) := by omega
          have m4 : ((n : Int) + 1).toNat = n + 1 := by omega
          have hnb : (n : Int) + 1 ≤ 9223372036854775807 := by omega
          by_cases hCn : C = n + 1
          · have hlast : ¬ (o' + (n + 1) < s.length) := by have := HE.out; omega
            have HL := Lib.hid hlast
            clear hlast
            subst hCn
            have w1 := wr64 (x := (n : Int) + 1) (by omega) (by omega)
            clear hnb
            go_wp2_with (first | go_skip | (go_at_call 46; refine (gi _).mono ?_; rintro e W ⟨rfl, rfl⟩; (try dsimp only)) | ((with_reducible apply fScK F); exact rfl; exact rfl; (go_simp; exact rfl); (exact tL); (with_reducible exact scStr); exact rfl; (exact HAT.out); (exact HAS.out); (clear F; intro W hW F; have HW := Lib.hid hW; clear hW; simp only [z7, z8] at F)) | refine aYQ ?_ | (refine aTQ ?_; clear F; intro W F) | refine aNQ ?_)
            go_roundw
            case rel => exact ⟨i + 1, o' + (n + 1), o', P ++ [T.take n], by omega, by go_num, HPN.out, ⟨HE.out.2.2, by have := HE.out.2.2; omega, fun _ => by exact absurd ‹_› HL.out⟩, by rw [HE.out.1, HE.out.2.1, show R - (n + 1) = 0 by omega, Nat.sub_self], ⟨fun _ => HCT.out, fun h => by omega⟩, by rw [HW.out]; exact bytes_far HBY.out hb6, F⟩
            case measure => simp [intOf]; omega
          · skip
            have w1 := wr64 (x := (n : Int) + 1) (by omega) (by omega)
            clear hnb
            go_wp2_with (first | go_skip | (go_at_call 46; refine (gi _).mono ?_; rintro e W ⟨rfl, rfl⟩; (try dsimp only)) | ((with_reducible apply fScK F); exact rfl; exact rfl; (go_simp; exact rfl); (exact tL); (with_reducible exact scStr); exact rfl; (exact HAT.out); (exact HAS.out); (clear F; intro W hW F; have HW := Lib.hid hW; clear hW; simp only [z7, z8] at F)) | refine aYQ ?_ | (refine aTQ ?_; clear F; intro W F) | refine aNQ ?_)
            go_roundw
            case rel => exact ⟨i + 1, o' + (n + 1), o' + (n + 1), P ++ [T.take n], by omega, by go_num, HPN.out, ⟨HE.out.2.2, by have := HE.out.2.2; omega, fun _ => by rfl⟩, by rw [HE.out.1, HE.out.2.1], ⟨fun _ => HCT.out, fun h => by omega⟩, by rw [HW.out]; exact bytes_far HBY.out hb6, F⟩
            case measure => simp [intOf]; omega
    · obtain rfl : i = 5 := by omega
      have hcP := hc2 rfl
      obtain ⟨l0, l1, l2, l3, l4, rfl⟩ : ∃ l0 l1 l2 l3 l4, P = [l0, l1, l2, l3, l4] := by
        match P, hPl with
        | [a, b, c, d, p], _ => exact ⟨a, b, c, d, p, rfl⟩
      have hres := HR.out
      have g1 := fun w => dparse_is (HDT.out l0 l1 l2 l3 l4 hcP) w
      rw [hcP] at hres
      rw [arr_five] at F
      have HL := Lib.hid (pieces_le hcP)
      obtain ⟨c, hc⟩ : ∃ c, decide (l4 = [45]) = c := ⟨_, rfl⟩
      have ec : ((bs l4).toList == [45]) = c := by rw [bs_toList, ← hc, Bool.eq_iff_iff]; simp
      unfold qprs at hres
      dsimp only at hres
      have HRS := Lib.hid hres
      clear hc1 hc2 hPl hcP hby ho ho2 hoo hres HR HDT hlt hi
      cases c
      · have hne : ¬ l4 = [45] := by simpa using hc
        have hres := HRS.out
        rw [if_neg hne, decide_eq_false hne] at hres
        obtain ⟨rr, hrr⟩ : ∃ r, prsR l4 6 = r := ⟨_, rfl⟩
        have g2 := fun w => parse_any l4 6 (Nat.le_trans HL.out.2.2.2 (Nat.le_trans hs (by decide))) hrr w
        have hpb := prs_b l4 6
        rw [hrr] at hpb hres
        obtain ⟨rn, rd, re⟩ := rr
        dsimp only at g2 hpb hres
        have hwf : QT.wf ⟨l0, l1, l2, v, decide (rn < 0), rn.natAbs, decide (rd < 0), rd.natAbs, k, false⟩ := ⟨hpb.1, hpb.2, Nat.le_trans HL.out.1 (Nat.le_trans hs (by decide)), Nat.le_trans HL.out.2.1 (Nat.le_trans hs (by decide)), Nat.le_trans HL.out.2.2.1 (Nat.le_trans hs (by decide))⟩
        obtain ⟨c3, h3⟩ : ∃ c, QT.right ⟨l0, l1, l2, v, decide (rn < 0), rn.natAbs, decide (rd < 0), rd.natAbs, k, false⟩ = c := ⟨_, rfl⟩
        obtain ⟨c4, h4⟩ : ∃ c, knB k = c := ⟨_, rfl⟩
        have g3 := fun w => right_any hwf h3 w
        have g4 := fun w => qknown_any h4 w
        rw [h3, h4] at hres
        have HRR := Lib.hid hres
        clear hwf hpb hrr h3 h4 hres HRS hc hne HL hs hcap
        go_wp2_with (first | go_skip | ((with_reducible apply fB_quo5); exact rfl; exact rfl; exact rfl; exact rfl; exact rfl; exact rfl) | (go_at_call 47; refine (g1 _).mono ?_; rintro e' W ⟨rfl, rfl⟩; (try dsimp only)) | ((go_at_call 48); (with_reducible refine fr_call F (g2 _) ?_); (clear F; intro W F); (try dsimp only)) | refine aYQ ?_ | (refine aTQ ?_; clear F; intro W F) | refine aNQ ?_)
        (clear F; intro b11 W F; try simp only [Act.put, z6, z1, z2])
        go_upto_region 20 with (first | go_skip | ((with_reducible apply fB_quo5); exact rfl; exact rfl; exact rfl; exact rfl; exact rfl; exact rfl) | (go_at_call 47; refine (g1 _).mono ?_; rintro e' W ⟨rfl, rfl⟩; (try dsimp only)) | ((go_at_call 48); (with_reducible refine fr_call F (g2 _) ?_); (clear F; intro W F); (try dsimp only)) | refine aYQ ?_ | (refine aTQ ?_; clear F; intro W F) | refine aNQ ?_)
        by_cases he : e = 0
        · by_cases hf : re = 0
          · subst he hf
            cases c3
            · skip
              have hr := HRR.out
              rw [if_pos (by simp)] at hr
              cases hr
              clear HRR
              go_wp2_with (first | go_skip | ((go_at_call 37); (with_reducible refine fr_call F (g3 _) ?_); (clear F; intro W F); (try dsimp only)) | ((go_at_call 38); (with_reducible refine fr_call F (g4 _) ?_); (clear F; intro W F); (try dsimp only)) | refine aYQ ?_ | (refine aTQ ?_; clear F; intro W F) | refine aNQ ?_)
              exact bodyPost_ret (res_cs rfl rfl rfl (Fr.get F tL) (rowQ _)) rfl ⟨rfl, F.below⟩
            · cases c4
              · skip
                have hr := HRR.out
                rw [if_neg (by simp), if_pos rfl] at hr
                cases hr
                clear HRR
                go_wp2_with (first | go_skip | ((go_at_call 37); (with_reducible refine fr_call F (g3 _) ?_); (clear F; intro W F); (try dsimp only)) | ((go_at_call 38); (with_reducible refine fr_call F (g4 _) ?_); (clear F; intro W F); (try dsimp only)) | refine aYQ ?_ | (refine aTQ ?_; clear F; intro W F) | refine aNQ ?_)
                exact bodyPost_ret (res_cs rfl rfl rfl (Fr.get F tL) (rowQ _)) rfl ⟨rfl, F.below⟩
              · skip
                have hr := HRR.out
                rw [if_neg (by simp), if_neg (by decide)] at hr
                cases hr
                clear HRR
                go_wp2_with (first | go_skip | ((go_at_call 37); (with_reducible refine fr_call F (g3 _) ?_); (clear F; intro W F); (try dsimp only)) | ((go_at_call 38); (with_reducible refine fr_call F (g4 _) ?_); (clear F; intro W F); (try dsimp only)) | refine aYQ ?_ | (refine aTQ ?_; clear F; intro W F) | refine aNQ ?_)
                exact bodyPost_ret (res_cs rfl rfl rfl (Fr.get F tL) (rowQ _)) rfl ⟨rfl, F.below⟩
          · have tf : (re != 0) = true := by rw [bne_iff_ne]; exact hf
            subst he
            have hr := HRR.out
            rw [if_pos (by simp [hf])] at hr
            cases hr
            clear HRR
            go_wp2_with (first | go_skip | ((go_at_call 37); (with_reducible refine fr_call F (g3 _) ?_); (clear F; intro W F); (try dsimp only)) | ((go_at_call 38); (with_reducible refine fr_call F (g4 _) ?_); (clear F; intro W F); (try dsimp only)) | refine aYQ ?_ | (refine aTQ ?_; clear F; intro W F) | refine aNQ ?_)
            exact bodyPost_ret (res_cs rfl rfl rfl (Fr.get F tL) (rowQ _)) rfl ⟨rfl, F.below⟩
        · have te : (e != 0) = true := by rw [bne_iff_ne]; exact he
          have hr := HRR.out
          rw [if_pos (by simp [he])] at hr
          cases hr
          clear HRR
          go_wp2_with (first | go_skip | ((go_at_call 37); (with_reducible refine fr_call F (g3 _) ?_); (clear F; intro W F); (try dsimp only)) | ((go_at_call 38); (with_reducible refine fr_call F (g4 _) ?_); (clear F; intro W F); (try dsimp only)) | refine aYQ ?_ | (refine aTQ ?_; clear F; intro W F) | refine aNQ ?_)
          exact bodyPost_ret (res_cs rfl rfl rfl (Fr.get F tL) (rowQ _)) rfl ⟨rfl, F.below⟩
      · have hp : l4 = [45] := by simpa using hc
        have hres := HRS.out
        rw [if_pos hp, decide_eq_true hp] at hres
        have hres2 : (if e ≠ 0 ∨ (0 : Int) ≠ 0 ∨ QT.right ⟨l0, l1, l2, v, false, 0, false, 0, k, true⟩ = false then (q0, 140) else if knB k = false then (q0, 130) else ((⟨l0, l1, l2, v, false, 0, false, 0, k, true⟩ : QT), (0 : Int))) = (r1, r2) := hres
        have hwf : QT.wf ⟨l0, l1, l2, v, false, 0, false, 0, k, true⟩ := ⟨bp_pos 32, bp_pos 32, Nat.le_trans HL.out.1 (Nat.le_trans hs (by decide)), Nat.le_trans HL.out.2.1 (Nat.le_trans hs (by decide)), Nat.le_trans HL.out.2.2.1 (Nat.le_trans hs (by decide))⟩
        obtain ⟨c3, h3⟩ : ∃ c, QT.right ⟨l0, l1, l2, v, false, 0, false, 0, k, true⟩ = c := ⟨_, rfl⟩
        obtain ⟨c4, h4⟩ : ∃ c, knB k = c := ⟨_, rfl⟩
        have g3 := fun w => right_any hwf h3 w
        have g4 := fun w => qknown_any h4 w
        rw [h3, h4] at hres2
        have HRR := Lib.hid hres2
        clear hwf h3 h4 hres hres2 HRS hc hp HL hs hcap
        go_wp2_with (first | go_skip | ((with_reducible apply fB_quo5); exact rfl; exact rfl; exact rfl; exact rfl; exact rfl; exact rfl) | (go_at_call 47; refine (g1 _).mono ?_; rintro e' W ⟨rfl, rfl⟩; (try dsimp only)) | refine aYQ ?_ | (refine aTQ ?_; clear F; intro W F) | refine aNQ ?_)
        (clear F; intro b11 W F; try simp only [Act.put, z6, z1, z2])
        go_upto_region 20 with (first | go_skip | ((with_reducible apply fB_quo5); exact rfl; exact rfl; exact rfl; exact rfl; exact rfl; exact rfl) | (go_at_call 47; refine (g1 _).mono ?_; rintro e' W ⟨rfl, rfl⟩; (try dsimp only)) | refine aYQ ?_ | (refine aTQ ?_; clear F; intro W F) | refine aNQ ?_)
        by_cases he : e = 0
        · subst he
          cases c3
          · skip
            have hr := HRR.out
            rw [if_pos (by simp)] at hr
            cases hr
            clear HRR
            go_wp2_with (first | go_skip | ((go_at_call 37); (with_reducible refine fr_call F (g3 _) ?_); (clear F; intro W F); (try dsimp only)) | ((go_at_call 38); (with_reducible refine fr_call F (g4 _) ?_); (clear F; intro W F); (try dsimp only)) | refine aYQ ?_ | (refine aTQ ?_; clear F; intro W F) | refine aNQ ?_)
            exact bodyPost_ret (res_cs rfl rfl rfl (Fr.get F tL) (rowQ _)) rfl ⟨rfl, F.below⟩
          · cases c4
            · skip
              have hr := HRR.out
              rw [if_neg (by simp), if_pos rfl] at hr
              cases hr
              clear HRR
              go_wp2_with (first | go_skip | ((go_at_call 37); (with_reducible refine fr_call F (g3 _) ?_); (clear F; intro W F); (try dsimp only)) | ((go_at_call 38); (with_reducible refine fr_call F (g4 _) ?_); (clear F; intro W F); (try dsimp only)) | refine aYQ ?_ | (refine aTQ ?_; clear F; intro W F) | refine aNQ ?_)
              exact bodyPost_ret (res_cs rfl rfl rfl (Fr.get F tL) (rowQ _)) rfl ⟨rfl, F.below⟩
            · skip
              have hr := HRR.out
              rw [if_neg (by simp), if_neg (by decide)] at hr
              cases hr
              clear HRR
              go_wp2_with (first | go_skip | ((go_at_call 37); (with_reducible refine fr_call F (g3 _) ?_); (clear F; intro W F); (try dsimp only)) | ((go_at_call 38); (with_reducible refine fr_call F (g4 _) ?_); (clear F; intro W F); (try dsimp only)) | refine aYQ ?_ | (refine aTQ ?_; clear F; intro W F) | refine aNQ ?_)
              exact bodyPost_ret (res_cs rfl rfl rfl (Fr.get F tL) (rowQ _)) rfl ⟨rfl, F.below⟩
        · have te : (e != 0) = true := by rw [bne_iff_ne]; exact he
          have hr := HRR.out
          rw [if_pos (by simp [he])] at hr
          cases hr
          clear HRR
          go_wp2_with (first | go_skip | ((go_at_call 37); (with_reducible refine fr_call F (g3 _) ?_); (clear F; intro W F); (try dsimp only)) | ((go_at_call 38); (with_reducible refine fr_call F (g4 _) ?_); (clear F; intro W F); (try dsimp only)) | refine aYQ ?_ | (refine aTQ ?_; clear F; intro W F) | refine aNQ ?_)
          exact bodyPost_ret (res_cs rfl rfl rfl (Fr.get F tL) (rowQ _)) rfl ⟨rfl, F.below⟩
end
end Go.Proofs.YteaahhokaffmdaaGreatDoor
