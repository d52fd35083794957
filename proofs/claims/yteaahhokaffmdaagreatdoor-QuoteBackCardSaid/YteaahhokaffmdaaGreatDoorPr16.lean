/- What the laws lean on. -/
import Derived.Test.YteaahhokaffmdaaGreatDoorPr15
namespace Go.Proofs.YteaahhokaffmdaaGreatDoor
set_option linter.unusedVariables false
set_option linter.unusedSimpArgs false
section
def qfmt (q : QT) (d : List UInt8) : List UInt8 × Int :=
  if q.ok = true then (q.src ++ 44 :: (q.ins ++ 44 :: (q.cur ++ 44 :: (d ++ 44 :: if q.void = true then [45] else (txtR (okR q.x q.a q.y q.b) (sZ q.x q.a) (sZ q.y q.b) 6).1))), 0) else ([], 141)
end
section
open Go.RowKit
set_option maxHeartbeats 4000000
theorem txtR_len {v : Prop} [Decidable v] {n d p : Int} (hN : (n * ((10 ^ p.toNat : Nat) : Int) / d).natAbs < bp 17) (hp : p ≤ 9) : (txtR v n d p).1.length ≤ 2000 := by
  unfold txtR
  split
  · simp
  · dsimp only
    split
    · simp
    · unfold txtZ
      dsimp only
      split
      · simp
      · have h1 := dec_len_bp hN
        have h2 := point_len (s := Lib.decDigits (n * ((10 ^ p.toNat : Nat) : Int) / d).natAbs) (p := p.toNat) (by omega) (by omega)
        have h3 := trimRight_len (pointL (Lib.decDigits (n * ((10 ^ p.toNat : Nat) : Int) / d).natAbs) p.toNat).2 48
        rw [List.length_append]
        have h4 : (if n * ((10 ^ p.toNat : Nat) : Int) / d < 0 then [45] else ([] : List UInt8)).length ≤ 1 := by split <;> simp
        have h5 : (if Lib.trimRightB (pointL (Lib.decDigits (n * ((10 ^ p.toNat : Nat) : Int) / d).natAbs) p.toNat).2 48 = [] then (pointL (Lib.decDigits (n * ((10 ^ p.toNat : Nat) : Int) / d).natAbs) p.toNat).1 else (pointL (Lib.decDigits (n * ((10 ^ p.toNat : Nat) : Int) / d).natAbs) p.toNat).1 ++ 46 :: Lib.trimRightB (pointL (Lib.decDigits (n * ((10 ^ p.toNat : Nat) : Int) / d).natAbs) p.toNat).2 48).length ≤ 1001 := by
          split
          · omega
          · rw [List.length_append, List.length_cons]; omega
        omega
end
section
open Go.RowKit
theorem fmtL_len {n : Nat} {neg : Bool} {p : Nat} (hn : n < 10 ^ 15) (hp : p ≤ 9) : (fmtL n neg p).length ≤ 1000 := by
  obtain ⟨a, b, h⟩ : ∃ a b, pointL (Lib.decDigits n) p = (a, b) := ⟨_, _, rfl⟩
  have h1 := pre_len hn h
  obtain ⟨-, -, -, -, h5, -⟩ := point_facts _ h
  unfold fmtL
  rw [h]
  dsimp only
  rw [List.length_append]
  have e1 : (if neg = true then [45] else ([] : List UInt8)).length ≤ 1 := by split <;> simp
  have e2 : (if b = [] then a else a ++ 46 :: b).length ≤ 100 := by
    split
    · omega
    · rw [List.length_append, List.length_cons]; omega
  omega
end
section
open Go.RowKit
set_option maxHeartbeats 4000000
def gb (k : Int) : UInt8 := UInt8.ofNat (48 + k).toNat
theorem gb_nat {k : Int} (h1 : 0 ≤ k) (h2 : k ≤ 9) : ((gb k).toNat : Int) = 48 + k := by
  unfold gb
  rw [UInt8.toNat_ofNat']
  omega
theorem gb_dg {k : Int} (h1 : 0 ≤ k) (h2 : k ≤ 9) : isDg (gb k) = true := by
  have := gb_nat h1 h2
  unfold isDg
  rw [decide_eq_true_eq]
  omega
theorem fmtS_list (y m d : Int) : (fmtS y m d).data.toList = [gb (y / 1000 % 10), gb (y / 100 % 10), gb (y / 10 % 10), gb (y / 1 % 10), 45, gb (m / 10 % 10), gb (m / 1 % 10), 45, gb (d / 10 % 10), gb (d / 1 % 10)] := rfl
theorem ext_list (s : ByteArray) (a b : Nat) : (s.extract a b).data.toList = (s.data.toList.drop a).take (b - a) := by
  rw [ByteArray.data_extract, Array.toList_extract]
theorem numI_of {s : ByteArray} {l : List UInt8} (h : s.data.toList = l) (hd : ∀ c ∈ l, isDg c = true) : numB s = true ∧ numI s = numV l := by
  have hb : numB s = true := by
    unfold numB
    rw [h, List.all_eq_true]
    exact hd
  refine ⟨hb, ?_⟩
  unfold numI
  rw [if_pos hb, h]
theorem parse_fmt {n y m d : Int} (h : CV n y m d) : ParseR (fmtS y m d) n 0 := by
  have y1 := h.y1
  have y2 := h.y2
  have m1 := h.m1
  have m2 := h.m2
  have d1 := h.d1
  have d2 : d ≤ 31 := by have := h.d2; have := len_bd y m; omega
  obtain ⟨a1, a2⟩ := numI_of (s := (fmtS y m d).extract 0 4) (l := [gb (y / 1000 % 10), gb (y / 100 % 10), gb (y / 10 % 10), gb (y / 1 % 10)]) (by rw [ext_list, fmtS_list]; rfl)
    (by intro c hc; simp only [List.mem_cons, List.not_mem_nil, or_false] at hc; rcases hc with rfl | rfl | rfl | rfl <;> exact gb_dg (by omega) (by omega))
  obtain ⟨b1, b2⟩ := numI_of (s := (fmtS y m d).extract 5 7) (l := [gb (m / 10 % 10), gb (m / 1 % 10)]) (by rw [ext_list, fmtS_list]; rfl)
    (by intro c hc; simp only [List.mem_cons, List.not_mem_nil, or_false] at hc; rcases hc with rfl | rfl <;> exact gb_dg (by omega) (by omega))
  obtain ⟨c1, c2⟩ := numI_of (s := (fmtS y m d).extract 8 (fmtS y m d).size) (l := [gb (d / 10 % 10), gb (d / 1 % 10)]) (by rw [ext_list, fmtS_list]; rfl)
    (by intro c hc; simp only [List.mem_cons, List.not_mem_nil, or_false] at hc; rcases hc with rfl | rfl <;> exact gb_dg (by omega) (by omega))
  simp only [numV, List.foldl] at a2 b2 c2
  rw [gb_nat (by omega) (by omega), gb_nat (by omega) (by omega), gb_nat (by omega) (by omega), gb_nat (by omega) (by omega)] at a2
  rw [gb_nat (by omega) (by omega), gb_nat (by omega) (by omega)] at b2
  rw [gb_nat (by omega) (by omega), gb_nat (by omega) (by omega)] at c2
  have hy : numI ((fmtS y m d).extract 0 4) = y := by rw [a2]; omega
  have hm : numI ((fmtS y m d).extract 5 7) = m := by rw [b2]; omega
  have hd : numI ((fmtS y m d).extract 8 (fmtS y m d).size) = d := by rw [c2]; omega
  refine .inr ⟨?_, .inl ⟨?_, rfl⟩⟩
  · unfold formB
    rw [dif_pos (show (fmtS y m d).size = 10 from rfl), a1, b1, c1, decide_eq_true (by exact ⟨rfl, rfl⟩)]
    rfl
  · rw [hy, hm, hd]
    exact h
end
section
theorem no44 {l : List UInt8} {p : UInt8 → Bool} (hp : p 44 = false) (h : l.all p = true) : (44 : UInt8) ∉ l := fun hm => by
  have := List.all_eq_true.1 h _ hm
  rw [hp] at this
  cases this
theorem name_no44 {l : List UInt8} (h : nameB l = true) : (44 : UInt8) ∉ l := by
  unfold nameB at h
  rw [Bool.and_eq_true] at h
  exact no44 (p := fun c => lowB c || digB c) (by decide) h.2
theorem paper_no44 {l : List UInt8} (h : paperB l = true) : (44 : UInt8) ∉ l := by
  unfold paperB capsB at h
  rw [Bool.and_eq_true, Bool.and_eq_true] at h
  exact no44 (p := fun c => capL c || digB c) (by decide) h.1.2
theorem code_no44 {l : List UInt8} (h : codeB l = true) : (44 : UInt8) ∉ l := by
  unfold codeB at h
  rw [Bool.and_eq_true] at h
  exact no44 (p := capL) (by decide) h.2
theorem txt_no44 {v : Prop} [Decidable v] {n d p : Int} : (44 : UInt8) ∉ (txtR v n d p).1 := by
  unfold txtR
  split
  · simp
  · dsimp only
    split
    · simp
    · generalize n * ((10 ^ p.toNat : Nat) : Int) / d = z
      unfold txtZ
      obtain ⟨a, b, hq⟩ : ∃ a b, pointL (Lib.decDigits z.natAbs) p.toNat = (a, b) := ⟨_, _, rfl⟩
      obtain ⟨h1, h2, -⟩ := point_facts _ hq
      obtain ⟨k, hk⟩ := trim_zeros b
      rw [hq]
      dsimp only
      generalize Lib.trimRightB b 48 = t at hk ⊢
      rw [hk, List.all_append, Bool.and_eq_true] at h2
      have n1 := no44 (p := isD) (by decide) h1
      have n2 := no44 (p := isD) (by decide) h2.1
      split
      · simp
      · intro hm
        rcases List.mem_append.1 hm with h | h
        · split at h <;> simp at h
        · split at h
          · exact n1 h
          · rcases List.mem_append.1 h with h | h
            · exact n1 h
            · rcases List.mem_cons.1 h with h | h
              · exact absurd h (by decide)
              · exact n2 h
theorem day_back {n : Int} (h : 0 ≤ n ∧ n ≤ 73048) : ParseR (bs (dayL n)) n 0 ∧ (44 : UInt8) ∉ dayL n := by
  obtain ⟨e, he⟩ := dayL_is n
  rcases he with ⟨y, m, d, hc, hs, -⟩ | ⟨hn, -⟩
  · refine ⟨by rw [hs]; exact parse_fmt hc, ?_⟩
    have e2 : dayL n = (fmtS y m d).data.toList := by rw [← hs, bs_list]
    have y1 := hc.y1
    have m1 := hc.m1
    have d1 := hc.d1
    rw [e2, fmtS_list]
    have g : ∀ x : Int, 0 ≤ x → x ≤ 9 → (44 : UInt8) ≠ gb x := fun x h1 h2 e => by
      have := gb_dg h1 h2
      rw [← e] at this
      revert this
      decide
    simp only [List.mem_cons, List.not_mem_nil, or_false, not_or]
    refine ⟨?_, ?_, ?_, ?_, by decide, ?_, ?_, by decide, ?_, ?_⟩ <;> exact g _ (by omega) (by omega)
  · exact absurd h hn
theorem cuts_five {a b c d p : List UInt8} (ha : (44 : UInt8) ∉ a) (hb : (44 : UInt8) ∉ b) (hc : (44 : UInt8) ∉ c) (hd : (44 : UInt8) ∉ d) (hp : (44 : UInt8) ∉ p) : cuts (a ++ 44 :: (b ++ 44 :: (c ++ 44 :: (d ++ 44 :: p)))) = [a, b, c, d, p] := by
  rw [cuts_app _ ha, cuts_app _ hb, cuts_app _ hc, cuts_app _ hd, cuts_none hp]
theorem right_parts {q : QT} (h : q.right = true) : nameB q.src = true ∧ paperB q.ins = true ∧ codeB q.cur = true ∧ (0 ≤ q.day ∧ q.day ≤ 73048) ∧ (if q.void = true then q.noP else q.price) = true := by
  unfold QT.right at h
  simp only [Bool.and_eq_true, decide_eq_true_eq] at h
  exact ⟨h.1, h.2.1, h.2.2.1, h.2.2.2.1, h.2.2.2.2⟩
theorem line_back {q : QT} {known : Int} (h : QuoV known q) (hk : knB known = true) : ∃ l : List UInt8, qfmt q (dayL q.day) = (l, 0) ∧ qprs (cuts l) q.day 0 known = (q, 0) ∧ (∀ a b c d p, cuts l = [a, b, c, d, p] → ParseR (bs d) q.day 0) ∧ l.length ≤ 100000 := by
  obtain ⟨hn, hp, hc, hd, hpr⟩ := right_parts h.right
  obtain ⟨d1, d2⟩ := day_back hd
  have hok : q.ok = true := by unfold QT.ok; rw [h.right, h.known, hk]; rfl
  obtain ⟨src, ins, cur, day, x, a, y, b, known', void⟩ := q
  obtain ⟨hr, ha, hb, rfl, hpp⟩ := h
  dsimp only at hn hp hc hd d1 d2 hpp hpr hr ha hb hk
  unfold qfmt
  rw [if_pos hok]
  dsimp only
  have hcut : ∀ t : List UInt8, (44 : UInt8) ∉ t → cuts (src ++ 44 :: (ins ++ 44 :: (cur ++ 44 :: (dayL day ++ 44 :: t)))) = [src, ins, cur, dayL day, t] := fun t ht => cuts_five (name_no44 hn) (paper_no44 hp) (code_no44 hc) d2 ht
  have hday : ∀ t : List UInt8, (44 : UInt8) ∉ t → ∀ a b c d p, cuts (src ++ 44 :: (ins ++ 44 :: (cur ++ 44 :: (dayL day ++ 44 :: t)))) = [a, b, c, d, p] → ParseR (bs d) day 0 := by
    intro t ht a b c d p e
    rw [hcut t ht] at e
    injection e with _ e
    injection e with _ e
    injection e with _ e
    injection e with e _
    rw [← e]
    exact d1
  have hlen : ∀ t : List UInt8, t.length ≤ 1000 → (src ++ 44 :: (ins ++ 44 :: (cur ++ 44 :: (dayL day ++ 44 :: t)))).length ≤ 100000 := by
    intro t ht
    have l4 := dayL_len day
    unfold nameB at hn
    unfold paperB at hp
    unfold codeB at hc
    simp only [Bool.and_eq_true, decide_eq_true_eq] at hn hp hc
    simp only [List.length_append, List.length_cons]
    omega
  cases void
  · obtain ⟨n, d, ⟨rfl, rfl, rfl, rfl⟩, hg⟩ := hpp rfl
    obtain ⟨s, h1, h2, h3, h4⟩ := txt_back (p := 6) hg.ok (by decide) hg.ex hg.lt
    have hdn := (okZ_iff.1 hg.ok).2.1
    have hs : s ≠ [45] := fun e => h4 (Int.le_of_lt hg.pos) (by rw [e]; rfl)
    have e1 : (txtR (okR (decide (n < 0)) n.natAbs (decide (d < 0)) d.natAbs) (sZ (decide (n < 0)) n.natAbs) (sZ (decide (d < 0)) d.natAbs) 6) = (s, 0) := by
      rw [sZ_z, sZ_z]
      exact h1
    have hs4 : (44 : UInt8) ∉ s := by
      have := txt_no44 (v := okZ n d) (n := n) (d := d) (p := ((6 : Nat) : Int))
      rw [h1] at this
      exact this
    rw [e1]
    refine ⟨_, rfl, ?_, hday s hs4, hlen s (Nat.le_trans h3 (fmtL_len hg.lt (by decide)))⟩
    · rw [if_neg (by decide), hcut s hs4]
      unfold qprs
      dsimp only
      rw [if_neg hs, show prsR s 6 = (n, d, 0) from h2]
      dsimp only
      rw [decide_eq_false hs, hr, hk]
      rfl
  · refine ⟨_, rfl, ?_, hday [45] (by decide), hlen [45] (by decide)⟩
    rw [if_pos rfl, hcut [45] (by decide)]
    have hz : QT.noP ⟨src, ins, cur, day, x, a, y, b, known', true⟩ = true := by simpa using hpr
    unfold QT.noP at hz
    simp only [Bool.and_eq_true, beq_iff_eq, decide_eq_true_eq] at hz
    obtain ⟨⟨rfl, rfl⟩, rfl, rfl⟩ := hz
    unfold qprs
    dsimp only
    rw [if_pos rfl, decide_eq_true (p := ([45] : List UInt8) = [45]) rfl]
    dsimp only
    rw [show QT.right ⟨src, ins, cur, day, decide ((0 : Int) < 0), (0 : Int).natAbs, decide ((0 : Int) < 0), (0 : Int).natAbs, known', true⟩ = true from hr, hk]
    rfl
end
section
open Go.RowKit
set_option maxHeartbeats 4000000
theorem join5 (a b c d p : List UInt8) : Lib.join ([bs a, bs b, bs c, bs d, bs p].map (·.data.toList)) (⟨#[44]⟩ : ByteArray).data.toList = a ++ 44 :: (b ++ 44 :: (c ++ 44 :: (d ++ 44 :: p))) := by
  simp [Lib.join, bs_list]
theorem joinF {a b c d p : List UInt8} {W : World} {g : Nat} {t : TypeId} (h : BlkAt W g (flatC [.string (bs a), .string (bs b), .string (bs c), .string (bs d), .string (bs p)]) t) (hl : a.length + b.length + c.length + d.length + p.length ≤ 100000) :
    Calls Tryz.prog 55 #[.slice (some ⟨g, 0, none⟩) 5 5, .string ⟨#[44]⟩] W (RetB (.string (bs (a ++ 44 :: (b ++ 44 :: (c ++ 44 :: (d ++ 44 :: p)))))) W) := by
  have hc := Tryz.strings_Join g 0 5 [bs a, bs b, bs c, bs d, bs p] ⟨#[44]⟩ W (fun j x hx => by
    rw [Nat.zero_add]
    refine h.cell ?_
    rw [show flatC [.string (bs a), .string (bs b), .string (bs c), .string (bs d), .string (bs p)] = flatC ([bs a, bs b, bs c, bs d, bs p].map Value.string) from rfl, flatC_strs]
    rw [List.getElem?_toArray, List.getElem?_map, hx]
    rfl) h.lt (by simp) (by simp) (by rw [join5]; simp only [List.length_append, List.length_cons]; omega)
  rw [join5] at hc
  exact hc.mono fun e W' ⟨he, hb⟩ => ⟨he, hb⟩
theorem joinV {a b c d : List UInt8} {W : World} {g : Nat} {t : TypeId} (h : BlkAt W g (flatC [.string (bs a), .string (bs b), .string (bs c), .string (bs d), .string ⟨#[45]⟩]) t) (hl : a.length + b.length + c.length + d.length + ([45] : List UInt8).length ≤ 100000) :
    Calls Tryz.prog 55 #[.slice (some ⟨g, 0, none⟩) 5 5, .string ⟨#[44]⟩] W (RetB (.string (bs (a ++ 44 :: (b ++ 44 :: (c ++ 44 :: (d ++ 44 :: [45])))))) W) := joinF (p := [45]) h hl
theorem price_len {q : QT} (h : q.price = true) : (txtR (okR q.x q.a q.y q.b) (sZ q.x q.a) (sZ q.y q.b) 6).1.length ≤ 2000 := by
  unfold QT.price priceB at h
  simp only [Bool.and_eq_true, decide_eq_true_eq] at h
  obtain ⟨-, h1, h2⟩ := h
  generalize sZ q.x q.a = n at *
  generalize sZ q.y q.b = d at *
  refine txtR_len ?_ (by decide)
  have hd : 0 < d := by omega
  have hb := bp15_big
  have e0 : n * ((10 ^ (6 : Int).toNat : Nat) : Int) ≤ 1000000000000000 * d := by
    rw [show ((10 ^ (6 : Int).toNat : Nat) : Int) = 1000000 from rfl]
    omega
  have e1 : n * ((10 ^ (6 : Int).toNat : Nat) : Int) / d ≤ 1000000000000000 := Int.ediv_le_of_le_mul hd e0
  have e2 : 0 ≤ n * ((10 ^ (6 : Int).toNat : Nat) : Int) / d := Int.ediv_nonneg (by rw [show ((10 ^ (6 : Int).toNat : Nat) : Int) = 1000000 from rfl]; omega) (by omega)
  have e3 : bp 15 ≤ bp 17 := bp_le (by decide)
  omega
set_option maxRecDepth 100000 in
theorem qformat_any {q : QT} (hq : q.wf) {r : List UInt8 × Int} (hr : qfmt q (dayL q.day) = r) (w : World) : Calls Tryz.prog 26 #[.agg (qC q)] w (RetB (.tuple #[.string (bs r.1), .int .i64 r.2]) w) := by
  have F := Fr.start w
  obtain ⟨c1, h1⟩ : ∃ c, q.right = c := ⟨_, rfl⟩
  obtain ⟨c2, h2⟩ : ∃ c, knB q.known = c := ⟨_, rfl⟩
  have g1 := fun w => right_any hq h1 w
  have g2 := fun w => qknown_any h2 w
  have hok : q.ok = (c1 && c2) := by unfold QT.ok; rw [h1, h2]
  unfold qfmt at hr
  rw [hok] at hr
  cases c1
  · rw [Bool.false_and, if_neg (by decide)] at hr
    subst hr
    go_enter Tryz.func26, Tryz.ntmps26
    go_wp2_with (first | go_skip | refine aYQ ?_ | ((with_reducible apply fSli F slInt); exact rfl; exact rfl; exact rfl; decide; decide; (go_simp; exact rfl); exact rfl) | ((with_reducible apply fSli F slStr); exact rfl; exact rfl; exact rfl; decide; decide; (go_simp; exact rfl); exact rfl) | refine aNQ ?_)
    (clear F; intro b1 W F; try simp only [Act.put, z6, z1, z2])
    go_wp2_with (first | go_skip | ((go_at_call 37); (with_reducible refine fr_call F (g1 _) ?_); (clear F; intro W F); (try dsimp only)) | refine aYQ ?_ | ((with_reducible apply fSli F slInt); exact rfl; exact rfl; exact rfl; decide; decide; (go_simp; exact rfl); exact rfl) | ((with_reducible apply fSli F slStr); exact rfl; exact rfl; exact rfl; decide; decide; (go_simp; exact rfl); exact rfl) | refine aNQ ?_)
    go_ret2
    exact ⟨rfl, F.below⟩
  cases c2
  · rw [Bool.and_false, if_neg (by decide)] at hr
    subst hr
    go_enter Tryz.func26, Tryz.ntmps26
    go_wp2_with (first | go_skip | refine aYQ ?_ | ((with_reducible apply fSli F slInt); exact rfl; exact rfl; exact rfl; decide; decide; (go_simp; exact rfl); exact rfl) | ((with_reducible apply fSli F slStr); exact rfl; exact rfl; exact rfl; decide; decide; (go_simp; exact rfl); exact rfl) | refine aNQ ?_)
    (clear F; intro b1 W F; try simp only [Act.put, z6, z1, z2])
    go_wp2_with (first | go_skip | ((go_at_call 37); (with_reducible refine fr_call F (g1 _) ?_); (clear F; intro W F); (try dsimp only)) | ((go_at_call 38); (with_reducible refine fr_call F (g2 _) ?_); (clear F; intro W F); (try dsimp only)) | refine aYQ ?_ | ((with_reducible apply fSli F slInt); exact rfl; exact rfl; exact rfl; decide; decide; (go_simp; exact rfl); exact rfl) | ((with_reducible apply fSli F slStr); exact rfl; exact rfl; exact rfl; decide; decide; (go_simp; exact rfl); exact rfl) | refine aNQ ?_)
    go_ret2
    exact ⟨rfl, F.below⟩
  rw [Bool.and_self, if_pos rfl] at hr
  obtain ⟨hn, hp, hc, hd, hpr⟩ := right_parts h1
  have l1 : q.src.length ≤ 16 := by
    unfold nameB at hn
    simp only [Bool.and_eq_true, decide_eq_true_eq] at hn
    omega
  have l2 : q.ins.length ≤ 12 := by
    unfold paperB at hp
    simp only [Bool.and_eq_true, decide_eq_true_eq] at hp
    omega
  have l3 : q.cur.length = 3 := by
    unfold codeB at hc
    simp only [Bool.and_eq_true, decide_eq_true_eq] at hc
    omega
  have l4 := dayL_len q.day
  obtain ⟨e, he⟩ := dayL_is q.day
  have g3 := fun w => dfmt_is he w
  generalize dayL q.day = D at *
  have ha := hq.a
  have hb := hq.b
  obtain ⟨tx, htx⟩ : ∃ t, txtR (okR q.x q.a q.y q.b) (sZ q.x q.a) (sZ q.y q.b) 6 = t := ⟨_, rfl⟩
  have g4 := fun w => text_any ha hb htx w
  cases hv : q.void
  · rw [hv, if_neg (by decide), htx] at hr
    rw [hv, if_neg (by decide)] at hpr
    have l5 := price_len hpr
    rw [htx] at l5
    have hl : q.src.length + q.ins.length + q.cur.length + D.length + tx.1.length ≤ 100000 := by omega
    obtain ⟨t1, t2⟩ := tx
    dsimp only at hr g4 hl
    subst hr
    clear htx hpr hn hp hc hd l1 l2 l3 l4 l5 h1 h2 hok he ha hb hq
    go_enter Tryz.func26, Tryz.ntmps26
    go_wp2_with (first | go_skip | refine aYQ ?_ | ((with_reducible apply fSli F slInt); exact rfl; exact rfl; exact rfl; decide; decide; (go_simp; exact rfl); exact rfl) | ((with_reducible apply fSli F slStr); exact rfl; exact rfl; exact rfl; decide; decide; (go_simp; exact rfl); exact rfl) | refine aNQ ?_)
    (clear F; intro b1 W F; try simp only [Act.put, z6, z1, z2])
    go_wp2_with (first | go_skip | ((go_at_call 37); (with_reducible refine fr_call F (g1 _) ?_); (clear F; intro W F); (try dsimp only)) | ((go_at_call 38); (with_reducible refine fr_call F (g2 _) ?_); (clear F; intro W F); (try dsimp only)) | ((go_at_call 53); (with_reducible refine fr_call F (g3 _) ?_); (clear F; intro W F); (try dsimp only)) | ((go_at_call 54); (with_reducible refine fr_call F (g4 _) ?_); (clear F; intro W F); (try dsimp only)) | refine aYQ ?_ | ((with_reducible apply fSli F slInt); exact rfl; exact rfl; exact rfl; decide; decide; (go_simp; exact rfl); exact rfl) | ((with_reducible apply fSli F slStr); exact rfl; exact rfl; exact rfl; decide; decide; (go_simp; exact rfl); exact rfl) | refine aNQ ?_)
    (clear F; intro b39 W F; try simp only [Act.put, z6, z1, z2])
    go_wp2_with (first | go_skip | ((go_at_call 55); (with_reducible refine fr_call F (joinF (Fr.get F tL) hl) ?_); (clear F; intro W F); (try dsimp only)) | refine aYQ ?_ | ((with_reducible apply fSli F slInt); exact rfl; exact rfl; exact rfl; decide; decide; (go_simp; exact rfl); exact rfl) | ((with_reducible apply fSli F slStr); exact rfl; exact rfl; exact rfl; decide; decide; (go_simp; exact rfl); exact rfl) | refine aNQ ?_)
    go_ret2
    exact ⟨rfl, F.below⟩
  · rw [hv, if_pos rfl] at hr
    have hl : q.src.length + q.ins.length + q.cur.length + D.length + ([45] : List UInt8).length ≤ 100000 := by simp only [List.length_cons, List.length_nil]; omega
    subst hr
    clear htx hpr hn hp hc hd l1 l2 l3 l4 h1 h2 hok he ha hb hq g4
    go_enter Tryz.func26, Tryz.ntmps26
    go_wp2_with (first | go_skip | refine aYQ ?_ | ((with_reducible apply fSli F slInt); exact rfl; exact rfl; exact rfl; decide; decide; (go_simp; exact rfl); exact rfl) | ((with_reducible apply fSli F slStr); exact rfl; exact rfl; exact rfl; decide; decide; (go_simp; exact rfl); exact rfl) | refine aNQ ?_)
    (clear F; intro b1 W F; try simp only [Act.put, z6, z1, z2])
    go_wp2_with (first | go_skip | ((go_at_call 37); (with_reducible refine fr_call F (g1 _) ?_); (clear F; intro W F); (try dsimp only)) | ((go_at_call 38); (with_reducible refine fr_call F (g2 _) ?_); (clear F; intro W F); (try dsimp only)) | ((go_at_call 53); (with_reducible refine fr_call F (g3 _) ?_); (clear F; intro W F); (try dsimp only)) | refine aYQ ?_ | ((with_reducible apply fSli F slInt); exact rfl; exact rfl; exact rfl; decide; decide; (go_simp; exact rfl); exact rfl) | ((with_reducible apply fSli F slStr); exact rfl; exact rfl; exact rfl; decide; decide; (go_simp; exact rfl); exact rfl) | refine aNQ ?_)
    (clear F; intro b39 W F; try simp only [Act.put, z6, z1, z2])
    go_wp2_with (first | go_skip | ((go_at_call 55); (with_reducible refine fr_call F (joinV (Fr.get F tL) hl) ?_); (clear F; intro W F); (try dsimp only)) | refine aYQ ?_ | ((with_reducible apply fSli F slInt); exact rfl; exact rfl; exact rfl; decide; decide; (go_simp; exact rfl); exact rfl) | ((with_reducible apply fSli F slStr); exact rfl; exact rfl; exact rfl; decide; decide; (go_simp; exact rfl); exact rfl) | refine aNQ ?_)
    go_ret2
    exact ⟨rfl, F.below⟩
end
section
open Go.RowKit
set_option maxHeartbeats 4000000
theorem QuoV.wf {k : Int} {q : QT} (h : QuoV k q) : q.wf := ⟨lt32' h.a, lt32' h.b, (right_lens h.right).1, (right_lens h.right).2.1, (right_lens h.right).2.2⟩
set_option maxRecDepth 100000 in
theorem quoteBack_any (A0 : Option Addr) (L0 : List Int) (cap : Nat) {w : World} (hL : IntsAt w A0 L0) : Calls Tryz.prog 8 #[.slice A0 L0.length cap] w (RetB (.bool true) w) := by
  have T0 := tape_start (cap := cap) hL
  have HO := Lib.hid (fun u W N L (T : Tp (w.alloc (.cells #[.slice A0 L0.length cap, .int .i64 0] 43)) u w.heap.size w.heap.size N) (F : Fr u W L) => (show RetB (.bool true) w (.returned (.bool true)) W from ⟨rfl, qtape_out T F⟩))
  clear hL
  go_enter Tryz.func8, Tryz.ntmps8
  go_upto_region 2 with fail
  have F := Fr.start (w.alloc (.cells #[.slice A0 L0.length cap, .int .i64 0] 43))
  have T := Tp.start T0
  clear T0
  generalize w.alloc (.cells #[.slice A0 L0.length cap, .int .i64 0] 43) = w1 at *
  generalize w.heap.size = b at *
  go_wp2_with (first | go_skip | ((go_at_call 17); (with_reducible refine fr_tap F T (tday (T.at F)) ?_); (try clear F T); (rintro _ u W ⟨day, rfl, hd⟩ T F); (try dsimp only)) | ((go_at_call 19); (with_reducible refine fr_tap F T (tnext _ (by decide) (by decide) (T.at F)) ?_); (try clear F T); (rintro _ u W ⟨n, rfl, hn⟩ T F); (try dsimp only)) | ((go_at_call 23); (with_reducible refine fr_tap F T (tquote (N := 1000) hd ((T.less (by omega)).at F)) ?_); (try clear F T); (rintro _ u W ⟨q, rfl, hq⟩ T F); (try dsimp only)) | refine aYQ ?_ | (refine aTQ ?_; clear F; intro W F) | refine aNQ ?_)
  (clear F; intro b4 W F; try simp only [Act.put, z6, z1, z2])
  have hk : knB q.known = true := (knB_iff _).2 (by rw [hq.known]; omega)
  have hq2 : QuoV q.known q := by have h := hq; rw [← hq.known] at h; exact h
  obtain ⟨l, h1, h2, h3, h4⟩ := line_back hq2 hk
  have g1 := fun w => qformat_any hq.wf h1 w
  have g2 := fun w => qparse_any l q.known (by omega) h3 h2 w
  have qq := fun w => eq_quo q hq.wf.a hq.wf.b w
  clear h1 h2 h3 h4 hk hq2 hq hd hn
  dsimp only at g1 g2
  generalize bs l = s at *
  go_wp2_with (first | go_skip | ((go_at_call 26); (with_reducible refine fr_call F (g1 _) ?_); (clear F; intro W F); (try dsimp only)) | ((go_at_call 24); (with_reducible refine fr_call F (g2 _) ?_); (clear F; intro W F); (try dsimp only)) | refine aYQ ?_ | (refine aTQ ?_; clear F; intro W F) | refine aNQ ?_)
  (clear F; intro b7 W F; try simp only [Act.put, z6, z1, z2])
  go_wp2_with (first | go_skip | ((go_at_call 13); (with_reducible refine fr_call F (qknown14_any _) ?_); (clear F; intro W F); (try dsimp only)) | refine aYQ ?_ | (refine aTQ ?_; clear F; intro W F) | refine aNQ ?_)
  go_ret
  exact HO.out _ _ _ _ T F
end
end Go.Proofs.YteaahhokaffmdaaGreatDoor
