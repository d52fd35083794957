/-
  What intake has taken of all versions.
  Two lists of what is taken, held against each other.
-/
import Derived.Test.YtbfllcfjgpkpaaaGreatIntColl
import Derived.Deep.RegionLaw
import Derived.Deep.DrawnRows
namespace Go.Proofs.YtbfllcfjgpkpaaaGreat
section
open Go.RowKit Go.Maps Go.Sort
attribute [local go_sem ↓] Go.wp_at_zero Go.wp_at_succ
set_option linter.unusedVariables false
set_option maxHeartbeats 4000000
theorem elTk : ElT Tryz.prog 42 59 13 144 := ElT.of (z := .agg #[.string ⟨#[]⟩, .string ⟨#[]⟩, .string ⟨#[]⟩, .string ⟨#[]⟩, .string ⟨#[]⟩, .int .i64 0, .int .i64 0, .int .i64 0, .int .i64 0, .int .i64 0, .bool false, .int .i64 0, .int .i64 0]) Tryz.underlying42 (by kernel_rfl) rfl (by decide)
theorem cell_grown {W W' : World} {row : Option Nat} (h : W.grownBy W' row) {g o : Nat} {r : Option Value} (hl : g < W.heap.size) (hne : row ≠ some g) (hc : W.cell? ⟨g, o, none⟩ = r) : W'.cell? ⟨g, o, none⟩ = r := by
  have h1 := h.block g hl (fun e => hne e.symm)
  rw [← hc]
  simp only [World.cell?, h1]
def TakP (P : DPar) (k : Int) (fund : ByteArray) (w : World) (e : Ending) (w' : World) : Prop :=
  ∃ v L, e = .returned (.tuple #[v, .int .i64 0]) ∧ OwnL w w' 59 13 v L.length (L.flatMap encT) ∧ TakenL P k fund L
theorem taken_bad {l : List OR} {A : Option Addr} {cp : Nat} {k : Int} {fund : ByteArray} {s : SC} {z : ZN} {zA : Option Addr} {zc : Nat} {c : CN} {cA : Option Addr} {cc : Nat} {w : World} (hla : OrAt w A l) (hza : ZAt w z zA) (hca : CAt w c cA) (hfu : fund.size ≤ maxLen) {e : Int} (he : runErr l k fund s z c = e) (h0 : e ≠ 0) :
    Calls Tryz.prog 13 #[.slice A l.length cp, .int .i64 k, .string fund, .agg (sV s), .agg (pV z zA zc c cA cc)] w (RetB (.tuple #[.slice none 0 0, .int .i64 e]) w) := by
  have g9 := beq_eq_false_iff_ne.2 h0
  have g8 := bne_iff_ne.2 h0
  have HM := Lib.hid (MB.new s zc cc hza hca (SuAt.nil w))
  have HR := fun W h1 h2 h3 => @run_bad l A cp k fund s z zA zc c cA cc W h1 h2 h3 hfu e he h0
  have HA := Lib.hid hla
  clear hla hza hca h0 he
  go_enter Tryz.func13, Tryz.ntmps13
  go_wp2_with (first | ((with_reducible refine wpl_load rfl 28 _ rfl _ ?_ HM.out.sb (rowS _) ?_); exact rfl) | ((with_reducible refine wpl_load rfl 37 _ rfl _ ?_ HM.out.pb (rowP ..) ?_); exact rfl))
  refine (HR _ (HA.out.below HM.out.below) HM.out.za HM.out.ca).mono ?_
  rintro e' w1 ⟨rfl, hb⟩
  have HM1 := Lib.hid (HM.out.next hb)
  clear hb HM HR
  go_wp2_with fail
  go_ret2
  exact ⟨rfl, HM1.out.below⟩
set_option maxRecDepth 100000 in
theorem taken_ok {P : DPar} {w : World} (hP : P.Ok w) {k : Int} {fund : ByteArray} (hb0 : bookErr P.l = 0) (hk : knB k = true) (hf : nmB fund = true) (hfu : fund.size ≤ maxLen) (hz : P.z.ok = true) (hc : P.c.ok = true) (hs : P.s.ok = true) :
    Calls Tryz.prog 13 #[.slice P.A P.l.length P.cp, .int .i64 k, .string fund, .agg (sV P.s), .agg (pV P.z P.zA P.zc P.c P.cA P.cc)] w (TakP P k fund w) := by
  have HM := Lib.hid (MB.new P.s P.zc P.cc hP.za hP.ca (SuAt.nil w))
  have HR := fun W h => @run_ok P W h k fund hb0 hk hf hfu hz hc hs
  have HP := Lib.hid hP
  have hln := hP.ln
  clear hP hb0 hk hf hz hc hs
  go_enter Tryz.func13, Tryz.ntmps13
  go_wp2_with (first | ((with_reducible refine wpl_load rfl 28 _ rfl _ ?_ HM.out.sb (rowS _) ?_); exact rfl) | ((with_reducible refine wpl_load rfl 37 _ rfl _ ?_ HM.out.pb (rowP ..) ?_); exact rfl))
  refine (HR _ (HP.out.below HM.out.below)).mono ?_
  rintro e' w2 ⟨b, gs, gm, rfl, m, hm, hd⟩
  have c0 : w2.cell? ⟨b, 19, none⟩ = some (.map (some gm)) := hd.blk.cell rfl
  have HB2 := Lib.hid (bnext HM.out.below hd.below)
  have hs2 := HB2.out.size
  obtain ⟨D, hown, hmap⟩ := hd.map
  have HMAP := Lib.hid hmap
  have HOWN := Lib.hid hown
  have hgm : w.heap.size ≤ gm := Nat.le_trans HM.out.below.size hd.hm
  have hBl := hown.lt
  have hsz := hown.size_le
  clear hd HM HR hmap hown
  go_wp2_with (at_range; refine wpList_range_own _ rfl _ 73 rfl 9 81 lawS Tryz.underlying73 _ gm m _ rfl HOWN.out ?_; intro w3 hrg3 hg3 hs3)
  have HB3 : Hid (Below w.heap.size w w3) := Lib.hid (HB2.out.grown hg3 hs2 (fun j hj => by cases hj))
  have hr3 : w2.heap.size < w3.heap.size := by omega
  have HR3 := Lib.hid hrg3
  clear hrg3 hg3 hs3 HOWN
  go_frame
  obtain ⟨A, hAA⟩ : ∃ A, P.A = A := ⟨_, rfl⟩
  rw [hAA]
  go_loopw [14] (fun ov wr => ∃ (left : Lit → Bool) (cnt : Nat) (out : List (OR × Int)), wr.ranges Tryz.prog 9 curE gm w2.heap.size m D left cnt ∧ CollT P.l (fun key => nowF P.fr P.dl P.l k fund key P.l.length) left out ∧ out.length + cnt ≤ m ∧ wr.ownsRow w3.heap.size 59 13 ov out.length (out.flatMap encT) ∧ w3.heap.size ≤ wr.heap.size ∧ Below w.heap.size w wr) (fun _ wr => wr.rangeLeft gm w2.heap.size)
  case atStart => exact ⟨_, _, [], HR3.out, CollT.start HMAP.out, by simpa using hsz, World.ownsRow_nil .., Nat.le_refl _, HB3.out⟩
  case round =>
    obtain ⟨left, cnt, out, hrg, hC, hcnt, hown, hws, hB⟩ := hrel
    have HC := Lib.hid hC
    have HO := Lib.hid hown
    have HR := Lib.hid hrg
    have HB := Lib.hid hB
    clear hC hown hrg hB HR3 HB3
    go_wp2_with (at_next; refine wpList_next_ranges _ rfl _ rfl 9 lawS _ encStr (fun c : Int × Int => Value.agg #[.int .i64 c.1, .int .i64 c.2]) (fun key kl hk => by obtain ⟨x, hx, _⟩ := Maps.keyOf_str Tryz.underlying9 hk; exact ⟨x, hx⟩) (fun v y hv => by obtain ⟨c, rfl, _⟩ := curE_inv hv; exact ⟨c, rfl⟩) gm w2.heap.size m _ _ _ rfl HR.out ?_ ?_)
    · intro _ hl0
      have HL0 := Lib.hid hl0
      clear hl0
      rcases HO.out.2 with ⟨rfl, h0⟩ | ⟨g, cap, cur, rfl, hbase, hb, h1, h2, h3, h4⟩
      · obtain rfl : out = [] := List.eq_nil_of_length_eq_zero h0
        have HT := Lib.hid (TakenL.none_ (P := P) (k := k) (fund := fund) HC.out HL0.out)
        have hc := fun fv => sort_taken_none none 0 fv wr
        clear h0
        go_wp2_with fail
        refine (hc _).mono ?_
        rintro e w' ⟨rfl, rfl⟩
        go_wp2_with fail
        go_ret2
        exact ⟨_, [], rfl, ⟨HB.out, World.ownsRow_nil ..⟩, HT.out⟩
      · have hH := holds_of_blockK (enc := encT) (k := 13) (fun _ => rfl) (L := out) hb h4
        have hgl : g < wr.heap.size := (Array.getElem?_eq_some_iff.1 hb).1
        have hc := sort_taken g 0 cap out.toArray wr hH hgl (by simp; omega)
        rw [List.size_toArray] at hc
        have FIN := Lib.hid (fun (T : List (OR × Int)) nn os (hlen : T.length = out.length) => by
          have h5 := ownsRow_sortedK (enc := encT) (k := 13) (fun _ => rfl) (n := nn) (os := os) hlen (Nat.le_trans (show w.heap.size ≤ w3.heap.size by omega) hbase) hb h1 h2 h3
          exact (⟨HB.out.grown (grownBy_sortedK _) HB.out.size (fun j hj => by cases hj; omega), by rw [hlen]; exact h5⟩ : OwnL w (sortWorldK encT 13 wr g 0 nn T.toArray os) 59 13 (.slice (some ⟨g, 0, none⟩) out.length cap) T.length (T.flatMap encT)))
        have HTK := Lib.hid (fun d' h1 h2 => TakenL.of_coll (P := P) (k := k) (fund := fund) HC.out HL0.out (d' := d') h1 h2)
        clear hH hb h1 h2 h3 h4
        go_wp2_with fail
        refine hc.mono ?_
        rintro e w' ⟨rfl, d', nn, os, hp, hsd, rfl⟩
        obtain ⟨T, rfl, hlen, htk⟩ := HTK.out d' (by simpa using hp) (by simpa using hsd)
        have HF := Lib.hid (FIN.out T nn os hlen)
        have HT := Lib.hid htk
        clear hc hp hsd htk hlen FIN HTK
        generalize sortWorldK encT 13 wr g 0 nn T.toArray os = w9 at *
        go_wp2_with fail
        go_ret2
        exact ⟨_, T, rfl, HF.out, HT.out⟩
    · intro x a d kl yd yp w4 cnt4 hkey hlk hv4 hat hrg4 hlt hg4 hs4 hen
      obtain ⟨x', ex, rfl, -⟩ := Maps.keyOf_str Tryz.underlying9 hkey
      obtain rfl : x = x' := encStr_inj ex
      obtain ⟨c', ec, ez⟩ := curE_inv hv4
      injection hv4 with hv4
      have hat2 : ∀ zd, D.atKey (.string x) zd = curD a d := fun zd => by rw [hat zd]; exact (congrArg Prod.fst hv4).symm
      obtain ⟨j, o, ej, ho, hC2⟩ := HC.out.step HMAP.out (fun key a d h => by obtain ⟨_, o, h1, h2, _⟩ := nowF_is h; exact ⟨o, h1, h2⟩) (c := (a, d)) hlk hat2
      have ej2 : a = (j : Int) := ej
      clear ej
      subst ej2
      have hO4 := HO.out.kept hg4 (.inr (fun e => by have := (HO.out.lt _ e).1; omega))
      have hB4 : Below w.heap.size w w4 := HB.out.grown hg4 HB.out.size (fun j hj => by cases hj; omega)
      have hw4 : w3.heap.size ≤ w4.heap.size := by omega
      have hjl : j < P.l.length := (List.getElem?_eq_some_iff.1 ho).1
      have HC2 := Lib.hid hC2
      have HO4 := Lib.hid hO4
      have HB4 := Lib.hid hB4
      have HR4 := Lib.hid hrg4
      have HR0 := Lib.hid HR.out
      have HO1 := Lib.hid ho
      clear hC2 hO4 hB4 hrg4 hat hat2 hv4 hkey hs4 ez ec ho
      go_wp2_with fail
      obtain ⟨ob, oo, x', hA, -, hobl, -, -⟩ := HP.out.la.get hjl
      obtain rfl : A = some ⟨ob, oo, none⟩ := hAA.symm.trans hA
      have hB5 := bal HB4.out (.cells #[.int .i64 (j : Int), .int .i64 d] 81)
      have hK : Hid (∀ W', Below (w4.alloc (.cells #[.int .i64 (j : Int), .int .i64 d] 81)).heap.size (w4.alloc (.cells #[.int .i64 (j : Int), .int .i64 d] 81)) W' → (W'.cell? ⟨w4.heap.size, 0, none⟩ = some (.int .i64 (j : Int))) ∧ (W'.cell? ⟨w4.heap.size, 1, none⟩ = some (.int .i64 d)) ∧ OrQ W' ob (oo + j * 11) o) := Lib.hid (fun W' hb => by
        have hb1 := (BlkAt.new w4 #[.int .i64 (j : Int), .int .i64 d] 81).next hb
        have hl := HP.out.la.below (bnext hB5 hb)
        rw [hA] at hl
        exact ⟨hb1.cell rfl, hb1.cell rfl, hl.at HO1.out⟩)
      have HO5 := Lib.hid (HO4.out.alloc (.cells #[.int .i64 (j : Int), .int .i64 d] 81))
      have HR5 := Lib.hid (HR4.out.alloc (.cells #[.int .i64 (j : Int), .int .i64 d] 81))
      have HB5 := Lib.hid hB5
      have HLT := Lib.hid HO4.out.lt
      have hw5 : w3.heap.size ≤ (w4.alloc (.cells #[.int .i64 (j : Int), .int .i64 d] 81)).heap.size := by simp; omega
      clear hB5 hA hAA HO4 HR4 HB4
      generalize hW5 : w4.alloc _ = W5 at *
      have HD := Lib.hid (hK.out W5.drew ((Below.refl _ _).drew))
      have HY := Lib.hid (fun o => hK.out ((W5.alloc o).drew) (bnext (bal0 W5 o) ((Below.refl _ _).drew)))
      have hw5d : w3.heap.size ≤ W5.drew.heap.size := hw5
      have HO5d : Hid (W5.drew.ownsRow w3.heap.size 59 13 u14 out.length (out.flatMap encT)) := HO5
      have hG5 : w4.heap.size < W5.heap.size := by rw [← hW5]; simp
      have hob5 : ob < W5.heap.size := by omega
      have HK9 := Lib.hid (fun (c : Obj) (w9 : World) (hg : (W5.drew.alloc c).grownBy w9 u14.ownBlock) => by
        have h0 := hK.out (W5.drew.alloc c) (bnext ((Below.refl _ _).drew) (bal0 W5.drew c))
        have hn1 : u14.ownBlock ≠ some w4.heap.size := fun e => by have := (HLT.out _ e).2; omega
        have hn2 : u14.ownBlock ≠ some ob := fun e => by have := (HLT.out _ e).1; omega
        have hl1 : w4.heap.size < (W5.drew.alloc c).heap.size := by simp; exact Nat.lt_succ_of_lt hG5
        have hl2 : ob < (W5.drew.alloc c).heap.size := by simp; exact Nat.lt_succ_of_lt hob5
        obtain ⟨a0, a1, b0, b1, b2, b3, b4, b5, b6, b7, b8, b9, b10⟩ := h0
        exact (⟨cell_grown hg hl1 hn1 a0, cell_grown hg hl1 hn1 a1, cell_grown hg hl2 hn2 b0, cell_grown hg hl2 hn2 b1, cell_grown hg hl2 hn2 b2, cell_grown hg hl2 hn2 b3, cell_grown hg hl2 hn2 b4, cell_grown hg hl2 hn2 b5, cell_grown hg hl2 hn2 b6, cell_grown hg hl2 hn2 b7, cell_grown hg hl2 hn2 b8, cell_grown hg hl2 hn2 b9, cell_grown hg hl2 hn2 b10⟩ : (w9.cell? ⟨w4.heap.size, 0, none⟩ = some (.int .i64 (j : Int))) ∧ (w9.cell? ⟨w4.heap.size, 1, none⟩ = some (.int .i64 d)) ∧ OrQ w9 ob (oo + j * 11) o))
      clear hK
      generalize hG4 : w4.heap.size = G at *
      clear hen ex
      have q0 := HD.out.1
      have q1 := HD.out.2.1
      obtain ⟨b0, b1, b2, b3, b4, b5, b6, b7, b8, b9, b10⟩ := HD.out.2.2
      obtain ⟨i0, z0, hi0, hz0, hz1, hby, hz2⟩ := elTk.info
      have hsz5 : W5.drew.heap.size = W5.heap.size := rfl
      go_region_law (first
        | (refine step_append_lies _ (by rfl) _ _ _ (by rfl) w3.heap.size 59 i0 z0 13 144 elTk.sl hi0 hz0 hz1 hby hz2 (by omega) u14 out.length (out.flatMap encT) (by rfl) (HO5d.out.alloc _) ⟨W5.heap.size, 0, none⟩ 1 1 [.string o.key, .string o.nom, .string o.hol, .string o.fund, .string o.cls, .int .i64 o.kind, .int .i64 o.amt, .int .i64 o.units, .int .i64 o.t, .int .i64 o.known, .bool o.void, .int .i64 d, .int .i64 d] (by rfl) (by rfl) (World.news_of_block (cs := #[.string o.key, .string o.nom, .string o.hol, .string o.fund, .string o.cls, .int .i64 o.kind, .int .i64 o.amt, .int .i64 o.units, .int .i64 o.t, .int .i64 o.known, .bool o.void, .int .i64 d, .int .i64 d]) (t := 59) (fr := (0, 0)) (heap_alloc_new _ _)) (by simp [Value.oneCell']) (by omega) (by unfold maxLen; omega) (by omega) (by simp; omega) (W5.heap.size + 1) (by simp) ?_; intro gg cap w9 hO9 hg9 hat9 hlt9))
      all_goals
        have HR5d : Hid (W5.drew.ranges Tryz.prog 9 curE gm w2.heap.size m D (fun z => left z && !z.sameKey (Lit.string x)) cnt4) := HR5
        have hR9 := (HR5d.out.alloc (.cells #[.string o.key, .string o.nom, .string o.hol, .string o.fund, .string o.cls, .int .i64 o.kind, .int .i64 o.amt, .int .i64 o.units, .int .i64 o.t, .int .i64 o.known, .bool o.void, .int .i64 d, .int .i64 d] 59)).kept hg9 (fun e => by have := (HO5d.out.lt _ e.symm).1; omega) (fun e => by have := (HO5d.out.lt _ e.symm).1; omega)
        have hB8 : Below w.heap.size w (W5.drew.alloc (.cells #[.string o.key, .string o.nom, .string o.hol, .string o.fund, .string o.cls, .int .i64 o.kind, .int .i64 o.amt, .int .i64 o.units, .int .i64 o.t, .int .i64 o.known, .bool o.void, .int .i64 d, .int .i64 d] 59)) := bal (bnext HB5.out ((Below.refl _ _).drew)) _
        have hB9 := hB8.grown hg9 hB8.size (fun j hj => by have := (HO5d.out.lt _ hj).1; omega)
        have hs9 : w3.heap.size ≤ w9.heap.size := Nat.le_trans (by simp; omega) hg9.size
        have HRB := Lib.hid (And.intro hR9 (And.intro hB9 (And.intro hs9 hO9)))
        clear hR9 hB8 hB9 hO9 hg9 hs9 hat9 hlt9 b0 b1 b2 b3 b4 b5 b6 b7 b8 b9 b10 q0 q1
        go_simp
        go_wp2_with fail
        go_roundw
        case rel => exact ⟨_, cnt4, out ++ [(o, d)], HRB.out.1, HC2.out, by simp; omega, by rw [List.length_append, List.flatMap_append]; exact HRB.out.2.2.2, HRB.out.2.2.1, HRB.out.2.1⟩
        case measure => rw [HRB.out.1.left_eq, HR0.out.left_eq]; omega
end
section
open Go.RowKit
set_option linter.unusedVariables false
set_option maxHeartbeats 4000000
/-- What is taken lies behind A. -/
def TkAt (W : World) (A : Option Addr) (T : List (OR × Int)) : Prop := RecsAt W A 13 (T.map encT)
theorem TkAt.below {W W' : World} {A : Option Addr} {T : List (OR × Int)} (h : TkAt W A T) (hb : Below W.heap.size W W') : TkAt W' A T := RecsAt.below h hb
theorem OwnL.taken {W0 W : World} {v : Value} {n : Nat} {T : List (OR × Int)} (h : OwnL W0 W 59 13 v n (T.flatMap encT)) (hl : T.length ≤ 1000000) : ∃ A cap, v = .slice A T.length cap ∧ TkAt W A T := by
  rw [List.flatMap_def] at h
  obtain ⟨hn, A, cap, hv, hr, -⟩ := h.recs (fun x hx => by obtain ⟨y, -, rfl⟩ := List.mem_map.1 hx; rfl) (by decide) (by simp; omega)
  exact ⟨A, cap, by rw [hv, hn, List.length_map], hr⟩
/-- The cells of one of them. -/
def TkQ (W : World) (b o : Nat) (p : OR × Int) : Prop :=
  W.cell? ⟨b, o, none⟩ = some (.string p.1.key) ∧ W.cell? ⟨b, o + 1, none⟩ = some (.string p.1.nom) ∧ W.cell? ⟨b, o + 2, none⟩ = some (.string p.1.hol) ∧ W.cell? ⟨b, o + 3, none⟩ = some (.string p.1.fund) ∧ W.cell? ⟨b, o + 4, none⟩ = some (.string p.1.cls) ∧ W.cell? ⟨b, o + 5, none⟩ = some (.int .i64 p.1.kind) ∧ W.cell? ⟨b, o + 6, none⟩ = some (.int .i64 p.1.amt) ∧ W.cell? ⟨b, o + 7, none⟩ = some (.int .i64 p.1.units) ∧ W.cell? ⟨b, o + 8, none⟩ = some (.int .i64 p.1.t) ∧ W.cell? ⟨b, o + 9, none⟩ = some (.int .i64 p.1.known) ∧ W.cell? ⟨b, o + 10, none⟩ = some (.bool p.1.void) ∧ W.cell? ⟨b, o + 11, none⟩ = some (.int .i64 p.2) ∧ W.cell? ⟨b, o + 12, none⟩ = some (.int .i64 p.2)
theorem TkAt.get {W : World} {A : Option Addr} {T : List (OR × Int)} (h : TkAt W A T) {i : Nat} {p : OR × Int} (hp : T[i]? = some p) : ∃ b o, A = some ⟨b, o, none⟩ ∧ b < W.heap.size ∧ TkQ W b (o + i * 13) p := by
  obtain ⟨b, o, hA, hlt, hc⟩ := h.rows i (encT p) (by rw [List.getElem?_map, hp]; rfl)
  exact ⟨b, o, hA, hlt, hc 0 _ rfl, hc 1 _ rfl, hc 2 _ rfl, hc 3 _ rfl, hc 4 _ rfl, hc 5 _ rfl, hc 6 _ rfl, hc 7 _ rfl, hc 8 _ rfl, hc 9 _ rfl, hc 10 _ rfl, hc 11 _ rfl, hc 12 _ rfl⟩
set_option maxRecDepth 1000000 in
theorem rsame_any (T : List (OR × Int)) (hl : T.length ≤ 1000000) (A A' : Option Addr) (c c' : Nat) (w : World) (h1 : TkAt w A T) (h2 : TkAt w A' T) : Calls Tryz.prog 16 #[.slice A T.length c, .slice A' T.length c'] w (RetB (.bool true) w) := by
  have H1 := Lib.hid h1
  have H2 := Lib.hid h2
  clear h1 h2
  go_enter Tryz.func16, Tryz.ntmps16
  go_wp2_with fail
  go_loopw [5] (fun iv wr => ∃ i : Nat, i ≤ T.length ∧ iv = .int .i64 i ∧ Below w.heap.size w wr) (fun iv _ => T.length - (intOf iv).toNat)
  case atStart => exact ⟨0, by omega, rfl, Below.refl _ _⟩
  case round =>
    obtain ⟨i, hi, rfl, hB⟩ := hrel
    by_cases hlt : i < T.length
    · obtain ⟨p, hp⟩ : ∃ p, T[i]? = some p := ⟨_, List.getElem?_eq_getElem hlt⟩
      obtain ⟨b, o, rfl, -, hq⟩ := (H1.out.below hB).get hp
      obtain ⟨b', o', rfl, -, hq'⟩ := (H2.out.below hB).get hp
      have HB := Lib.hid hB
      obtain ⟨q0, q1, q2, q3, q4, q5, q6, q7, q8, q9, q10, q11, q12⟩ := hq
      obtain ⟨r0, r1, r2, r3, r4, r5, r6, r7, r8, r9, r10, r11, r12⟩ := hq'
      have hi0 : (0 : Int) ≤ (i : Int) := by omega
      have hi1 : (i : Int) < (T.length : Int) := by omega
      clear hp hB
      go_wp2_with fail
      go_quiet (fail)
      clear q0 q1 q2 q3 q4 q5 q6 q7 q8 q9 q10 q11 q12 r0 r1 r2 r3 r4 r5 r6 r7 r8 r9 r10 r11 r12
      go_wp2_with fail
      go_roundw
      case rel => exact ⟨i + 1, by omega, by go_num, bnext HB.out (Go.below_drewN (Below.refl _ _) nq)⟩
      case measure => simp [intOf]; omega
    · go_wp2_with fail
      go_ret
      exact ⟨rfl, hB⟩
end
end Go.Proofs.YtbfllcfjgpkpaaaGreat
