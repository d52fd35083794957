/-
  One version at the desk of intake.
  One version at the desk of intake, in the plain words of the specification.
-/
import Derived.Test.YtbfllcfjgpkpaaaGreatIntDesk
import Derived.Deep.DeepCutAuto
import Derived.Deep.CutBlock
import Derived.RegionTactic
import Derived.Test.YtbfllcfjgpkpaaaGreatIntPlain
namespace Go.Proofs.YtbfllcfjgpkpaaaGreat
section
open Go.RowKit Go.Maps
set_option linter.unusedVariables false
set_option maxHeartbeats 4000000
/-- What a version leaves on the desk. -/
def TakeP (P : DPar) (w W : World) (b gs gm : Nat) (st' : Nat → Int) (now' : ByteArray → Option (Nat × Int)) (m' : Nat) (e : Ending) (W' : World) : Prop :=
  e = .returned (.tuple #[]) ∧ DK P w W' b gs gm st' now' m' ∧ Two gs gm W W'
theorem rep_t {o w : OR} (h0 : o.key.toList = w.key.toList) (h1 : o.nom.toList = w.nom.toList) (h2 : o.hol.toList = w.hol.toList) (h3 : o.fund.toList = w.fund.toList) (h4 : o.cls.toList = w.cls.toList) (h5 : o.kind = w.kind) (h6 : o.amt = w.amt) (h7 : o.units = w.units) (h8 : o.t = w.t) (h9 : o.void = w.void) : repB o w = true := by simp [repB, h0, h1, h2, h3, h4, h5, h6, h7, h8, h9]
theorem rep_f0 {o w : OR} (h : ¬o.key.toList = w.key.toList) : repB o w = false := by simp [repB, h]
theorem rep_f1 {o w : OR} (h : ¬o.nom.toList = w.nom.toList) : repB o w = false := by simp [repB, h]
theorem rep_f2 {o w : OR} (h : ¬o.hol.toList = w.hol.toList) : repB o w = false := by simp [repB, h]
theorem rep_f3 {o w : OR} (h : ¬o.fund.toList = w.fund.toList) : repB o w = false := by simp [repB, h]
theorem rep_f4 {o w : OR} (h : ¬o.cls.toList = w.cls.toList) : repB o w = false := by simp [repB, h]
theorem rep_f5 {o w : OR} (h : ¬o.kind = w.kind) : repB o w = false := by simp [repB, h]
theorem rep_f6 {o w : OR} (h : ¬o.amt = w.amt) : repB o w = false := by simp [repB, h]
theorem rep_f7 {o w : OR} (h : ¬o.units = w.units) : repB o w = false := by simp [repB, h]
theorem rep_f8 {o w : OR} (h : ¬o.t = w.t) : repB o w = false := by simp [repB, h]
theorem rep_f9 {o w : OR} (h : ¬o.void = w.void) : repB o w = false := by simp [repB, h]
theorem con_t0 {o w : OR} (h : ¬o.nom.toList = w.nom.toList) : conB o w = true := by simp [conB, h]
theorem con_t1 {o w : OR} (h : ¬o.hol.toList = w.hol.toList) : conB o w = true := by simp [conB, h]
theorem con_t2 {o w : OR} (h : ¬o.cls.toList = w.cls.toList) : conB o w = true := by simp [conB, h]
theorem con_f {o w : OR} (h0 : o.nom.toList = w.nom.toList) (h1 : o.hol.toList = w.hol.toList) (h2 : o.cls.toList = w.cls.toList) : conB o w = false := by simp [conB, h0, h1, h2]
theorem con_e {o w : OR} (h0 : o.nom.toList = w.nom.toList) (h1 : o.hol.toList = w.hol.toList) : conB o w = !(o.cls.toList == w.cls.toList) := by
  rw [Bool.eq_iff_iff]
  simp [conB, h0, h1]
theorem vb {a b : Bool} (h : a = b) : Value.bool b = Value.bool a := by rw [h]
section
variable {P : DPar} {w W : World} {b gs gm : Nat} {st : Nat → Int} {now : ByteArray → Option (Nat × Int)} {m : Nat}
theorem ordV {hP : P.Ok w} (h : DK P w W b gs gm st now m) {ob oo i : Nat} (hA : P.A = some ⟨ob, oo, none⟩) {o : OR} (ho : P.l[i]? = some o) : W.cell? ⟨ob, oo + i * 11 + 10, none⟩ = some (.bool o.void) :=
  (ordQ hP h hA ho).2.2.2.2.2.2.2.2.2.2
set_option maxRecDepth 100000 in
theorem begin_void (hP : P.Ok w) (h : DK P w W b gs gm st now m) {i : Nat} {o : OR} (ho : P.l[i]? = some o) (hv : o.void = true) :
    Calls Tryz.prog 72 #[.pointer (some ⟨b, 0, none⟩), .int .i64 i] W (TakeP P w W b gs gm (upS st i 6) now m) := by
  have hil : i < P.l.length := (List.getElem?_eq_some_iff.1 ho).1
  have hln := hP.ln
  obtain ⟨ob, oo, o', hA, ho', -, -, -⟩ := hP.la.get hil
  have qv := ordV (hP := hP) h hA ho
  rw [hv] at qv
  have c0 : W.cell? ⟨b, 0, none⟩ = some (.slice P.A P.l.length P.cp) := h.blk.cell rfl
  have c18 : W.cell? ⟨b, 18, none⟩ = some (.slice (some ⟨gs, 0, none⟩) P.l.length P.l.length) := h.blk.cell rfl
  have cst := h.sb.cell (stA_at st hil)
  have fst := h.sb.fz i
  have HR := Lib.hid (h.setS i 6)
  have HT := Lib.hid ((Two.refl gs gm W).setS i (.int .i64 6))
  clear hP h ho ho' hv
  go_enter Tryz.func72, Tryz.ntmps72
  go_wp2_with fail
  refine bodyPost_ret (results_none rfl _ _ _) rfl ?_
  exact ⟨rfl, HR.out, HT.out⟩
set_option maxRecDepth 100000 in
theorem begin_open {Q : Ending → World → Prop} {st' : Nat → Int} {now' : ByteArray → Option (Nat × Int)} {m' : Nat} (hP : P.Ok w) (h : DK P w W b gs gm st now m) {i : Nat} {o : OR} (ho : P.l[i]? = some o) (hv : o.void = false)
    (hc : Calls Tryz.prog 74 #[.pointer (some ⟨b, 0, none⟩), .int .i64 i] W fun e W' => (∃ v, e = .returned (.bool v)) ∧ DK P w W' b gs gm st' now' m' ∧ Two gs gm W W') :
    Calls Tryz.prog 72 #[.pointer (some ⟨b, 0, none⟩), .int .i64 i] W (TakeP P w W b gs gm st' now' m') := by
  have hil : i < P.l.length := (List.getElem?_eq_some_iff.1 ho).1
  have hln := hP.ln
  obtain ⟨ob, oo, o', hA, ho', -, -, -⟩ := hP.la.get hil
  have qv := ordV (hP := hP) h hA ho
  rw [hv] at qv
  have c0 : W.cell? ⟨b, 0, none⟩ = some (.slice P.A P.l.length P.cp) := h.blk.cell rfl
  clear hP h ho ho' hv
  go_enter Tryz.func72, Tryz.ntmps72
  go_wp2_with fail
  refine hc.mono ?_
  rintro e W' ⟨⟨v, rfl⟩, hD, hT⟩
  have HD := Lib.hid hD
  have HT := Lib.hid hT
  clear hD hT hc
  go_wp2_with fail
  go_end0
  exact ⟨rfl, HD.out, HT.out⟩
theorem lookN {W' : World} {G : Nat} {o : OR} {t : TypeId} (h : DK P w W' b gs gm st now m) (hb : BlkAt W' G (orV o) t) (hks : o.key.size ≤ maxLen) (hn : now o.key = none) :
    W'.cell? ⟨b, 19, none⟩ = some (.map (some gm)) ∧ W'.cell? ⟨G, 0, none⟩ = some (.string o.key) ∧ (Instr.lookup 73 (.map (some gm)) (.string o.key) true).run Tryz.prog W' = .ok (.tuple #[.agg #[.int .i64 0, .int .i64 0], .bool false]) W' :=
  ⟨h.blk.cell rfl, hb.cell rfl, h.map.none_ hks hn⟩
theorem lookY {W' : World} {G : Nat} {o : OR} {t : TypeId} {a : Nat} {d : Int} (h : DK P w W' b gs gm st now m) (hb : BlkAt W' G (orV o) t) (hks : o.key.size ≤ maxLen) (hn : now o.key = some (a, d)) :
    W'.cell? ⟨b, 19, none⟩ = some (.map (some gm)) ∧ W'.cell? ⟨G, 0, none⟩ = some (.string o.key) ∧ (Instr.lookup 73 (.map (some gm)) (.string o.key) true).run Tryz.prog W' = .ok (.tuple #[.agg #[.int .i64 (a : Int), .int .i64 d], .bool true]) W' :=
  ⟨h.blk.cell rfl, hb.cell rfl, h.map.some_ hks hn⟩
set_option maxRecDepth 100000 in
theorem take_none {st' : Nat → Int} {now' : ByteArray → Option (Nat × Int)} {m' : Nat} (hP : P.Ok w) (h : DK P w W b gs gm st now m) {i : Nat} {o : OR} (ho : P.l[i]? = some o) (hn : now o.key = none)
    (hc : ∀ W1, DK P w W1 b gs gm st now m → Calls Tryz.prog 72 #[.pointer (some ⟨b, 0, none⟩), .int .i64 i] W1 (TakeP P w W1 b gs gm st' now' m')) :
    Calls Tryz.prog 45 #[.pointer (some ⟨b, 0, none⟩), .int .i64 i] W (TakeP P w W b gs gm st' now' m') := by
  have hil : i < P.l.length := (List.getElem?_eq_some_iff.1 ho).1
  have hln := hP.ln
  obtain ⟨ob, oo, o', hA, ho', -, -, -⟩ := hP.la.get hil
  obtain ⟨q0, q1, q2, q3, q4, q5, q6, q7, q8, q9, q10⟩ := ordQ hP h hA ho
  have hks := (hP.la.small o (List.mem_of_getElem? ho)).key
  have c0 : W.cell? ⟨b, 0, none⟩ = some (.slice P.A P.l.length P.cp) := h.blk.cell rfl
  have HD1 := Lib.hid (h.next (bal0 W (.cells #[.string o.key, .string o.nom, .string o.hol, .string o.fund, .string o.cls, .int .i64 o.kind, .int .i64 o.amt, .int .i64 o.units, .int .i64 o.t, .int .i64 o.known, .bool o.void] 57)))
  have HB1 := Lib.hid (show BlkAt (W.alloc (.cells #[.string o.key, .string o.nom, .string o.hol, .string o.fund, .string o.cls, .int .i64 o.kind, .int .i64 o.amt, .int .i64 o.units, .int .i64 o.t, .int .i64 o.known, .bool o.void] 57)) W.heap.size (orV o) 57 from BlkAt.new _ _ _)
  have HT1 := Lib.hid (Two.below (gs := gs) (gm := gm) (bal0 W (.cells #[.string o.key, .string o.nom, .string o.hol, .string o.fund, .string o.cls, .int .i64 o.kind, .int .i64 o.amt, .int .i64 o.units, .int .i64 o.t, .int .i64 o.known, .bool o.void] 57)))
  have HN := Lib.hid hn
  have HCC := Lib.hid hc
  clear hP h ho ho' hn hc
  go_enter Tryz.func45, Tryz.ntmps45
  go_wp2_with fail
  clear q0 q1 q2 q3 q4 q5 q6 q7 q8 q9 q10 c0
  generalize W.alloc _ = W1 at *
  generalize W.heap.size = G at *
  have HD2 := Lib.hid (HD1.out.next ((Below.refl _ _).drew))
  have HD3 := Lib.hid ((HD1.out.next (bal0 W1 (.cells #[.int .i64 0, .int .i64 0] 81))).next ((Below.refl _ _).drew))
  have HT3 := Lib.hid ((HT1.out.next (bal0 W1 (.cells #[.int .i64 0, .int .i64 0] 81))).next ((Below.refl _ _).drew))
  have HB2 := Lib.hid HB1.out.drew
  have HB3 := Lib.hid (HB1.out.al (.cells #[.int .i64 0, .int .i64 0] 81)).drew
  clear HD1 HT1 HB1
  go_region_held3 (fun W => W.cell? ⟨b, 19, none⟩ = some (.map (some gm)) ∧ W.cell? ⟨G, 0, none⟩ = some (.string o.key) ∧ (Instr.lookup 73 (.map (some gm)) (.string o.key) true).run Tryz.prog W = .ok (.tuple #[.agg #[.int .i64 0, .int .i64 0], .bool false]) W)
    ((first
      | (with_reducible exact lookN HD2.out HB2.out hks HN.out)
      | (with_reducible exact lookN HD3.out HB3.out hks HN.out)))
    (fail)
  all_goals
    go_wp2_with fail
    refine (HCC.out _ HD3.out).mono ?_
    rintro e W4 ⟨rfl, hD4, hT4⟩
    have HD4 := Lib.hid hD4
    have HT4 := Lib.hid (HT3.out.trans hT4)
    clear hD4 hT4
    go_wp2_with fail
    refine bodyPost_ret (results_none rfl _ _ _) rfl ?_
    exact ⟨rfl, HD4.out, HT4.out⟩
/-- The four blocks that one version is looked at in: the order, and what is current. -/
structure TB (P : DPar) (w W : World) (b gs gm : Nat) (st : Nat → Int) (now : ByteArray → Option (Nat × Int)) (m G C : Nat) (o : OR) (a : Nat) (d : Int) : Prop where
  dk : DK P w W b gs gm st now m
  ob : BlkAt W G (orV o) 57
  cb : BlkAt W C #[.int .i64 (a : Int), .int .i64 d] 81
  g1 : G ≠ gs
  g2 : G ≠ gm
  c1 : C ≠ gs
  c2 : C ≠ gm
theorem TB.next {W' : World} {G C : Nat} {o : OR} {a : Nat} {d : Int} (h : TB P w W b gs gm st now m G C o a d) (k : Below W.heap.size W W') : TB P w W' b gs gm st now m G C o a d := ⟨h.dk.next k, h.ob.next k, h.cb.next k, h.g1, h.g2, h.c1, h.c2⟩
theorem TB.q {G C : Nat} {o : OR} {a : Nat} {d : Int} (h : TB P w W b gs gm st now m G C o a d) : (W.cell? ⟨b, 0, none⟩ = some (.slice P.A P.l.length P.cp) ∧ W.cell? ⟨b, 1, none⟩ = some (.int .i64 P.s.period) ∧ W.cell? ⟨b, 2, none⟩ = some (.int .i64 P.s.nth) ∧ W.cell? ⟨b, 3, none⟩ = some (.int .i64 P.s.notice) ∧ W.cell? ⟨b, 4, none⟩ = some (.int .i64 P.s.settle) ∧ W.cell? ⟨b, 5, none⟩ = some (.int .i64 P.s.cutoff) ∧ W.cell? ⟨b, 6, none⟩ = some (.string P.z.name) ∧ W.cell? ⟨b, 7, none⟩ = some (.int .i64 P.z.off) ∧ W.cell? ⟨b, 8, none⟩ = some (.slice P.zA P.z.cs.length P.zc) ∧ W.cell? ⟨b, 9, none⟩ = some (.string P.c.name) ∧ W.cell? ⟨b, 10, none⟩ = some (.bool P.c.w0) ∧ W.cell? ⟨b, 11, none⟩ = some (.bool P.c.w1) ∧ W.cell? ⟨b, 12, none⟩ = some (.bool P.c.w2) ∧ W.cell? ⟨b, 13, none⟩ = some (.bool P.c.w3) ∧ W.cell? ⟨b, 14, none⟩ = some (.bool P.c.w4) ∧ W.cell? ⟨b, 15, none⟩ = some (.bool P.c.w5) ∧ W.cell? ⟨b, 16, none⟩ = some (.bool P.c.w6) ∧ W.cell? ⟨b, 17, none⟩ = some (.slice P.cA P.c.hs.length P.cc) ∧ W.cell? ⟨b, 18, none⟩ = some (.slice (some ⟨gs, 0, none⟩) P.l.length P.l.length) ∧ W.cell? ⟨b, 19, none⟩ = some (.map (some gm))) ∧ W.cell? ⟨C, 1, none⟩ = some (.int .i64 d) := ⟨h.dk.q, h.cb.cell rfl⟩
theorem TB.setS {G C : Nat} {o : OR} {a : Nat} {d : Int} (h : TB P w W b gs gm st now m G C o a d) (j : Nat) (v : Int) : TB P w (W.setCell ⟨gs, j, none⟩ (.int .i64 v)) b gs gm (upS st j v) now m G C o a d := ⟨h.dk.setS j v, h.ob.cellFar j _ h.g1, h.cb.cellFar j _ h.c1, h.g1, h.g2, h.c1, h.c2⟩
theorem TB.s8 {G C : Nat} {o : OR} {a : Nat} {d : Int} (h : TB P w W b gs gm st now m G C o a d) : W.cell? ⟨b, 18, none⟩ = some (.slice (some ⟨gs, 0, none⟩) P.l.length P.l.length) ∧ W.cell? ⟨C, 0, none⟩ = some (.int .i64 a) := ⟨h.dk.blk.cell rfl, h.cb.cell rfl⟩
theorem TB.s9 {G C : Nat} {o : OR} {a : Nat} {d : Int} (h : TB P w W b gs gm st now m G C o a d) : W.cell? ⟨b, 19, none⟩ = some (.map (some gm)) ∧ W.cell? ⟨G, 0, none⟩ = some (.string o.key) := ⟨h.dk.blk.cell rfl, h.ob.cell rfl⟩
/-- What a version does that is in time, not void, and not the same again. -/
def TOp (P : DPar) (st : Nat → Int) (now : ByteArray → Option (Nat × Int)) (m i : Nat) (o : OR) (a : Nat) (wv : OR) (st' : Nat → Int) (now' : ByteArray → Option (Nat × Int)) (m' : Nat) : Prop :=
  (conB o wv = true ∧ st' = upS st i 5 ∧ now' = now ∧ m' = m) ∨
  (conB o wv = false ∧ (P.fr o.t).2 ≠ 0 ∧ st' = upS st i 4 ∧ now' = now ∧ m' = m) ∨
  (conB o wv = false ∧ (P.fr o.t).2 = 0 ∧ st' = upS (upS st i 1) a 2 ∧ now' = upN now o.key (some (i, (P.fr o.t).1)) ∧ m' = m + 1)
/-- What a version does that is in time, and not void. -/
def TOn (P : DPar) (st : Nat → Int) (now : ByteArray → Option (Nat × Int)) (m i : Nat) (o : OR) (a : Nat) (wv : OR) (st' : Nat → Int) (now' : ByteArray → Option (Nat × Int)) (m' : Nat) : Prop :=
  (repB o wv = true ∧ st' = upS st i 7 ∧ now' = now ∧ m' = m) ∨ (repB o wv = false ∧ TOp P st now m i o a wv st' now' m')
theorem TB.s10 {G C : Nat} {o : OR} {a : Nat} {d : Int} (h : TB P w W b gs gm st now m G C o a d) (hP : P.Ok w) {ob oo : Nat} (hA : P.A = some ⟨ob, oo, none⟩) {wv : OR} (hw : P.l[a]? = some wv) : W.cell? ⟨b, 0, none⟩ = some (.slice P.A P.l.length P.cp) ∧ W.cell? ⟨C, 0, none⟩ = some (.int .i64 a) ∧ W.cell? ⟨ob, oo + a * 11, none⟩ = some (.string wv.key) ∧ W.cell? ⟨ob, oo + a * 11 + 1, none⟩ = some (.string wv.nom) ∧ W.cell? ⟨ob, oo + a * 11 + 2, none⟩ = some (.string wv.hol) ∧ W.cell? ⟨ob, oo + a * 11 + 3, none⟩ = some (.string wv.fund) ∧ W.cell? ⟨ob, oo + a * 11 + 4, none⟩ = some (.string wv.cls) ∧ W.cell? ⟨ob, oo + a * 11 + 5, none⟩ = some (.int .i64 wv.kind) ∧ W.cell? ⟨ob, oo + a * 11 + 6, none⟩ = some (.int .i64 wv.amt) ∧ W.cell? ⟨ob, oo + a * 11 + 7, none⟩ = some (.int .i64 wv.units) ∧ W.cell? ⟨ob, oo + a * 11 + 8, none⟩ = some (.int .i64 wv.t) ∧ W.cell? ⟨ob, oo + a * 11 + 9, none⟩ = some (.int .i64 wv.known) ∧ W.cell? ⟨ob, oo + a * 11 + 10, none⟩ = some (.bool wv.void) :=
  ⟨h.dk.blk.cell rfl, h.cb.cell rfl, ordQ hP h.dk hA hw⟩
/-- What one version does where there is a current one, wv, at place a, with day d. -/
def TCase (P : DPar) (st : Nat → Int) (now : ByteArray → Option (Nat × Int)) (m i : Nat) (o : OR) (a : Nat) (d : Int) (wv : OR) (st' : Nat → Int) (now' : ByteArray → Option (Nat × Int)) (m' : Nat) : Prop :=
  (((P.dl d).2 ≠ 0 ∨ ((P.dl d).2 = 0 ∧ (P.dl d).1 < o.t)) ∧ st' = upS st i 4 ∧ now' = now ∧ m' = m) ∨
  ((P.dl d).2 = 0 ∧ o.t ≤ (P.dl d).1 ∧ o.void = true ∧ st' = upS (upS st i 1) a 3 ∧ now' = upN now o.key none ∧ m' = m) ∨
  ((P.dl d).2 = 0 ∧ o.t ≤ (P.dl d).1 ∧ o.void = false ∧ TOn P st now m i o a wv st' now' m')
set_option maxRecDepth 100000 in
theorem take_some {st' : Nat → Int} {now' : ByteArray → Option (Nat × Int)} {m' : Nat} (hP : P.Ok w) (h : DK P w W b gs gm st now m) (hm : m ≤ 100000) {i : Nat} {o : OR} (ho : P.l[i]? = some o) {a : Nat} {d : Int} {wv : OR} (hn : now o.key = some (a, d)) (hw : P.l[a]? = some wv) (hai : a < i)
    (hc : TCase P st now m i o a d wv st' now' m') :
    Calls Tryz.prog 45 #[.pointer (some ⟨b, 0, none⟩), .int .i64 i] W (TakeP P w W b gs gm st' now' m') := by
  have hil : i < P.l.length := (List.getElem?_eq_some_iff.1 ho).1
  have hln := hP.ln
  obtain ⟨ob, oo, o', hA, ho', -, -, -⟩ := hP.la.get hil
  obtain ⟨q0, q1, q2, q3, q4, q5, q6, q7, q8, q9, q10⟩ := ordQ hP h hA ho
  have hks := (hP.la.small o (List.mem_of_getElem? ho)).key
  have c0 : W.cell? ⟨b, 0, none⟩ = some (.slice P.A P.l.length P.cp) := h.blk.cell rfl
  have HD1 := Lib.hid (h.next (bal0 W (.cells #[.string o.key, .string o.nom, .string o.hol, .string o.fund, .string o.cls, .int .i64 o.kind, .int .i64 o.amt, .int .i64 o.units, .int .i64 o.t, .int .i64 o.known, .bool o.void] 57)))
  have HB1 := Lib.hid (show BlkAt (W.alloc (.cells #[.string o.key, .string o.nom, .string o.hol, .string o.fund, .string o.cls, .int .i64 o.kind, .int .i64 o.amt, .int .i64 o.units, .int .i64 o.t, .int .i64 o.known, .bool o.void] 57)) W.heap.size (orV o) 57 from BlkAt.new _ _ _)
  have HT1 := Lib.hid (Two.below (gs := gs) (gm := gm) (bal0 W (.cells #[.string o.key, .string o.nom, .string o.hol, .string o.fund, .string o.cls, .int .i64 o.kind, .int .i64 o.amt, .int .i64 o.units, .int .i64 o.t, .int .i64 o.known, .bool o.void] 57)))
  have hgs := h.sb.lt
  have hgm := h.map.lt
  have HN := Lib.hid hn
  have HCC := Lib.hid hc
  have HP := Lib.hid hP
  have HO := Lib.hid ho
  have HW := Lib.hid hw
  clear hP h ho ho' hn hc hw
  go_enter Tryz.func45, Tryz.ntmps45
  go_wp2_with fail
  clear q0 q1 q2 q3 q4 q5 q6 q7 q8 q9 q10 c0
  have hsz1 : (W.alloc (.cells #[.string o.key, .string o.nom, .string o.hol, .string o.fund, .string o.cls, .int .i64 o.kind, .int .i64 o.amt, .int .i64 o.units, .int .i64 o.t, .int .i64 o.known, .bool o.void] 57)).heap.size = W.heap.size + 1 := by simp
  generalize W.alloc _ = W1 at *
  have hW1 : W.heap.size < W1.heap.size := by omega
  have g1 : W.heap.size ≠ gs := by omega
  have g2 : W.heap.size ≠ gm := by omega
  have c1 : W1.heap.size ≠ gs := by omega
  have c2 : W1.heap.size ≠ gm := by omega
  generalize W.heap.size = G at *
  clear hsz1 hgs hgm
  have HD2 := Lib.hid (HD1.out.next ((Below.refl _ _).drew))
  have HD3 := Lib.hid ((HD1.out.next (bal0 W1 (.cells #[.int .i64 (a : Int), .int .i64 d] 81))).next ((Below.refl _ _).drew))
  have HT3 := Lib.hid ((HT1.out.next (bal0 W1 (.cells #[.int .i64 (a : Int), .int .i64 d] 81))).next ((Below.refl _ _).drew))
  have HD4 := Lib.hid ((HD1.out.next (bal0 W1 (.cells #[.int .i64 0, .int .i64 0] 81))).next ((Below.refl _ _).drew))
  have HB2 := Lib.hid HB1.out.drew
  have HB3 := Lib.hid (HB1.out.al (.cells #[.int .i64 (a : Int), .int .i64 d] 81)).drew
  have HB4 := Lib.hid (HB1.out.al (.cells #[.int .i64 0, .int .i64 0] 81)).drew
  have HTB := Lib.hid (show TB P w (W1.alloc (.cells #[.int .i64 (a : Int), .int .i64 d] 81)).drew b gs gm st now m G W1.heap.size o a d from ⟨HD3.out, HB3.out, (BlkAt.new _ _ _).drew, g1, g2, c1, c2⟩)
  clear HD1 HT1 HB1 g1 g2 c1 c2
  go_cut [5, 6] from 11 to 27 (fun cv ov wc => cv = .pointer (some ⟨W1.heap.size, 0, none⟩) ∧ ov = .bool true ∧ TB P w wc b gs gm st now m G W1.heap.size o a d ∧ Two gs gm W wc)
  case first =>
    go_region_held3 (fun W => W.cell? ⟨b, 19, none⟩ = some (.map (some gm)) ∧ W.cell? ⟨G, 0, none⟩ = some (.string o.key) ∧ (Instr.lookup 73 (.map (some gm)) (.string o.key) true).run Tryz.prog W = .ok (.tuple #[.agg #[.int .i64 (a : Int), .int .i64 d], .bool true]) W)
      ((first
        | (with_reducible exact lookY HD2.out HB2.out hks HN.out)
        | (with_reducible exact lookY HD3.out HB3.out hks HN.out)
        | (with_reducible exact lookY HD4.out HB4.out hks HN.out)))
      (fail)
    all_goals
      go_wp2_with fail
      go_meet
      exact ⟨rfl, rfl, HTB.out, HT3.out⟩
  case rest =>
  obtain ⟨rfl, rfl, hTB, hT⟩ := hcut
  have HTC := Lib.hid hTB
  have HT5 := Lib.hid hT
  have HTD := Lib.hid (hTB.next ((Below.refl _ _).drew))
  obtain ⟨dv, hdv⟩ : ∃ v, (P.dl d).1 = v := ⟨_, rfl⟩
  obtain ⟨de, hde⟩ : ∃ v, (P.dl d).2 = v := ⟨_, rfl⟩
  have HDL := Lib.hid (HP.out.hdl d)
  rw [hdv, hde] at HDL
  have HCS := HCC.out
  unfold TCase at HCS
  rw [hdv, hde] at HCS
  have HCS2 := Lib.hid HCS
  generalize W1.heap.size = C at *
  clear hTB hT hdv hde HCS HCC HD2 HD3 HT3 HD4 HB2 HB3 HB4 HTB HN hW1
  go_wp2_with fail
  go_region_held3 (fun W => (W.cell? ⟨b, 0, none⟩ = some (.slice P.A P.l.length P.cp) ∧ W.cell? ⟨b, 1, none⟩ = some (.int .i64 P.s.period) ∧ W.cell? ⟨b, 2, none⟩ = some (.int .i64 P.s.nth) ∧ W.cell? ⟨b, 3, none⟩ = some (.int .i64 P.s.notice) ∧ W.cell? ⟨b, 4, none⟩ = some (.int .i64 P.s.settle) ∧ W.cell? ⟨b, 5, none⟩ = some (.int .i64 P.s.cutoff) ∧ W.cell? ⟨b, 6, none⟩ = some (.string P.z.name) ∧ W.cell? ⟨b, 7, none⟩ = some (.int .i64 P.z.off) ∧ W.cell? ⟨b, 8, none⟩ = some (.slice P.zA P.z.cs.length P.zc) ∧ W.cell? ⟨b, 9, none⟩ = some (.string P.c.name) ∧ W.cell? ⟨b, 10, none⟩ = some (.bool P.c.w0) ∧ W.cell? ⟨b, 11, none⟩ = some (.bool P.c.w1) ∧ W.cell? ⟨b, 12, none⟩ = some (.bool P.c.w2) ∧ W.cell? ⟨b, 13, none⟩ = some (.bool P.c.w3) ∧ W.cell? ⟨b, 14, none⟩ = some (.bool P.c.w4) ∧ W.cell? ⟨b, 15, none⟩ = some (.bool P.c.w5) ∧ W.cell? ⟨b, 16, none⟩ = some (.bool P.c.w6) ∧ W.cell? ⟨b, 17, none⟩ = some (.slice P.cA P.c.hs.length P.cc) ∧ W.cell? ⟨b, 18, none⟩ = some (.slice (some ⟨gs, 0, none⟩) P.l.length P.l.length) ∧ W.cell? ⟨b, 19, none⟩ = some (.map (some gm))) ∧ W.cell? ⟨C, 1, none⟩ = some (.int .i64 d))
    ((first
      | (with_reducible exact HA3.out.q)
      | (with_reducible exact HTD.out.q)))
    ((go_at_call 73; refine (sDeadline_is HDL.out P.zc P.cc (HP.out.za.below HTD.out.dk.below) (HP.out.ca.below HTD.out.dk.below)).mono ?_; rintro e w3 ⟨rfl, hb3⟩; have HA3 := Lib.hid (HTD.out.next hb3)))
  have HT6 := Lib.hid ((HT5.out.next ((Below.refl _ _).drew)).next hb3)
  clear hb3 HTD HTC HT5 HDL
  have hal : a < P.l.length := (List.getElem?_eq_some_iff.1 HW.out).1
  have c18 : w3.cell? ⟨b, 18, none⟩ = some (.slice (some ⟨gs, 0, none⟩) P.l.length P.l.length) := HA3.out.dk.blk.cell rfl
  have g8 : w3.cell? ⟨G, 8, none⟩ = some (.int .i64 o.t) := HA3.out.ob.cell rfl
  have g10 : w3.cell? ⟨G, 10, none⟩ = some (.bool o.void) := HA3.out.ob.cell rfl
  have cst := HA3.out.dk.sb.cell (stA_at st hil)
  have fst := HA3.out.dk.sb.fz i
  rcases HCS2.out with ⟨hl, rfl, rfl, rfl⟩ | ⟨rfl, ht, hv, rfl, rfl, rfl⟩ | ⟨rfl, ht, hv, hon⟩
  · have HR := Lib.hid (HA3.out.dk.setS i 4)
    have HT7 := Lib.hid (HT6.out.setS i (.int .i64 4))
    rcases hl with hl | ⟨rfl, hl⟩
    · have hne : (de != 0) = true := by rw [bne_iff_ne]; exact hl
      go_wp2_with fail
      exact bodyPost_ret (results_none rfl _ _ _) rfl ⟨rfl, HR.out, HT7.out⟩
    · go_wp2_with fail
      exact bodyPost_ret (results_none rfl _ _ _) rfl ⟨rfl, HR.out, HT7.out⟩
  · rw [hv] at g10
    have HV := Lib.hid hv
    have HS0 := Lib.hid (HA3.out.next ((Below.refl _ _).drew))
    have HS1 := Lib.hid ((HA3.out.setS i 1).next ((Below.refl _ _).drew))
    have HS2 := Lib.hid (((HA3.out.setS i 1).setS a 3).next ((Below.refl _ _).drew))
    have HT7 := Lib.hid (((HT6.out.setS i (.int .i64 1)).setS a (.int .i64 3)).next ((Below.refl _ _).drew))
    clear hv cst fst c18
    have s1 := HS0.out.dk.sb.cell (stA_at st hil)
    have s2 := HS0.out.dk.sb.fz i
    have s3 := HS1.out.dk.sb.cell (stA_at _ hal)
    have s4 := HS1.out.dk.sb.fz a
    go_wp2_with fail
    go_region_held3 (fun W => W.cell? ⟨b, 18, none⟩ = some (.slice (some ⟨gs, 0, none⟩) P.l.length P.l.length) ∧ W.cell? ⟨C, 0, none⟩ = some (.int .i64 a))
      ((first
        | (with_reducible exact HS0.out.s8)
        | (with_reducible exact HS1.out.s8)
        | (with_reducible exact HS2.out.s8)))
      (fail)
    have HS3 := Lib.hid (HS2.out.next ((Below.refl _ _).drew))
    obtain ⟨w6, hrun, hN, hg⟩ := HS3.out.dk.map.del_ (f' := upN now o.key none) hks (by simp [upN]) (fun k hk => by simp [upN, hk]) 0
    have HM := Lib.hid (HS3.out.dk.mapped hN hg)
    have HT8 := Lib.hid ((HT7.out.next ((Below.refl _ _).drew)).mapped hg)
    have hob6 := Lib.hid (HS3.out.ob.two (Two.mapped (Two.refl gs gm _) hg) HS3.out.g1 HS3.out.g2)
    clear hN hg s1 s2 s3 s4 HS0 HS1 g8 g10
    go_wp2_with fail
    go_region_held3 (fun W => W.cell? ⟨b, 19, none⟩ = some (.map (some gm)) ∧ W.cell? ⟨G, 0, none⟩ = some (.string o.key))
      ((first
        | (with_reducible exact HS3.out.s9)
        | (with_reducible exact ⟨HM.out.blk.cell rfl, hob6.out.cell rfl⟩)))
      (fail)
    go_wp2_with fail
    exact bodyPost_ret (results_none rfl _ _ _) rfl ⟨rfl, HM.out, HT8.out⟩
  · rw [hv] at g10
    have HV := Lib.hid hv
    have HON := Lib.hid hon
    have HS0 := Lib.hid (HA3.out.next ((Below.refl _ _).drew))
    have HZ0 := Lib.hid ((HA3.out.next (bal0 w3 (.cells #[.string ⟨#[]⟩, .string ⟨#[]⟩, .string ⟨#[]⟩, .string ⟨#[]⟩, .string ⟨#[]⟩, .int .i64 0, .int .i64 0, .int .i64 0, .int .i64 0, .int .i64 0, .bool false] 57))).next ((Below.refl _ _).drew))
    have HZ1 := Lib.hid ((HA3.out.next (bal0 w3 (.cells #[.string wv.key, .string wv.nom, .string wv.hol, .string wv.fund, .string wv.cls, .int .i64 wv.kind, .int .i64 wv.amt, .int .i64 wv.units, .int .i64 wv.t, .int .i64 wv.known, .bool wv.void] 57))).next ((Below.refl _ _).drew))
    have HTW := Lib.hid ((HT6.out.next (bal0 w3 (.cells #[.string wv.key, .string wv.nom, .string wv.hol, .string wv.fund, .string wv.cls, .int .i64 wv.kind, .int .i64 wv.amt, .int .i64 wv.units, .int .i64 wv.t, .int .i64 wv.known, .bool wv.void] 57))).next ((Below.refl _ _).drew))
    have HBW := Lib.hid (show BlkAt (w3.alloc (.cells #[.string wv.key, .string wv.nom, .string wv.hol, .string wv.fund, .string wv.cls, .int .i64 wv.kind, .int .i64 wv.amt, .int .i64 wv.units, .int .i64 wv.t, .int .i64 wv.known, .bool wv.void] 57)).drew w3.heap.size (orV wv) 57 from (BlkAt.new _ _ _).drew)
    clear hv hon cst fst c18 HCS2
    go_wp2_with fail
    go_cut [9] from 28 to 89 (fun xv wd => ∃ Wb, xv = .pointer (some ⟨Wb, 0, none⟩) ∧ BlkAt wd Wb (orV wv) 57 ∧ TB P w wd b gs gm st now m G C o a d ∧ Two gs gm W wd)
    case first =>
      go_region_held3 (fun W => W.cell? ⟨b, 0, none⟩ = some (.slice P.A P.l.length P.cp) ∧ W.cell? ⟨C, 0, none⟩ = some (.int .i64 a) ∧ W.cell? ⟨ob, oo + a * 11, none⟩ = some (.string wv.key) ∧ W.cell? ⟨ob, oo + a * 11 + 1, none⟩ = some (.string wv.nom) ∧ W.cell? ⟨ob, oo + a * 11 + 2, none⟩ = some (.string wv.hol) ∧ W.cell? ⟨ob, oo + a * 11 + 3, none⟩ = some (.string wv.fund) ∧ W.cell? ⟨ob, oo + a * 11 + 4, none⟩ = some (.string wv.cls) ∧ W.cell? ⟨ob, oo + a * 11 + 5, none⟩ = some (.int .i64 wv.kind) ∧ W.cell? ⟨ob, oo + a * 11 + 6, none⟩ = some (.int .i64 wv.amt) ∧ W.cell? ⟨ob, oo + a * 11 + 7, none⟩ = some (.int .i64 wv.units) ∧ W.cell? ⟨ob, oo + a * 11 + 8, none⟩ = some (.int .i64 wv.t) ∧ W.cell? ⟨ob, oo + a * 11 + 9, none⟩ = some (.int .i64 wv.known) ∧ W.cell? ⟨ob, oo + a * 11 + 10, none⟩ = some (.bool wv.void))
        ((first
          | (with_reducible exact HS0.out.s10 HP.out hA HW.out)
          | (with_reducible exact HZ0.out.s10 HP.out hA HW.out)
          | (with_reducible exact HZ1.out.s10 HP.out hA HW.out)))
        (fail)
      all_goals
        go_wp2_with fail
        go_meet
        exact ⟨_, rfl, HBW.out, HZ1.out, HTW.out⟩
    case rest =>
    obtain ⟨Wb, rfl, hbw, hTB, hT⟩ := hcut
    obtain ⟨p0, p1, p2, p3, p4, p5, p6, p7, p8, p9, p10⟩ := hbw.orq
    have k9 : wc.cell? ⟨G, 9, none⟩ = some (.int .i64 o.known) := hTB.ob.cell rfl
    have kG : G < wc.heap.size := hTB.ob.lt
    have HA5 := Lib.hid (hTB.next (bal0 wc (.cells #[.string wv.key, .string wv.nom, .string wv.hol, .string wv.fund, .string wv.cls, .int .i64 wv.kind, .int .i64 wv.amt, .int .i64 wv.units, .int .i64 wv.t, .int .i64 o.known, .bool wv.void] 57)))
    have HT5 := Lib.hid (hT.next (bal0 wc (.cells #[.string wv.key, .string wv.nom, .string wv.hol, .string wv.fund, .string wv.cls, .int .i64 wv.kind, .int .i64 wv.amt, .int .i64 wv.units, .int .i64 wv.t, .int .i64 o.known, .bool wv.void] 57)))
    have HBW5 := Lib.hid (hbw.next (bal0 wc (.cells #[.string wv.key, .string wv.nom, .string wv.hol, .string wv.fund, .string wv.cls, .int .i64 wv.kind, .int .i64 wv.amt, .int .i64 wv.units, .int .i64 wv.t, .int .i64 o.known, .bool wv.void] 57)))
    have HTW5 := Lib.hid (show BlkAt (wc.alloc (.cells #[.string wv.key, .string wv.nom, .string wv.hol, .string wv.fund, .string wv.cls, .int .i64 wv.kind, .int .i64 wv.amt, .int .i64 wv.units, .int .i64 wv.t, .int .i64 o.known, .bool wv.void] 57)) wc.heap.size (orV ⟨wv.key, wv.nom, wv.hol, wv.fund, wv.cls, wv.kind, wv.amt, wv.units, wv.t, o.known, wv.void⟩) 57 from BlkAt.new _ _ _)
    clear hbw hTB hT HA3 HT6 HS0 HZ0 HZ1 HTW HBW g8 g10
    go_upto_region 13 with (fail)
    generalize wc.alloc _ = w5 at *
    generalize wc.heap.size = Tb at *
    clear p0 p1 p2 p3 p4 p5 p6 p7 p8 p9 p10 k9 kG
    go_cut [96] from 94 to 95 (fun v we => v = .bool (repB o wv) ∧ w5 = we)
    case first =>
      obtain ⟨p0, p1, p2, p3, p4, p5, p6, p7, p8, p9, p10⟩ := HA5.out.ob.orq
      obtain ⟨r0, r1, r2, r3, r4, r5, r6, r7, r8, r9, r10⟩ := HTW5.out.orq
      go_wp2_with fail
      all_goals
        go_meet
        first
        | exact ⟨vb (rep_t (by assumption) (by assumption) (by assumption) (by assumption) (by assumption) (by assumption) (by assumption) (by assumption) (by assumption) (by assumption)), rfl⟩
        | exact ⟨vb (rep_f0 (by assumption)), rfl⟩
        | exact ⟨vb (rep_f1 (by assumption)), rfl⟩
        | exact ⟨vb (rep_f2 (by assumption)), rfl⟩
        | exact ⟨vb (rep_f3 (by assumption)), rfl⟩
        | exact ⟨vb (rep_f4 (by assumption)), rfl⟩
        | exact ⟨vb (rep_f5 (by assumption)), rfl⟩
        | exact ⟨vb (rep_f6 (by assumption)), rfl⟩
        | exact ⟨vb (rep_f7 (by assumption)), rfl⟩
        | exact ⟨vb (rep_f8 (by assumption)), rfl⟩
        | exact ⟨vb (rep_f9 (by assumption)), rfl⟩
    case rest =>
    obtain ⟨rfl, rfl⟩ := hcut
    have c18 : w5.cell? ⟨b, 18, none⟩ = some (.slice (some ⟨gs, 0, none⟩) P.l.length P.l.length) := HA5.out.dk.blk.cell rfl
    have cst := HA5.out.dk.sb.cell (stA_at st hil)
    have fst := HA5.out.dk.sb.fz i
    rcases HON.out with ⟨hrp, rfl, rfl, rfl⟩ | ⟨hrp, hop⟩
    · rw [hrp]
      have HR := Lib.hid (HA5.out.dk.setS i 7)
      have HT7 := Lib.hid (HT5.out.setS i (.int .i64 7))
      clear hrp
      go_wp2_with fail
      exact bodyPost_ret (results_none rfl _ _ _) rfl ⟨rfl, HR.out, HT7.out⟩
    · rw [hrp]
      have HOP := Lib.hid hop
      clear hrp hop HON
      go_upto_region 15 with (fail)
      go_cut [114] from 97 to 113 (fun v we => v = .bool (conB o wv) ∧ w5 = we)
      case first =>
        obtain ⟨p0, p1, p2, p3, p4, p5, p6, p7, p8, p9, p10⟩ := HA5.out.ob.orq
        obtain ⟨r0, r1, r2, r3, r4, r5, r6, r7, r8, r9, r10⟩ := HBW5.out.orq
        go_wp2_with fail
        all_goals
          go_meet
          first
          | exact ⟨vb (con_e (by assumption) (by assumption)), rfl⟩
          | exact ⟨vb (con_t0 (by assumption)), rfl⟩
          | exact ⟨vb (con_t1 (by assumption)), rfl⟩
      case rest =>
      obtain ⟨rfl, rfl⟩ := hcut
      rcases HOP.out with ⟨hcn, rfl, rfl, rfl⟩ | ⟨hcn, hfr, rfl, rfl, rfl⟩ | ⟨hcn, hfr, rfl, rfl, rfl⟩
      · rw [hcn]
        have HR := Lib.hid (HA5.out.dk.setS i 5)
        have HT7 := Lib.hid (HT5.out.setS i (.int .i64 5))
        clear hcn
        go_wp2_with fail
        exact bodyPost_ret (results_none rfl _ _ _) rfl ⟨rfl, HR.out, HT7.out⟩
      · rw [hcn]
        have hcall := dopen_no HP.out HA5.out.dk HO.out hfr
        clear hcn hfr HOP
        go_wp2_with fail
        refine hcall.mono ?_
        rintro e w6 ⟨rfl, hD, hT⟩
        have HR := Lib.hid hD
        have HT7 := Lib.hid (HT5.out.trans hT)
        clear hD hT hcall
        go_wp2_with fail
        go_end0
        exact ⟨rfl, HR.out, HT7.out⟩
      · rw [hcn]
        have hcall := dopen_yes HP.out HA5.out.dk hm HO.out hfr
        clear hcn hfr HOP
        go_wp2_with fail
        refine hcall.mono ?_
        rintro e w6 ⟨rfl, hD, hT⟩
        have HR := Lib.hid (hD.next ((Below.refl _ _).drew))
        have HR2 := Lib.hid ((hD.setS a 2).next ((Below.refl _ _).drew))
        have HC6 := Lib.hid (HA5.out.cb.two hT HA5.out.c1 HA5.out.c2)
        have HT7 := Lib.hid (((HT5.out.trans hT).setS a (.int .i64 2)).next ((Below.refl _ _).drew))
        have s3 := HR.out.sb.cell (stA_at _ hal)
        have s4 := HR.out.sb.fz a
        have HC1 := HA5.out.c1
        clear hD hT hcall c18 cst fst
        go_wp2_with fail
        go_region_held3 (fun W => W.cell? ⟨b, 18, none⟩ = some (.slice (some ⟨gs, 0, none⟩) P.l.length P.l.length) ∧ W.cell? ⟨C, 0, none⟩ = some (.int .i64 a))
          ((first
            | (with_reducible exact ⟨HR.out.blk.cell rfl, HC6.out.drew.cell rfl⟩)
            | (with_reducible exact ⟨HR2.out.blk.cell rfl, (HC6.out.cellFar a (.int .i64 2) HC1).drew.cell rfl⟩)))
          (fail)
        go_wp2_with fail
        go_end0
        exact ⟨rfl, HR2.out, HT7.out⟩
end
end
section
open Go.RowKit Go.Maps
set_option linter.unusedVariables false
set_option maxHeartbeats 4000000
section
variable {fr dl : Int → Int × Int} {l : List OR} {k : Int} {fund : ByteArray} {i : Nat} {o : OR}
theorem now_step (ho : l[i]? = some o) (hc : cntO k fund o = true) : (fun key => nowF fr dl l k fund key (i + 1)) = upN (fun key => nowF fr dl l k fund key i) o.key (stepK fr dl l (nowF fr dl l k fund o.key i) o i).1 := by
  funext key
  rw [nowF_succ ho]
  unfold upN
  by_cases h : o.key = key
  · subst h
    simp [hc]
  · rw [if_neg (fun e => h e.2), if_neg (fun e => h e.symm)]
theorem upN_same (now : ByteArray → Option (Nat × Int)) (key : ByteArray) : upN now key (now key) = now := by
  funext k
  unfold upN
  split
  · rename_i e
    rw [e]
  · rfl
theorem st_one (ho : l[i]? = some o) (hc : cntO k fund o = true) (h0 : (stepK fr dl l (nowF fr dl l k fund o.key i) o i).2.2 = 0) : (fun j => stF fr dl l k fund j (i + 1)) = upS (fun j => stF fr dl l k fund j i) i (stepK fr dl l (nowF fr dl l k fund o.key i) o i).2.1 := by
  funext j
  rw [stF_succ ho, if_pos hc, h0]
  unfold upS
  simp
theorem st_two {a : Nat} {d : Int} (ho : l[i]? = some o) (hc : cntO k fund o = true) (hn : nowF fr dl l k fund o.key i = some (a, d)) (hai : a < i) {v : Int} (h0 : (stepK fr dl l (nowF fr dl l k fund o.key i) o i).2.2 = v) (hv : v ≠ 0) : (fun j => stF fr dl l k fund j (i + 1)) = upS (upS (fun j => stF fr dl l k fund j i) i (stepK fr dl l (nowF fr dl l k fund o.key i) o i).2.1) a v := by
  funext j
  rw [stF_succ ho, if_pos hc, h0]
  unfold upS
  by_cases h1 : j = i
  · subst h1
    rw [if_pos rfl, if_neg (by omega), if_pos rfl]
  · rw [if_neg h1]
    by_cases h2 : j = a
    · subst h2
      rw [if_pos ⟨hv, by rw [hn]; rfl⟩, if_pos rfl]
    · rw [if_neg (fun e => by rw [hn] at e; simp at e; exact h2 e.2.symm), if_neg h2, if_neg h1]
/-- A version that does not count changes nothing. -/
theorem now_skip (ho : l[i]? = some o) (hc : cntO k fund o = false) : (fun key => nowF fr dl l k fund key (i + 1)) = fun key => nowF fr dl l k fund key i := by
  funext key
  rw [nowF_succ ho, if_neg (fun e => by rw [hc] at e; cases e.1)]
theorem st_skip (ho : l[i]? = some o) (hc : cntO k fund o = false) : (fun j => stF fr dl l k fund j (i + 1)) = fun j => stF fr dl l k fund j i := by
  funext j
  rw [stF_succ ho, if_neg (by rw [hc]; simp)]
end
/-- The desk behind the first i versions. -/
def DeskAt (P : DPar) (k : Int) (fund : ByteArray) (w : World) (b gs gm i : Nat) (W : World) : Prop :=
  ∃ m, m ≤ i ∧ DK P w W b gs gm (fun j => stF P.fr P.dl P.l k fund j i) (fun key => nowF P.fr P.dl P.l k fund key i) m
def StepP (P : DPar) (k : Int) (fund : ByteArray) (w : World) (b gs gm i : Nat) (e : Ending) (W' : World) : Prop := e = .returned (.tuple #[]) ∧ DeskAt P k fund w b gs gm (i + 1) W'
theorem take_any {P : DPar} {k : Int} {fund : ByteArray} {w W : World} {b gs gm i : Nat} {o : OR} (hP : P.Ok w) (h : DeskAt P k fund w b gs gm i W) (ho : P.l[i]? = some o) (hc : cntO k fund o = true) :
    Calls Tryz.prog 45 #[.pointer (some ⟨b, 0, none⟩), .int .i64 i] W (StepP P k fund w b gs gm i) := by
  obtain ⟨m, hm, hD⟩ := h
  have hil : i < P.l.length := (List.getElem?_eq_some_iff.1 ho).1
  have hln := hP.ln
  have key : ∀ {st' : Nat → Int} {now' : ByteArray → Option (Nat × Int)} {m' : Nat} {W1 : World}, m' ≤ m + 1 → (fun j => stF P.fr P.dl P.l k fund j (i + 1)) = st' → (fun key => nowF P.fr P.dl P.l k fund key (i + 1)) = now' → ∀ e W', TakeP P w W1 b gs gm st' now' m' e W' → StepP P k fund w b gs gm i e W' := by
    intro st' now' m' W1 h1 h2 h3 e W' hx
    obtain ⟨he, hd, -⟩ := hx
    subst h2 h3
    exact ⟨he, m', by omega, hd⟩
  cases hn : nowF P.fr P.dl P.l k fund o.key i with
  | none =>
    have hS : stepK P.fr P.dl P.l (nowF P.fr P.dl P.l k fund o.key i) o i = if o.void = true then (none, 6, 0) else if (P.fr o.t).2 = 0 then (some (i, (P.fr o.t).1), 1, 0) else (none, 4, 0) := by rw [hn]; rfl
    have hsame : upN (fun key => nowF P.fr P.dl P.l k fund key i) o.key none = fun key => nowF P.fr P.dl P.l k fund key i := by
      have := upN_same (fun key => nowF P.fr P.dl P.l k fund key i) o.key
      rw [hn] at this
      exact this
    cases hv : o.void
    · by_cases hf : (P.fr o.t).2 = 0
      · have hS2 : stepK P.fr P.dl P.l (nowF P.fr P.dl P.l k fund o.key i) o i = (some (i, (P.fr o.t).1), 1, 0) := by rw [hS, hv]; simp [hf]
        refine (take_none hP hD ho hn (fun W1 hD1 => begin_open (Q := fun _ _ => True) hP hD1 ho hv ((dopen_yes hP hD1 (by omega) ho hf).mono fun e W' ⟨h1, h2, h3⟩ => ⟨⟨_, h1⟩, h2, h3⟩))).mono (key (by omega) ?_ ?_)
        · rw [st_one ho hc (by rw [hS2]), hS2]
        · rw [now_step ho hc, hS2]
      · have hS2 : stepK P.fr P.dl P.l (nowF P.fr P.dl P.l k fund o.key i) o i = (none, 4, 0) := by rw [hS, hv]; simp [hf]
        refine (take_none hP hD ho hn (fun W1 hD1 => begin_open (Q := fun _ _ => True) hP hD1 ho hv ((dopen_no hP hD1 ho hf).mono fun e W' ⟨h1, h2, h3⟩ => ⟨⟨_, h1⟩, h2, h3⟩))).mono (key (by omega) ?_ ?_)
        · rw [st_one ho hc (by rw [hS2]), hS2]
        · rw [now_step ho hc, hS2, hsame]
    · have hS2 : stepK P.fr P.dl P.l (nowF P.fr P.dl P.l k fund o.key i) o i = (none, 6, 0) := by rw [hS, hv]; simp
      refine (take_none hP hD ho hn (fun W1 hD1 => begin_void hP hD1 ho hv)).mono (key (by omega) ?_ ?_)
      · rw [st_one ho hc (by rw [hS2]), hS2]
      · rw [now_step ho hc, hS2, hsame]
  | some p =>
    obtain ⟨a, d⟩ := p
    obtain ⟨hai, wv, hw, -⟩ := nowF_is hn
    have hsame : upN (fun key => nowF P.fr P.dl P.l k fund key i) o.key (some (a, d)) = fun key => nowF P.fr P.dl P.l k fund key i := by
      have := upN_same (fun key => nowF P.fr P.dl P.l k fund key i) o.key
      rw [hn] at this
      exact this
    have go : ∀ {st' : Nat → Int} {now' : ByteArray → Option (Nat × Int)} {m' : Nat}, TCase P (fun j => stF P.fr P.dl P.l k fund j i) (fun key => nowF P.fr P.dl P.l k fund key i) m i o a d wv st' now' m' → m' ≤ m + 1 → (fun j => stF P.fr P.dl P.l k fund j (i + 1)) = st' → (fun key => nowF P.fr P.dl P.l k fund key (i + 1)) = now' → Calls Tryz.prog 45 #[.pointer (some ⟨b, 0, none⟩), .int .i64 i] W (StepP P k fund w b gs gm i) :=
      fun hT h1 h2 h3 => (take_some hP hD (by omega) ho hn hw hai hT).mono (key h1 h2 h3)
    by_cases hl : (P.dl d).2 ≠ 0 ∨ (P.dl d).1 < o.t
    · have hS2 : stepK P.fr P.dl P.l (nowF P.fr P.dl P.l k fund o.key i) o i = (some (a, d), 4, 0) := by rw [hn]; simp only [stepK, if_pos hl]
      refine go (.inl ⟨?_, rfl, rfl, rfl⟩) (by omega) ?_ ?_
      · by_cases h0 : (P.dl d).2 = 0
        · exact .inr ⟨h0, by rcases hl with hl | hl; exact absurd h0 hl; exact hl⟩
        · exact .inl h0
      · rw [st_one ho hc (by rw [hS2]), hS2]
      · rw [now_step ho hc, hS2, hsame]
    · have h0 : (P.dl d).2 = 0 := by
        by_cases h : (P.dl d).2 = 0
        · exact h
        · exact absurd (.inl h) hl
      have ht : o.t ≤ (P.dl d).1 := Int.not_lt.1 (fun h => hl (.inr h))
      cases hv : o.void
      · have hS : stepK P.fr P.dl P.l (nowF P.fr P.dl P.l k fund o.key i) o i = if repB o wv = true then (some (a, d), 7, 0) else if conB o wv = true then (some (a, d), 5, 0) else if (P.fr o.t).2 = 0 then (some (i, (P.fr o.t).1), 1, 2) else (some (a, d), 4, 0) := by
          rw [hn]
          simp only [stepK, if_neg hl, hv, hw, Bool.false_eq_true, if_false]
        cases hr : repB o wv
        · cases hcb : conB o wv
          · by_cases hf : (P.fr o.t).2 = 0
            · have hS2 : stepK P.fr P.dl P.l (nowF P.fr P.dl P.l k fund o.key i) o i = (some (i, (P.fr o.t).1), 1, 2) := by rw [hS, hr, hcb]; simp [hf]
              refine go (.inr (.inr ⟨h0, ht, hv, .inr ⟨hr, .inr (.inr ⟨hcb, hf, rfl, rfl, rfl⟩)⟩⟩)) (by omega) ?_ ?_
              · rw [st_two (v := 2) ho hc hn hai (by rw [hS2]) (by decide), hS2]
              · rw [now_step ho hc, hS2]
            · have hS2 : stepK P.fr P.dl P.l (nowF P.fr P.dl P.l k fund o.key i) o i = (some (a, d), 4, 0) := by rw [hS, hr, hcb]; simp [hf]
              refine go (.inr (.inr ⟨h0, ht, hv, .inr ⟨hr, .inr (.inl ⟨hcb, hf, rfl, rfl, rfl⟩)⟩⟩)) (by omega) ?_ ?_
              · rw [st_one ho hc (by rw [hS2]), hS2]
              · rw [now_step ho hc, hS2, hsame]
          · have hS2 : stepK P.fr P.dl P.l (nowF P.fr P.dl P.l k fund o.key i) o i = (some (a, d), 5, 0) := by rw [hS, hr, hcb]; simp
            refine go (.inr (.inr ⟨h0, ht, hv, .inr ⟨hr, .inl ⟨hcb, rfl, rfl, rfl⟩⟩⟩)) (by omega) ?_ ?_
            · rw [st_one ho hc (by rw [hS2]), hS2]
            · rw [now_step ho hc, hS2, hsame]
        · have hS2 : stepK P.fr P.dl P.l (nowF P.fr P.dl P.l k fund o.key i) o i = (some (a, d), 7, 0) := by rw [hS, hr]; simp
          refine go (.inr (.inr ⟨h0, ht, hv, .inl ⟨hr, rfl, rfl, rfl⟩⟩)) (by omega) ?_ ?_
          · rw [st_one ho hc (by rw [hS2]), hS2]
          · rw [now_step ho hc, hS2, hsame]
      · have hS2 : stepK P.fr P.dl P.l (nowF P.fr P.dl P.l k fund o.key i) o i = (none, 1, 3) := by
          rw [hn]
          simp only [stepK, if_neg hl, hv, if_true]
        refine go (.inr (.inl ⟨h0, ht, hv, rfl, rfl, rfl⟩)) (by omega) ?_ ?_
        · rw [st_two (v := 3) ho hc hn hai (by rw [hS2]) (by decide), hS2]
        · rw [now_step ho hc, hS2]
end
end Go.Proofs.YtbfllcfjgpkpaaaGreat
