/-
  The scenes: suspensions.
-/
import Derived.Test.YtffmmkjoknghoaaGreatScene
import Derived.Test.YtffmmkjoknghoaaGreatSusAct
import Derived.Deep.DeepCutAuto
import Derived.Deep.CutBlock
import Derived.Deep.RegionWith
namespace Go.Proofs.YtffmmkjoknghoaaGreat
open Go.RowKit
set_option linter.unusedVariables false
set_option maxHeartbeats 4000000
def gammaB : ByteArray := ⟨#[103, 97, 109, 109, 97]⟩
/-- A suspension as the generator makes it. -/
structure MdS (x : SU) : Prop where
  ok : x.ok = true
  til : 0 ≤ x.til ∧ x.til ≤ 60
  fund : x.fund ≠ gammaB
  small : x.small
structure MadeS (L : List SU) (kn : Int) : Prop where
  asc : susFrom 0 L = true
  k0 : 0 ≤ kn
  known : ∀ x ∈ L, x.known ≤ kn
  each : ∀ x ∈ L, MdS x
theorem sus_snoc {x : SU} (hx : x.ok = true) : ∀ (L : List SU) (last : Int), susFrom last L = true → last < x.known → (∀ y ∈ L, y.known < x.known) → susFrom last (L ++ [x]) = true
  | [], last, _, h1, _ => by simp [susFrom, hx, h1]
  | y :: r, last, h, h1, h2 => by
    simp only [susFrom, Bool.and_eq_true] at h
    simp only [List.cons_append, susFrom, Bool.and_eq_true]
    exact ⟨h.1, sus_snoc hx r _ h.2 (h2 y (by simp)) (fun z hz => h2 z (by simp [hz]))⟩
theorem MadeS.nil : MadeS [] 0 := ⟨rfl, Int.le_refl _, by simp, by simp⟩
theorem MadeS.push {L : List SU} {kn : Int} {x : SU} (h : MadeS L kn) (hx : MdS x) (hk : kn < x.known) : MadeS (L ++ [x]) x.known := by
  refine ⟨sus_snoc hx.ok L 0 h.asc (by have := h.k0; omega) (fun y hy => by have := h.known y hy; omega), by have := h.k0; omega, fun y hy => ?_, fun y hy => ?_⟩
  · rcases List.mem_append.1 hy with hy | hy
    · have := h.known y hy; omega
    · simp at hy
      subst hy
      exact Int.le_refl _
  · rcases List.mem_append.1 hy with hy | hy
    · exact h.each y hy
    · simp at hy
      subst hy
      exact hx
theorem MadeS.susB {L : List SU} {kn : Int} (h : MadeS L kn) (hl : L.length ≤ 6) : susB L = true := by
  simp only [Go.Proofs.YtffmmkjoknghoaaGreat.susB, Bool.and_eq_true, decide_eq_true_eq]
  exact ⟨by omega, h.asc⟩
theorem small_nm {s : ByteArray} (h : nmB s = true) : s.size ≤ maxLen := by
  have := nmB_size h
  unfold maxLen
  omega
theorem mds_void {key : ByteArray} {k : Int} (h : nmB key = true) (h1 : 1 ≤ k) (h2 : k ≤ 1000) : MdS ⟨key, ⟨#[]⟩, 0, 0, k, true⟩ :=
  ⟨by simp [SU.ok, h, knB]; omega, by simp, (show (⟨#[]⟩ : ByteArray) ≠ gammaB by decide), small_nm h, (show (⟨#[]⟩ : ByteArray).size ≤ maxLen by decide)⟩
theorem mds_span {key fund : ByteArray} {f u k : Int} (h : nmB key = true) (hf : fund = ⟨#[97, 108, 112, 104, 97]⟩ ∨ fund = ⟨#[98, 101, 116, 97]⟩) (h1 : 1 ≤ k) (h2 : k ≤ 1000) (f0 : 0 ≤ f) (f1 : f ≤ 39) (hu : u = 0 ∨ (f ≤ u ∧ 1 ≤ u ∧ u ≤ 60)) : MdS ⟨key, fund, f, u, k, false⟩ := by
  have hn : nmB fund = true := by rcases hf with rfl | rfl <;> decide
  refine ⟨?_, by show 0 ≤ u ∧ u ≤ 60; omega, by rcases hf with rfl | rfl; exact (show (⟨#[97, 108, 112, 104, 97]⟩ : ByteArray) ≠ gammaB by decide); exact (show (⟨#[98, 101, 116, 97]⟩ : ByteArray) ≠ gammaB by decide), small_nm h, small_nm hn⟩
  have hs : spanB ⟨key, fund, f, u, k, false⟩ = true := by simp [spanB]; omega
  simp only [SU.ok, h, hn, hs, Bool.true_and]
  simp [knB]
  omega
/-- Suspensions have been made. -/
def SSusP (B b : Nat) (w : World) (e : Ending) (w' : World) : Prop :=
  ∃ (L : List SU) (A : Option Addr) (c : Nat) (kn : Int), e = .returned (.slice A L.length c) ∧ L.length ≤ 6 ∧ kn ≤ 18 ∧ MadeS L kn ∧ SuAt w' A L ∧ (∀ ad, A = some ad → w.heap.size ≤ ad.block) ∧ TapS w' B b ∧ Only b w w'
theorem own_recs {W : World} {B : Nat} {e : TypeId} {sz : Nat} {v : Value} {n : Nat} {L : List (List Value)} (h : W.ownsRow B e sz v n L.flatten) (hL : ∀ x ∈ L, x.length = sz) (hs : 0 < sz) (hl : L.length ≤ 9223372036854775807) :
    n = L.length ∧ ∃ A cap, v = .slice A n cap ∧ RecsAt W A sz L ∧ ∀ ad, A = some ad → B ≤ ad.block ∧ ad.block < W.heap.size := by
  have hf := flat_len L hL
  have hx := h.1
  have hn : n = L.length := Nat.eq_of_mul_eq_mul_right hs (by omega)
  refine ⟨hn, ?_⟩
  rcases h.2 with ⟨rfl, h0⟩ | ⟨g, cap, cur, rfl, hgb, hh, hle, _, hsz, ht⟩
  · have hL0 : L = [] := List.length_eq_zero_iff.1 (by omega)
    subst hL0
    exact ⟨none, 0, by rw [h0], RecsAt.nil _ _ _, fun ad e => by cases e⟩
  · have hg := (Array.getElem?_eq_some_iff.1 hh).1
    refine ⟨some ⟨g, 0, none⟩, cap, rfl, ⟨hl, fun k r hr => ⟨g, 0, rfl, hg, fun j u hu => ?_⟩⟩, fun ad e => by cases e; exact ⟨hgb, hg⟩⟩
    have := h.cells (g := g) rfl (k * sz + j) u (flat_get L k r hL hr j u hu)
    rw [Go.WideShapes.add_plain] at this
    rw [Nat.zero_add]
    simpa using this
theorem own_sus {W : World} {B : Nat} {v : Value} {n : Nat} {L : List SU} (h : W.ownsRow B 77 6 v n (suL L).flatten) (hs : ∀ x ∈ L, x.small) (hl : L.length ≤ 4096) : ∃ A cap, v = .slice A L.length cap ∧ SuAt W A L ∧ (∀ ad, A = some ad → B ≤ ad.block) := by
  have hml : (suL L).length = L.length := by simp [suL]
  obtain ⟨hn, A, cap, rfl, hr, hA⟩ := own_recs h (suL_len L) (by decide) (by omega)
  exact ⟨A, cap, by rw [hn, hml], ⟨hr, hs⟩, fun ad e => (hA ad e).1⟩
/-- The state of the making. -/
structure SusM (w W : World) (B b : Nat) (v : Value) (L : List SU) : Prop where
  tape : TapS W B b
  only : Only b w W
  own : W.ownsRow w.heap.size 77 6 v L.length (suL L).flatten
  hb : b < w.heap.size
section
variable {w W W' : World} {B b : Nat} {v : Value} {L : List SU}
theorem SusM.only' (h : SusM w W B b v L) (ho : Only b W W') (ht : TapS W' B b) : SusM w W' B b v L :=
  ⟨ht, only_trans h.only ho, h.own.kept ho (.inr (fun e => by have := (h.own.lt b e).1; have := h.hb; omega)), h.hb⟩
theorem SusM.next (h : SusM w W B b v L) (hb : Below W.heap.size W W') : SusM w W' B b v L := h.only' (only_below hb) (h.tape.below hb)
end
theorem SusM.pushed {w W W' : World} {B b : Nat} {v v' : Value} {L : List SU} {x : SU} {E : TypeId} (h : SusM w W B b v L) (ho : W'.ownsRow w.heap.size 77 6 v' (L.length + 1) ((suL L).flatten ++ [.string x.key, .string x.fund, .int .i64 x.frm, .int .i64 x.til, .int .i64 x.known, .bool x.void])) (hg : (W.alloc (.cells #[.string x.key, .string x.fund, .int .i64 x.frm, .int .i64 x.til, .int .i64 x.known, .bool x.void] E)).grownBy W' v.ownBlock) : SusM w W' B b v' (L ++ [x]) := by
  have hb := h.hb
  refine ⟨(h.tape.alloc _).row hg (fun k hk => by have := (h.own.lt k hk).1; omega), only_row (only_al h.only _) hg (fun k hk => (h.own.lt k hk).1), ?_, hb⟩
  rw [← suL_next, List.length_append]
  exact ho
/-- A suspension in its block, beside the state. -/
def CutX (w : World) (B b G : Nat) (v : Value) (L : List SU) (kn : Int) (wc : World) : Prop :=
  ∃ x : SU, MdS x ∧ x.known = kn ∧ BlkAt wc G (suV x) 77 ∧ SusM w wc B b v L
/-- The names of the funds, in a list. -/
theorem funds_at (W : World) {k : Nat} (hk : (k : Int) < 3) : ∃ fd : ByteArray, (fd = ⟨#[97, 108, 112, 104, 97]⟩ ∨ fd = ⟨#[98, 101, 116, 97]⟩) ∧ (W.alloc (.cells #[.string ⟨#[97, 108, 112, 104, 97]⟩, .string ⟨#[97, 108, 112, 104, 97]⟩, .string ⟨#[98, 101, 116, 97]⟩] 9)).cell? ⟨W.heap.size, k, none⟩ = some (.string fd) := by
  have h3 : k = 0 ∨ k = 1 ∨ k = 2 := by omega
  rcases h3 with rfl | rfl | rfl
  · exact ⟨_, .inl rfl, World.cell?_alloc_new ..⟩
  · exact ⟨_, .inl rfl, World.cell?_alloc_new ..⟩
  · exact ⟨_, .inr rfl, World.cell?_alloc_new ..⟩
structure SusX (w W : World) (B b G : Nat) (v : Value) (L : List SU) (x : SU) : Prop where
  m : SusM w W B b v L
  blk : BlkAt W G (suV x) 77
  hG : w.heap.size ≤ G
section
variable {w W W' : World} {B b G : Nat} {v : Value} {L : List SU} {x x' : SU}
theorem SusX.only' (h : SusX w W B b G v L x) (ho : Only b W W') (ht : TapS W' B b) : SusX w W' B b G v L x := ⟨h.m.only' ho ht, h.blk.only ho (by have := h.m.hb; have := h.hG; omega), h.hG⟩
theorem SusX.next (h : SusX w W B b G v L x) (hb : Below W.heap.size W W') : SusX w W' B b G v L x := h.only' (only_below hb) (h.m.tape.below hb)
theorem SusX.al (h : SusX w W B b G v L x) (o : Obj) : SusX w (W.alloc o) B b G v L x := h.next (bal0 W o)
theorem SusX.drew (h : SusX w W B b G v L x) : SusX w W.drew B b G v L x := h.next ((Below.refl _ _).drew)
/-- A cell of it is written. It is not in the list's block. -/
theorem SusX.set (h : SusX w W B b G v L x) (hv : v.ownBlock ≠ some G) (i : Nat) (u : Value) (e : (suV x).setIfInBounds i u = suV x') : SusX w (W.setCell ⟨G, i, none⟩ u) B b G v L x' :=
  ⟨⟨h.m.tape.setCell (by show B ≤ G; have := h.hG; have := h.m.hb; have := h.m.tape.base; omega) (by show G ≠ b; have := h.hG; have := h.m.hb; omega) _, only_set h.m.only (.inr h.hG) _, ownsRow_setCell_other h.m.own hv _, h.m.hb⟩, (h.blk.cellSet i u).is e, h.hG⟩
end
def CutF (w : World) (B b G : Nat) (v : Value) (L : List SU) (key : ByteArray) (kn : Int) (wc : World) : Prop :=
  ∃ (fd : ByteArray) (f : Int), (fd = ⟨#[97, 108, 112, 104, 97]⟩ ∨ fd = ⟨#[98, 101, 116, 97]⟩) ∧ 0 ≤ f ∧ f ≤ 39 ∧ SusX w wc B b G v L ⟨key, fd, f, 0, kn, false⟩
theorem CutF.al {w W : World} {B b G : Nat} {v : Value} {L : List SU} {key : ByteArray} {kn : Int} (h : CutF w B b G v L key kn W) (o : Obj) : CutF w B b G v L key kn (W.alloc o) := by
  obtain ⟨fd, f, h1, h2, h3, h4⟩ := h
  exact ⟨fd, f, h1, h2, h3, h4.al o⟩
theorem cutF_of {w W : World} {B b G : Nat} {v : Value} {L : List SU} {key fd : ByteArray} {kn : Int} {k : Nat} (h : SusX w W B b G v L ⟨key, ⟨#[]⟩, 0, 0, kn, false⟩) (hv : v.ownBlock ≠ some G) (hf : fd = ⟨#[97, 108, 112, 104, 97]⟩ ∨ fd = ⟨#[98, 101, 116, 97]⟩) (hk : (k : Int) < 40) :
    CutF w B b G v L key kn ((W.setCell ⟨G, 1, none⟩ (.string fd)).setCell ⟨G, 2, none⟩ (.int .i64 k)) :=
  ⟨fd, k, hf, by omega, by omega, (h.set hv 1 (.string fd) (x' := ⟨key, fd, 0, 0, kn, false⟩) rfl).set hv 2 (.int .i64 k) (x' := ⟨key, fd, k, 0, kn, false⟩) rfl⟩
set_option maxRecDepth 100000 in
theorem ssus_any (B b : Nat) (w : World) (h : TapS w B b) : Calls Tryz.prog 11 #[.pointer (some ⟨b, 0, none⟩), .int .i64 6] w (SSusP B b w) := by
  have hb := h.lt
  have hB := h.base
  go_enter Tryz.func11, Tryz.ntmps11
  go_wp2_with fail
  refine (snext_in (n := 7) h (by omega) (by omega)).mono ?_
  rintro e w1 ⟨n0, hn0, rfl, ht1, ho1⟩
  have HM := Lib.hid (show SusM w w1 B b (.slice none 0 0) [] from ⟨ht1, ho1, World.ownsRow_nil .., hb⟩)
  clear h ht1 ho1
  go_wp2_with fail
  go_loopw [5, 6, 7] (fun ov kv nv wr => ∃ (j kn : Int) (L : List SU), 0 ≤ j ∧ nv = .int .i64 j ∧ kv = .int .i64 kn ∧ L.length + j ≤ 6 ∧ 0 ≤ kn ∧ kn ≤ 3 * L.length ∧ MadeS L kn ∧ SusM w wr B b ov L) (fun _ _ nv _ => (intOf nv).toNat)
  case atStart => exact ⟨n0, 0, [], by omega, rfl, rfl, by simp; omega, by omega, by simp, MadeS.nil, HM.out⟩
  case round =>
    obtain ⟨j, kn, L, hj, rfl, rfl, hLj, hk0, hk3, hMade, hS⟩ := hrel
    have HS := Lib.hid hS
    have HMade := Lib.hid hMade
    clear hS hMade HM
    by_cases hjp : 0 < j
    · have hl6 : L.length ≤ 5 := by omega
      go_wp2_with fail
      refine (snext_in (n := 3) HS.out.tape (by omega) (by omega)).mono ?_
      rintro e w2 ⟨d, hd, rfl, ht2, ho2⟩
      have HS2 := Lib.hid (HS.out.only' ho2 ht2)
      clear HS ht2 ho2
      go_wp2_with fail
      refine (skey_any 3 B b _ HS2.out.tape (by omega) (by omega)).mono ?_
      rintro e w3 ⟨key, hkey, rfl, ht3, ho3⟩
      have HS3 := Lib.hid (HS2.out.only' ho3 ht3)
      have HK := Lib.hid hkey
      clear HS2 ht3 ho3 hkey
      go_wp2_with fail
      refine (sbool_any 4 B b _ HS3.out.tape (by omega) (by omega)).mono ?_
      rintro e w4 ⟨vd, rfl, ht4, ho4⟩
      have HS4 := Lib.hid (HS3.out.only' ho4 ht4)
      have hv : u5.ownBlock ≠ some w4.heap.size := fun e => by have := (HS4.out.own.lt _ e).2; omega
      have HX := Lib.hid (show SusX w (w4.alloc (.cells #[.string key, .string ⟨#[]⟩, .int .i64 0, .int .i64 0, .int .i64 (kn + 1 + (d : Int)), .bool vd] 77)) B b w4.heap.size u5 L ⟨key, ⟨#[]⟩, 0, 0, kn + 1 + (d : Int), vd⟩ from
        ⟨HS4.out.next (bal0 _ _), BlkAt.new _ _ _, HS4.out.only.size⟩)
      have HV := Lib.hid hv
      clear HS3 ht4 ho4 HS4 hv
      go_upto_if 30 with (fail)
      go_cut [] from 31 to 49 (fun wc => CutX w B b w4.heap.size u5 L (kn + 1 + (d : Int)) wc)
      case first =>
        cases vd
        · go_upto_region 9 with (fail)
          go_cut [] from 31 to 39 (fun wc => CutF w B b w4.heap.size u5 L key (kn + 1 + (d : Int)) wc)
          case first =>
            generalize w4.alloc _ = W at *
            generalize w4.heap.size = G at *
            have hbW : b < W.heap.size := HX.out.m.tape.lt
            go_region_with ((first
              | (go_at_call_of 29 (Value.int .i64 3); refine (snext_in (n := 3) (B := B) (b := b) ?_ (by omega) (by omega)).mono ?_; (first | exact HX.out.m.tape.drew | exact (HX.out.m.tape.alloc _).drew); rintro e w6 ⟨k1, hk1, rfl, ht6, ho6⟩;
                 have hb6 : b < w6.heap.size := ht6.lt;
                 have HX6 : Hid (SusX w w6 B b G u5 L ⟨key, ⟨#[]⟩, 0, 0, kn + 1 + (d : Int), false⟩) := (by first | exact Lib.hid (HX.out.drew.only' ho6 ht6) | exact Lib.hid ((HX.out.al _).drew.only' ho6 ht6));
                 first
                 | (obtain ⟨fd, hfd, hfc⟩ := funds_at W hk1; replace hfc := only_cell ho6 (show W.heap.size < _ by simp) (show W.heap.size ≠ b by omega) hfc; have HF := Lib.hid hfd; clear ht6 ho6 hfd)
                 | (obtain ⟨fd, hfd, hfc⟩ := funds_at w6 hk1; have HF := Lib.hid hfd; clear ht6 ho6 hfd))
              | (go_at_call_of 29 (Value.int .i64 40); refine (snext_in (n := 40) (B := B) (b := b) ?_ (by omega) (by omega)).mono ?_; (first | exact HX6.out.m.tape | exact HX6.out.m.tape.alloc _); rintro e w7 ⟨k2, hk2, rfl, ht7, ho7⟩;
                 have HX7 : Hid (SusX w w7 B b G u5 L ⟨key, ⟨#[]⟩, 0, 0, kn + 1 + (d : Int), false⟩) := (by first | exact Lib.hid (HX6.out.only' ho7 ht7) | exact Lib.hid ((HX6.out.al _).only' ho7 ht7));
                 have hG7 := HX7.out.blk.lt;
                 have c1 := HX7.out.blk.cell (i := 1) rfl;
                 have c2 := HX7.out.blk.cell (i := 2) rfl;
                 have f1 := HX7.out.blk.fz 1;
                 have f2 := HX7.out.blk.fz 2;
                 first
                 | (have hfc7 := only_cell ho7 (blt hfc) (show _ ≠ b by omega) hfc; clear ht7 ho7)
                 | (clear hfc; obtain ⟨fd7, hfd7, hfc7⟩ := funds_at w7 hk1; have HF7 := Lib.hid hfd7; clear hfd7 ht7 ho7))))
            all_goals
              go_wp2_with fail
              go_meet
              first
              | exact cutF_of HX7.out HV.out HF.out (by omega)
              | exact (cutF_of HX7.out HV.out HF7.out (by omega)).al _
          case rest =>
            obtain ⟨fd, f, hfd, hf0, hf1, hX2⟩ := hcut
            have HX2 := Lib.hid hX2
            have HF := Lib.hid hfd
            clear hX2 hfd HX
            generalize w4.heap.size = G at *
            go_wp2_with fail
            refine (sbool_any 5 B b _ HX2.out.m.tape (by omega) (by omega)).mono ?_
            rintro e w5 ⟨q, rfl, ht5, ho5⟩
            have HX3 := Lib.hid (HX2.out.only' ho5 ht5)
            clear HX2 ht5 ho5
            cases q
            · have c2 : w5.cell? ⟨G, 2, none⟩ = some (.int .i64 f) := HX3.out.blk.cell rfl
              go_wp2_with fail
              go_region_with ((
                (go_at_call 29; refine (snext_in (n := 15) (B := B) (b := b) ?_ (by omega) (by omega)).mono ?_; exact HX3.out.m.tape.drew; rintro e w8 ⟨k3, hk3, rfl, ht8, ho8⟩;
                 have HX8 := Lib.hid (HX3.out.drew.only' ho8 ht8);
                 have c28 : w8.cell? ⟨G, 2, none⟩ = some (.int .i64 f) := HX8.out.blk.cell rfl;
                 have c38 : w8.cell? ⟨G, 3, none⟩ = some (.int .i64 0) := HX8.out.blk.cell rfl;
                 have f38 := HX8.out.blk.fz 3;
                 clear ht8 ho8)))
              all_goals
                go_wp2_with fail
                go_meet
                have hu : IntKind.i64.wrap (f + (k3 : Int)) = f + k3 := IntWalk.i64_in _ (by omega)
                rw [hu]
                have hX9 := HX8.out.set HV.out 3 (.int .i64 (max 1 (f + (k3 : Int)))) (x' := ⟨key, fd, f, max 1 (f + (k3 : Int)), kn + 1 + (d : Int), false⟩) rfl
                exact ⟨_, mds_span HK.out HF.out (by omega) (by omega) hf0 hf1 (.inr (by omega)), rfl, hX9.blk, hX9.m⟩
            · go_wp2_with fail
              go_meet
              exact ⟨_, mds_span HK.out HF.out (by omega) (by omega) hf0 hf1 (.inl rfl), rfl, HX3.out.blk, HX3.out.m⟩
        · go_wp2_with fail
          go_meet
          exact ⟨_, mds_void HK.out (by omega) (by omega), rfl, HX.out.blk, HX.out.m⟩
      case rest =>
        obtain ⟨x, hx, hkx, hbx, hm⟩ := hcut
        have HM := Lib.hid hm
        have HXD := Lib.hid hx
        have HKX := Lib.hid hkx
        have q0 : wc.cell? ⟨w4.heap.size, 0, none⟩ = some (.string x.key) := hbx.cell rfl
        have q1 : wc.cell? ⟨w4.heap.size, 1, none⟩ = some (.string x.fund) := hbx.cell rfl
        have q2 : wc.cell? ⟨w4.heap.size, 2, none⟩ = some (.int .i64 x.frm) := hbx.cell rfl
        have q3 : wc.cell? ⟨w4.heap.size, 3, none⟩ = some (.int .i64 x.til) := hbx.cell rfl
        have q4 : wc.cell? ⟨w4.heap.size, 4, none⟩ = some (.int .i64 x.known) := hbx.cell rfl
        have q5 : wc.cell? ⟨w4.heap.size, 5, none⟩ = some (.bool x.void) := hbx.cell rfl
        have hws := HM.out.only.size
        clear HX hx hkx hbx hm
        go_wp2_with (at_builtin; refine wpl_pushB elSus rfl _ _ rfl HM.out.own hws rfl #[.string x.key, .string x.fund, .int .i64 x.frm, .int .i64 x.til, .int .i64 x.known, .bool x.void] rfl rfl rfl (by omega) (by decide) ?_; intro v' w9 hO9 hg9)
        have HM9 := Lib.hid (HM.out.pushed hO9 hg9)
        clear hO9 hg9 q0 q1 q2 q3 q4 q5 HM HV
        go_wp2_with fail
        go_roundw
        case rel => exact ⟨j - 1, kn + 1 + (d : Int), L ++ [x], by omega, rfl, rfl, by rw [List.length_append]; simp; omega, by omega, by rw [List.length_append]; simp; omega, HKX.out ▸ HMade.out.push HXD.out (by rw [HKX.out]; omega), HM9.out⟩
        case measure => simp [intOf]; omega
    · have hL6 : L.length ≤ 4096 := by omega
      obtain ⟨A, cp, rfl, hsu, hA⟩ := own_sus HS.out.own (fun x hx => (HMade.out.each x hx).small) hL6
      have HU := Lib.hid hsu
      have HA := Lib.hid hA
      clear hsu hA
      go_wp2_with fail
      go_ret
      exact ⟨L, A, cp, kn, rfl, by omega, by omega, HMade.out, HU.out, HA.out, HS.out.tape, HS.out.only⟩
end Go.Proofs.YtffmmkjoknghoaaGreat
