/- What the laws lean on. -/
import Derived.Test.YteaahhokaffmdaaGreatDoorPt14
import Derived.Test.YteaahhokaffmdaaGreatDoorShelf4
import Derived.Lib.ConvBytes
import Derived.Deep.Fields
import Derived.Deep.Strs
import Derived.ShutString
import Derived.ChangeOld
import Derived.LaidMore
import Derived.Stop.Joined
import Derived.SevenTiedAt
import Derived.Test.YteaahhokaffmdaaGreatDoorTie
import Derived.Lay
import Derived.LaidOnce
import Derived.KernelRfl
namespace Go.Proofs.YteaahhokaffmdaaGreatDoor
set_option linter.unusedVariables false
set_option linter.unusedSimpArgs false
section
open Go.RowKit
set_option maxHeartbeats 4000000
theorem join5 (a b c d p : List UInt8) : Lib.join ([bs a, bs b, bs c, bs d, bs p].map (·.data.toList)) (⟨#[44]⟩ : ByteArray).data.toList = a ++ 44 :: (b ++ 44 :: (c ++ 44 :: (d ++ 44 :: p))) := by
 simp [Lib.join, bs_list]
theorem joinF {a b c d p : List UInt8} {W : World} {g : Nat} {t : TypeId} (h : BlkAt W g (flatC [.string (bs a), .string (bs b), .string (bs c), .string (bs d), .string (bs p)]) t) (hl : a.length + b.length + c.length + d.length + p.length ≤ 100000) :
  Calls Tryz.prog 55 #[.slice (some ⟨g, 0, none⟩) 5 5, .string ⟨#[44]⟩] W (RetB (.string (bs (a ++ 44 :: (b ++ 44 :: (c ++ 44 :: (d ++ 44 :: p)))))) W) := by
 have hc := Tryz.strings_Join g 0 5 [bs a, bs b, bs c, bs d, bs p] ⟨#[44]⟩ W (fun j x hx => by
  rw [Nat.zero_add]
  refine h.cell ?_
  rw [show flatC [.string (bs a), .string (bs b), .string (bs c), .string (bs d), .string (bs p)] = flatC ([bs a, bs b, bs c, bs d, bs p].map Value.string) from rfl, flatC_strs]
  rw [List.getElem?_toArray, List.getElem?_map, hx]
  rfl) h.lt (by simp) (by simp) (by rw [join5]; simp only [List.length_append, List.length_cons]; omega)
 rw [join5] at hc
 exact hc.mono fun e W' ⟨he, hb⟩ => ⟨he, hb⟩
theorem joinV {a b c d : List UInt8} {W : World} {g : Nat} {t : TypeId} (h : BlkAt W g (flatC [.string (bs a), .string (bs b), .string (bs c), .string (bs d), .string ⟨#[45]⟩]) t) (hl : a.length + b.length + c.length + d.length + ([45] : List UInt8).length ≤ 100000) :
  Calls Tryz.prog 55 #[.slice (some ⟨g, 0, none⟩) 5 5, .string ⟨#[44]⟩] W (RetB (.string (bs (a ++ 44 :: (b ++ 44 :: (c ++ 44 :: (d ++ 44 :: [45])))))) W) := joinF (p := [45]) h hl
theorem price_len {q : QT} (h : q.price = true) : (txtR (okR q.x q.a q.y q.b) (sZ q.x q.a) (sZ q.y q.b) 6).1.length ≤ 2000 := by
 unfold QT.price priceB at h
 simp only [Bool.and_eq_true, decide_eq_true_eq] at h
 obtain ⟨-, h1, h2⟩ := h
 generalize sZ q.x q.a = n at *
 generalize sZ q.y q.b = d at *
 refine txtR_len ?_ (by decide)
 have hd : 0 < d := by omega
 have hb := bp15_big
 have e0 : n * ((10 ^ (6 : Int).toNat : Nat) : Int) ≤ 1000000000000000 * d := by
  rw [show ((10 ^ (6 : Int).toNat : Nat) : Int) = 1000000 from rfl]
  omega
 have e1 : n * ((10 ^ (6 : Int).toNat : Nat) : Int) / d ≤ 1000000000000000 := Int.ediv_le_of_le_mul hd e0
 have e2 : 0 ≤ n * ((10 ^ (6 : Int).toNat : Nat) : Int) / d := Int.ediv_nonneg (by rw [show ((10 ^ (6 : Int).toNat : Nat) : Int) = 1000000 from rfl]; omega) (by omega)
 have e3 : bp 15 ≤ bp 17 := bp_le (by decide)
 omega
set_option maxRecDepth 100000 in
theorem qformat_any {q : QT} (hq : q.wf) {r : List UInt8 × Int} (hr : qfmt q (dayL q.day) = r) (w : World) : Calls Tryz.prog 26 #[.agg (qC q)] w (RetB (.tuple #[.string (bs r.1), .int .i64 r.2]) w) := by
 have F := Fr.start w
 obtain ⟨c1, h1⟩ : ∃ c, q.right = c := ⟨_, rfl⟩
 obtain ⟨c2, h2⟩ : ∃ c, knB q.known = c := ⟨_, rfl⟩
 have g1 := fun w => right_any hq h1 w
 have g2 := fun w => qknown_any h2 w
 have hok : q.ok = (c1 && c2) := by unfold QT.ok; rw [h1, h2]
 unfold qfmt at hr
 rw [hok] at hr
 cases c1
 ·rw [Bool.false_and, if_neg (by decide)] at hr
  subst hr
  go_enter Tryz.func26, Tryz.ntmps26
  go_wp2_with (first | go_skip | refine aYQ ?_ | ((with_reducible apply fSli F slInt); exact rfl; exact rfl; exact rfl; decide; decide; (go_simp; exact rfl); exact rfl) | ((with_reducible apply fSli F slStr); exact rfl; exact rfl; exact rfl; decide; decide; (go_simp; exact rfl); exact rfl) | (refine aTQ ?_; clear F; intro W F) | refine aNQ ?_)
  (clear F; intro b1 W F; try simp only [Act.put, z6, z1, z2])
  go_wp2_with (first | go_skip | ((go_at_call 37); (with_reducible refine fr_call F (g1 _) ?_); (clear F; intro W F); (try dsimp only)) | refine aYQ ?_ | ((with_reducible apply fSli F slInt); exact rfl; exact rfl; exact rfl; decide; decide; (go_simp; exact rfl); exact rfl) | ((with_reducible apply fSli F slStr); exact rfl; exact rfl; exact rfl; decide; decide; (go_simp; exact rfl); exact rfl) | (refine aTQ ?_; clear F; intro W F) | refine aNQ ?_)
  go_ret2
  exact ⟨rfl, F.below⟩
 cases c2
 ·rw [Bool.and_false, if_neg (by decide)] at hr
  subst hr
  go_enter Tryz.func26, Tryz.ntmps26
  go_wp2_with (first | go_skip | refine aYQ ?_ | ((with_reducible apply fSli F slInt); exact rfl; exact rfl; exact rfl; decide; decide; (go_simp; exact rfl); exact rfl) | ((with_reducible apply fSli F slStr); exact rfl; exact rfl; exact rfl; decide; decide; (go_simp; exact rfl); exact rfl) | (refine aTQ ?_; clear F; intro W F) | refine aNQ ?_)
  (clear F; intro b1 W F; try simp only [Act.put, z6, z1, z2])
  go_wp2_with (first | go_skip | ((go_at_call 37); (with_reducible refine fr_call F (g1 _) ?_); (clear F; intro W F); (try dsimp only)) | ((go_at_call 38); (with_reducible refine fr_call F (g2 _) ?_); (clear F; intro W F); (try dsimp only)) | refine aYQ ?_ | ((with_reducible apply fSli F slInt); exact rfl; exact rfl; exact rfl; decide; decide; (go_simp; exact rfl); exact rfl) | ((with_reducible apply fSli F slStr); exact rfl; exact rfl; exact rfl; decide; decide; (go_simp; exact rfl); exact rfl) | (refine aTQ ?_; clear F; intro W F) | refine aNQ ?_)
  go_ret2
  exact ⟨rfl, F.below⟩
 rw [Bool.and_self, if_pos rfl] at hr
 obtain ⟨hn, hp, hc, hd, hpr⟩ := right_parts h1
 have l1 : q.src.length ≤ 16 := by
  unfold nameB at hn
  simp only [Bool.and_eq_true, decide_eq_true_eq] at hn
  omega
 have l2 : q.ins.length ≤ 12 := by
  unfold paperB at hp
  simp only [Bool.and_eq_true, decide_eq_true_eq] at hp
  omega
 have l3 : q.cur.length = 3 := by
  unfold codeB at hc
  simp only [Bool.and_eq_true, decide_eq_true_eq] at hc
  omega
 have l4 := dayL_len q.day
 obtain ⟨e, he⟩ := dayL_is q.day
 have g3 := fun w => dfmt_is he w
 generalize dayL q.day = D at *
 have ha := hq.a
 have hb := hq.b
 obtain ⟨tx, htx⟩ : ∃ t, txtR (okR q.x q.a q.y q.b) (sZ q.x q.a) (sZ q.y q.b) 6 = t := ⟨_, rfl⟩
 have g4 := fun w => text_any ha hb htx w
 cases hv : q.void
 ·rw [hv, if_neg (by decide), htx] at hr
  rw [hv, if_neg (by decide)] at hpr
  have l5 := price_len hpr
  rw [htx] at l5
  have hl : q.src.length + q.ins.length + q.cur.length + D.length + tx.1.length ≤ 100000 := by omega
  obtain ⟨t1, t2⟩ := tx
  dsimp only at hr g4 hl
  subst hr
  clear htx hpr hn hp hc hd l1 l2 l3 l4 l5 h1 h2 hok he ha hb hq
  go_enter Tryz.func26, Tryz.ntmps26
  go_wp2_with (first | go_skip | refine aYQ ?_ | ((with_reducible apply fSli F slInt); exact rfl; exact rfl; exact rfl; decide; decide; (go_simp; exact rfl); exact rfl) | ((with_reducible apply fSli F slStr); exact rfl; exact rfl; exact rfl; decide; decide; (go_simp; exact rfl); exact rfl) | (refine aTQ ?_; clear F; intro W F) | refine aNQ ?_)
  (clear F; intro b1 W F; try simp only [Act.put, z6, z1, z2])
  go_wp2_with (first | go_skip | ((go_at_call 37); (with_reducible refine fr_call F (g1 _) ?_); (clear F; intro W F); (try dsimp only)) | ((go_at_call 38); (with_reducible refine fr_call F (g2 _) ?_); (clear F; intro W F); (try dsimp only)) | ((go_at_call 53); (with_reducible refine fr_call F (g3 _) ?_); (clear F; intro W F); (try dsimp only)) | ((go_at_call 54); (with_reducible refine fr_call F (g4 _) ?_); (clear F; intro W F); (try dsimp only)) | refine aYQ ?_ | ((with_reducible apply fSli F slInt); exact rfl; exact rfl; exact rfl; decide; decide; (go_simp; exact rfl); exact rfl) | ((with_reducible apply fSli F slStr); exact rfl; exact rfl; exact rfl; decide; decide; (go_simp; exact rfl); exact rfl) | (refine aTQ ?_; clear F; intro W F) | refine aNQ ?_)
  (clear F; intro b39 W F; try simp only [Act.put, z6, z1, z2])
  go_wp2_with (first | go_skip | ((go_at_call 55); (with_reducible refine fr_call F (joinF (Fr.get F tL) hl) ?_); (clear F; intro W F); (try dsimp only)) | refine aYQ ?_ | ((with_reducible apply fSli F slInt); exact rfl; exact rfl; exact rfl; decide; decide; (go_simp; exact rfl); exact rfl) | ((with_reducible apply fSli F slStr); exact rfl; exact rfl; exact rfl; decide; decide; (go_simp; exact rfl); exact rfl) | (refine aTQ ?_; clear F; intro W F) | refine aNQ ?_)
  go_ret2
  exact ⟨rfl, F.below⟩
 ·rw [hv, if_pos rfl] at hr
  have hl : q.src.length + q.ins.length + q.cur.length + D.length + ([45] : List UInt8).length ≤ 100000 := by simp only [List.length_cons, List.length_nil]; omega
  subst hr
  clear htx hpr hn hp hc hd l1 l2 l3 l4 h1 h2 hok he ha hb hq g4
  go_enter Tryz.func26, Tryz.ntmps26
  go_wp2_with (first | go_skip | refine aYQ ?_ | ((with_reducible apply fSli F slInt); exact rfl; exact rfl; exact rfl; decide; decide; (go_simp; exact rfl); exact rfl) | ((with_reducible apply fSli F slStr); exact rfl; exact rfl; exact rfl; decide; decide; (go_simp; exact rfl); exact rfl) | (refine aTQ ?_; clear F; intro W F) | refine aNQ ?_)
  (clear F; intro b1 W F; try simp only [Act.put, z6, z1, z2])
  go_wp2_with (first | go_skip | ((go_at_call 37); (with_reducible refine fr_call F (g1 _) ?_); (clear F; intro W F); (try dsimp only)) | ((go_at_call 38); (with_reducible refine fr_call F (g2 _) ?_); (clear F; intro W F); (try dsimp only)) | ((go_at_call 53); (with_reducible refine fr_call F (g3 _) ?_); (clear F; intro W F); (try dsimp only)) | refine aYQ ?_ | ((with_reducible apply fSli F slInt); exact rfl; exact rfl; exact rfl; decide; decide; (go_simp; exact rfl); exact rfl) | ((with_reducible apply fSli F slStr); exact rfl; exact rfl; exact rfl; decide; decide; (go_simp; exact rfl); exact rfl) | (refine aTQ ?_; clear F; intro W F) | refine aNQ ?_)
  (clear F; intro b39 W F; try simp only [Act.put, z6, z1, z2])
  go_wp2_with (first | go_skip | ((go_at_call 55); (with_reducible refine fr_call F (joinV (Fr.get F tL) hl) ?_); (clear F; intro W F); (try dsimp only)) | refine aYQ ?_ | ((with_reducible apply fSli F slInt); exact rfl; exact rfl; exact rfl; decide; decide; (go_simp; exact rfl); exact rfl) | ((with_reducible apply fSli F slStr); exact rfl; exact rfl; exact rfl; decide; decide; (go_simp; exact rfl); exact rfl) | (refine aTQ ?_; clear F; intro W F) | refine aNQ ?_)
  go_ret2
  exact ⟨rfl, F.below⟩
theorem line_cat (a b c d p : List UInt8) : bs a ++ ⟨#[44]⟩ ++ bs b ++ ⟨#[44]⟩ ++ bs c ++ ⟨#[44]⟩ ++ bs d ++ ⟨#[44]⟩ ++ bs p = bs (a ++ 44 :: (b ++ 44 :: (c ++ 44 :: (d ++ 44 :: p)))) := by
 rw [show (⟨#[44]⟩ : ByteArray) = bs [44] from rfl]
 simp only [bs_append]
 simp
set_option maxRecDepth 100000 in
theorem rqformat_any {q : QT} (hq : q.wf) {r : List UInt8 × Int} (hr : qfmt q (dayL q.day) = r) (w : World) : Calls Tryz.prog 27 #[.agg (qC q)] w (RetB (.tuple #[.string (bs r.1), .int .i64 r.2]) w) := by
 have F := Fr.start w
 obtain ⟨c1, h1⟩ : ∃ c, q.ok = c := ⟨_, rfl⟩
 have g1 := fun w => qvalid_any hq h1 w
 unfold qfmt at hr
 rw [h1] at hr
 cases c1
 ·rw [if_neg (by decide)] at hr
  subst hr
  go_enter Tryz.func27, Tryz.ntmps27
  go_wp2_with (first | go_skip | refine aYQ ?_ | ((with_reducible apply fSli F slInt); exact rfl; exact rfl; exact rfl; decide; decide; (go_simp; exact rfl); exact rfl) | ((with_reducible apply fSli F slStr); exact rfl; exact rfl; exact rfl; decide; decide; (go_simp; exact rfl); exact rfl) | (refine aTQ ?_; clear F; intro W F) | refine aNQ ?_)
  (clear F; intro b1 W F; try simp only [Act.put, z6, z1, z2])
  go_wp2_with (first | go_skip | ((go_at_call 40); (with_reducible refine fr_call F (g1 _) ?_); (clear F; intro W F); (try dsimp only)) | refine aYQ ?_ | ((with_reducible apply fSli F slInt); exact rfl; exact rfl; exact rfl; decide; decide; (go_simp; exact rfl); exact rfl) | ((with_reducible apply fSli F slStr); exact rfl; exact rfl; exact rfl; decide; decide; (go_simp; exact rfl); exact rfl) | (refine aTQ ?_; clear F; intro W F) | refine aNQ ?_)
  go_ret2
  exact ⟨rfl, F.below⟩
 rw [if_pos rfl] at hr
 have h2 : q.right = true := by unfold QT.ok at h1; rw [Bool.and_eq_true] at h1; exact h1.1
 obtain ⟨hn, hp, hc, hd, hpr⟩ := right_parts h2
 have l1 : q.src.length ≤ 16 := by
  unfold nameB at hn
  simp only [Bool.and_eq_true, decide_eq_true_eq] at hn
  omega
 have l2 : q.ins.length ≤ 12 := by
  unfold paperB at hp
  simp only [Bool.and_eq_true, decide_eq_true_eq] at hp
  omega
 have l3 : q.cur.length = 3 := by
  unfold codeB at hc
  simp only [Bool.and_eq_true, decide_eq_true_eq] at hc
  omega
 have l4 := dayL_len q.day
 obtain ⟨e, he⟩ := dayL_is q.day
 have g3 := fun w => rfmt_is he w
 generalize dayL q.day = D at *
 have ha := hq.a
 have hb := hq.b
 obtain ⟨tx, htx⟩ : ∃ t, txtR (okR q.x q.a q.y q.b) (sZ q.x q.a) (sZ q.y q.b) 6 = t := ⟨_, rfl⟩
 have g4 := fun w => rtext_any ha hb htx w
 obtain ⟨tp, htp⟩ : ∃ tp : List UInt8, (if q.void = true then [45] else tx.1) = tp := ⟨_, rfl⟩
 have l5 : tp.length ≤ 2000 := by
  rw [← htp]
  cases hv : q.void
  ·rw [hv, if_neg (by decide)] at hpr
   rw [if_neg (by decide), ← htx]
   exact price_len hpr
  ·simp
 rw [htx, htp] at hr
 obtain ⟨sd, hsd⟩ : ∃ sd, bs q.src = sd := ⟨_, rfl⟩
 obtain ⟨si, hsi⟩ : ∃ sd, bs q.ins = sd := ⟨_, rfl⟩
 obtain ⟨sc, hsc⟩ : ∃ sd, bs q.cur = sd := ⟨_, rfl⟩
 have hcat := line_cat q.src q.ins q.cur D tp
 rw [hsd, hsi, hsc] at hcat
 rw [← bs_size, hsd] at l1
 rw [← bs_size, hsi] at l2
 rw [← bs_size, hsc] at l3
 rw [← bs_size] at l4 l5
 have htp2 : (if q.void = true then ⟨#[45]⟩ else bs tx.1) = bs tp := by rw [← htp]; cases q.void <;> rfl
 obtain ⟨t1, t2⟩ := tx
 dsimp only at hr g4 htp2
 subst hr
 rw [← hcat]
 generalize bs tp = P at *
 generalize bs D = DD at *
 have n0 : DD.size ≤ 10 := l4
 have k1 := no63 (n := sd.size + 1) (by omega)
 have k2 := no63 (n := sd.size + 1 + si.size) (by omega)
 have k3 := no63 (n := sd.size + 1 + si.size + 1) (by omega)
 have k4 := no63 (n := sd.size + 1 + si.size + 1 + sc.size) (by omega)
 have k5 := no63 (n := sd.size + 1 + si.size + 1 + sc.size + 1) (by omega)
 have k6 := no63 (n := sd.size + 1 + si.size + 1 + sc.size + 1 + DD.size) (by omega)
 have k7 := no63 (n := sd.size + 1 + si.size + 1 + sc.size + 1 + DD.size + 1) (by omega)
 have k8 := no63 (n := sd.size + 1 + si.size + 1 + sc.size + 1 + DD.size + 1 + P.size) (by omega)
 clear htx hpr hn hp hc hd l1 l2 l3 l4 l5 n0 h1 h2 he ha hb hq htp hcat
 cases hv : q.void
 ·rw [hv, if_neg (by decide)] at htp2
  subst htp2
  go_enter Tryz.func27, Tryz.ntmps27
  go_wp2_with (first | go_skip | refine aYQ ?_ | ((with_reducible apply fSli F slInt); exact rfl; exact rfl; exact rfl; decide; decide; (go_simp; exact rfl); exact rfl) | ((with_reducible apply fSli F slStr); exact rfl; exact rfl; exact rfl; decide; decide; (go_simp; exact rfl); exact rfl) | (refine aTQ ?_; clear F; intro W F) | refine aNQ ?_)
  (clear F; intro b1 W F; try simp only [Act.put, z6, z1, z2])
  go_wp2_with (first | go_skip | ((go_at_call 40); (with_reducible refine fr_call F (g1 _) ?_); (clear F; intro W F); (try dsimp only)) | ((go_at_call 28); (with_reducible refine fr_call F (g3 _) ?_); (clear F; intro W F); (try dsimp only)) | ((go_at_call 56); (with_reducible refine fr_call F (g4 _) ?_); (clear F; intro W F); (try dsimp only)) | refine aYQ ?_ | ((with_reducible apply fSli F slInt); exact rfl; exact rfl; exact rfl; decide; decide; (go_simp; exact rfl); exact rfl) | ((with_reducible apply fSli F slStr); exact rfl; exact rfl; exact rfl; decide; decide; (go_simp; exact rfl); exact rfl) | (refine aTQ ?_; clear F; intro W F) | refine aNQ ?_)
  go_ret2
  exact ⟨rfl, F.below⟩
 ·rw [hv, if_pos rfl] at htp2
  subst htp2
  have k9 := no63 (n := sd.size + 1 + si.size + 1 + sc.size + 1 + DD.size + 1 + 1) (by have : (⟨#[45]⟩ : ByteArray).size = 1 := rfl; rw [eq_iff_iff, iff_false] at k8; omega)
  clear k8
  go_enter Tryz.func27, Tryz.ntmps27
  go_wp2_with (first | go_skip | refine aYQ ?_ | ((with_reducible apply fSli F slInt); exact rfl; exact rfl; exact rfl; decide; decide; (go_simp; exact rfl); exact rfl) | ((with_reducible apply fSli F slStr); exact rfl; exact rfl; exact rfl; decide; decide; (go_simp; exact rfl); exact rfl) | (refine aTQ ?_; clear F; intro W F) | refine aNQ ?_)
  (clear F; intro b1 W F; try simp only [Act.put, z6, z1, z2])
  go_wp2_with (first | go_skip | ((go_at_call 40); (with_reducible refine fr_call F (g1 _) ?_); (clear F; intro W F); (try dsimp only)) | ((go_at_call 28); (with_reducible refine fr_call F (g3 _) ?_); (clear F; intro W F); (try dsimp only)) | refine aYQ ?_ | ((with_reducible apply fSli F slInt); exact rfl; exact rfl; exact rfl; decide; decide; (go_simp; exact rfl); exact rfl) | ((with_reducible apply fSli F slStr); exact rfl; exact rfl; exact rfl; decide; decide; (go_simp; exact rfl); exact rfl) | (refine aTQ ?_; clear F; intro W F) | refine aNQ ?_)
  go_ret2
  exact ⟨rfl, F.below⟩
theorem elStr : ElT Tryz.prog 48 9 1 16 := ElT.of (z := .string ⟨#[]⟩) Tryz.underlying48 (by kernel_rfl) rfl (by decide)
def sCs (l : List (List UInt8)) : List Value := l.map fun s => .string (bs s)
def cutN (s : List UInt8) : Nat → List (List UInt8) × Nat
 | 0 => ([], 0)
 | i + 1 => if s[i]? = some 44 then ((cutN s i).1 ++ [(s.take i).drop (cutN s i).2], i + 1) else cutN s i
theorem cutN_le (s : List UInt8) : ∀ i, (cutN s i).2 ≤ i ∧ (cutN s i).1.length ≤ i
 | 0 => by simp [cutN]
 | i + 1 => by
   have := cutN_le s i
   unfold cutN
   split
   ·simp only [List.length_append, List.length_cons, List.length_nil]
    omega
   ·omega
theorem cuts_split (s : List UInt8) : ∀ i, i ≤ s.length → cuts s = (cutN s i).1 ++ cuts (s.drop (cutN s i).2) ∧ (44 : UInt8) ∉ (s.take i).drop (cutN s i).2
 | 0, _ => by simp [cutN]
 | i + 1, h => by
   obtain ⟨h1, h2⟩ := cuts_split s i (by omega)
   have hb := (cutN_le s i).1
   have hi : s[i]? = some s[i] := List.getElem?_eq_getElem (by omega)
   have ht : (s.take (i + 1)).drop (cutN s i).2 = (s.take i).drop (cutN s i).2 ++ [s[i]] := by
    rw [List.take_succ_eq_append_getElem (by omega), List.drop_append_of_le_length (by rw [List.length_take]; omega)]
   by_cases hc : s[i]? = some 44
   ·have e : cutN s (i + 1) = ((cutN s i).1 ++ [(s.take i).drop (cutN s i).2], i + 1) := by rw [cutN, if_pos hc]
    rw [e]
    dsimp only
    refine ⟨?_, by simp⟩
    rw [h1, List.append_assoc]
    congr 1
    have hd : ∀ f, f ≤ i → s.drop f = (s.take i).drop f ++ 44 :: s.drop (i + 1) := by
     intro f hf
     rw [hi] at hc
     have e1 : s.drop i = 44 :: s.drop (i + 1) := by rw [List.drop_eq_getElem_cons (by omega), Option.some.inj hc]
     rw [← e1, ← List.drop_append_of_le_length (by rw [List.length_take]; omega), List.take_append_drop]
    have hd := hd _ hb
    rw [hd, cuts_app _ h2]
    rfl
   ·have e : cutN s (i + 1) = cutN s i := by rw [cutN, if_neg hc]
    rw [e]
    refine ⟨h1, ?_⟩
    rw [ht]
    intro hm
    rcases List.mem_append.1 hm with hm | hm
    ·exact h2 hm
    ·rw [List.mem_singleton] at hm
     exact hc (by rw [hi, ← hm])
theorem cuts_end (s : List UInt8) : cuts s = (cutN s s.length).1 ++ [s.drop (cutN s s.length).2] := by
 obtain ⟨h1, h2⟩ := cuts_split s s.length (Nat.le_refl _)
 rw [List.take_length] at h2
 conv => lhs; rw [h1, cuts_none h2]
def FldP (s : List UInt8) (w : World) (e : Ending) (w' : World) : Prop := ∃ v, e = .returned v ∧ OwnL w w' 9 1 v (cuts s).length (sCs (cuts s))
set_option maxRecDepth 100000 in
theorem rfields_any (s : List UInt8) (hs : s.length ≤ 2000000) (w : World) : Calls Tryz.prog 49 #[.string (bs s)] w (FldP s w) := by
 have F := Fr.start w
 have hz : (bs s).size = s.length := bs_size s
 go_enter Tryz.func49, Tryz.ntmps49
 go_wp2_with (first | go_skip | refine aYQ ?_ | ((with_reducible apply fSli F slInt); exact rfl; exact rfl; exact rfl; decide; decide; (go_simp; exact rfl); exact rfl) | ((with_reducible apply fSli F slStr); exact rfl; exact rfl; exact rfl; decide; decide; (go_simp; exact rfl); exact rfl) | (refine aTQ ?_; clear F; intro W F) | refine aNQ ?_)
 go_loopw [3, 4, 5] (fun lv fv iv wr => ∃ (i : Nat) (X : List Ent), i ≤ s.length + 1 ∧ iv = .int .i64 i ∧ ((i ≤ s.length ∧ fv = .int .i64 (cutN s i).2 ∧ SlG 9 1 lv (cutN s i).1.length (sCs (cutN s i).1) X) ∨ (i = s.length + 1 ∧ SlG 9 1 lv (cuts s).length (sCs (cuts s)) X)) ∧ Fr w wr X) (fun _ _ iv _ => s.length + 2 - (intOf iv).toNat)
 case atStart => exact ⟨0, [], by omega, rfl, .inl ⟨by omega, rfl, SlG.nil _ _⟩, F⟩
 case round =>
  clear F
  obtain ⟨i, X, hi, rfl, hr, F⟩ := hrel
  by_cases hlt : i ≤ s.length
  ·rcases hr with ⟨-, rfl, S⟩ | ⟨h, -⟩
   ·have hcut := cutN_le s i
    have HS := Lib.hid S
    clear S
    obtain ⟨f, hf⟩ : ∃ f, (cutN s i).2 = f := ⟨_, rfl⟩
    obtain ⟨P, hP⟩ : ∃ P, (s.take i).drop f = P := ⟨_, rfl⟩
    obtain ⟨Z, hZ⟩ : ∃ Z, (cutN s i).1 = Z := ⟨_, rfl⟩
    have e2 : (bs s).extract f i = bs P := by rw [bs_extract, ← List.drop_take, hP]
    have t0 : decide ((i : Int) ≤ (s.length : Int)) = true := decide_eq_true (by omega)
    rw [hf, hZ] at hcut
    rw [hZ] at HS
    have hfi := hcut.1
    have hZi := hcut.2
    rw [hf]
    by_cases he : i = s.length
    ·subst he
     have HE := Lib.hid (show cuts s = Z ++ [P] by rw [cuts_end, hZ, hf, ← hP, List.take_length])
     clear hP hZ hf hcut hlt hi
     go_wp2_with (first | go_skip | refine aYQ ?_ | ((with_reducible apply fSli F slInt); exact rfl; exact rfl; exact rfl; decide; decide; (go_simp; exact rfl); exact rfl) | ((with_reducible apply fSli F slStr); exact rfl; exact rfl; exact rfl; decide; decide; (go_simp; exact rfl); exact rfl) | (refine aTQ ?_; clear F; intro W F) | refine aNQ ?_)
     (clear F; intro b27 W F; try simp only [Act.put, z6, z1, z2])
     go_wp2_with (first | go_skip | ((with_reducible apply fPushB elStr (n := Z.length) (by unfold maxLen; omega) (by omega) HS.out F); exact rfl; exact rfl; exact rfl; exact rfl; exact rfl; (clear F HS); (intro v' X' W' S' F')) | refine aYQ ?_ | ((with_reducible apply fSli F slInt); exact rfl; exact rfl; exact rfl; decide; decide; (go_simp; exact rfl); exact rfl) | ((with_reducible apply fSli F slStr); exact rfl; exact rfl; exact rfl; decide; decide; (go_simp; exact rfl); exact rfl) | (refine aTQ ?_; clear F; intro W F) | refine aNQ ?_)
     go_roundw
     case rel => exact ⟨s.length + 1, X', by omega, by go_num, .inr ⟨rfl, by rw [HE.out, List.length_append]; unfold sCs; rw [List.map_append]; exact S'⟩, F'⟩
     case measure => simp [intOf] <;> omega
    ·have hl2 : i < s.length := by omega
     have t1 : ((i : Int) == (s.length : Int)) = false := by rw [beq_eq_false_iff_ne]; omega
     obtain ⟨b, hb⟩ : ∃ b, s[i] = b := ⟨_, rfl⟩
     have e0 := bs_at (l := s) (i := i) (by rw [bs_size]; exact hl2) hl2
     obtain ⟨x, hx⟩ : ∃ x : Nat, b.toNat = x := ⟨_, rfl⟩
     have e1 : ((bs s)[i]'(by rw [bs_size]; exact hl2)).toNat = x := (congrArg UInt8.toNat (e0.trans hb)).trans hx
     have hg : s[i]? = some b := by rw [List.getElem?_eq_getElem hl2, hb]
     by_cases hc : x = 44
     ·subst hc
      have hb44 : b = 44 := UInt8.toNat_inj.1 hx
      have HE := Lib.hid (show cutN s (i + 1) = (Z ++ [P], i + 1) by rw [cutN, if_pos (by rw [hg, hb44]), hZ, hf, hP])
      clear hP hZ hf hcut hi hx hb e0 hg hb44
      go_wp2_with (first | go_skip | refine aYQ ?_ | ((with_reducible apply fSli F slInt); exact rfl; exact rfl; exact rfl; decide; decide; (go_simp; exact rfl); exact rfl) | ((with_reducible apply fSli F slStr); exact rfl; exact rfl; exact rfl; decide; decide; (go_simp; exact rfl); exact rfl) | (refine aTQ ?_; clear F; intro W F) | refine aNQ ?_)
      (clear F; intro b27 W F; try simp only [Act.put, z6, z1, z2])
      go_wp2_with (first | go_skip | ((with_reducible apply fPushB elStr (n := Z.length) (by unfold maxLen; omega) (by omega) HS.out F); exact rfl; exact rfl; exact rfl; exact rfl; exact rfl; (clear F HS); (intro v' X' W' S' F')) | refine aYQ ?_ | ((with_reducible apply fSli F slInt); exact rfl; exact rfl; exact rfl; decide; decide; (go_simp; exact rfl); exact rfl) | ((with_reducible apply fSli F slStr); exact rfl; exact rfl; exact rfl; decide; decide; (go_simp; exact rfl); exact rfl) | (refine aTQ ?_; clear F; intro W F) | refine aNQ ?_)
      go_roundw
      case rel => exact ⟨i + 1, X', by omega, by go_num, .inl ⟨by omega, by rw [HE.out]; go_num, by rw [HE.out, List.length_append]; unfold sCs; rw [List.map_append]; exact S'⟩, F'⟩
      case measure => simp [intOf] <;> omega
     ·have HE := Lib.hid (show cutN s (i + 1) = (Z, f) by
       rw [cutN, if_neg (by rw [hg]; intro h; have := Option.some.inj h; subst this; exact hc hx.symm), ← hZ, ← hf])
      have t2 : ((x : Int) == 44) = false := by rw [beq_eq_false_iff_ne]; omega
      clear hP hZ hf hcut hi hx hb e0 hg
      go_wp2_with (first | go_skip | refine aYQ ?_ | ((with_reducible apply fSli F slInt); exact rfl; exact rfl; exact rfl; decide; decide; (go_simp; exact rfl); exact rfl) | ((with_reducible apply fSli F slStr); exact rfl; exact rfl; exact rfl; decide; decide; (go_simp; exact rfl); exact rfl) | (refine aTQ ?_; clear F; intro W F) | refine aNQ ?_)
      go_roundw
      case rel => exact ⟨i + 1, X, by omega, by go_num, .inl ⟨by omega, by rw [HE.out], by rw [HE.out]; exact HS.out⟩, F⟩
      case measure => simp [intOf] <;> omega
   ·omega
  ·rcases hr with ⟨h, -⟩ | ⟨-, S⟩
   ·omega
   ·have HS := Lib.hid S
    clear S
    go_wp2_with (first | go_skip | refine aYQ ?_ | ((with_reducible apply fSli F slInt); exact rfl; exact rfl; exact rfl; decide; decide; (go_simp; exact rfl); exact rfl) | ((with_reducible apply fSli F slStr); exact rfl; exact rfl; exact rfl; decide; decide; (go_simp; exact rfl); exact rfl) | (refine aTQ ?_; clear F; intro W F) | refine aNQ ?_)
    go_ret
    exact ⟨_, rfl, HS.out.ownL F⟩
theorem zz32 : (0 : Int).natAbs < bp 32 := bp_pos 32
theorem prs_b (s : List UInt8) (p : Int) : (prsR s p).1.natAbs < bp 32 ∧ (prsR s p).2.1.natAbs < bp 32 := by
 by_cases h : (prsR s p).2.2 = 0
 ·exact okZ_b (prs_valid h).1
 ·unfold prsR at h ⊢
  split
  ·exact ⟨zz32, zz32⟩
  ·rename_i hd
   rw [if_neg hd] at h
   dsimp only at h ⊢
   split
   ·exact ⟨zz32, zz32⟩
   ·rename_i hd2
    rw [if_neg hd2] at h
    unfold prsB at h ⊢
    dsimp only at h ⊢
    split
    ·exact ⟨zz32, zz32⟩
    ·rename_i hd3
     rw [if_neg hd3] at h
     exact absurd rfl h
end
section
open Go.RowKit
set_option maxHeartbeats 4000000
def arrC (P : List (List UInt8)) : Array Value := ((P ++ List.replicate (5 - P.length) []).map fun l => Value.string (bs l)).toArray
theorem arr_at {P : List (List UInt8)} (h : P.length < 5) : (arrC P)[P.length]? = some (.string (bs [])) := by
 unfold arrC
 rw [List.getElem?_toArray, List.getElem?_map, List.getElem?_append_right (Nat.le_refl _), Nat.sub_self, List.getElem?_replicate, if_pos (by omega)]
 rfl
theorem arr_set {P : List (List UInt8)} (h : P.length < 5) (x : List UInt8) : (arrC P).setIfInBounds P.length (.string (bs x)) = arrC (P ++ [x]) := by
 apply Array.toList_inj.1
 unfold arrC
 rw [Array.toList_setIfInBounds, List.toList_toArray, List.toList_toArray, List.map_append, List.set_append_right _ _ (by simp), List.length_map, Nat.sub_self]
 obtain ⟨m, hm⟩ : ∃ m, 5 - P.length = m + 1 := ⟨4 - P.length, by omega⟩
 rw [hm, List.length_append, List.length_singleton, show 5 - (P.length + 1) = m by omega, List.replicate_succ, List.map_cons, List.set_cons_zero, List.append_assoc, List.map_append, List.map_append]
 rfl
theorem arr_five (a b c d p : List UInt8) : arrC [a, b, c, d, p] = #[.string (bs a), .string (bs b), .string (bs c), .string (bs d), .string (bs p)] := rfl
section
variable {o : Oper} {a : Act} {W w : World} {F A L : List Ent} {K : Act → World → Prop} {Q : Exit → Act → World → Prop} {ops : Array Oper} {rest : List Oper} {dst : Option Tmp} {ty : TypeId} {pos : String} {af : Array Edge} {gd : Option (Nat × Bool)} {x y : Operand} {cs cs' : Array Value} {b k : Nat} {t T : TypeId} {v v0 : Value}
theorem alloc_s5 (ho : o.op = .alloc 73) : (execOp a.eval o).run Tryz.prog W = .ok (.value (.pointer (some ⟨W.heap.size, 0, none⟩))) (W.alloc (.cells (arrC []) 73)) := by
 obtain ⟨dst, op, pos, af, g, x⟩ := o
 subst ho
 rw [show arrC [] = #[.string ⟨#[]⟩, .string ⟨#[]⟩, .string ⟨#[]⟩, .string ⟨#[]⟩, .string ⟨#[]⟩] from rfl]
 go_simp
theorem fA_s5 (h : Fr w W F) (hw : Region.wanted ⟨dst, .alloc 73, ty, pos, af, gd⟩ (yielded ops a.tmps) = true) (hk : Hold (∀ b W', Fr w W' ((b, arrC [], 73) :: F) → wpList Tryz.prog ops Q rest (a.put dst (.pointer (some ⟨b, 0, none⟩))) W')) : wpList Tryz.prog ops Q (⟨dst, .alloc 73, ty, pos, af, gd⟩ :: rest) a W := wplF_alloc h hw (alloc_s5 rfl) hk
theorem fScK (h : Fr w W F) (hw : Region.wanted ⟨none, .store T x y, ty, pos, af, gd⟩ (yielded ops a.tmps) = true) (hx : a.eval x = .pointer (some ⟨b, k, none⟩)) (hy : a.eval y = v) (hl : Lies F A b cs t L) (hT : ScT Tryz.prog T) (h1 : v.oneCell' = true) (hc : cs[k]? = some v0) (he : cs.setIfInBounds k v = cs') (hk : ∀ W', W' = W.setCell ⟨b, k, none⟩ v → Fr w W' (A ++ (b, cs', t) :: L) → wpList Tryz.prog ops Q rest a W') : wpList Tryz.prog ops Q (⟨none, .store T x y, ty, pos, af, gd⟩ :: rest) a W := by
 refine wpList_want hw fun K hK => ?_
 have hb := h.get hl
 unfold Oper.wp execOp
 simp only [hx, hy, Instr.storeAt, Instr.sureAddr, Sem.run_bind, Sem.run_pure, Result.andThen_ok, run_store_cell hT h1 (hb.cell hc) (hb.fz k)]
 have e := hl.eq
 subst e
 subst he
 exact hK _ _ (hk _ rfl (h.cellA k v))
theorem fB_quo5 {x0 x1 x2 x5 x6 : Operand} {s1 s2 s3 : List UInt8} {n : Int} {c : Bool} (hw : Region.wanted ⟨dst, .build 33 #[(0, x0), (1, x1), (2, x2), (5, x5), (6, x6)], ty, pos, af, gd⟩ (yielded ops a.tmps) = true) (h0 : a.eval x0 = .string (bs s1)) (h1 : a.eval x1 = .string (bs s2)) (h2 : a.eval x2 = .string (bs s3)) (h5 : a.eval x5 = .int .i64 n) (h6 : a.eval x6 = .bool c) (hk : wpList Tryz.prog ops Q rest (a.put dst (.agg (qC ⟨s1, s2, s3, 0, false, 0, false, 0, n, c⟩))) W) : wpList Tryz.prog ops Q (⟨dst, .build 33 #[(0, x0), (1, x1), (2, x2), (5, x5), (6, x6)], ty, pos, af, gd⟩ :: rest) a W :=
 wplF_build hw _ _ rfl (by simp only [List.map_toArray, List.map_cons, List.map_nil, h0, h1, h2, h5, h6]; exact built_quo5 s1 s2 s3 n c) hk
end
theorem bytes_far {w : World} {g b k : Nat} {s : ByteArray} {v : Value} (h : Lib.Bytes w g 0 s) (hn : g ≠ b) : Lib.Bytes (w.setCell ⟨b, k, none⟩ v) g 0 s := fun i hi => (World.cell?_of_block (w := w) (a := ⟨g, 0 + i, none⟩) (Below.heap_setCell w ⟨b, k, none⟩ v g hn)).trans (h i hi)
theorem bytes_made (w : World) (s : ByteArray) : ∃ cap W', s.size ≤ cap ∧ (convert 9 74 (.string s)).run Tryz.prog w = .ok (.slice (some ⟨w.heap.size, 0, none⟩) s.size cap) W' ∧ Lib.Bytes W' w.heap.size 0 s ∧ Below w.heap.size w W' := by
 refine ⟨grownCap w s.size 0 5, Lib.bytesWorld w 5 s, grownCap_ge _ _ _ _, Lib.run_convert_string_bytes w _ _ _ s Tryz.underlying9 Tryz.underlying74 Tryz.underlying5, fun i hi => ?_, ?_⟩
 ·rw [Nat.zero_add, Lib.bytesWorld_cell w _ s i hi]
  simp [List.getD, hi]
  rfl
 ·refine ⟨rfl, rfl, rfl, ?_, fun j hj => Lib.bytesWorld_at_old w _ s j hj⟩
  rw [Lib.bytesWorld_size]
  omega
theorem qprs_len {l : List (List UInt8)} {v e k : Int} (h : l.length ≠ 5) : qprs l v e k = (q0, 140) := by
 unfold qprs
 split
 ·simp at h
 ·rfl
theorem piece_of {W : World} {g o o' R : Nat} {s : List UInt8} (hb : Lib.Bytes W g 0 (bs s)) (ho : o ≤ s.length) (ho2 : o' ≤ s.length) (hoo : o < s.length → o' = o) (hR : s.length - o = R) {n c : Nat} (hn : n ≤ R) :
  (convert 74 9 (.slice (some ⟨g, o', none⟩) n c)).run Tryz.prog W = .ok (.string (bs ((s.drop o).take n))) W := by
 have hs := bs_size s
 have hl : o' + n ≤ (bs s).size := by
  rw [hs]
  rcases Nat.lt_or_ge o s.length with h | h
  ·have := hoo h; omega
  ·omega
 have h := Lib.run_convert_window (P := Tryz.prog) W 74 5 9 Tryz.underlying74 Tryz.underlying5 Tryz.underlying9 g 0 (bs s) hb o' n c hl
 rw [Nat.zero_add] at h
 rw [h, bs_extract, Nat.add_sub_cancel_left]
 rcases Nat.lt_or_ge o s.length with h2 | h2
 ·rw [hoo h2]
 ·obtain rfl : n = 0 := by omega
  rw [List.take_zero, List.take_zero]
theorem cuts_le : ∀ {s : List UInt8} {x : List UInt8}, x ∈ cuts s → x.length ≤ s.length
 | [], x, h => by
  rw [cuts, List.mem_singleton] at h
  rw [h]
  exact Nat.le_refl _
 | c :: t, x, h => by
  rw [List.length_cons]
  unfold cuts at h
  split at h
  ·rcases List.mem_cons.1 h with rfl | h
   ·simp
   ·have := cuts_le h; omega
  ·split at h
   ·rw [List.mem_singleton] at h
    rw [h]
    simp
   ·rename_i y l he
    rcases List.mem_cons.1 h with rfl | h
    ·have := cuts_le (s := t) (x := y) (by rw [he]; exact List.mem_cons_self)
     simp
     omega
    ·have := cuts_le (s := t) (x := x) (by rw [he]; exact List.mem_cons_of_mem _ h)
     omega
theorem pieces_le {s : List UInt8} {a b c d p : List UInt8} (h : cuts s = [a, b, c, d, p]) : a.length ≤ s.length ∧ b.length ≤ s.length ∧ c.length ≤ s.length ∧ p.length ≤ s.length := by
 have k : ∀ x ∈ [a, b, c, d, p], x.length ≤ s.length := fun x hx => cuts_le (by rw [h]; exact hx)
 exact ⟨k a (by simp), k b (by simp), k c (by simp), k p (by simp)⟩
theorem wr64 {x : Int} (h1 : -9223372036854775808 ≤ x) (h2 : x ≤ 9223372036854775807) : RowKit.wrap64 x = x := by
 unfold RowKit.wrap64
 omega
set_option maxRecDepth 100000 in
theorem qparse_any (s : List UInt8) (k : Int) (hs : s.length ≤ 9223372036854775806) {v e : Int} (hd : ∀ a b c d p, cuts s = [a, b, c, d, p] → ParseR (bs d) v e) {r : QT × Int} (hr : qprs (cuts s) v e k = r) (w : World) : Calls Tryz.prog 24 #[.string (bs s), .int .i64 k] w (RetB (.tuple #[.agg (qC r.1), .int .i64 r.2]) w) := by
 have F := Fr.start w
 have HR := Lib.hid hr
 have HDT := Lib.hid hd
 clear hr hd
 obtain ⟨r1, r2⟩ := r
 dsimp only
 go_enter Tryz.func24, Tryz.ntmps24
 go_wp2_with (first | go_skip | refine aYQ ?_ | (refine aTQ ?_; clear F; intro W F) | refine aNQ ?_)
 (clear F; intro b4 W F; try simp only [Act.put, z6, z1, z2])
 go_wp2_with (first | go_skip | ((with_reducible apply fA_s5 F); exact rfl) | refine aYQ ?_ | (refine aTQ ?_; clear F; intro W F) | refine aNQ ?_)
 (clear F; intro b6 W F; try simp only [Act.put, z6, z1, z2])
 obtain ⟨cap, W2, hcap, hcv, hby, hbl⟩ := bytes_made W (bs s)
 rw [bs_size] at hcap hcv
 have hn6 : b6 < W.heap.size := F.here.lt
 have HBL := Lib.hid hbl
 have HBY := Lib.hid hby
 clear hbl hby
 generalize hg : W.heap.size = g at *
 go_upto_region 3 with (first | go_skip | refine aYQ ?_ | (refine aTQ ?_; clear F; intro W F) | refine aNQ ?_)
 replace F := F.next (by rw [hg]; exact HBL.out)
 have HN6 := Lib.hid (show g ≠ b6 by omega)
 clear HBL hcv hn6 hg
 go_wp2_with (first | go_skip | refine aYQ ?_ | (refine aTQ ?_; clear F; intro W F) | refine aNQ ?_)
 go_loopw [7, 16] (fun rv iv wr => ∃ (i o o' : Nat) (P : List (List UInt8)), i ≤ 5 ∧ iv = .int .i64 i ∧ P.length = i ∧ (o ≤ s.length ∧ o' ≤ s.length ∧ (o < s.length → o' = o)) ∧ rv = .slice (some ⟨g, o', none⟩) (s.length - o) (cap - o) ∧ ((i < 5 → cuts s = P ++ cuts (s.drop o)) ∧ (i = 5 → cuts s = P)) ∧ Lib.Bytes wr g 0 (bs s) ∧ Fr w wr [(b6, arrC P, 73), (b4, qC q0, 33)]) (fun _ iv _ => 5 - (intOf iv).toNat)
 case atStart => exact ⟨0, 0, 0, [], by omega, rfl, rfl, ⟨by omega, by omega, fun _ => rfl⟩, rfl, ⟨fun _ => rfl, fun h => absurd h (by decide)⟩, HBY.out, F⟩
 case round =>
  clear F HBY
  obtain ⟨i, o, o', P, hi, rfl, hPl, ⟨ho, ho2, hoo⟩, rfl, ⟨hc1, hc2⟩, hby, F⟩ := hrel
  by_cases hlt : i < 5
  ·obtain ⟨R, hR⟩ : ∃ R, s.length - o = R := ⟨_, rfl⟩
   obtain ⟨C, hC⟩ : ∃ C, cap - o = C := ⟨_, rfl⟩
   have hRC : R ≤ C := by omega
   have HP := Lib.hid (fun n c (hn : n ≤ R) => piece_of (c := c) hby ho ho2 hoo hR hn)
   have HBY := Lib.hid hby
   obtain ⟨T, hT⟩ : ∃ T, s.drop o = T := ⟨_, rfl⟩
   have hTl : T.length = R := by rw [← hT, List.length_drop, hR]
   have HC := Lib.hid (hc1 hlt)
   rw [hT] at HP HC
   have hcv1 := HP.out R C (Nat.le_refl _)
   rw [List.take_of_length_le (by omega)] at hcv1
   have gi : ∀ w, Calls Tryz.prog 46 #[.string (bs T), .int .u8 44] w fun e w' => e = .returned (.int .i64 (Lib.indexByte T 44)) ∧ w' = w := fun w => by
    have h := Tryz.strings_IndexByte (bs T) 44 w
    rw [bs_list] at h
    simpa using h
   have hge := Lib.indexByte_ge T 44
   have hne := idx_ne 44 T
   obtain ⟨N, hN⟩ : ∃ N, Lib.indexByte T 44 = N := ⟨_, rfl⟩
   rw [hN] at gi hge hne
   have HN := Lib.hid hN
   have HT := Lib.hid hT
   have hRs : R ≤ 9223372036854775806 := by omega
   have HO3 := Lib.hid ho2
   have HRR := Lib.hid (And.intro hR (And.intro hC (And.intro ho hoo)))
   have HPL := Lib.hid hPl
   rw [hR, hC]
   clear hc1 hc2 hby hT hN hR hC ho ho2 hoo hPl
   rcases (show N = -1 ∨ ∃ n : Nat, N = (n : Int) by rcases Int.lt_or_le N 0 with h | h; exact .inl (by omega); exact .inr ⟨N.toNat, by omega⟩) with rfl | ⟨n, rfl⟩
   ·have hcT : cuts s = P ++ [T] := by rw [HC.out, cuts_no HN.out]
    by_cases h4 : i = 4
    ·subst h4
     have HCT := Lib.hid hcT
     have hcv2 := HP.out R R (Nat.le_refl _)
     rw [List.take_of_length_le (by omega)] at hcv2
     obtain ⟨hR, hC, ho, hoo⟩ := HRR.out
     have HAT := Lib.hid (by rw [← HPL.out]; exact arr_at (by rw [HPL.out]; omega) : (arrC P)[4]? = some (.string (bs [])))
     have HAS := Lib.hid (by rw [← HPL.out]; exact arr_set (by rw [HPL.out]; omega) _ : (arrC P).setIfInBounds 4 (.string (bs T)) = arrC (P ++ [T]))
     have HPN := Lib.hid (show (P ++ [T]).length = 5 by rw [List.length_append, HPL.out, List.length_singleton])
     have HE := Lib.hid (And.intro (show s.length - (o + R) = R - R by omega) (And.intro (show cap - (o + R) = C - R by omega) (show o + R ≤ s.length by omega)))
     have hb6 := HN6.out
     have HO2 := Lib.hid (show o' + R ≤ s.length by have h3 := HO3.out; rcases Nat.lt_or_ge o s.length with h | h; rw [hoo h]; omega; omega)
     clear hR hC ho hoo hcT hge hne HRR
     have m1 : min ((R : Int) + 1) (R : Int) = (R : Int) := by omega
     have w1 := wr64 (x := (R : Int) + 1) (by omega) (by omega)
     by_cases hCn : C = R
     ·subst hCn
      go_wp2_with (first | go_skip | (go_at_call 46; refine (gi _).mono ?_; rintro e W ⟨rfl, rfl⟩; (try dsimp only)) | ((with_reducible apply fScK F); exact rfl; exact rfl; (go_simp; exact rfl); (exact tL); (with_reducible exact scStr); exact rfl; (exact HAT.out); (exact HAS.out); (clear F; intro W hW F; have HW := Lib.hid hW; clear hW; simp only [z7, z8] at F)) | refine aYQ ?_ | (refine aTQ ?_; clear F; intro W F) | refine aNQ ?_)
      go_roundw
      case rel => exact ⟨5, o + C, o', P ++ [T], by omega, by go_num, HPN.out, ⟨HE.out.2.2, by have := HO2.out; omega, fun h => by have := HE.out; omega⟩, by rw [HE.out.1, HE.out.2.1, Nat.sub_self], ⟨fun h => by omega, fun _ => HCT.out⟩, by rw [HW.out]; exact bytes_far HBY.out hb6, F⟩
      case measure => simp [intOf]
     ·go_wp2_with (first | go_skip | (go_at_call 46; refine (gi _).mono ?_; rintro e W ⟨rfl, rfl⟩; (try dsimp only)) | ((with_reducible apply fScK F); exact rfl; exact rfl; (go_simp; exact rfl); (exact tL); (with_reducible exact scStr); exact rfl; (exact HAT.out); (exact HAS.out); (clear F; intro W hW F; have HW := Lib.hid hW; clear hW; simp only [z7, z8] at F)) | refine aYQ ?_ | (refine aTQ ?_; clear F; intro W F) | refine aNQ ?_)
      go_roundw
      case rel => exact ⟨5, o + R, o' + R, P ++ [T], by omega, by go_num, HPN.out, ⟨HE.out.2.2, HO2.out, fun h => by have := HE.out; omega⟩, by rw [HE.out.1, HE.out.2.1, Nat.sub_self], ⟨fun h => by omega, fun _ => HCT.out⟩, by rw [HW.out]; exact bytes_far HBY.out hb6, F⟩
      case measure => simp [intOf]
    ·have t4 : ((i : Int) == 4) = false := by rw [beq_eq_false_iff_ne]; omega
     have hres := HR.out
     rw [qprs_len (by rw [hcT, List.length_append, HPL.out, List.length_singleton]; omega)] at hres
     cases hres
     clear hcT h4 hge hne
     go_wp2_with (first | go_skip | (go_at_call 46; refine (gi _).mono ?_; rintro e W ⟨rfl, rfl⟩; (try dsimp only)) | refine aYQ ?_ | (refine aTQ ?_; clear F; intro W F) | refine aNQ ?_)
     exact bodyPost_ret (res_cs rfl rfl rfl (Fr.get F tL) (rowQ _)) rfl ⟨rfl, F.below⟩
   ·by_cases h4 : i = 4
    ·subst h4
     have hres := HR.out
     rw [qprs_len (by
      have h1 := cuts_len (T.drop (n + 1))
      rw [HC.out, cuts_yes HN.out, List.length_append, HPL.out, List.length_cons]
      omega)] at hres
     cases hres
     have t0 : decide ((n : Int) < 0) = false := decide_eq_false (by omega)
     clear hge hne
     go_wp2_with (first | go_skip | (go_at_call 46; refine (gi _).mono ?_; rintro e W ⟨rfl, rfl⟩; (try dsimp only)) | refine aYQ ?_ | (refine aTQ ?_; clear F; intro W F) | refine aNQ ?_)
     exact bodyPost_ret (res_cs rfl rfl rfl (Fr.get F tL) (rowQ _)) rfl ⟨rfl, F.below⟩
    ·have hnR : n < R := by omega
     have hi4 : i < 4 := by omega
     obtain ⟨hR, hC, ho, hoo⟩ := HRR.out
     have ho1 : o < s.length := by omega
     obtain rfl : o' = o := hoo ho1
     have hcT : cuts s = (P ++ [T.take n]) ++ cuts (s.drop (o' + (n + 1))) := by
      rw [HC.out, cuts_yes HN.out, ← HT.out, List.drop_drop, List.append_assoc]
      rfl
     have HCT := Lib.hid hcT
     have hcv2 := HP.out n n (Nat.le_of_lt hnR)
     have HAT := Lib.hid (by rw [← HPL.out]; exact arr_at (by rw [HPL.out]; omega) : (arrC P)[i]? = some (.string (bs [])))
     have HAS := Lib.hid (by rw [← HPL.out]; exact arr_set (by rw [HPL.out]; omega) _ : (arrC P).setIfInBounds i (.string (bs (T.take n))) = arrC (P ++ [T.take n]))
     have HPN := Lib.hid (show (P ++ [T.take n]).length = i + 1 by rw [List.length_append, HPL.out, List.length_singleton])
     have HE := Lib.hid (And.intro (show s.length - (o' + (n + 1)) = R - (n + 1) by omega) (And.intro (show cap - (o' + (n + 1)) = C - (n + 1) by omega) (show o' + (n + 1) ≤ s.length by omega)))
     have t4 : ((i : Int) == 4) = false := by rw [beq_eq_false_iff_ne]; omega
     have t0 : decide ((n : Int) < 0) = false := decide_eq_false (by omega)
     have hb6 := HN6.out
     clear hR hC ho hoo ho1 hcT hge hne h4 HRR
     have m1 : min ((n : Int) + 1) (R : Int) = (n : Int) + 1 := by omega
     have m2 : (0 : Int) ≤ (n : Int) + 1 := by omega
     have m3 : (n : Int) + 1 ≤ (R : Int) := by omega
     have m4 : ((n : Int) + 1).toNat = n + 1 := by omega
     have hnb : (n : Int) + 1 ≤ 9223372036854775807 := by omega
     by_cases hCn : C = n + 1
     ·have hlast : ¬ (o' + (n + 1) < s.length) := by have := HE.out; omega
      have HL := Lib.hid hlast
      clear hlast
      subst hCn
      have w1 := wr64 (x := (n : Int) + 1) (by omega) (by omega)
      clear hnb
      go_wp2_with (first | go_skip | (go_at_call 46; refine (gi _).mono ?_; rintro e W ⟨rfl, rfl⟩; (try dsimp only)) | ((with_reducible apply fScK F); exact rfl; exact rfl; (go_simp; exact rfl); (exact tL); (with_reducible exact scStr); exact rfl; (exact HAT.out); (exact HAS.out); (clear F; intro W hW F; have HW := Lib.hid hW; clear hW; simp only [z7, z8] at F)) | refine aYQ ?_ | (refine aTQ ?_; clear F; intro W F) | refine aNQ ?_)
      go_roundw
      case rel => exact ⟨i + 1, o' + (n + 1), o', P ++ [T.take n], by omega, by go_num, HPN.out, ⟨HE.out.2.2, by have := HE.out.2.2; omega, fun _ => by exact absurd ‹_› HL.out⟩, by rw [HE.out.1, HE.out.2.1, show R - (n + 1) = 0 by omega, Nat.sub_self], ⟨fun _ => HCT.out, fun h => by omega⟩, by rw [HW.out]; exact bytes_far HBY.out hb6, F⟩
      case measure => simp [intOf]; omega
     ·skip
      have w1 := wr64 (x := (n : Int) + 1) (by omega) (by omega)
      clear hnb
      go_wp2_with (first | go_skip | (go_at_call 46; refine (gi _).mono ?_; rintro e W ⟨rfl, rfl⟩; (try dsimp only)) | ((with_reducible apply fScK F); exact rfl; exact rfl; (go_simp; exact rfl); (exact tL); (with_reducible exact scStr); exact rfl; (exact HAT.out); (exact HAS.out); (clear F; intro W hW F; have HW := Lib.hid hW; clear hW; simp only [z7, z8] at F)) | refine aYQ ?_ | (refine aTQ ?_; clear F; intro W F) | refine aNQ ?_)
      go_roundw
      case rel => exact ⟨i + 1, o' + (n + 1), o' + (n + 1), P ++ [T.take n], by omega, by go_num, HPN.out, ⟨HE.out.2.2, by have := HE.out.2.2; omega, fun _ => by rfl⟩, by rw [HE.out.1, HE.out.2.1], ⟨fun _ => HCT.out, fun h => by omega⟩, by rw [HW.out]; exact bytes_far HBY.out hb6, F⟩
      case measure => simp [intOf]; omega
  ·obtain rfl : i = 5 := by omega
   have hcP := hc2 rfl
   obtain ⟨l0, l1, l2, l3, l4, rfl⟩ : ∃ l0 l1 l2 l3 l4, P = [l0, l1, l2, l3, l4] := by
    match P, hPl with
    | [a, b, c, d, p], _ => exact ⟨a, b, c, d, p, rfl⟩
   have hres := HR.out
   have g1 := fun w => dparse_is (HDT.out l0 l1 l2 l3 l4 hcP) w
   rw [hcP] at hres
   rw [arr_five] at F
   have HL := Lib.hid (pieces_le hcP)
   obtain ⟨c, hc⟩ : ∃ c, decide (l4 = [45]) = c := ⟨_, rfl⟩
   have ec : ((bs l4).toList == [45]) = c := by rw [bs_toList, ← hc, Bool.eq_iff_iff]; simp
   unfold qprs at hres
   dsimp only at hres
   have HRS := Lib.hid hres
   clear hc1 hc2 hPl hcP hby ho ho2 hoo hres HR HDT hlt hi
   cases c
   ·have hne : ¬ l4 = [45] := by simpa using hc
    have hres := HRS.out
    rw [if_neg hne, decide_eq_false hne] at hres
    obtain ⟨rr, hrr⟩ : ∃ r, prsR l4 6 = r := ⟨_, rfl⟩
    have g2 := fun w => parse_any l4 6 (Nat.le_trans HL.out.2.2.2 (Nat.le_trans hs (by decide))) hrr w
    have hpb := prs_b l4 6
    rw [hrr] at hpb hres
    obtain ⟨rn, rd, re⟩ := rr
    dsimp only at g2 hpb hres
    have hwf : QT.wf ⟨l0, l1, l2, v, decide (rn < 0), rn.natAbs, decide (rd < 0), rd.natAbs, k, false⟩ := ⟨hpb.1, hpb.2, Nat.le_trans HL.out.1 (Nat.le_trans hs (by decide)), Nat.le_trans HL.out.2.1 (Nat.le_trans hs (by decide)), Nat.le_trans HL.out.2.2.1 (Nat.le_trans hs (by decide))⟩
    obtain ⟨c3, h3⟩ : ∃ c, QT.right ⟨l0, l1, l2, v, decide (rn < 0), rn.natAbs, decide (rd < 0), rd.natAbs, k, false⟩ = c := ⟨_, rfl⟩
    obtain ⟨c4, h4⟩ : ∃ c, knB k = c := ⟨_, rfl⟩
    have g3 := fun w => right_any hwf h3 w
    have g4 := fun w => qknown_any h4 w
    rw [h3, h4] at hres
    have HRR := Lib.hid hres
    clear hwf hpb hrr h3 h4 hres HRS hc hne HL hs hcap
    go_wp2_with (first | go_skip | ((with_reducible apply fB_quo5); exact rfl; exact rfl; exact rfl; exact rfl; exact rfl; exact rfl) | (go_at_call 47; refine (g1 _).mono ?_; rintro e' W ⟨rfl, rfl⟩; (try dsimp only)) | ((go_at_call 48); (with_reducible refine fr_call F (g2 _) ?_); (clear F; intro W F); (try dsimp only)) | refine aYQ ?_ | (refine aTQ ?_; clear F; intro W F) | refine aNQ ?_)
    (clear F; intro b11 W F; try simp only [Act.put, z6, z1, z2])
    go_upto_region 20 with (first | go_skip | ((with_reducible apply fB_quo5); exact rfl; exact rfl; exact rfl; exact rfl; exact rfl; exact rfl) | (go_at_call 47; refine (g1 _).mono ?_; rintro e' W ⟨rfl, rfl⟩; (try dsimp only)) | ((go_at_call 48); (with_reducible refine fr_call F (g2 _) ?_); (clear F; intro W F); (try dsimp only)) | refine aYQ ?_ | (refine aTQ ?_; clear F; intro W F) | refine aNQ ?_)
    by_cases he : e = 0
    ·by_cases hf : re = 0
     ·subst he hf
      cases c3
      ·skip
       have hr := HRR.out
       rw [if_pos (by simp)] at hr
       cases hr
       clear HRR
       go_wp2_with (first | go_skip | ((go_at_call 37); (with_reducible refine fr_call F (g3 _) ?_); (clear F; intro W F); (try dsimp only)) | ((go_at_call 38); (with_reducible refine fr_call F (g4 _) ?_); (clear F; intro W F); (try dsimp only)) | refine aYQ ?_ | (refine aTQ ?_; clear F; intro W F) | refine aNQ ?_)
       exact bodyPost_ret (res_cs rfl rfl rfl (Fr.get F tL) (rowQ _)) rfl ⟨rfl, F.below⟩
      ·cases c4
       ·skip
        have hr := HRR.out
        rw [if_neg (by simp), if_pos rfl] at hr
        cases hr
        clear HRR
        go_wp2_with (first | go_skip | ((go_at_call 37); (with_reducible refine fr_call F (g3 _) ?_); (clear F; intro W F); (try dsimp only)) | ((go_at_call 38); (with_reducible refine fr_call F (g4 _) ?_); (clear F; intro W F); (try dsimp only)) | refine aYQ ?_ | (refine aTQ ?_; clear F; intro W F) | refine aNQ ?_)
        exact bodyPost_ret (res_cs rfl rfl rfl (Fr.get F tL) (rowQ _)) rfl ⟨rfl, F.below⟩
       ·skip
        have hr := HRR.out
        rw [if_neg (by simp), if_neg (by decide)] at hr
        cases hr
        clear HRR
        go_wp2_with (first | go_skip | ((go_at_call 37); (with_reducible refine fr_call F (g3 _) ?_); (clear F; intro W F); (try dsimp only)) | ((go_at_call 38); (with_reducible refine fr_call F (g4 _) ?_); (clear F; intro W F); (try dsimp only)) | refine aYQ ?_ | (refine aTQ ?_; clear F; intro W F) | refine aNQ ?_)
        exact bodyPost_ret (res_cs rfl rfl rfl (Fr.get F tL) (rowQ _)) rfl ⟨rfl, F.below⟩
     ·have tf : (re != 0) = true := by rw [bne_iff_ne]; exact hf
      subst he
      have hr := HRR.out
      rw [if_pos (by simp [hf])] at hr
      cases hr
      clear HRR
      go_wp2_with (first | go_skip | ((go_at_call 37); (with_reducible refine fr_call F (g3 _) ?_); (clear F; intro W F); (try dsimp only)) | ((go_at_call 38); (with_reducible refine fr_call F (g4 _) ?_); (clear F; intro W F); (try dsimp only)) | refine aYQ ?_ | (refine aTQ ?_; clear F; intro W F) | refine aNQ ?_)
      exact bodyPost_ret (res_cs rfl rfl rfl (Fr.get F tL) (rowQ _)) rfl ⟨rfl, F.below⟩
    ·have te : (e != 0) = true := by rw [bne_iff_ne]; exact he
     have hr := HRR.out
     rw [if_pos (by simp [he])] at hr
     cases hr
     clear HRR
     go_wp2_with (first | go_skip | ((go_at_call 37); (with_reducible refine fr_call F (g3 _) ?_); (clear F; intro W F); (try dsimp only)) | ((go_at_call 38); (with_reducible refine fr_call F (g4 _) ?_); (clear F; intro W F); (try dsimp only)) | refine aYQ ?_ | (refine aTQ ?_; clear F; intro W F) | refine aNQ ?_)
     exact bodyPost_ret (res_cs rfl rfl rfl (Fr.get F tL) (rowQ _)) rfl ⟨rfl, F.below⟩
   ·have hp : l4 = [45] := by simpa using hc
    have hres := HRS.out
    rw [if_pos hp, decide_eq_true hp] at hres
    have hres2 : (if e ≠ 0 ∨ (0 : Int) ≠ 0 ∨ QT.right ⟨l0, l1, l2, v, false, 0, false, 0, k, true⟩ = false then (q0, 140) else if knB k = false then (q0, 130) else ((⟨l0, l1, l2, v, false, 0, false, 0, k, true⟩ : QT), (0 : Int))) = (r1, r2) := hres
    have hwf : QT.wf ⟨l0, l1, l2, v, false, 0, false, 0, k, true⟩ := ⟨bp_pos 32, bp_pos 32, Nat.le_trans HL.out.1 (Nat.le_trans hs (by decide)), Nat.le_trans HL.out.2.1 (Nat.le_trans hs (by decide)), Nat.le_trans HL.out.2.2.1 (Nat.le_trans hs (by decide))⟩
    obtain ⟨c3, h3⟩ : ∃ c, QT.right ⟨l0, l1, l2, v, false, 0, false, 0, k, true⟩ = c := ⟨_, rfl⟩
    obtain ⟨c4, h4⟩ : ∃ c, knB k = c := ⟨_, rfl⟩
    have g3 := fun w => right_any hwf h3 w
    have g4 := fun w => qknown_any h4 w
    rw [h3, h4] at hres2
    have HRR := Lib.hid hres2
    clear hwf h3 h4 hres hres2 HRS hc hp HL hs hcap
    go_wp2_with (first | go_skip | ((with_reducible apply fB_quo5); exact rfl; exact rfl; exact rfl; exact rfl; exact rfl; exact rfl) | (go_at_call 47; refine (g1 _).mono ?_; rintro e' W ⟨rfl, rfl⟩; (try dsimp only)) | refine aYQ ?_ | (refine aTQ ?_; clear F; intro W F) | refine aNQ ?_)
    (clear F; intro b11 W F; try simp only [Act.put, z6, z1, z2])
    go_upto_region 20 with (first | go_skip | ((with_reducible apply fB_quo5); exact rfl; exact rfl; exact rfl; exact rfl; exact rfl; exact rfl) | (go_at_call 47; refine (g1 _).mono ?_; rintro e' W ⟨rfl, rfl⟩; (try dsimp only)) | refine aYQ ?_ | (refine aTQ ?_; clear F; intro W F) | refine aNQ ?_)
    by_cases he : e = 0
    ·subst he
     cases c3
     ·skip
      have hr := HRR.out
      rw [if_pos (by simp)] at hr
      cases hr
      clear HRR
      go_wp2_with (first | go_skip | ((go_at_call 37); (with_reducible refine fr_call F (g3 _) ?_); (clear F; intro W F); (try dsimp only)) | ((go_at_call 38); (with_reducible refine fr_call F (g4 _) ?_); (clear F; intro W F); (try dsimp only)) | refine aYQ ?_ | (refine aTQ ?_; clear F; intro W F) | refine aNQ ?_)
      exact bodyPost_ret (res_cs rfl rfl rfl (Fr.get F tL) (rowQ _)) rfl ⟨rfl, F.below⟩
     ·cases c4
      ·skip
       have hr := HRR.out
       rw [if_neg (by simp), if_pos rfl] at hr
       cases hr
       clear HRR
       go_wp2_with (first | go_skip | ((go_at_call 37); (with_reducible refine fr_call F (g3 _) ?_); (clear F; intro W F); (try dsimp only)) | ((go_at_call 38); (with_reducible refine fr_call F (g4 _) ?_); (clear F; intro W F); (try dsimp only)) | refine aYQ ?_ | (refine aTQ ?_; clear F; intro W F) | refine aNQ ?_)
       exact bodyPost_ret (res_cs rfl rfl rfl (Fr.get F tL) (rowQ _)) rfl ⟨rfl, F.below⟩
      ·skip
       have hr := HRR.out
       rw [if_neg (by simp), if_neg (by decide)] at hr
       cases hr
       clear HRR
       go_wp2_with (first | go_skip | ((go_at_call 37); (with_reducible refine fr_call F (g3 _) ?_); (clear F; intro W F); (try dsimp only)) | ((go_at_call 38); (with_reducible refine fr_call F (g4 _) ?_); (clear F; intro W F); (try dsimp only)) | refine aYQ ?_ | (refine aTQ ?_; clear F; intro W F) | refine aNQ ?_)
       exact bodyPost_ret (res_cs rfl rfl rfl (Fr.get F tL) (rowQ _)) rfl ⟨rfl, F.below⟩
    ·have te : (e != 0) = true := by rw [bne_iff_ne]; exact he
     have hr := HRR.out
     rw [if_pos (by simp [he])] at hr
     cases hr
     clear HRR
     go_wp2_with (first | go_skip | ((go_at_call 37); (with_reducible refine fr_call F (g3 _) ?_); (clear F; intro W F); (try dsimp only)) | ((go_at_call 38); (with_reducible refine fr_call F (g4 _) ?_); (clear F; intro W F); (try dsimp only)) | refine aYQ ?_ | (refine aTQ ?_; clear F; intro W F) | refine aNQ ?_)
     exact bodyPost_ret (res_cs rfl rfl rfl (Fr.get F tL) (rowQ _)) rfl ⟨rfl, F.below⟩
end
section
open Go.RowKit
set_option maxHeartbeats 4000000
theorem res_css {P : Program} {w : World} {fn : Func} {p q r : Tmp} {T t : TypeId} (h : fn.results = #[.cell p T, .tmp q, .tmp r]) {tmps : Array Value} {g : Nat} {cs : Array Value} {u v : Value} (hp : tmps.getD p undef = .pointer (some ⟨g, 0, none⟩)) (hq : tmps.getD q undef = u) (hv : tmps.getD r undef = v) (hb : BlkAt w g cs t) (hr : RowV P T cs) :
  (results fn tmps).run P w = .ok (.tuple #[.agg cs, u, v]) w := by
 have hp' : tmps[p]?.getD undef = .pointer (some ⟨g, 0, none⟩) := by simpa using hp
 have hq' : tmps[q]?.getD undef = u := by simpa using hq
 have hv' : tmps[r]?.getD undef = v := by simpa using hv
 simp [results, h, hp', hq', hv', asAddr, run_loadVar_blk hb hr]
def atP (s i : List UInt8) (d : Int) (q : QT) : Bool := (q.src == s) && ((q.ins == i) && (q.day == d))
def atV (V : List QT) (s i : List UInt8) (d : Int) : QT × Bool := match V.find? (atP s i d) with | some q => (q, true) | none => (q0, false)
theorem find_yes {V : List QT} {j : Nat} {q : QT} {p : QT → Bool} (hq : V[j]? = some q) (h0 : (V.take j).find? p = none) (h : p q = true) : V.find? p = some q := by
 obtain ⟨hl, e⟩ := List.getElem?_eq_some_iff.1 hq
 conv => lhs; rw [← List.take_append_drop j V, List.drop_eq_getElem_cons hl, e]
 rw [List.find?_append, h0, List.find?_cons, h]
 rfl
theorem find_no {V : List QT} {j : Nat} {q : QT} {p : QT → Bool} (hq : V[j]? = some q) (h0 : (V.take j).find? p = none) (h : p q = false) : (V.take (j + 1)).find? p = none := by
 obtain ⟨hl, e⟩ := List.getElem?_eq_some_iff.1 hq
 rw [List.take_succ_eq_append_getElem hl, e, List.find?_append, h0, List.find?_cons, h]
 rfl
theorem OwnL.list {w W W' : World} {L : List Ent} {e : TypeId} {sz n : Nat} {v : Value} {xs : List Value} (h : OwnL W W' e sz v n xs) (F : Fr w W L) : ∃ X, SlG e sz v n xs X ∧ Fr w W' (X ++ L) := by
 rcases h.own.2 with ⟨h1, h2⟩ | ⟨g, cap, cur, h1, h2, h3, h4, h5, h6, h7⟩
 ·exact ⟨[], ⟨h.own.1, .inl ⟨h1, h2, rfl⟩⟩, F.next h.below⟩
 ·exact ⟨[(g, cur, e)], ⟨h.own.1, .inr ⟨g, cap, cur, h1, rfl, h4, h5, h6, h7⟩⟩, F.push h.below h2 ⟨h3⟩⟩
theorem cur_row {V : List QT} {cur : Array Value} {j : Nat} {q : QT} (ht : cur.toList.take (V.length * 72) = qCs V) (hj : V[j]? = some q) (m : Nat) (v : Value) (hv : (qC q)[m]? = some v) : cur[j * 72 + m]? = some v := by
 have h1 : (V.map fun q => (qC q).toList)[j]? = some (qC q).toList := by rw [List.getElem?_map, hj, Option.map_some]
 have h2 := flat_get (n := 72) (V.map fun q => (qC q).toList) j _ (fun x hx => by
  obtain ⟨y, -, rfl⟩ := List.mem_map.1 hx
  rw [Array.length_toList, qC_size]) h1 m v (by rw [Array.getElem?_toList]; exact hv)
 have h3 : (qCs V)[j * 72 + m]? = some v := h2
 rw [← ht, List.getElem?_take] at h3
 split at h3
 ·rw [Array.getElem?_toList] at h3
  exact h3
 ·cases h3
theorem row_of {cur : Array Value} {k : Nat} {q : QT} (H : ∀ m v, (qC q)[m]? = some v → cur[k + m]? = some v) : (cur.toList.drop k).take (qC q).size = (qC q).toList := by
 have hlen : k + 72 ≤ cur.size := by
  have h1 : 71 < (qC q).size := by rw [qC_size]; decide
  have := H 71 _ (Array.getElem?_eq_getElem h1)
  have := (Array.getElem?_eq_some_iff.1 this).1
  omega
 apply List.ext_getElem?
 intro m
 by_cases hm : m < (qC q).size
 ·rw [List.getElem?_take_of_lt hm, List.getElem?_drop, Array.getElem?_toList, Array.getElem?_toList, H m _ (Array.getElem?_eq_getElem hm), Array.getElem?_eq_getElem hm]
 ·rw [List.getElem?_eq_none (by rw [List.length_take]; omega), List.getElem?_eq_none (by rw [Array.length_toList]; omega)]
section
variable {L : List QT} {A : Option Addr} {cp : Nat} {k d : Int} {s i : List UInt8} {w : World} {er : Int} {r : QT × Bool}
set_option maxRecDepth 100000 in
theorem qat_any (hL : L.length ≤ 1000000000000) (h : QuAt w A L) (her : bkErr L = er) (hr : (if er = 0 then atV (visQ L k) s i d else (q0, false)) = r) : Calls Tryz.prog 11 #[.slice A L.length cp, .int .i64 k, .string (bs s), .string (bs i), .int .i64 d] w (RetB (.tuple #[.agg (qC r.1), .bool r.2, .int .i64 er]) w) := by
 have F := Fr.start w
 have HA := Lib.hid h
 have g1 := fun W (hb : Below w.heap.size w W) => qvis_any (cp := cp) (k := k) hL (h.below hb) her
 clear h her hL
 obtain ⟨r1, r2⟩ := r
 dsimp only
 by_cases h0 : er = 0
 ·subst h0
  rw [if_pos rfl] at hr
  simp only [if_true] at g1
  obtain ⟨V, hV⟩ : ∃ V, visQ L k = V := ⟨_, rfl⟩
  rw [hV] at g1 hr
  have HRR := Lib.hid hr
  clear hr hV
  go_enter Tryz.func11, Tryz.ntmps11
  go_wp2_with (first | go_skip | refine aYQ ?_ | (refine aTQ ?_; clear F; intro W F) | refine aNQ ?_)
  (clear F; intro b10 W F; try simp only [Act.put, z6, z1, z2])
  go_wp2_with (first | go_skip | (go_at_call 9; refine (g1 _ F.below).mono ?_; rintro e W2 ⟨v, rfl, hO⟩; obtain ⟨X, S, F2⟩ := hO.list F; clear F hO g1 HA; have F := F2; clear F2; obtain ⟨A2, cp2, hv2⟩ : ∃ A2 cp2, v = .slice A2 V.length cp2 := (by rcases S.is with ⟨h1, h2, -⟩ | ⟨g, cap, cur, h1, -⟩; exact ⟨none, 0, by rw [h1, h2]⟩; exact ⟨_, _, h1⟩); subst hv2; have HS := Lib.hid S; clear S; (try dsimp only)) | refine aYQ ?_ | (refine aTQ ?_; clear F; intro W F) | refine aNQ ?_)
  have hVl : V.length ≤ 9223372036854775807 := by
   rcases HS.out.is with ⟨-, h2, -⟩ | ⟨g, cap, cur, -, -, h3, h4, -⟩
   ·omega
   ·unfold maxLen at h4; omega
  go_loopw [29] (fun jv wr => ∃ j : Nat, j ≤ V.length ∧ jv = .int .i64 j ∧ (V.take j).find? (atP s i d) = none ∧ Fr w wr (X ++ [(b10, qC q0, 33)])) (fun jv _ => V.length - (intOf jv).toNat)
  case atStart => exact ⟨0, by omega, rfl, by simp, F⟩
  case round =>
   clear F
   obtain ⟨j, hj, rfl, hf, F⟩ := hrel
   have HFI := Lib.hid hf
   clear hf
   by_cases hlt : j < V.length
   ·rcases HS.out.is with ⟨-, h2, -⟩ | ⟨g, cap, cur, h1, h2, h3, h4, h5, h6⟩
    ·omega
    cases h1
    subst h2
    obtain ⟨q, hq⟩ : ∃ q, V[j]? = some q := ⟨_, List.getElem?_eq_getElem hlt⟩
    have H6 := Lib.hid h6
    have HQ := Lib.hid hq
    simp only [z7, z8] at F
    obtain ⟨c1, e1⟩ : ∃ c, (q.src == s) = c := ⟨_, rfl⟩
    obtain ⟨c2, e2⟩ : ∃ c, (q.ins == i) = c := ⟨_, rfl⟩
    obtain ⟨c3, e3⟩ : ∃ c, (q.day == d) = c := ⟨_, rfl⟩
    have HP : Hid (atP s i d q = (c1 && (c2 && c3))) := Lib.hid (by unfold atP; rw [e1, e2, e3])
    rw [← bs_toList q.src, ← bs_toList s] at e1
    rw [← bs_toList q.ins, ← bs_toList i] at e2
    clear hq h3 h4 h5 h6 HS
    cases hp : (c1 && (c2 && c3))
    ·have HN := Lib.hid (find_no HQ.out HFI.out (by rw [HP.out, hp]))
     rcases (show c1 = false ∨ (c1 = true ∧ c2 = false) ∨ (c1 = true ∧ c2 = true ∧ c3 = false) by revert hp; cases c1 <;> cases c2 <;> cases c3 <;> simp) with rfl | ⟨rfl, rfl⟩ | ⟨rfl, rfl, rfl⟩
     all_goals
      clear hp
      go_wp2_with (first | go_skip | ((with_reducible apply fLm F); exact rfl; exact rfl; (exact tL); (with_reducible exact row_of (cur_row H6.out HQ.out)); (with_reducible exact rowQ _)) | refine aYQ ?_ | (refine aTQ ?_; clear F; intro W F) | refine aNQ ?_)
      (clear F; intro b16 W F; try simp only [Act.put, z6, z1, z2])
      go_wp2_with (first | go_skip | refine aYQ ?_ | (refine aTQ ?_; clear F; intro W F) | refine aNQ ?_)
      go_roundw
      case rel => exact ⟨j + 1, by omega, by go_num, HN.out, F.tl⟩
      case measure => simp [intOf]; omega
    ·obtain ⟨rfl, rfl, rfl⟩ : c1 = true ∧ c2 = true ∧ c3 = true := by revert hp; cases c1 <;> cases c2 <;> cases c3 <;> simp
     have hY := find_yes HQ.out HFI.out (by rw [HP.out, hp])
     have hR := HRR.out
     unfold atV at hR
     rw [hY] at hR
     cases hR
     clear hp hY
     go_wp2_with (first | go_skip | ((with_reducible apply fLm F); exact rfl; exact rfl; (exact tL); (with_reducible exact row_of (cur_row H6.out HQ.out)); (with_reducible exact rowQ _)) | refine aYQ ?_ | (refine aTQ ?_; clear F; intro W F) | refine aNQ ?_)
     (clear F; intro b16 W F; try simp only [Act.put, z6, z1, z2])
     go_wp2_with (first | go_skip | refine aYQ ?_ | (refine aTQ ?_; clear F; intro W F) | refine aNQ ?_)
     exact bodyPost_ret (res_css rfl rfl rfl rfl (Fr.get F tL) (rowQ _)) rfl ⟨rfl, F.below⟩
   ·obtain rfl : j = V.length := by omega
    have hR := HRR.out
    have hn := HFI.out
    rw [List.take_length] at hn
    unfold atV at hR
    rw [hn] at hR
    cases hR
    clear hn
    replace F : Fr w wr [(b10, qC q0, 33)] := F.sub (List.sublist_append_right _ _)
    clear HS
    go_wp2_with (first | go_skip | refine aYQ ?_ | (refine aTQ ?_; clear F; intro W F) | refine aNQ ?_)
    exact bodyPost_ret (res_css rfl rfl rfl rfl (Fr.get F tL) (rowQ _)) rfl ⟨rfl, F.below⟩
 ·rw [if_neg h0] at hr
  cases hr
  simp only [if_neg h0] at g1
  have t0 : (er != 0) = true := by rw [bne_iff_ne]; exact h0
  clear h0 HA
  go_enter Tryz.func11, Tryz.ntmps11
  go_wp2_with (first | go_skip | refine aYQ ?_ | (refine aTQ ?_; clear F; intro W F) | refine aNQ ?_)
  (clear F; intro b10 W F; try simp only [Act.put, z6, z1, z2])
  go_wp2_with (first | go_skip | (go_at_call 9; refine (g1 _ F.below).mono ?_; rintro e W2 ⟨v, rfl, hO⟩; have F2 := F.next hO.below; clear F hO g1; have F := F2; clear F2; (try dsimp only)) | refine aYQ ?_ | (refine aTQ ?_; clear F; intro W F) | refine aNQ ?_)
  exact bodyPost_ret (res_css rfl rfl rfl rfl (Fr.get F tL) (rowQ _)) rfl ⟨rfl, F.below⟩
end
end
section
open Go.RowKit
set_option maxHeartbeats 4000000
theorem s_flat : ∀ l : List (List UInt8), sCs l = (l.map fun s => [Value.string (bs s)]).flatten
 | [] => rfl
 | s :: l => by
  have := s_flat l
  unfold sCs at this ⊢
  simp [this]
theorem OwnL.strs {W W' : World} {v : Value} {l : List (List UInt8)} (h : OwnL W W' 9 1 v l.length (sCs l)) (hl : l.length ≤ 9223372036854775807) : ∃ A cp, v = .slice A l.length cp ∧ RecsAt W' A 1 (l.map fun s => [.string (bs s)]) := by
 rw [s_flat] at h
 obtain ⟨hn, A, cap, hv, hr, -⟩ := h.recs (fun x hx => by obtain ⟨y, -, rfl⟩ := List.mem_map.1 hx; rfl) (by decide) (by simpa using hl)
 exact ⟨A, cap, hv, hr⟩
theorem cuts_len_le : ∀ s : List UInt8, (cuts s).length ≤ s.length + 1
 | [] => by simp [cuts]
 | c :: t => by
   have := cuts_len_le t
   unfold cuts
   split
   ·simp only [List.length_cons]
    omega
   ·split
    ·simp only [List.length_cons, List.length_nil]
     omega
    ·rename_i h
     rw [h] at this
     simp only [List.length_cons] at this ⊢
     omega
section
variable {a : Act} {W : World} {K : Act → World → Prop} {Q : Exit → Act → World → Prop} {dst : Option Tmp} {ty : TypeId} {pos : String} {af : Array Edge} {gd : Option (Nat × Bool)} {x0 x1 x2 x3 x5 x6 : Operand} {s0 s1 s2 : List UInt8} {d k : Int} {v : Bool}
theorem gB_quo6 (h0 : a.eval x0 = .string (bs s0)) (h1 : a.eval x1 = .string (bs s1)) (h2 : a.eval x2 = .string (bs s2)) (h3 : a.eval x3 = .int .i64 d) (h5 : a.eval x5 = .int .i64 k) (h6 : a.eval x6 = .bool v)
  (hk : K (a.put dst (.agg (qC ⟨s0, s1, s2, d, false, 0, false, 0, k, v⟩))) W) : OpW Tryz.prog ⟨dst, .build 33 #[(0, x0), (1, x1), (2, x2), (3, x3), (5, x5), (6, x6)], ty, pos, af, gd⟩ a W K Q :=
 op_build _ _ rfl (by simp only [List.map_toArray, List.map_cons, List.map_nil, h0, h1, h2, h3, h5, h6]; exact built_quo6 s0 s1 s2 d k v) hk
end
theorem cur_at {cur : Array Value} {n : Nat} {ys : List Value} (h : cur.toList.take n = ys) {j : Nat} {v : Value} (hj : ys[j]? = some v) : cur[j]? = some v := by
 rw [← h, List.getElem?_take] at hj
 split at hj
 ·rw [← Array.getElem?_toList]
  exact hj
 ·cases hj
set_option maxRecDepth 100000 in
theorem rqparse_any (s : List UInt8) (k : Int) (hs : s.length ≤ 2000000) {v e : Int} (hd : ∀ a b c d p, cuts s = [a, b, c, d, p] → ParseR (bs d) v e) {r : QT × Int} (hr : qprs (cuts s) v e k = r) (w : World) : Calls Tryz.prog 25 #[.string (bs s), .int .i64 k] w (RetB (.tuple #[.agg (qC r.1), .int .i64 r.2]) w) := by
 have F := Fr.start w
 have hcl := cuts_len_le s
 have hle : ∀ a b c d p, cuts s = [a, b, c, d, p] → a.length ≤ s.length ∧ b.length ≤ s.length ∧ c.length ≤ s.length ∧ p.length ≤ s.length := fun a b c d p h => pieces_le h
 obtain ⟨l, hl⟩ : ∃ l, cuts s = l := ⟨_, rfl⟩
 have gf := fun w => rfields_any s hs w
 unfold FldP at gf
 rw [hl] at gf hr hd hcl hle
 have hL : l.length ≤ 9223372036854775807 := by omega
 by_cases h5 : l.length = 5
 ·obtain ⟨a, b, c, d, p, rfl⟩ : ∃ a b c d p, l = [a, b, c, d, p] := by
   match l, h5 with
   | [a, b, c, d, p], _ => exact ⟨a, b, c, d, p, rfl⟩
  have hdd := hd a b c d p rfl
  obtain ⟨la, lb, lc, lp⟩ := hle a b c d p rfl
  have g2 := fun w => rparse_is hdd w
  obtain ⟨B, hB⟩ : ∃ B, decide (p = [45]) = B := ⟨_, rfl⟩
  have tB : ((bs p).toList == [45]) = B := by rw [bs_toList, ← hB, Bool.eq_iff_iff]; simp
  unfold qprs at hr
  dsimp only at hr
  have HR := Lib.hid hr
  clear hd hle hcl hl h5 hL hdd hr
  have hsl : s.length ≤ 9223372036854775807 := by omega
  generalize bs s = S at *
  go_enter Tryz.func25, Tryz.ntmps25
  go_wp2_with (first | go_skip | refine aYQ ?_ | ((with_reducible apply fSli F slInt); exact rfl; exact rfl; exact rfl; decide; decide; (go_simp; exact rfl); exact rfl) | ((with_reducible apply fSli F slStr); exact rfl; exact rfl; exact rfl; decide; decide; (go_simp; exact rfl); exact rfl) | (refine aTQ ?_; clear F; intro W F) | refine aNQ ?_)
  (clear F; intro b4 W F; try simp only [Act.put, z6, z1, z2])
  go_upto_region 2 with (first | go_skip | (go_at_call 49; refine (gf _).mono ?_; rintro e' W2 ⟨sv, rfl, hO⟩; obtain ⟨X, SS, F2⟩ := hO.list F; clear F hO gf; rcases SS.is with ⟨-, h2, -⟩ | ⟨g, cp, cur, rfl, rfl, -, -, h5, h6⟩; cases h2; have F := F2; clear F2 SS; (try dsimp only)) | refine aYQ ?_ | ((with_reducible apply fSli F slInt); exact rfl; exact rfl; exact rfl; decide; decide; (go_simp; exact rfl); exact rfl) | ((with_reducible apply fSli F slStr); exact rfl; exact rfl; exact rfl; decide; decide; (go_simp; exact rfl); exact rfl) | (refine aTQ ?_; clear F; intro W F) | refine aNQ ?_)
  simp only [z7, z8] at F
  have c0 : cur[0]? = some (.string (bs a)) := cur_at h6 rfl
  have c1 : cur[1]? = some (.string (bs b)) := cur_at h6 rfl
  have c2 : cur[2]? = some (.string (bs c)) := cur_at h6 rfl
  have c3 : cur[3]? = some (.string (bs d)) := cur_at h6 rfl
  have c4 : cur[4]? = some (.string (bs p)) := cur_at h6 rfl
  clear h6 h5
  obtain ⟨k4, h4⟩ : ∃ c, knB k = c := ⟨_, rfl⟩
  have g4 := fun w => qknownOK_any h4 w
  have hpl : p.length ≤ 9223372036854775807 := by omega
  cases B
  ·have hne : ¬ p = [45] := by simpa using hB
   have hr := HR.out
   rw [if_neg hne, decide_eq_false hne] at hr
   obtain ⟨rr, hrr⟩ : ∃ r, prsR p 6 = r := ⟨_, rfl⟩
   have g5 := fun w => rparse_any p 6 hpl hrr w
   have hpb := prs_b p 6
   rw [hrr] at hpb hr
   obtain ⟨rn, rd, re⟩ := rr
   dsimp only at g5 hpb hr
   have hwf : QT.wf ⟨a, b, c, v, decide (rn < 0), rn.natAbs, decide (rd < 0), rd.natAbs, 1, false⟩ := ⟨hpb.1, hpb.2, Nat.le_trans la hsl, Nat.le_trans lb hsl, Nat.le_trans lc hsl⟩
   obtain ⟨k3, h3⟩ : ∃ z, QT.right ⟨a, b, c, v, decide (rn < 0), rn.natAbs, decide (rd < 0), rd.natAbs, k, false⟩ = z := ⟨_, rfl⟩
   have h3' : QT.ok ⟨a, b, c, v, decide (rn < 0), rn.natAbs, decide (rd < 0), rd.natAbs, 1, false⟩ = k3 := by rw [← h3]; exact Bool.and_true _
   have g3 := fun w => qvalid_any hwf h3' w
   rw [h3, h4] at hr
   have HRR := Lib.hid hr
   clear hwf hpb hrr h3 h3' h4 hr HR hne hB la lb lc lp hs hsl hpl
   go_upto_region 5 with (first | go_skip | ((with_reducible apply fLc F); exact rfl; exact rfl; (exact tL); (with_reducible exact scStr); (first | with_reducible exact c3 | with_reducible exact c4)) | (go_at_call 50; refine (g2 _).mono ?_; rintro e' W ⟨rfl, rfl⟩; (try dsimp only)) | refine aYQ ?_ | ((with_reducible apply fSli F slInt); exact rfl; exact rfl; exact rfl; decide; decide; (go_simp; exact rfl); exact rfl) | ((with_reducible apply fSli F slStr); exact rfl; exact rfl; exact rfl; decide; decide; (go_simp; exact rfl); exact rfl) | (refine aTQ ?_; clear F; intro W F) | refine aNQ ?_)
   try simp only [Act.put, z6, z1, z2]
   refine wp_region_slots mixP [9, 24, 25, 26, 27, 28, 29, 30, 31, 32, 33, 34, 35, 36, 37, 38] (fun l mm W => ∃ (s9 s24 s25 s26 s27 s28 s29 s30 s31 s32 s33 s34 s35 s36 s37 s38 : Value) (c_b9 : Array Value) (b9 : Nat), mm = [s9, s24, s25, s26, s27, s28, s29, s30, s31, s32, s33, s34, s35, s36, s37, s38] ∧ Fr w W ((g, cur, 9) :: (b4, qC q0, 33) :: (onl (l.getD 15 false) (b9, c_b9, 33))) ∧ On l 0 [s24 = .slice (some ⟨g, 0, none⟩) [a, b, c, d, p].length cp, s25 = .pointer (some ⟨g, 0, none⟩), s26 = .string (bs a), s27 = .slice (some ⟨g, 0, none⟩) [a, b, c, d, p].length cp, s28 = .pointer (some ⟨g, 1, none⟩), s29 = .string (bs b), s30 = .slice (some ⟨g, 0, none⟩) [a, b, c, d, p].length cp, s31 = .pointer (some ⟨g, 2, none⟩), s32 = .string (bs c), s33 = .int .i64 v, s34 = .slice (some ⟨g, 0, none⟩) [a, b, c, d, p].length cp, s35 = .pointer (some ⟨g, 4, none⟩), s36 = .string (bs p), s37 = .bool false, s38 = .agg (qC ⟨a, b, c, v, false, 0, false, 0, 1, false⟩), s9 = .pointer (some ⟨b9, 0, none⟩), c_b9 = qC ⟨a, b, c, v, false, 0, false, 0, 1, false⟩] ∧ Wt l [(16, 15)] ∧ c_b9.size = 72 ∧ True) (by kernel_rfl) (putAll_self _ _) ?_ ?_ ?_
   ·exact ⟨_, _, _, _, _, _, _, _, _, _, _, _, _, _, _, _, (qC q0), 0, rfl, F.drew, On.none _ _ _, Wt.none _ _, qC_size _, trivial⟩
   ·rintro listed mm W ii hi hsz hoff ⟨s9, s24, s25, s26, s27, s28, s29, s30, s31, s32, s33, s34, s35, s36, s37, s38, c_b9, b9, rfl, HF, hH, hw, hz0, -⟩ hd
    simp only [putAll, z1, z2]
    obtain rfl | rfl | rfl | rfl | rfl | rfl | rfl | rfl | rfl | rfl | rfl | rfl | rfl | rfl | rfl | rfl | rfl := dr_c17 hi
    ·exact oPn
    ·obtain rfl : s24 = _ := dh 0 hH hd
     exact oPn
    ·obtain rfl : s25 = _ := dh 1 hH hd
     refine ow rfl rfl fun K hK => ?_
     have cF := BlkAt.cell (Fr.get HF (b := g) (cs := cur) tL) (c0)
     exact oQn
    ·exact oPn
    ·obtain rfl : s27 = _ := dh 3 hH hd
     exact oPn
    ·obtain rfl : s28 = _ := dh 4 hH hd
     refine ow rfl rfl fun K hK => ?_
     have cF := BlkAt.cell (Fr.get HF (b := g) (cs := cur) tL) (c1)
     exact oQn
    ·exact oPn
    ·obtain rfl : s30 = _ := dh 6 hH hd
     exact oPn
    ·obtain rfl : s31 = _ := dh 7 hH hd
     refine ow rfl rfl fun K hK => ?_
     have cF := BlkAt.cell (Fr.get HF (b := g) (cs := cur) tL) (c2)
     exact oQn
    ·exact oPn
    ·exact oPn
    ·obtain rfl : s34 = _ := dh 10 hH hd
     exact oPn
    ·obtain rfl : s35 = _ := dh 11 hH hd
     refine ow rfl rfl fun K hK => ?_
     have cF := BlkAt.cell (Fr.get HF (b := g) (cs := cur) tL) (c4)
     exact oQn
    ·obtain rfl : s36 = _ := dh 12 hH hd
     exact oPn
    ·obtain rfl : s26 = _ := dh 2 hH hd
     obtain rfl : s29 = _ := dh 5 hH hd
     obtain rfl : s32 = _ := dh 8 hH hd
     obtain rfl : s33 = _ := dh 9 hH hd
     obtain rfl : s37 = _ := dh 13 hH hd
     refine ow rfl rfl fun K hK => ?_
     with_reducible apply gB_quo6
     ·exact rfl
     ·exact rfl
     ·exact rfl
     ·exact rfl
     ·exact rfl
     ·exact rfl
     exact oRn
    ·refine ow rfl rfl fun K hK => ?_
     rw [show listed.getD 15 false = false from hoff] at HF
     with_reducible apply gA_quo HF
     intro bN W HF
     go_simp
     exact hK _ _ ⟨_, dE, _, _, _, _, _, _, _, _, _, _, _, _, _, _, _, _, (qC q0), bN, rfl, by rw [getD_on (show 15 < listed.size by rw [hsz]; decide)]; exact Fr.mids [[(g, cur, 9)], [(b4, qC q0, 33)]] HF, onS (onV 16 hH (wtF hw hoff)) rfl rfl, wtS2 hw hd, qC_size _, trivial⟩
    ·obtain rfl : s38 = _ := dh 14 hH hd
     obtain rfl : s9 = _ := dh 15 hH hd
     refine ow rfl rfl fun K hK => ?_
     have HG := hd 15 (by kernel_rfl)
     rw [HG] at HF
     simp only [onl, if_true, z7, z8] at HF
     with_reducible apply gS HF
     ·exact rfl
     ·exact rfl
     ·exact tL
     ·with_reducible exact rowQ _
     ·with_reducible exact hz0.trans (qC_size _).symm
     clear HF
     intro W HF
     simp only [z7, z8, List.append_assoc, List.append_nil] at HF
     go_simp
     exact hK _ _ ⟨_, dE, _, _, _, _, _, _, _, _, _, _, _, _, _, _, _, _, (qC ⟨a, b, c, v, false, 0, false, 0, 1, false⟩), b9, rfl, dF, onS hH rfl rfl, wtS2 hw hd, qC_size _, trivial⟩
   rintro listed mm W ⟨s9, s24, s25, s26, s27, s28, s29, s30, s31, s32, s33, s34, s35, s36, s37, s38, c_b9, b9, rfl, HF, hH, hw, hz0, -⟩ hall
   obtain ⟨rfl, rfl, rfl, rfl, rfl, rfl, rfl, rfl, rfl, rfl, rfl, rfl, rfl, rfl, rfl, rfl, e16⟩ := onA hH hall
   rw [hall 15 (by decide)] at HF
   simp only [onl, if_true, z7, z8] at HF
   rw [e16] at HF
   clear hall hH e16 hw hz0 F
   have F := HF
   clear HF
   simp only [putAll, z1, z2]
   go_upto_region 9 with (first | go_skip | ((with_reducible apply fLc F); exact rfl; exact rfl; (exact tL); (with_reducible exact scStr); (first | with_reducible exact c3 | with_reducible exact c4)) | ((go_at_call 51); (with_reducible refine fr_call F (g5 _) ?_); (clear F; intro W F); (try dsimp only)) | refine aYQ ?_ | ((with_reducible apply fSli F slInt); exact rfl; exact rfl; exact rfl; decide; decide; (go_simp; exact rfl); exact rfl) | ((with_reducible apply fSli F slStr); exact rfl; exact rfl; exact rfl; decide; decide; (go_simp; exact rfl); exact rfl) | (refine aTQ ?_; clear F; intro W F) | refine aNQ ?_)
   by_cases he : e = 0
   ·by_cases hf : re = 0
    ·subst he hf
     cases k3
     ·skip
      have hr := HRR.out
      rw [if_pos (by simp)] at hr
      cases hr
      clear HRR
      go_wp2_with (first | go_skip | ((go_at_call 40); (with_reducible refine fr_call F (g3 _) ?_); (clear F; intro W F); (try dsimp only)) | ((go_at_call 52); (with_reducible refine fr_call F (g4 _) ?_); (clear F; intro W F); (try dsimp only)) | refine aYQ ?_ | ((with_reducible apply fSli F slInt); exact rfl; exact rfl; exact rfl; decide; decide; (go_simp; exact rfl); exact rfl) | ((with_reducible apply fSli F slStr); exact rfl; exact rfl; exact rfl; decide; decide; (go_simp; exact rfl); exact rfl) | (refine aTQ ?_; clear F; intro W F) | refine aNQ ?_)
      exact bodyPost_ret (res_cs rfl rfl rfl (Fr.get F tL) (rowQ _)) rfl ⟨rfl, F.below⟩
     ·cases k4
      ·skip
       have hr := HRR.out
       rw [if_neg (by simp), if_pos rfl] at hr
       cases hr
       clear HRR
       go_wp2_with (first | go_skip | ((go_at_call 40); (with_reducible refine fr_call F (g3 _) ?_); (clear F; intro W F); (try dsimp only)) | ((go_at_call 52); (with_reducible refine fr_call F (g4 _) ?_); (clear F; intro W F); (try dsimp only)) | refine aYQ ?_ | ((with_reducible apply fSli F slInt); exact rfl; exact rfl; exact rfl; decide; decide; (go_simp; exact rfl); exact rfl) | ((with_reducible apply fSli F slStr); exact rfl; exact rfl; exact rfl; decide; decide; (go_simp; exact rfl); exact rfl) | (refine aTQ ?_; clear F; intro W F) | refine aNQ ?_)
       exact bodyPost_ret (res_cs rfl rfl rfl (Fr.get F tL) (rowQ _)) rfl ⟨rfl, F.below⟩
      ·skip
       have hr := HRR.out
       rw [if_neg (by simp), if_neg (by decide)] at hr
       cases hr
       clear HRR
       go_wp2_with (first | go_skip | ((go_at_call 40); (with_reducible refine fr_call F (g3 _) ?_); (clear F; intro W F); (try dsimp only)) | ((go_at_call 52); (with_reducible refine fr_call F (g4 _) ?_); (clear F; intro W F); (try dsimp only)) | refine aYQ ?_ | ((with_reducible apply fSli F slInt); exact rfl; exact rfl; exact rfl; decide; decide; (go_simp; exact rfl); exact rfl) | ((with_reducible apply fSli F slStr); exact rfl; exact rfl; exact rfl; decide; decide; (go_simp; exact rfl); exact rfl) | (refine aTQ ?_; clear F; intro W F) | refine aNQ ?_)
       exact bodyPost_ret (res_cs rfl rfl rfl (Fr.get F tL) (rowQ _)) rfl ⟨rfl, F.below⟩
    ·have tf : (re != 0) = true := by rw [bne_iff_ne]; exact hf
     subst he
     have hr := HRR.out
     rw [if_pos (by simp [hf])] at hr
     cases hr
     clear HRR
     go_wp2_with (first | go_skip | ((go_at_call 40); (with_reducible refine fr_call F (g3 _) ?_); (clear F; intro W F); (try dsimp only)) | ((go_at_call 52); (with_reducible refine fr_call F (g4 _) ?_); (clear F; intro W F); (try dsimp only)) | refine aYQ ?_ | ((with_reducible apply fSli F slInt); exact rfl; exact rfl; exact rfl; decide; decide; (go_simp; exact rfl); exact rfl) | ((with_reducible apply fSli F slStr); exact rfl; exact rfl; exact rfl; decide; decide; (go_simp; exact rfl); exact rfl) | (refine aTQ ?_; clear F; intro W F) | refine aNQ ?_)
     exact bodyPost_ret (res_cs rfl rfl rfl (Fr.get F tL) (rowQ _)) rfl ⟨rfl, F.below⟩
   ·have te : (e != 0) = true := by rw [bne_iff_ne]; exact he
    have hr := HRR.out
    rw [if_pos (by simp [he])] at hr
    cases hr
    clear HRR
    go_wp2_with (first | go_skip | ((go_at_call 40); (with_reducible refine fr_call F (g3 _) ?_); (clear F; intro W F); (try dsimp only)) | ((go_at_call 52); (with_reducible refine fr_call F (g4 _) ?_); (clear F; intro W F); (try dsimp only)) | refine aYQ ?_ | ((with_reducible apply fSli F slInt); exact rfl; exact rfl; exact rfl; decide; decide; (go_simp; exact rfl); exact rfl) | ((with_reducible apply fSli F slStr); exact rfl; exact rfl; exact rfl; decide; decide; (go_simp; exact rfl); exact rfl) | (refine aTQ ?_; clear F; intro W F) | refine aNQ ?_)
    exact bodyPost_ret (res_cs rfl rfl rfl (Fr.get F tL) (rowQ _)) rfl ⟨rfl, F.below⟩
  ·have hpe : p = [45] := by simpa using hB
   have hr := HR.out
   rw [if_pos hpe, decide_eq_true hpe] at hr
   dsimp only at hr
   have hwf : QT.wf ⟨a, b, c, v, false, 0, false, 0, 1, true⟩ := ⟨bp_pos 32, bp_pos 32, Nat.le_trans la hsl, Nat.le_trans lb hsl, Nat.le_trans lc hsl⟩
   obtain ⟨k3, h3⟩ : ∃ z, QT.right ⟨a, b, c, v, decide ((0 : Int) < 0), (0 : Int).natAbs, decide ((0 : Int) < 0), (0 : Int).natAbs, k, true⟩ = z := ⟨_, rfl⟩
   have h3' : QT.ok ⟨a, b, c, v, false, 0, false, 0, 1, true⟩ = k3 := by rw [← h3]; exact Bool.and_true _
   have g3 := fun w => qvalid_any hwf h3' w
   rw [h3, h4] at hr
   have HRR := Lib.hid hr
   clear hwf h3 h3' h4 hr HR hpe hB la lb lc lp hs hsl hpl
   go_upto_region 5 with (first | go_skip | ((with_reducible apply fLc F); exact rfl; exact rfl; (exact tL); (with_reducible exact scStr); (first | with_reducible exact c3 | with_reducible exact c4)) | (go_at_call 50; refine (g2 _).mono ?_; rintro e' W ⟨rfl, rfl⟩; (try dsimp only)) | refine aYQ ?_ | ((with_reducible apply fSli F slInt); exact rfl; exact rfl; exact rfl; decide; decide; (go_simp; exact rfl); exact rfl) | ((with_reducible apply fSli F slStr); exact rfl; exact rfl; exact rfl; decide; decide; (go_simp; exact rfl); exact rfl) | (refine aTQ ?_; clear F; intro W F) | refine aNQ ?_)
   try simp only [Act.put, z6, z1, z2]
   refine wp_region_slots mixP [9, 24, 25, 26, 27, 28, 29, 30, 31, 32, 33, 34, 35, 36, 37, 38] (fun l mm W => ∃ (s9 s24 s25 s26 s27 s28 s29 s30 s31 s32 s33 s34 s35 s36 s37 s38 : Value) (c_b9 : Array Value) (b9 : Nat), mm = [s9, s24, s25, s26, s27, s28, s29, s30, s31, s32, s33, s34, s35, s36, s37, s38] ∧ Fr w W ((g, cur, 9) :: (b4, qC q0, 33) :: (onl (l.getD 15 false) (b9, c_b9, 33))) ∧ On l 0 [s24 = .slice (some ⟨g, 0, none⟩) [a, b, c, d, p].length cp, s25 = .pointer (some ⟨g, 0, none⟩), s26 = .string (bs a), s27 = .slice (some ⟨g, 0, none⟩) [a, b, c, d, p].length cp, s28 = .pointer (some ⟨g, 1, none⟩), s29 = .string (bs b), s30 = .slice (some ⟨g, 0, none⟩) [a, b, c, d, p].length cp, s31 = .pointer (some ⟨g, 2, none⟩), s32 = .string (bs c), s33 = .int .i64 v, s34 = .slice (some ⟨g, 0, none⟩) [a, b, c, d, p].length cp, s35 = .pointer (some ⟨g, 4, none⟩), s36 = .string (bs p), s37 = .bool true, s38 = .agg (qC ⟨a, b, c, v, false, 0, false, 0, 1, true⟩), s9 = .pointer (some ⟨b9, 0, none⟩), c_b9 = qC ⟨a, b, c, v, false, 0, false, 0, 1, true⟩] ∧ Wt l [(16, 15)] ∧ c_b9.size = 72 ∧ True) (by kernel_rfl) (putAll_self _ _) ?_ ?_ ?_
   ·exact ⟨_, _, _, _, _, _, _, _, _, _, _, _, _, _, _, _, (qC q0), 0, rfl, F.drew, On.none _ _ _, Wt.none _ _, qC_size _, trivial⟩
   ·rintro listed mm W ii hi hsz hoff ⟨s9, s24, s25, s26, s27, s28, s29, s30, s31, s32, s33, s34, s35, s36, s37, s38, c_b9, b9, rfl, HF, hH, hw, hz0, -⟩ hd
    simp only [putAll, z1, z2]
    obtain rfl | rfl | rfl | rfl | rfl | rfl | rfl | rfl | rfl | rfl | rfl | rfl | rfl | rfl | rfl | rfl | rfl := dr_c17 hi
    ·exact oPn
    ·obtain rfl : s24 = _ := dh 0 hH hd
     exact oPn
    ·obtain rfl : s25 = _ := dh 1 hH hd
     refine ow rfl rfl fun K hK => ?_
     have cF := BlkAt.cell (Fr.get HF (b := g) (cs := cur) tL) (c0)
     exact oQn
    ·exact oPn
    ·obtain rfl : s27 = _ := dh 3 hH hd
     exact oPn
    ·obtain rfl : s28 = _ := dh 4 hH hd
     refine ow rfl rfl fun K hK => ?_
     have cF := BlkAt.cell (Fr.get HF (b := g) (cs := cur) tL) (c1)
     exact oQn
    ·exact oPn
    ·obtain rfl : s30 = _ := dh 6 hH hd
     exact oPn
    ·obtain rfl : s31 = _ := dh 7 hH hd
     refine ow rfl rfl fun K hK => ?_
     have cF := BlkAt.cell (Fr.get HF (b := g) (cs := cur) tL) (c2)
     exact oQn
    ·exact oPn
    ·exact oPn
    ·obtain rfl : s34 = _ := dh 10 hH hd
     exact oPn
    ·obtain rfl : s35 = _ := dh 11 hH hd
     refine ow rfl rfl fun K hK => ?_
     have cF := BlkAt.cell (Fr.get HF (b := g) (cs := cur) tL) (c4)
     exact oQn
    ·obtain rfl : s36 = _ := dh 12 hH hd
     exact oPn
    ·obtain rfl : s26 = _ := dh 2 hH hd
     obtain rfl : s29 = _ := dh 5 hH hd
     obtain rfl : s32 = _ := dh 8 hH hd
     obtain rfl : s33 = _ := dh 9 hH hd
     obtain rfl : s37 = _ := dh 13 hH hd
     refine ow rfl rfl fun K hK => ?_
     with_reducible apply gB_quo6
     ·exact rfl
     ·exact rfl
     ·exact rfl
     ·exact rfl
     ·exact rfl
     ·exact rfl
     exact oRn
    ·refine ow rfl rfl fun K hK => ?_
     rw [show listed.getD 15 false = false from hoff] at HF
     with_reducible apply gA_quo HF
     intro bN W HF
     go_simp
     exact hK _ _ ⟨_, dE, _, _, _, _, _, _, _, _, _, _, _, _, _, _, _, _, (qC q0), bN, rfl, by rw [getD_on (show 15 < listed.size by rw [hsz]; decide)]; exact Fr.mids [[(g, cur, 9)], [(b4, qC q0, 33)]] HF, onS (onV 16 hH (wtF hw hoff)) rfl rfl, wtS2 hw hd, qC_size _, trivial⟩
    ·obtain rfl : s38 = _ := dh 14 hH hd
     obtain rfl : s9 = _ := dh 15 hH hd
     refine ow rfl rfl fun K hK => ?_
     have HG := hd 15 (by kernel_rfl)
     rw [HG] at HF
     simp only [onl, if_true, z7, z8] at HF
     with_reducible apply gS HF
     ·exact rfl
     ·exact rfl
     ·exact tL
     ·with_reducible exact rowQ _
     ·with_reducible exact hz0.trans (qC_size _).symm
     clear HF
     intro W HF
     simp only [z7, z8, List.append_assoc, List.append_nil] at HF
     go_simp
     exact hK _ _ ⟨_, dE, _, _, _, _, _, _, _, _, _, _, _, _, _, _, _, _, (qC ⟨a, b, c, v, false, 0, false, 0, 1, true⟩), b9, rfl, dF, onS hH rfl rfl, wtS2 hw hd, qC_size _, trivial⟩
   rintro listed mm W ⟨s9, s24, s25, s26, s27, s28, s29, s30, s31, s32, s33, s34, s35, s36, s37, s38, c_b9, b9, rfl, HF, hH, hw, hz0, -⟩ hall
   obtain ⟨rfl, rfl, rfl, rfl, rfl, rfl, rfl, rfl, rfl, rfl, rfl, rfl, rfl, rfl, rfl, rfl, e16⟩ := onA hH hall
   rw [hall 15 (by decide)] at HF
   simp only [onl, if_true, z7, z8] at HF
   rw [e16] at HF
   clear hall hH e16 hw hz0 F
   have F := HF
   clear HF
   simp only [putAll, z1, z2]
   go_upto_region 9 with (first | go_skip | ((with_reducible apply fLc F); exact rfl; exact rfl; (exact tL); (with_reducible exact scStr); (first | with_reducible exact c3 | with_reducible exact c4)) | refine aYQ ?_ | ((with_reducible apply fSli F slInt); exact rfl; exact rfl; exact rfl; decide; decide; (go_simp; exact rfl); exact rfl) | ((with_reducible apply fSli F slStr); exact rfl; exact rfl; exact rfl; decide; decide; (go_simp; exact rfl); exact rfl) | (refine aTQ ?_; clear F; intro W F) | refine aNQ ?_)
   by_cases he : e = 0
   ·subst he
    cases k3
    ·skip
     have hr := HRR.out
     rw [if_pos (by simp)] at hr
     cases hr
     clear HRR
     go_wp2_with (first | go_skip | ((go_at_call 40); (with_reducible refine fr_call F (g3 _) ?_); (clear F; intro W F); (try dsimp only)) | ((go_at_call 52); (with_reducible refine fr_call F (g4 _) ?_); (clear F; intro W F); (try dsimp only)) | refine aYQ ?_ | ((with_reducible apply fSli F slInt); exact rfl; exact rfl; exact rfl; decide; decide; (go_simp; exact rfl); exact rfl) | ((with_reducible apply fSli F slStr); exact rfl; exact rfl; exact rfl; decide; decide; (go_simp; exact rfl); exact rfl) | (refine aTQ ?_; clear F; intro W F) | refine aNQ ?_)
     exact bodyPost_ret (res_cs rfl rfl rfl (Fr.get F tL) (rowQ _)) rfl ⟨rfl, F.below⟩
    ·cases k4
     ·skip
      have hr := HRR.out
      rw [if_neg (by simp), if_pos rfl] at hr
      cases hr
      clear HRR
      go_wp2_with (first | go_skip | ((go_at_call 40); (with_reducible refine fr_call F (g3 _) ?_); (clear F; intro W F); (try dsimp only)) | ((go_at_call 52); (with_reducible refine fr_call F (g4 _) ?_); (clear F; intro W F); (try dsimp only)) | refine aYQ ?_ | ((with_reducible apply fSli F slInt); exact rfl; exact rfl; exact rfl; decide; decide; (go_simp; exact rfl); exact rfl) | ((with_reducible apply fSli F slStr); exact rfl; exact rfl; exact rfl; decide; decide; (go_simp; exact rfl); exact rfl) | (refine aTQ ?_; clear F; intro W F) | refine aNQ ?_)
      exact bodyPost_ret (res_cs rfl rfl rfl (Fr.get F tL) (rowQ _)) rfl ⟨rfl, F.below⟩
     ·skip
      have hr := HRR.out
      rw [if_neg (by simp), if_neg (by decide)] at hr
      cases hr
      clear HRR
      go_wp2_with (first | go_skip | ((go_at_call 40); (with_reducible refine fr_call F (g3 _) ?_); (clear F; intro W F); (try dsimp only)) | ((go_at_call 52); (with_reducible refine fr_call F (g4 _) ?_); (clear F; intro W F); (try dsimp only)) | refine aYQ ?_ | ((with_reducible apply fSli F slInt); exact rfl; exact rfl; exact rfl; decide; decide; (go_simp; exact rfl); exact rfl) | ((with_reducible apply fSli F slStr); exact rfl; exact rfl; exact rfl; decide; decide; (go_simp; exact rfl); exact rfl) | (refine aTQ ?_; clear F; intro W F) | refine aNQ ?_)
      exact bodyPost_ret (res_cs rfl rfl rfl (Fr.get F tL) (rowQ _)) rfl ⟨rfl, F.below⟩
   ·have te : (e != 0) = true := by rw [bne_iff_ne]; exact he
    have hr := HRR.out
    rw [if_pos (by simp [he])] at hr
    cases hr
    clear HRR
    go_wp2_with (first | go_skip | ((go_at_call 40); (with_reducible refine fr_call F (g3 _) ?_); (clear F; intro W F); (try dsimp only)) | ((go_at_call 52); (with_reducible refine fr_call F (g4 _) ?_); (clear F; intro W F); (try dsimp only)) | refine aYQ ?_ | ((with_reducible apply fSli F slInt); exact rfl; exact rfl; exact rfl; decide; decide; (go_simp; exact rfl); exact rfl) | ((with_reducible apply fSli F slStr); exact rfl; exact rfl; exact rfl; decide; decide; (go_simp; exact rfl); exact rfl) | (refine aTQ ?_; clear F; intro W F) | refine aNQ ?_)
    exact bodyPost_ret (res_cs rfl rfl rfl (Fr.get F tL) (rowQ _)) rfl ⟨rfl, F.below⟩
 ·rw [qprs_len h5] at hr
  subst hr
  have t1 : ((l.length : Int) != 5) = true := by rw [bne_iff_ne]; omega
  clear hd hle hl hcl
  generalize bs s = S at *
  go_enter Tryz.func25, Tryz.ntmps25
  go_wp2_with (first | go_skip | refine aYQ ?_ | ((with_reducible apply fSli F slInt); exact rfl; exact rfl; exact rfl; decide; decide; (go_simp; exact rfl); exact rfl) | ((with_reducible apply fSli F slStr); exact rfl; exact rfl; exact rfl; decide; decide; (go_simp; exact rfl); exact rfl) | (refine aTQ ?_; clear F; intro W F) | refine aNQ ?_)
  (clear F; intro b4 W F; try simp only [Act.put, z6, z1, z2])
  go_wp2_with (first | go_skip | (go_at_call 49; refine (gf _).mono ?_; rintro e W2 ⟨v, rfl, hO⟩; have F2 := F.next hO.below; clear F; obtain ⟨A, cp, rfl, hR⟩ := hO.strs hL; clear hO hR gf; have F := F2; clear F2; (try dsimp only)) | refine aYQ ?_ | ((with_reducible apply fSli F slInt); exact rfl; exact rfl; exact rfl; decide; decide; (go_simp; exact rfl); exact rfl) | ((with_reducible apply fSli F slStr); exact rfl; exact rfl; exact rfl; decide; decide; (go_simp; exact rfl); exact rfl) | (refine aTQ ?_; clear F; intro W F) | refine aNQ ?_)
  exact bodyPost_ret (res_cs rfl rfl rfl (Fr.get F tL) (rowQ _)) rfl ⟨rfl, F.below⟩
end
section
open Go.RowKit
set_option maxHeartbeats 4000000
abbrev kS : List UInt8 := [98, 108, 111, 111, 109, 98, 101, 114, 103]
abbrev kI : List UInt8 := [65, 67, 77, 69]
abbrev kC : List UInt8 := [85, 83, 68]
abbrev kD : List UInt8 := [50, 48, 50, 54, 45, 48, 49, 45, 48, 53]
abbrev kP : List UInt8 := [49, 48, 49, 46, 50, 53]
abbrev kL : List UInt8 := [98, 108, 111, 111, 109, 98, 101, 114, 103, 44, 65, 67, 77, 69, 44, 85, 83, 68, 44, 50, 48, 50, 54, 45, 48, 49, 45, 48, 53, 44, 49, 48, 49, 46, 50, 53]
abbrev kM : List UInt8 := [98, 108, 111, 111, 109, 98, 101, 114, 103, 44, 65, 67, 77, 69, 44, 85, 83, 68, 44, 50, 48, 50, 54, 45, 48, 49, 45, 48, 53, 44, 45]
def qA : QT := ⟨kS, kI, kC, 9501, false, 405, false, 4, 3, false⟩
def qB : QT := ⟨kS, kI, kC, 9501, false, 0, false, 0, 4, true⟩
theorem cuts_L : cuts kL = [kS, kI, kC, kD, kP] := by decide +kernel
theorem cuts_M : cuts kM = [kS, kI, kC, kD, [45]] := by decide +kernel
theorem kn_day : ParseR (bs kD) 9501 0 := .inr ⟨by decide +kernel, .inl ⟨⟨by decide +kernel, by decide +kernel, by decide +kernel, by decide +kernel, by decide +kernel, by decide +kernel, by decide +kernel⟩, rfl⟩⟩
theorem ok405 : okZ 405 4 := okZ_iff.2 ⟨⟨Nat.lt_of_lt_of_le (by decide) bp15_big, Nat.lt_of_lt_of_le (by decide) bp15_big⟩, by decide, by decide⟩
theorem priceA : QT.price qA = true := by
 obtain ⟨s, h1, -⟩ := txt_back (p := 6) ok405 (by decide) (by decide) (by decide)
 have h2 : (txtR (okR qA.x qA.a qA.y qA.b) (sZ qA.x qA.a) (sZ qA.y qA.b) 6).2 = 0 := by
  show (txtR (okZ 405 4) 405 4 ((6 : Nat) : Int)).2 = 0
  rw [h1]
 unfold QT.price priceB
 rw [h2]
 decide
theorem rightA : QT.right qA = true := by
 unfold QT.right
 rw [priceA]
 decide +kernel
theorem rightB : QT.right qB = true := by
 unfold QT.right
 rw [show (if qB.void = true then qB.noP else qB.price) = true from rfl]
 decide +kernel
theorem kn_prs : prsR kP 6 = (405, 4, 0) := by decide +kernel
theorem kA : qprs (cuts kL) 9501 0 3 = (qA, 0) := by
 rw [cuts_L]
 unfold qprs
 dsimp only
 have hk : ¬ kP = [45] := by decide
 rw [if_neg hk, kn_prs, decide_eq_false hk]
 have h : QT.right ⟨kS, kI, kC, 9501, decide ((405 : Int) < 0), (405 : Int).natAbs, decide ((4 : Int) < 0), (4 : Int).natAbs, 3, false⟩ = true := rightA
 dsimp only
 rw [h]
 rfl
theorem kB : qprs (cuts kM) 9501 0 4 = (qB, 0) := by
 rw [cuts_M]
 unfold qprs
 dsimp only
 rw [if_pos rfl, decide_eq_true (p := ([45] : List UInt8) = [45]) rfl]
 have h : QT.right ⟨kS, kI, kC, 9501, decide ((0 : Int) < 0), (0 : Int).natAbs, decide ((0 : Int) < 0), (0 : Int).natAbs, 4, true⟩ = true := rightB
 dsimp only
 rw [h]
 rfl
theorem hd_L {s p' : List UInt8} (hc : cuts s = [kS, kI, kC, kD, p']) : ∀ a b c d p, cuts s = [a, b, c, d, p] → ParseR (bs d) 9501 0 := by
 intro a b c d p h
 rw [hc] at h
 injection h with _ h
 injection h with _ h
 injection h with _ h
 injection h with h _
 rw [← h]
 exact kn_day
theorem flatC_two (a b : QT) : (flatC [.agg (qC a), .agg (qC b)]).toList = (([a, b].map fun q => (qC q).toList)).flatten := by simp [flatC, Value.cells]
theorem quAt2 {W : World} {g : Nat} {a b : QT} {t : TypeId} (h : BlkAt W g (flatC [.agg (qC a), .agg (qC b)]) t) (ha : a.wf) (hb : b.wf) : QuAt W (some ⟨g, 0, none⟩) [a, b] := by
 refine ⟨⟨by simp, fun k r hr => ⟨g, 0, rfl, h.lt, fun j v hj => ?_⟩⟩, ?_, ?_, ?_, ?_, ?_⟩
 ·rw [Nat.zero_add]
  refine h.cell ?_
  rw [← Array.getElem?_toList, flatC_two]
  exact flat_get _ k r (fun x hx => by
   obtain ⟨y, -, rfl⟩ := List.mem_map.1 hx
   rw [Array.length_toList, qC_size]) hr j v hj
 all_goals
  intro q hq
  simp only [List.mem_cons, List.not_mem_nil, or_false] at hq
  rcases hq with rfl | rfl
 ·exact ha.a
 ·exact hb.a
 ·exact ha.b
 ·exact hb.b
 ·exact ha.s1
 ·exact hb.s1
 ·exact ha.s2
 ·exact hb.s2
 ·exact ha.s3
 ·exact hb.s3
theorem lt32 {x : Nat} (h : x < bp 15) : x < bp 32 := Nat.lt_of_lt_of_le h (bp_le (by decide))
theorem wfA : qA.wf := ⟨lt32 (Nat.lt_of_lt_of_le (by decide) bp15_big), lt32 (Nat.lt_of_lt_of_le (by decide) bp15_big), by decide, by decide, by decide⟩
theorem wfB : qB.wf := ⟨bp_pos 32, bp_pos 32, by decide, by decide, by decide⟩
theorem bkAB : bkErr [qA, qB] = 0 := by
 have h1 : [qA, qB].all QT.ok = true := by
  simp only [List.all_cons, List.all_nil, QT.ok, rightA, rightB]
  decide
 have hk : 1 ≤ qA.mark.key.size ∧ qA.mark.key.size ≤ 64 := by
  have := dayL_len qA.day
  unfold QT.mark QT.key
  dsimp only
  rw [bs_size]
  simp only [List.length_append, List.length_cons]
  have e1 : qA.src.length = 9 := rfl
  have e2 : qA.ins.length = 4 := rfl
  omega
 have hA : qA.mark.ok = true := MK.ok_iff.2 ⟨hk, by decide⟩
 have hB : qB.mark.ok = true := MK.ok_iff.2 ⟨hk, by decide⟩
 unfold bkErr
 rw [if_pos h1]
 unfold mkErr mksB
 simp only [List.map_cons, List.map_nil, mksFrom, hA, hB]
 decide
theorem visAB3 : visQ [qA, qB] 3 = [qA] := by
 have h : vis ([qA, qB].map QT.mark) 3 = [0] := by
  obtain ⟨K, hK⟩ : ∃ K, qA.mark.key = K := ⟨_, rfl⟩
  have e1 : qA.mark = ⟨K, 3, false⟩ := by rw [← hK]; rfl
  have e2 : qB.mark = ⟨K, 4, true⟩ := by rw [← hK]; rfl
  rw [List.map_cons, List.map_cons, List.map_nil, e1, e2]
  simp [vis, visF, visAt, lastF]
 unfold visQ
 rw [h]
 rfl
theorem visAB4 : visQ [qA, qB] 4 = [] := by
 have h : vis ([qA, qB].map QT.mark) 4 = [] := by
  obtain ⟨K, hK⟩ : ∃ K, qA.mark.key = K := ⟨_, rfl⟩
  have e1 : qA.mark = ⟨K, 3, false⟩ := by rw [← hK]; rfl
  have e2 : qB.mark = ⟨K, 4, true⟩ := by rw [← hK]; rfl
  rw [List.map_cons, List.map_cons, List.map_nil, e1, e2]
  simp [vis, visF, visAt, lastF]
 unfold visQ
 rw [h]
 rfl
theorem k405 : mkR 405 4 = (405, 4, 0) := by decide +kernel
theorem kn_facts : ∃ a b : QT, (∀ w, Calls Tryz.prog 24 #[.string ⟨#[98, 108, 111, 111, 109, 98, 101, 114, 103, 44, 65, 67, 77, 69, 44, 85, 83, 68, 44, 50, 48, 50, 54, 45, 48, 49, 45, 48, 53, 44, 49, 48, 49, 46, 50, 53]⟩, .int .i64 3] w (RetB (.tuple #[.agg (qC a), .int .i64 0]) w)) ∧
  (∀ w, Calls Tryz.prog 24 #[.string ⟨#[98, 108, 111, 111, 109, 98, 101, 114, 103, 44, 65, 67, 77, 69, 44, 85, 83, 68, 44, 50, 48, 50, 54, 45, 48, 49, 45, 48, 53, 44, 45]⟩, .int .i64 4] w (RetB (.tuple #[.agg (qC b), .int .i64 0]) w)) ∧
  (∀ w g t c, BlkAt w g (flatC [.agg (qC a), .agg (qC b)]) t → Calls Tryz.prog 11 #[.slice (some ⟨g, 0, none⟩) 2 c, .int .i64 3, .string ⟨#[98, 108, 111, 111, 109, 98, 101, 114, 103]⟩, .string ⟨#[65, 67, 77, 69]⟩, .int .i64 9501] w (RetB (.tuple #[.agg (qC a), .bool true, .int .i64 0]) w)) ∧
  (∀ w g t c, BlkAt w g (flatC [.agg (qC a), .agg (qC b)]) t → Calls Tryz.prog 11 #[.slice (some ⟨g, 0, none⟩) 2 c, .int .i64 4, .string ⟨#[98, 108, 111, 111, 109, 98, 101, 114, 103]⟩, .string ⟨#[65, 67, 77, 69]⟩, .int .i64 9501] w (RetB (.tuple #[.agg (qC q0), .bool false, .int .i64 0]) w)) ∧
  b.void = true ∧ (∀ w, (Op.equalIn 10000 31 (.agg (ratC a.x a.a a.y a.b)) (.agg (RC 405 4))).run Tryz.prog w = .ok true w) ∧ (∀ w, (Op.equalIn 10000 33 (.agg (qC a)) (.agg (qC a))).run Tryz.prog w = .ok true w) :=
 ⟨qA, qB, fun w => qparse_any kL 3 (by decide) (hd_L cuts_L) kA w, fun w => qparse_any kM 4 (by decide) (hd_L cuts_M) kB w,
  fun w g t c h => qat_any (L := [qA, qB]) (s := kS) (i := kI) (er := 0) (r := (qA, true)) (by decide) (quAt2 h wfA wfB) bkAB (by rw [if_pos rfl, visAB3]; rfl),
  fun w g t c h => qat_any (L := [qA, qB]) (s := kS) (i := kI) (er := 0) (r := (q0, false)) (by decide) (quAt2 h wfA wfB) bkAB (by rw [if_pos rfl, visAB4]; rfl),
  rfl, fun w => eq_rat false 405 false 4 false 405 false 4 wfA.a wfA.b wfA.a wfA.b w, fun w => eq_quo qA wfA.a wfA.b w⟩
theorem q_all2 (a b : QT) : [Value.agg (qC a), .agg (qC b)].all (fun v => v.cells.size == 72) = true := by simp [Value.cells, qC_size]
set_option maxRecDepth 100000 in
theorem qknown14_any (w : World) : Calls Tryz.prog 13 #[] w (RetB (.bool true) w) := by
 have F := Fr.start w
 obtain ⟨a, b, g1, g2, g3, g4, hv, qe, qq⟩ := kn_facts
 have g5 := fun w => makeOf_any (n := 405) (d := 4) (by decide) (by decide) (by decide) (by decide) k405 w
 go_enter Tryz.func13, Tryz.ntmps13
 go_wp2_with (first | go_skip | ((go_at_call 24); (with_reducible refine fr_call F (g1 _) ?_); (clear F; intro W F); (try dsimp only)) | refine aYQ ?_ | (refine aTQ ?_; clear F; intro W F) | refine aNQ ?_)
 (clear F; intro b1 W F; try simp only [Act.put, z6, z1, z2])
 go_wp2_with (first | go_skip | ((go_at_call 24); (with_reducible refine fr_call F (g2 _) ?_); (clear F; intro W F); (try dsimp only)) | refine aYQ ?_ | (refine aTQ ?_; clear F; intro W F) | refine aNQ ?_)
 (clear F; intro b3 W F; try simp only [Act.put, z6, z1, z2])
 go_wp2_with (first | go_skip | ((with_reducible apply fSli F slQuo); exact rfl; exact rfl; exact rfl; decide; decide; (go_simp; exact rfl); (exact q_all2 _ _)) | refine aYQ ?_ | (refine aTQ ?_; clear F; intro W F) | refine aNQ ?_)
 (clear F; intro b22 W F; try simp only [Act.put, z6, z1, z2])
 go_wp2_with (first | go_skip | ((go_at_call 11); (with_reducible refine fr_call F (g3 _ _ _ _ (Fr.get F tL)) ?_); (clear F; intro W F); (try dsimp only)) | refine aYQ ?_ | (refine aTQ ?_; clear F; intro W F) | refine aNQ ?_)
 (clear F; intro b5 W F; try simp only [Act.put, z6, z1, z2])
 go_wp2_with (first | go_skip | ((with_reducible apply fSli F slQuo); exact rfl; exact rfl; exact rfl; decide; decide; (go_simp; exact rfl); (exact q_all2 _ _)) | refine aYQ ?_ | (refine aTQ ?_; clear F; intro W F) | refine aNQ ?_)
 (clear F; intro b30 W F; try simp only [Act.put, z6, z1, z2])
 go_wp2_with (first | go_skip | ((go_at_call 11); (with_reducible refine fr_call F (g4 _ _ _ _ (Fr.get F tL)) ?_); (clear F; intro W F); (try dsimp only)) | refine aYQ ?_ | (refine aTQ ?_; clear F; intro W F) | refine aNQ ?_)
 (clear F; intro b8 W F; try simp only [Act.put, z6, z1, z2])
 go_upto_region 5 with (first | go_skip | refine aYQ ?_ | (refine aTQ ?_; clear F; intro W F) | refine aNQ ?_)
 try simp only [Act.put, z6, z1, z2]
 refine wp_region_bm 37 (by kernel_rfl) rfl ?_
 replace F := F.drew
 revert F
 generalize World.drew _ = W
 intro F
 refine dg_one 0 1 (by kernel_rfl) rfl (by kernel_rfl) rfl (fun K hK => ?_)
 (simp only [z3, z4, z5])
 ((refine ⟨?_⟩); go_simp)
 (refine hK _ _ ?_; clear hK K)
 refine dg_one 1 3 (by kernel_rfl) rfl (by kernel_rfl) rfl (fun K hK => ?_)
 (simp only [z3, z4, z5])
 ((refine ⟨?_⟩); go_simp)
 (refine hK _ _ ?_; clear hK K)
 refine dg_one 2 7 (by kernel_rfl) rfl (by kernel_rfl) rfl (fun K hK => ?_)
 (simp only [z3, z4, z5])
 ((refine ⟨?_⟩); go_simp)
 (refine hK _ _ ?_; clear hK K)
 refine dg_one 3 15 (by kernel_rfl) rfl (by kernel_rfl) rfl (fun K hK => ?_)
 (simp only [z3, z4, z5])
 ((refine ⟨?_⟩); go_simp)
 (refine hK _ _ ?_; clear hK K)
 refine dg_one 4 31 (by kernel_rfl) rfl (by kernel_rfl) rfl (fun K hK => ?_)
 (simp only [z3, z4, z5])
 ((refine ⟨?_⟩); go_simp)
 (refine hK _ _ ?_; clear hK K)
 refine dg_one 5 63 (by kernel_rfl) rfl (by kernel_rfl) rfl (fun K hK => ?_)
 (simp only [z3, z4, z5])
 ((refine ⟨?_⟩); go_simp)
 (refine hK _ _ ?_; clear hK K)
 refine dg_one 6 127 (by kernel_rfl) rfl (by kernel_rfl) rfl (fun K hK => ?_)
 (simp only [z3, z4, z5])
 ((refine ⟨?_⟩); go_simp)
 (refine hK _ _ ?_; clear hK K)
 refine dg_one 7 255 (by kernel_rfl) rfl (by kernel_rfl) rfl (fun K hK => ?_)
 (simp only [z3, z4, z5])
 ((refine ⟨?_⟩); go_simp)
 (refine hK _ _ ?_; clear hK K)
 refine dg_one 8 511 (by kernel_rfl) rfl (by kernel_rfl) rfl (fun K hK => ?_)
 (simp only [z3, z4, z5])
 (first | ((with_reducible apply gLc F); exact rfl; (exact tL); (with_reducible exact scBool); (first | (with_reducible exact q_src _) | (with_reducible exact q_ins _) | (with_reducible exact q_cur _) | (with_reducible exact q_day _) | (with_reducible exact q_known _) | (with_reducible exact q_void _) | exact rfl); go_simp) | ((refine ⟨?_⟩); go_simp))
 (refine hK _ _ ?_; clear hK K)
 refine dg_one 9 1023 (by kernel_rfl) rfl (by kernel_rfl) rfl (fun K hK => ?_)
 (simp only [z3, z4, z5])
 ((refine ⟨?_⟩); go_simp)
 (refine hK _ _ ?_; clear hK K)
 refine dg_one 10 2047 (by kernel_rfl) rfl (by kernel_rfl) rfl (fun K hK => ?_)
 (simp only [z3, z4, z5])
 ((refine ⟨?_⟩); go_simp)
 (refine hK _ _ ?_; clear hK K)
 (refine dg_take 11 46 4095 (v := ?_) rfl (by kernel_rfl) (by kernel_rfl) (by kernel_rfl) (by kernel_rfl) (by kernel_rfl) (fun _ _ _ h => h) (Or.inl ⟨by kernel_rfl, ?_⟩) ?_; rotate_left; (focus (intro w; go_simp; try (with_reducible rfl))); (simp only [z1, z2]))
 apply dg_meet (f' := 23) (m' := 16383)
 ·intro M
  refine dg_ready [12, 13] (by kernel_rfl) rfl ?_
  refine dg_want 12 8191 rfl (by kernel_rfl) rfl (fun K hK => ?_) ?_
  ·skip
   (simp only [z3, z4, z5])
   (first | ((with_reducible apply gL F); exact rfl; (exact tL); (exact tR3); go_simp) | ((with_reducible apply gLm F); exact rfl; (exact tL); (first | (with_reducible exact q_rat _) | (exact tM3)); (exact tR3); go_simp) | ((refine ⟨?_⟩); go_simp))
   (refine hK _ _ ?_; clear hK K)
   refine dg_one 13 16383 (by kernel_rfl) rfl (by kernel_rfl) rfl (fun K hK => ?_)
   (simp only [z3, z4, z5])
   ((refine ⟨?_⟩); go_simp; (first | ((with_reducible refine fr_call F (g5 _) ?_); (try clear F); (intro W F); (try dsimp only)) | skip))
   (refine hK _ _ ?_; clear hK K)
   exact M _ F
  refine dg_want 13 12287 rfl (by kernel_rfl) rfl (fun K hK => ?_) ?_
  ·skip
   (simp only [z3, z4, z5])
   ((refine ⟨?_⟩); go_simp; (first | ((with_reducible refine fr_call F (g5 _) ?_); (try clear F); (intro W F); (try dsimp only)) | skip))
   (refine hK _ _ ?_; clear hK K)
   refine dg_one 12 16383 (by kernel_rfl) rfl (by kernel_rfl) rfl (fun K hK => ?_)
   (simp only [z3, z4, z5])
   (first | ((with_reducible apply gL F); exact rfl; (exact tL); (exact tR3); go_simp) | ((with_reducible apply gLm F); exact rfl; (exact tL); (first | (with_reducible exact q_rat _) | (exact tM3)); (exact tR3); go_simp) | ((refine ⟨?_⟩); go_simp))
   (refine hK _ _ ?_; clear hK K)
   exact M _ F
  exact dg_nil
 clear F
 intro W F
 refine dg_one 14 32767 (by kernel_rfl) rfl (by kernel_rfl) rfl (fun K hK => ?_)
 (simp only [z3, z4, z5])
 ((refine ⟨?_⟩); go_simp)
 (refine hK _ _ ?_; clear hK K)
 refine dg_one 15 65535 (by kernel_rfl) rfl (by kernel_rfl) rfl (fun K hK => ?_)
 (simp only [z3, z4, z5])
 ((refine ⟨?_⟩); go_simp)
 (refine hK _ _ ?_; clear hK K)
 refine dg_one 16 131071 (by kernel_rfl) rfl (by kernel_rfl) rfl (fun K hK => ?_)
 (simp only [z3, z4, z5])
 ((refine ⟨?_⟩); go_simp)
 (refine hK _ _ ?_; clear hK K)
 refine dg_one 17 262143 (by kernel_rfl) rfl (by kernel_rfl) rfl (fun K hK => ?_)
 (simp only [z3, z4, z5])
 ((refine ⟨?_⟩); go_simp)
 (refine hK _ _ ?_; clear hK K)
 refine dg_one 18 524287 (by kernel_rfl) rfl (by kernel_rfl) rfl (fun K hK => ?_)
 (simp only [z3, z4, z5])
 ((refine ⟨?_⟩); go_simp)
 (refine hK _ _ ?_; clear hK K)
 refine dg_one 19 1048575 (by kernel_rfl) rfl (by kernel_rfl) rfl (fun K hK => ?_)
 (simp only [z3, z4, z5])
 ((refine ⟨?_⟩); go_simp)
 (refine hK _ _ ?_; clear hK K)
 refine dg_one 20 2097151 (by kernel_rfl) rfl (by kernel_rfl) rfl (fun K hK => ?_)
 (simp only [z3, z4, z5])
 ((refine ⟨?_⟩); go_simp)
 (refine hK _ _ ?_; clear hK K)
 refine dg_one 21 4194303 (by kernel_rfl) rfl (by kernel_rfl) rfl (fun K hK => ?_)
 (simp only [z3, z4, z5])
 ((refine ⟨?_⟩); go_simp)
 (refine hK _ _ ?_; clear hK K)
 refine dg_one 22 8388607 (by kernel_rfl) rfl (by kernel_rfl) rfl (fun K hK => ?_)
 (simp only [z3, z4, z5])
 ((refine ⟨?_⟩); go_simp)
 (refine hK _ _ ?_; clear hK K)
 refine dg_one 23 16777215 (by kernel_rfl) rfl (by kernel_rfl) rfl (fun K hK => ?_)
 (simp only [z3, z4, z5])
 ((refine ⟨?_⟩); go_simp)
 (refine hK _ _ ?_; clear hK K)
 apply dg_meet (f' := 11) (m' := 67108863)
 ·intro M
  refine dg_ready [24, 25] (by kernel_rfl) rfl ?_
  refine dg_want 24 33554431 rfl (by kernel_rfl) rfl (fun K hK => ?_) ?_
  ·skip
   (simp only [z3, z4, z5])
   (first | ((with_reducible apply gL F); exact rfl; (exact tL); (with_reducible exact rowQ _); go_simp) | ((refine ⟨?_⟩); go_simp))
   (refine hK _ _ ?_; clear hK K)
   refine dg_one 25 67108863 (by kernel_rfl) rfl (by kernel_rfl) rfl (fun K hK => ?_)
   (simp only [z3, z4, z5])
   (first | ((with_reducible apply gL F); exact rfl; (exact tL); (with_reducible exact rowQ _); go_simp) | ((refine ⟨?_⟩); go_simp))
   (refine hK _ _ ?_; clear hK K)
   exact M _ F
  refine dg_want 25 50331647 rfl (by kernel_rfl) rfl (fun K hK => ?_) ?_
  ·skip
   (simp only [z3, z4, z5])
   (first | ((with_reducible apply gL F); exact rfl; (exact tL); (with_reducible exact rowQ _); go_simp) | ((refine ⟨?_⟩); go_simp))
   (refine hK _ _ ?_; clear hK K)
   refine dg_one 24 67108863 (by kernel_rfl) rfl (by kernel_rfl) rfl (fun K hK => ?_)
   (simp only [z3, z4, z5])
   (first | ((with_reducible apply gL F); exact rfl; (exact tL); (with_reducible exact rowQ _); go_simp) | ((refine ⟨?_⟩); go_simp))
   (refine hK _ _ ?_; clear hK K)
   exact M _ F
  exact dg_nil
 clear F
 intro W F
 refine dg_one 26 134217727 (by kernel_rfl) rfl (by kernel_rfl) rfl (fun K hK => ?_)
 (simp only [z3, z4, z5])
 ((refine ⟨?_⟩); go_simp)
 (refine hK _ _ ?_; clear hK K)
 refine dg_one 27 268435455 (by kernel_rfl) rfl (by kernel_rfl) rfl (fun K hK => ?_)
 (simp only [z3, z4, z5])
 ((refine ⟨?_⟩); go_simp)
 (refine hK _ _ ?_; clear hK K)
 refine dg_one 28 536870911 (by kernel_rfl) rfl (by kernel_rfl) rfl (fun K hK => ?_)
 (simp only [z3, z4, z5])
 ((refine ⟨?_⟩); go_simp)
 (refine hK _ _ ?_; clear hK K)
 refine dg_one 29 1073741823 (by kernel_rfl) rfl (by kernel_rfl) rfl (fun K hK => ?_)
 (simp only [z3, z4, z5])
 ((refine ⟨?_⟩); go_simp)
 (refine hK _ _ ?_; clear hK K)
 refine dg_one 30 2147483647 (by kernel_rfl) rfl (by kernel_rfl) rfl (fun K hK => ?_)
 (simp only [z3, z4, z5])
 ((refine ⟨?_⟩); go_simp)
 (refine hK _ _ ?_; clear hK K)
 refine dg_one 31 4294967295 (by kernel_rfl) rfl (by kernel_rfl) rfl (fun K hK => ?_)
 (simp only [z3, z4, z5])
 ((refine ⟨?_⟩); go_simp)
 (refine hK _ _ ?_; clear hK K)
 refine dg_one 32 8589934591 (by kernel_rfl) rfl (by kernel_rfl) rfl (fun K hK => ?_)
 (simp only [z3, z4, z5])
 ((refine ⟨?_⟩); go_simp)
 (refine hK _ _ ?_; clear hK K)
 refine dg_one 33 17179869183 (by kernel_rfl) rfl (by kernel_rfl) rfl (fun K hK => ?_)
 (simp only [z3, z4, z5])
 ((refine ⟨?_⟩); go_simp)
 (refine hK _ _ ?_; clear hK K)
 refine dg_one 34 34359738367 (by kernel_rfl) rfl (by kernel_rfl) rfl (fun K hK => ?_)
 (simp only [z3, z4, z5])
 ((refine ⟨?_⟩); go_simp)
 (refine hK _ _ ?_; clear hK K)
 refine dg_one 35 68719476735 (by kernel_rfl) rfl (by kernel_rfl) rfl (fun K hK => ?_)
 (simp only [z3, z4, z5])
 ((refine ⟨?_⟩); go_simp)
 (refine hK _ _ ?_; clear hK K)
 refine dg_one 36 137438953471 (by kernel_rfl) rfl (by kernel_rfl) rfl (fun K hK => ?_)
 (simp only [z3, z4, z5])
 ((refine ⟨?_⟩); go_simp)
 (refine hK _ _ ?_; clear hK K)
 refine dg_end (by kernel_rfl) ?_ _
 go_wp2_with (first | go_skip | refine aYQ ?_ | (refine aTQ ?_; clear F; intro W F) | refine aNQ ?_)
 go_ret
 exact ⟨rfl, F.below⟩
theorem day_of (s : List UInt8) : ∃ v e, ∀ a b c d p, cuts s = [a, b, c, d, p] → ParseR (bs d) v e := by
 by_cases h : ∃ a b c d p, cuts s = [a, b, c, d, p]
 ·obtain ⟨a, b, c, d, p, h⟩ := h
  obtain ⟨v, e, hp⟩ := parse_ex (bs d)
  refine ⟨v, e, fun a' b' c' d' p' h' => ?_⟩
  rw [h] at h'
  injection h' with _ h'
  injection h' with _ h'
  injection h' with _ h'
  injection h' with h' _
  rw [← h']
  exact hp
 ·exact ⟨0, 0, fun a b c d p h' => absurd ⟨a, b, c, d, p, h'⟩ h⟩
theorem qprs_b (l : List (List UInt8)) (v e k : Int) : (qprs l v e k).1.a < bp 32 ∧ (qprs l v e k).1.b < bp 32 := by
 have hb : ∀ p : List UInt8, (if p = [45] then ((0 : Int), (0 : Int), (0 : Int)) else prsR p 6).1.natAbs < bp 32 ∧ (if p = [45] then ((0 : Int), (0 : Int), (0 : Int)) else prsR p 6).2.1.natAbs < bp 32 := by
  intro p
  split
  ·exact ⟨bp_pos 32, bp_pos 32⟩
  ·exact prs_b _ _
 unfold qprs
 split
 ·rename_i a b c d p
  have h := hb p
  dsimp only
  generalize (if p = [45] then ((0 : Int), (0 : Int), (0 : Int)) else prsR p 6) = r at h ⊢
  split
  ·exact ⟨bp_pos 32, bp_pos 32⟩
  ·split
   ·exact ⟨bp_pos 32, bp_pos 32⟩
   ·exact h
 ·exact ⟨bp_pos 32, bp_pos 32⟩
set_option maxRecDepth 100000 in
theorem quoteLines_any {q : QT} (hq : q.wf) (s : List UInt8) (hs : s.length ≤ 2000000) (k : Int) (w : World) : Calls Tryz.prog 6 #[.string (bs s), .int .i64 k, .agg (qC q)] w (RetB (.bool true) w) := by
 have F := Fr.start w
 obtain ⟨v, e, hd⟩ := day_of s
 obtain ⟨r, hr⟩ : ∃ r, qprs (cuts s) v e k = r := ⟨_, rfl⟩
 obtain ⟨f, hf⟩ : ∃ f, qfmt q (dayL q.day) = f := ⟨_, rfl⟩
 have g1 := fun w => qparse_any s k (by omega) hd hr w
 have g2 := fun w => rqparse_any s k hs hd hr w
 have g3 := fun w => qformat_any hq hf w
 have g4 := fun w => rqformat_any hq hf w
 have hb := qprs_b (cuts s) v e k
 rw [hr] at hb
 have qq := fun w => eq_quo r.1 hb.1 hb.2 w
 clear hd hr hf hb hs hq
 obtain ⟨r1, r2⟩ := r
 obtain ⟨f1, f2⟩ := f
 dsimp only at g1 g2 g3 g4 qq
 generalize bs s = S at *
 generalize bs f1 = X at *
 go_enter Tryz.func6, Tryz.ntmps6
 go_wp2_with (first | go_skip | refine aYQ ?_ | ((with_reducible apply fSli F slInt); exact rfl; exact rfl; exact rfl; decide; decide; (go_simp; exact rfl); exact rfl) | ((with_reducible apply fSli F slStr); exact rfl; exact rfl; exact rfl; decide; decide; (go_simp; exact rfl); exact rfl) | (refine aTQ ?_; clear F; intro W F) | refine aNQ ?_)
 (clear F; intro b5 W F; try simp only [Act.put, z6, z1, z2])
 go_wp2_with (first | go_skip | ((go_at_call 24); (with_reducible refine fr_call F (g1 _) ?_); (clear F; intro W F); (try dsimp only)) | refine aYQ ?_ | ((with_reducible apply fSli F slInt); exact rfl; exact rfl; exact rfl; decide; decide; (go_simp; exact rfl); exact rfl) | ((with_reducible apply fSli F slStr); exact rfl; exact rfl; exact rfl; decide; decide; (go_simp; exact rfl); exact rfl) | (refine aTQ ?_; clear F; intro W F) | refine aNQ ?_)
 (clear F; intro b7 W F; try simp only [Act.put, z6, z1, z2])
 go_wp2_with (first | go_skip | ((go_at_call 25); (with_reducible refine fr_call F (g2 _) ?_); (clear F; intro W F); (try dsimp only)) | refine aYQ ?_ | ((with_reducible apply fSli F slInt); exact rfl; exact rfl; exact rfl; decide; decide; (go_simp; exact rfl); exact rfl) | ((with_reducible apply fSli F slStr); exact rfl; exact rfl; exact rfl; decide; decide; (go_simp; exact rfl); exact rfl) | (refine aTQ ?_; clear F; intro W F) | refine aNQ ?_)
 (clear F; intro b9 W F; try simp only [Act.put, z6, z1, z2])
 go_wp2_with (first | go_skip | ((go_at_call 26); (with_reducible refine fr_call F (g3 _) ?_); (clear F; intro W F); (try dsimp only)) | ((go_at_call 27); (with_reducible refine fr_call F (g4 _) ?_); (clear F; intro W F); (try dsimp only)) | ((go_at_call 13); (with_reducible refine fr_call F (qknown14_any _) ?_); (clear F; intro W F); (try dsimp only)) | refine aYQ ?_ | ((with_reducible apply fSli F slInt); exact rfl; exact rfl; exact rfl; decide; decide; (go_simp; exact rfl); exact rfl) | ((with_reducible apply fSli F slStr); exact rfl; exact rfl; exact rfl; decide; decide; (go_simp; exact rfl); exact rfl) | (refine aTQ ?_; clear F; intro W F) | refine aNQ ?_)
 go_ret
 exact ⟨rfl, F.below⟩
end
section
section
open Go.ChangeShapes Go.WideShapes Go.ChangeAt Go.RowKit Go.Deep
theorem own : ownKnob Tryz.prog.godebug = none := by kernel_rfl
theorem laidOut : laidOutB Tryz.prog = true := by kernel_rfl
section
variable {H : Type} {enc : TypeId × Value → H}
theorem trodAll_below {P : Program} (hl : laidOutB P = true) {W W' : World} (hb : Below W.heap.size W W') : ∀ {ts : List TypeId} {vs : List Value} {ds : List (DataW H)} {ps : List MemPlace},
  (∀ t ∈ ts, P.readableRec t = true ∧ t < P.types.size) → DataW.TrodAll enc P W 0 (fun _ => true) true ts vs ds ps → (∀ x ∈ ps, x.block < W.heap.size) →
  DataW.TrodAll enc P W' 0 (fun b => decide (b < W.heap.size)) true ts vs ds ps
 | [], [], [], _, _, h, _ => h
 | t :: _, _ :: _, _ :: _, _, hT, ⟨p, q, h1, h2, e⟩, hs =>
  ⟨p, q, Below.trod hl (hT t (by simp)).1 (hT t (by simp)).2 h1 hb (fun x hx => hs x (by rw [e]; exact List.mem_append_left _ hx)),
   trodAll_below hl hb (fun u hu => hT u (by simp [hu])) h2 (fun x hx => hs x (by rw [e]; exact List.mem_append_right _ hx)), e⟩
theorem law_post {f : Func} {s : ChangeSpec} {W W' : World} {args : Array Value} {ds : List (DataW H)} {before : List MemPlace} {e : Ending}
  (hv : s.vars = []) (hs : s.fn H ds = { results := [.lit (.bool true)], args := ds })
  (hT0 : (f.params.toList.all fun t => Tryz.prog.readableRec t && decide (t < Tryz.prog.types.size)) = true) (hR : f.resultTypes = #[4])
  (hW : DataW.Whole enc Tryz.prog f.params.toList s.vars false W args.toList ds [] before) (h : RetB (.bool true) W e W') :
  ∃ v, e = .returned v ∧ s.post enc Tryz.prog f false true false false W args v W' := by
 have hT : ∀ t ∈ f.params.toList, Tryz.prog.readableRec t = true ∧ t < Tryz.prog.types.size := fun t ht => by
  have := List.all_eq_true.1 hT0 t ht
  simpa using this
 obtain ⟨he, hb⟩ := h
 have hlt := hW.lt
 refine ⟨_, he, ds, [], before, [], before, [], hW, ?_, ?_, ?_, ?_, fun h => by cases h⟩
 ·rw [hR]
  simp only [List.append_nil, hs]
  exact trodAll_mk1 (shut_bool Tryz.underlying4 _)
 ·obtain ⟨p, q, hA, hV, rfl, _, _⟩ := hW
  rw [hv] at hV
  obtain ⟨_, rfl⟩ := trodVars_none hV
  simp only [List.append_nil, hs]
  have hA' : DataW.TrodAll enc Tryz.prog W 0 (fun _ => true) true f.params.toList args.toList ds p := hA
  exact trodAll_below laidOut hb hT hA' (fun x hx => hlt x (by simpa using hx))
 ·simp only [List.append_nil, hs, hv]
  rfl
 ·exact hb.frame _
end
end
end
section
open Go.ChangeShapes Go.WideShapes Go.ChangeAt Go.RowKit Go.Deep
theorem lims_of (n : Nat) (k : Nat → Nat) (hk : ∀ i, i < n → k i < 4294967296) : ∃ a, a < bp n ∧ ∀ i, i < n → lim a i = k i := by
 induction n with
 | zero => exact ⟨0, bp_pos 0, fun i h => absurd h (by omega)⟩
 | succ n ih =>
  obtain ⟨a, h1, h2⟩ := ih (fun i h => hk i (by omega))
  refine ⟨setM a n (k n), setM_new_lt h1 (hk n (by omega)), fun i hi => ?_⟩
  by_cases e : i = n
  ·subst e
   rw [lim_set (hk i (by omega)), if_pos rfl]
  ·rw [lim_set (hk n (by omega)), if_neg e]
   exact h2 i (by omega)
section
variable {H : Type} {enc : TypeId × Value → H}
theorem open_arr {W : World} {base : Nat} {sp : Nat → Bool} {held : Bool} {fuel : Nat} {cs : List Value} {x : DataW H × List MemPlace}
  (h : DataW.trod enc Tryz.prog W base sp held fuel 27 cs = some x) : ∃ a, a < bp 32 ∧ cs = (limA 32 a).toList := by
 obtain ⟨e, hu, he, hce⟩ := arr_und
 obtain ⟨xs, m, -, -, hl, hx, hel⟩ := DataW.trod_array hu h
 have hce1 : Tryz.prog.cellsOf e = 1 := by
  unfold Program.cellsOf
  cases hi : Tryz.prog.info? e with
  | none => rw [hi] at hce; cases hce
  | some i => rw [hi] at hce; simpa using hce
 have hl32 : cs.length = 32 := hl.trans (by kernel_rfl)
 have key : ∀ i, ∃ k : Nat, i < 32 → cs[i]? = some (.int .u32 (k : Int)) ∧ k < 4294967296 := by
  intro i
  by_cases hi : i < 32
  ·have h1 := hel i hi
   rw [hce1, Nat.mul_one] at h1
   have h2 : xs[i]? = some xs[i] := List.getElem?_eq_getElem (by omega)
   rw [h2] at h1
   obtain ⟨n, hn, -, hw⟩ := DataW.trod_int he h1
   have h3 : cs[i]? = some (.int .u32 n) := by
    have h4 : cs[i]? = some cs[i] := List.getElem?_eq_getElem (by omega)
    have h5 : (List.take 1 (cs.drop i))[0]? = some cs[i] := by rw [List.getElem?_take_of_lt (by omega), List.getElem?_drop, Nat.add_zero]; exact h4
    rw [hn] at h5
    rw [h4, ← h5]
    rfl
   have hb : 0 ≤ n ∧ n < 4294967296 := by
    simp [Lit.wf, IntKind.min, IntKind.max, IntKind.signed, IntKind.bits] at hw
    omega
   exact ⟨n.toNat, fun _ => ⟨by rw [h3, Int.toNat_of_nonneg hb.1], by omega⟩⟩
  ·exact ⟨0, fun h => absurd h hi⟩
 obtain ⟨a, ha, hlim⟩ := lims_of 32 (fun i => (key i).choose) (fun i hi => ((key i).choose_spec hi).2)
 refine ⟨a, ha, List.ext_getElem? fun i => ?_⟩
 by_cases hi : i < 32
 ·have h6 : (limA 32 a).toList[i]? = (limA 32 a)[i]? := by simp
  rw [h6, limA_at hi, hlim i hi]
  exact ((key i).choose_spec hi).1
 ·rw [List.getElem?_eq_none (by omega), List.getElem?_eq_none (by rw [Array.length_toList, limA_size]; omega)]
set_option maxRecDepth 100000 in
theorem open_int33 {W : World} {base : Nat} {sp : Nat → Bool} {held : Bool} {fuel : Nat} {cs : List Value} {x : DataW H × List MemPlace}
  (h : DataW.trod enc Tryz.prog W base sp held fuel 29 cs = some x) : ∃ (n : Bool) (a : Nat), a < bp 32 ∧ cs = (intC n a).toList := by
 obtain ⟨y0, y1, n, -, hl, h0, h1⟩ := trod_struct2 Tryz.underlying29 h
 have hl33 : cs.length = 33 := hl.trans (by kernel_rfl)
 have c0 : Tryz.prog.cellsOf 4 = 1 := by kernel_rfl
 have c1 : Tryz.prog.cellsOf 27 = 32 := by kernel_rfl
 have h0' : DataW.trod enc Tryz.prog W base sp held n 4 (cs.take 1) = some y0 := by rw [← c0]; exact h0
 have h1' : DataW.trod enc Tryz.prog W base sp held n 27 ((cs.drop 1).take 32) = some y1 := by rw [← c1]; exact h1
 obtain ⟨b, hb, -⟩ := DataW.trod_bool Tryz.underlying4 h0'
 obtain ⟨a, ha, hc⟩ := open_arr h1'
 refine ⟨b, a, ha, ?_⟩
 rw [List.take_of_length_le (by rw [List.length_drop]; omega)] at hc
 unfold intC
 rw [Array.toList_append, ← hc]
 show cs = [.bool b] ++ cs.drop 1
 rw [← hb, List.take_append_drop]
set_option maxRecDepth 100000 in
theorem open_rat {W : World} {base : Nat} {sp : Nat → Bool} {held : Bool} {fuel : Nat} {cs : List Value} {x : DataW H × List MemPlace}
  (h : DataW.trod enc Tryz.prog W base sp held fuel 31 cs = some x) : ∃ (p : Bool) (a : Nat) (q : Bool) (b : Nat), a < bp 32 ∧ b < bp 32 ∧ cs = (ratC p a q b).toList := by
 obtain ⟨y0, y1, n, -, hl, h0, h1⟩ := trod_struct2 Tryz.underlying31 h
 have hl66 : cs.length = 66 := hl.trans (by kernel_rfl)
 have c0 : Tryz.prog.cellsOf 29 = 33 := by kernel_rfl
 have h0' : DataW.trod enc Tryz.prog W base sp held n 29 (cs.take 33) = some y0 := by rw [← c0]; exact h0
 have h1' : DataW.trod enc Tryz.prog W base sp held n 29 ((cs.drop 33).take 33) = some y1 := by rw [← c0]; exact h1
 obtain ⟨p, a, ha, e1⟩ := open_int33 h0'
 obtain ⟨q, b, hb, e2⟩ := open_int33 h1'
 rw [List.take_of_length_le (by rw [List.length_drop]; omega)] at e2
 refine ⟨p, a, q, b, ha, hb, ?_⟩
 unfold ratC
 rw [Array.toList_append, ← e1, ← e2, List.take_append_drop]
end
end
section
open Go.ChangeShapes Go.WideShapes Go.ChangeAt Go.RowKit Go.Deep
abbrev laid7 : List (String × DataW Unit) := [("math/bits.deBruijn32tab", Rows.laid_math_bits_deBruijn32tab), ("math/bits.deBruijn64tab", Rows.laid_math_bits_deBruijn64tab), ("internal/strconv.uint64pow10", Rows.laid_internal_strconv_uint64pow10), ("unicode/utf8.acceptRanges", Rows.laid_unicode_utf8_acceptRanges), ("strconv.ErrRange", Rows.laid_strconv_ErrRange), ("strconv.ErrSyntax", Rows.laid_strconv_ErrSyntax), ("unicode/utf8.first", Rows.laid_unicode_utf8_first)]
theorem door7 (os : Os) (args : Array Value) : laidMetH Tryz.prog laid7 ((World.laidAll Tryz.prog os laid7).forCall (fun _ _ => 0) ⟨#[], args, []⟩).memory := by
 rw [MakeChecks.laidMetH_plain _ _ _ (by kernel_rfl)]
 exact laidMet_laidAll _ (by kernel_rfl) (by kernel_rfl)
end
section
def hH : List Char := [104, 97, 114, 110, 101, 115, 115].map Char.ofNat
def hS : List Char := [49, 97, 50, 56, 100, 98, 50, 50, 52, 102, 101, 101, 52, 56, 52, 54, 48, 98, 99, 55, 55, 102, 98, 101, 100, 49, 48, 98, 50, 100, 101, 55, 53, 101, 54, 98, 54, 102, 100, 55, 101, 51, 48, 100, 98, 52, 55, 55, 100, 57, 57, 98, 53, 53, 102, 48, 101, 99, 57, 57, 51, 49, 97, 57].map Char.ofNat
def hC : List Char := [99, 117, 116].map Char.ofNat
def hQ : List Char := [97, 116, 32, 102, 117, 110, 100, 97, 100, 109, 105, 110, 47, 102, 117, 110, 100, 97, 100, 109, 105, 110, 108, 97, 119, 49, 52, 46, 81, 117, 111, 116, 101, 66, 111, 111, 107, 115, 32, 102, 117, 110, 100, 97, 100, 109, 105, 110, 47, 102, 117, 110, 100, 97, 100, 109, 105, 110, 108, 97, 119, 49, 52, 46, 81, 117, 111, 116, 101, 80, 108, 97, 121, 115, 32, 102, 117, 110, 100, 97, 100, 109, 105, 110, 47, 102, 117, 110, 100, 97, 100, 109, 105, 110, 108, 97, 119, 49, 52, 46, 81, 117, 111, 116, 101, 67, 111, 114, 114, 101, 99, 116, 115, 32, 102, 117, 110, 100, 97, 100, 109, 105, 110, 47, 102, 117, 110, 100, 97, 100, 109, 105, 110, 108, 97, 119, 49, 52, 46, 81, 117, 111, 116, 101, 76, 105, 110, 101, 115, 32, 102, 117, 110, 100, 97, 100, 109, 105, 110, 47, 102, 117, 110, 100, 97, 100, 109, 105, 110, 108, 97, 119, 49, 52, 46, 81, 117, 111, 116, 101, 82, 101, 97, 100, 115, 32, 102, 117, 110, 100, 97, 100, 109, 105, 110, 47, 102, 117, 110, 100, 97, 100, 109, 105, 110, 108, 97, 119, 49, 52, 46, 81, 117, 111, 116, 101, 66, 97, 99, 107].map Char.ofNat
def hB : Char := Char.ofNat 32
theorem ord_eq : Tryz.prog.initOrder = String.ofList (hH ++ hB :: (hS ++ hB :: (hC ++ hB :: hQ))) := by kernel_rfl
theorem ord_list : Tryz.prog.initOrder.toList = hH ++ hB :: (hS ++ hB :: (hC ++ hB :: hQ)) := by rw [ord_eq]; exact String.toList_ofList
theorem words_app (p r : List Char) (h : p.all (fun c => decide (c ≠ hB)) = true) : wordsSigns (p ++ hB :: r) = p :: wordsSigns r := by
 induction p with
 | nil => rfl
 | cons c p ih =>
  simp only [List.all_cons, Bool.and_eq_true, decide_eq_true_eq] at h
  have ih' := ih h.2
  show wordsSigns (c :: (p ++ hB :: r)) = (c :: p) :: wordsSigns r
  rw [wordsSigns.eq_def]
  split
  ·rename_i hh; cases hh
  ·rename_i r' hh
   injection hh with h1 h2
   exact absurd h1 h.1
  ·rename_i c' r' _ hh
   injection hh with h1 h2
   subst h1 h2
   rw [ih']
theorem behind_at (h : List Char) (t : List Char) (r : List (List Char)) (hh : ((h == "harness".toList || h == "ownmain".toList) && isSumSigns t) = true) : behindMainWord (h :: t :: r) = r := by
 show (if ((h == "harness".toList || h == "ownmain".toList) && isSumSigns t) = true then r else h :: t :: r) = r
 rw [if_pos hh]
theorem behind : behindMainWord (wordsSigns Tryz.prog.initOrder.toList) = hC :: wordsSigns hQ := by
 rw [ord_list, words_app _ _ (by decide +kernel), words_app _ _ (by decide +kernel), words_app _ _ (by decide +kernel)]
 exact behind_at _ _ _ (by decide +kernel)
theorem st1 (o : String) (os : List String) (w : List Char) (ws : List (List Char)) (h : (w == o.toList) = false) : stripLifts (o :: os) (w :: ws) = stripLifts os (w :: ws) := by
 rw [stripLifts, h]; rfl
theorem strip_cut (ws : List (List Char)) : stripLifts liftWords (hC :: ws) = ([], hC :: ws) := by
 show stripLifts ["finals", "reflectrows", "leanrows", "onebuild", "publicsums", "eqguard", "ownunsafe", "libbeside", "ownbeside", "reflbeside", "aliases", "afterinit", "crcplain", "roadunsafe", "fmthandon"] (hC :: ws) = _
 rw [st1 _ _ _ _ (by decide +kernel), st1 _ _ _ _ (by decide +kernel), st1 _ _ _ _ (by decide +kernel), st1 _ _ _ _ (by decide +kernel), st1 _ _ _ _ (by decide +kernel), st1 _ _ _ _ (by decide +kernel), st1 _ _ _ _ (by decide +kernel), st1 _ _ _ _ (by decide +kernel), st1 _ _ _ _ (by decide +kernel), st1 _ _ _ _ (by decide +kernel), st1 _ _ _ _ (by decide +kernel), st1 _ _ _ _ (by decide +kernel), st1 _ _ _ _ (by decide +kernel), st1 _ _ _ _ (by decide +kernel), st1 _ _ _ _ (by decide +kernel)]
 rfl
theorem mayEnter_of (P : Program) (ws : List (List Char)) (h : behindMainWord (wordsSigns P.initOrder.toList) = hC :: ws) (h1 : P.laysLater = false) (h2 : P.bearsReflect = false) (h3 : P.doorFits [] = true) : P.mayEnter = true := by
 unfold Program.mayEnter
 rw [h]
 simp only [strip_cut, h1, h2, h3]
 have e : ((List.head? (hC :: ws)) == some "cut".toList) = true := by
  show (hC == "cut".toList) = true
  decide +kernel
 rw [e]
 simp
theorem headLifts_of (P : Program) (ws : List (List Char)) (h : behindMainWord (wordsSigns P.initOrder.toList) = hC :: ws) : P.headLifts = [] := by
 unfold Program.headLifts
 rw [h]
 simp only [strip_cut]
 split <;> rfl
theorem liftsFinal_of (P : Program) (ws : List (List Char)) (h : behindMainWord (wordsSigns P.initOrder.toList) = hC :: ws) : P.liftsFinal = false := by
 unfold Program.liftsFinal
 rw [h, headLifts_of P ws h]
 have e : ((List.head? (hC :: ws)) == some "carried".toList) = false := by
  show (hC == "carried".toList) = false
  decide +kernel
 simp only [e]
 simp
theorem make_of (P : Program) (ws : List (List Char)) (h : behindMainWord (wordsSigns P.initOrder.toList) = hC :: ws) : P.make = some .cut := by
 unfold Program.make
 rw [h]
 have e1 : (hC == "gc".toList || hC == "spec".toList) = false := by decide +kernel
 have e2 : (hC == "cut".toList) = true := by decide +kernel
 simp only [e1, e2]
 simp
theorem mayEnter_eq : Tryz.prog.mayEnter = true := mayEnter_of _ _ behind (by kernel_rfl) (by kernel_rfl) (by kernel_rfl)
theorem liftsFinal_eq : Tryz.prog.liftsFinal = false := liftsFinal_of _ _ behind
theorem make_eq : Tryz.prog.make = some .cut := make_of _ _ behind
end
end Go.Proofs.YteaahhokaffmdaaGreatDoor
