/- What the laws lean on. -/
import Derived.Test.YtpaodheilchfnaaGreatDoorPz11
import Derived.Test.YtpaodheilchfnaaGreatDoorPz12
import Derived.Test.YtpaodheilchfnaaGreatDoorPz14
import Derived.Test.YtpaodheilchfnaaGreatDoorPz15
import Derived.Test.YtpaodheilchfnaaGreatDoorPz25
import Derived.Lay
import Derived.LaidOnce
namespace Go.Proofs.YtpaodheilchfnaaGreatDoor
set_option linter.unusedVariables false
set_option linter.unusedSimpArgs false
section
section
open Go.RowKit
def lp (y : Int) : Int := if y % 4 = 0 ∧ y ≠ 2100 then 1 else 0
end
end
section
section
open Go.RowKit
section
variable {W0 W W' : World} {e : TypeId} {sz : Nat} {v v' : Value} {n n' : Nat} {xs xs' : List Value}
theorem OwnL.pushed (h : OwnL W0 W e sz v n xs) (hg : W.grownBy W' v.ownBlock) (hown : W'.ownsRow W0.heap.size e sz v' n' xs') : OwnL W0 W' e sz v' n' xs' :=
  ⟨⟨hg.os.trans h.below.os, hg.tape.trans h.below.tape, hg.output.trans h.below.output, Nat.le_trans h.below.size hg.size, fun i hi => (hg.block i (Nat.lt_of_lt_of_le hi h.below.size) (fun e => by have := (h.own.lt i e.symm).1; omega)).trans (h.below.block i hi)⟩, hown⟩
end
end
section
open Go.RowKit
section
variable {W W' : World} {A : Option Addr} {n : Nat} {L : List (List Value)}
theorem RecsAt.grown {g : Option Nat} (h : RecsAt W A n L) (hg : W.grownBy W' g) (hf : ∀ (k : Nat) (r : List Value), L[k]? = some r → ∀ ad : Addr, A = some ad → g ≠ some ad.block) : RecsAt W' A n L :=
  h.keep hg.size fun k r hr ad hA => by
    obtain ⟨b, o, hA2, hlt, _⟩ := h.rows k r hr
    rw [hA] at hA2
    injection hA2 with e
    subst e
    exact hg.block _ hlt (fun e => hf k r hr _ hA e.symm)
end
end
section
open Go.RowKit
section
variable {P : Program} {ops : Array Oper} {rest : List Oper} {o : Oper} {a : Act} {Q : Exit → Act → World → Prop}
theorem wpl_push {T E : TypeId} {sz bytes : Nat} (hel : ElT P T E sz bytes) (hgd : o.guard = none) (s x : Operand) (ho : o.op = .call { callee := .builtin .append, args := #[s, x], argTypes := #[T, T] })
    {W0 W : World} {v : Value} {n : Nat} {xs : List Value} (hO : OwnL W0 W E sz v n xs) (hs : a.eval s = v) (news : Array Value) (hx : a.eval x = .slice (some ⟨W.heap.size, 0, none⟩) 1 1) (hl : news.size = sz) (h1 : news.toList.all (·.oneCell') = true)
    (hn : n ≤ 100000) (hb : bytes ≤ 10000)
    (h : ∀ v' w', OwnL W0 w' E sz v' (n + 1) (xs ++ news.toList) → (W.alloc (.cells news E)).grownBy w' v.ownBlock → wpList P ops Q rest (a.put o.dst v') w') : wpList P ops Q (o :: rest) a (W.alloc (.cells news E)) := by
  obtain ⟨i, z, hi, hz, hsz, hby, hzs⟩ := hel.info
  refine wpList_append_own _ hgd s x T ho W0.heap.size E i z sz bytes hel.sl hi hz hsz hby hzs hel.pos v n xs hs (hO.own.alloc _) ⟨W.heap.size, 0, none⟩ 1 1 news.toList hx (by simp [hl]) (fun j u hj => ?_) (fun u hu => ?_) (by unfold maxLen; omega) ?_ (by have := hO.below.size; simp; omega) ?_
  · rw [Go.WideShapes.add_plain, Nat.zero_add, World.cell?_alloc_new]
    simpa using hj
  · exact List.all_eq_true.1 h1 u hu
  · have : (n + 1) * bytes ≤ 100001 * 10000 := Nat.mul_le_mul (by omega) hb
    omega
  · intro v' w' hown hg _
    exact h v' w' ((hO.next (bal0 _ _)).pushed hg hown) hg
end
end
end
section
open Go.RowKit
section
variable {w W W' : World} {L A : List Ent} {b i : Nat} {cs cs' : Array Value} {t : TypeId} {x : Ent}
theorem Fr.ge (h : Fr w W ((b, cs, t) :: L)) : w.heap.size ≤ b := h.own (b, cs, t) (List.mem_cons_self ..)
end
end
section
open Go.RowKit
set_option maxHeartbeats 2000000
set_option maxRecDepth 100000 in
theorem mulF {n d m e : Int} (hn : n.natAbs < bp 15) (hd : d.natAbs < bp 15) (hm : m.natAbs < bp 15) (he : e.natAbs < bp 15) (w : World) : Calls Tryz.prog 143 #[.agg (RC n d), .agg (RC m e)] w (RetB (.tuple #[.agg (IC (n * m)), .agg (IC (d * e))]) w) := by
  have F := Fr.start w
  have g1 := fun w => productZ (b15 hn) (b15 hm) (b30 hn hm) w
  have g2 := fun w => productZ (b15 hd) (b15 he) (b30 hd he) w
  clear hn hd hm he
  go_enter Tryz.func143, Tryz.ntmps143
  go_wp2_with (first | go_skip | ((with_reducible apply fL F); exact rfl; exact rfl; (exact tL); (exact tR2)) | ((with_reducible apply fLm F); exact rfl; exact rfl; (exact tL); (exact tM2); (exact tR2)) | ((with_reducible apply fA_int F); exact rfl) | ((with_reducible apply fX_rat F); exact rfl; exact rfl) | ((with_reducible apply fS F); exact rfl; exact rfl; exact rfl; (exact tL); (exact tR2); (exact tS2); clear F; intro W F; simp only [z7, z8] at F))
  (clear F; intro b2 W F; try simp only [Act.put, z6, z1, z2])
  go_wp2_with (first | go_skip | ((with_reducible apply fL F); exact rfl; exact rfl; (exact tL); (exact tR2)) | ((with_reducible apply fLm F); exact rfl; exact rfl; (exact tL); (exact tM2); (exact tR2)) | ((with_reducible apply fA_int F); exact rfl) | ((with_reducible apply fX_rat F); exact rfl; exact rfl) | ((with_reducible apply fS F); exact rfl; exact rfl; exact rfl; (exact tL); (exact tR2); (exact tS2); clear F; intro W F; simp only [z7, z8] at F))
  (clear F; intro b3 W F; try simp only [Act.put, z6, z1, z2])
  go_wp2_with (first | go_skip | ((with_reducible apply fL F); exact rfl; exact rfl; (exact tL); (exact tR2)) | ((with_reducible apply fLm F); exact rfl; exact rfl; (exact tL); (exact tM2); (exact tR2)) | ((with_reducible apply fA_int F); exact rfl) | ((with_reducible apply fX_rat F); exact rfl; exact rfl) | ((with_reducible apply fS F); exact rfl; exact rfl; exact rfl; (exact tL); (exact tR2); (exact tS2); clear F; intro W F; simp only [z7, z8] at F))
  (clear F; intro b4 W F; try simp only [Act.put, z6, z1, z2])
  go_wp2_with (first | go_skip | ((with_reducible apply fL F); exact rfl; exact rfl; (exact tL); (exact tR2)) | ((with_reducible apply fLm F); exact rfl; exact rfl; (exact tL); (exact tM2); (exact tR2)) | ((with_reducible apply fA_int F); exact rfl) | ((with_reducible apply fX_rat F); exact rfl; exact rfl) | ((with_reducible apply fS F); exact rfl; exact rfl; exact rfl; (exact tL); (exact tR2); (exact tS2); clear F; intro W F; simp only [z7, z8] at F))
  (clear F; intro b5 W F; try simp only [Act.put, z6, z1, z2])
  go_wp2_with (first | go_skip | ((with_reducible apply fL F); exact rfl; exact rfl; (exact tL); (exact tR2)) | ((with_reducible apply fLm F); exact rfl; exact rfl; (exact tL); (exact tM2); (exact tR2)) | ((with_reducible apply fA_int F); exact rfl) | ((with_reducible apply fX_rat F); exact rfl; exact rfl) | ((with_reducible apply fS F); exact rfl; exact rfl; exact rfl; (exact tL); (exact tR2); (exact tS2); clear F; intro W F; simp only [z7, z8] at F))
  try simp only [Act.put, z6, z1, z2]
  refine wp_region_slots mixP [6, 7, 8, 9, 10, 11, 12, 13, 14, 15] (fun l mm W => ∃ (s6 s7 s8 s9 s10 s11 s12 s13 s14 s15 : Value) (c_b4 c_b5 : Array Value), mm = [s6, s7, s8, s9, s10, s11, s12, s13, s14, s15] ∧ (l.getD 0 false = true → s6 = .pointer (some ⟨b2, 0, none⟩)) ∧ (l.getD 1 false = true → s7 = .agg (IC n)) ∧ (l.getD 2 false = true → s8 = .pointer (some ⟨b3, 0, none⟩)) ∧ (l.getD 3 false = true → s9 = .agg (IC m)) ∧ (l.getD 4 false = true → s10 = .agg (IC (n * m))) ∧ (l.getD 5 false = true → s11 = .pointer (some ⟨b2, 33, none⟩)) ∧ (l.getD 6 false = true → s12 = .agg (IC d)) ∧ (l.getD 7 false = true → s13 = .pointer (some ⟨b3, 33, none⟩)) ∧ (l.getD 8 false = true → s14 = .agg (IC e)) ∧ (l.getD 9 false = true → s15 = .agg (IC (d * e))) ∧ (l.getD 10 false = true → c_b4 = IC (n * m)) ∧ (l.getD 11 false = true → c_b5 = IC (d * e)) ∧ c_b4.size = (IC (n * m)).size ∧ c_b5.size = (IC (d * e)).size ∧ Fr w W [(b5, c_b5, 29), (b4, c_b4, 29), (b3, RC m e, 31), (b2, RC n d, 31)]) (by kernel_rfl) rfl ?_ ?_ ?_
  · exact ⟨_, _, _, _, _, _, _, _, _, _, (intC false 0), (intC false 0), rfl, nf, nf, nf, nf, nf, nf, nf, nf, nf, nf, nf, nf, by exact tS2, by exact tS2, F.drew⟩
  · rintro listed mm W ii hi hsz hoff ⟨s6, s7, s8, s9, s10, s11, s12, s13, s14, s15, c_b4, c_b5, rfl, h0, h1, h2, h3, h4, h5, h6, h7, h8, h9, h10, h11, hz0, hz1, HF⟩ hd
    have hc : ii = 0 ∨ ii = 1 ∨ ii = 2 ∨ ii = 3 ∨ ii = 4 ∨ ii = 5 ∨ ii = 6 ∨ ii = 7 ∨ ii = 8 ∨ ii = 9 ∨ ii = 10 ∨ ii = 11 := by
      have hi2 : ii < 12 := hi
      omega
    have hsz2 : listed.size = 12 := hsz
    clear hi hsz
    rcases hc with rfl | rfl | rfl | rfl | rfl | rfl | rfl | rfl | rfl | rfl | rfl | rfl
    · refine wpOp_want rfl rfl (fun K hK => ?_)
      simp only [putAll, z1, z2, z3, z4, z5]
      refine ⟨?_⟩
      go_simp
      exact hK _ _ ⟨[(.pointer (some ⟨b2, 0, none⟩)), s7, s8, s9, s10, s11, s12, s13, s14, s15], by simp only [putAll, z1, z2], (.pointer (some ⟨b2, 0, none⟩)), s7, s8, s9, s10, s11, s12, s13, s14, s15, c_b4, c_b5, rfl, fun _ => rfl, lk h1, lk h2, lk h3, lk h4, lk h5, lk h6, lk h7, lk h8, lk h9, lk h10, lk h11, hz0, hz1, HF⟩
    · have d0 := h0 (hd 0 (by kernel_rfl))
      obtain rfl := d0
      refine wpOp_want rfl rfl (fun K hK => ?_)
      simp only [putAll, z1, z2, z3, z4, z5]
      with_reducible apply gLm HF
      · exact rfl
      · (exact tL)
      · exact RC_num _ _
      · (first | (exact tR2))
      go_simp
      exact hK _ _ ⟨[(.pointer (some ⟨b2, 0, none⟩)), (.agg (IC n)), s8, s9, s10, s11, s12, s13, s14, s15], by simp only [putAll, z1, z2], (.pointer (some ⟨b2, 0, none⟩)), (.agg (IC n)), s8, s9, s10, s11, s12, s13, s14, s15, c_b4, c_b5, rfl, lk h0, fun _ => rfl, lk h2, lk h3, lk h4, lk h5, lk h6, lk h7, lk h8, lk h9, lk h10, lk h11, hz0, hz1, HF⟩
    · refine wpOp_want rfl rfl (fun K hK => ?_)
      simp only [putAll, z1, z2, z3, z4, z5]
      refine ⟨?_⟩
      go_simp
      exact hK _ _ ⟨[s6, s7, (.pointer (some ⟨b3, 0, none⟩)), s9, s10, s11, s12, s13, s14, s15], by simp only [putAll, z1, z2], s6, s7, (.pointer (some ⟨b3, 0, none⟩)), s9, s10, s11, s12, s13, s14, s15, c_b4, c_b5, rfl, lk h0, lk h1, fun _ => rfl, lk h3, lk h4, lk h5, lk h6, lk h7, lk h8, lk h9, lk h10, lk h11, hz0, hz1, HF⟩
    · have d2 := h2 (hd 2 (by kernel_rfl))
      obtain rfl := d2
      refine wpOp_want rfl rfl (fun K hK => ?_)
      simp only [putAll, z1, z2, z3, z4, z5]
      with_reducible apply gLm HF
      · exact rfl
      · (exact tL)
      · exact RC_num _ _
      · (first | (exact tR2))
      go_simp
      exact hK _ _ ⟨[s6, s7, (.pointer (some ⟨b3, 0, none⟩)), (.agg (IC m)), s10, s11, s12, s13, s14, s15], by simp only [putAll, z1, z2], s6, s7, (.pointer (some ⟨b3, 0, none⟩)), (.agg (IC m)), s10, s11, s12, s13, s14, s15, c_b4, c_b5, rfl, lk h0, lk h1, lk h2, fun _ => rfl, lk h4, lk h5, lk h6, lk h7, lk h8, lk h9, lk h10, lk h11, hz0, hz1, HF⟩
    · have d1 := h1 (hd 1 (by kernel_rfl))
      have d3 := h3 (hd 3 (by kernel_rfl))
      obtain rfl := d1
      obtain rfl := d3
      refine wpOp_want rfl rfl (fun K hK => ?_)
      simp only [putAll, z1, z2, z3, z4, z5]
      refine ⟨?_⟩
      go_simp
      with_reducible refine fr_call HF (g1 _) ?_
      clear HF
      intro W HF
      (try dsimp only)
      exact hK _ _ ⟨[s6, (.agg (IC n)), s8, (.agg (IC m)), (.agg (IC (n * m))), s11, s12, s13, s14, s15], by simp only [putAll, z1, z2], s6, (.agg (IC n)), s8, (.agg (IC m)), (.agg (IC (n * m))), s11, s12, s13, s14, s15, c_b4, c_b5, rfl, lk h0, lk h1, lk h2, lk h3, fun _ => rfl, lk h5, lk h6, lk h7, lk h8, lk h9, lk h10, lk h11, hz0, hz1, HF⟩
    · refine wpOp_want rfl rfl (fun K hK => ?_)
      simp only [putAll, z1, z2, z3, z4, z5]
      refine ⟨?_⟩
      go_simp
      exact hK _ _ ⟨[s6, s7, s8, s9, s10, (.pointer (some ⟨b2, 33, none⟩)), s12, s13, s14, s15], by simp only [putAll, z1, z2], s6, s7, s8, s9, s10, (.pointer (some ⟨b2, 33, none⟩)), s12, s13, s14, s15, c_b4, c_b5, rfl, lk h0, lk h1, lk h2, lk h3, lk h4, fun _ => rfl, lk h6, lk h7, lk h8, lk h9, lk h10, lk h11, hz0, hz1, HF⟩
    · have d5 := h5 (hd 5 (by kernel_rfl))
      obtain rfl := d5
      refine wpOp_want rfl rfl (fun K hK => ?_)
      simp only [putAll, z1, z2, z3, z4, z5]
      with_reducible apply gLm HF
      · exact rfl
      · (exact tL)
      · exact RC_den _ _
      · (first | (exact tR2))
      go_simp
      exact hK _ _ ⟨[s6, s7, s8, s9, s10, (.pointer (some ⟨b2, 33, none⟩)), (.agg (IC d)), s13, s14, s15], by simp only [putAll, z1, z2], s6, s7, s8, s9, s10, (.pointer (some ⟨b2, 33, none⟩)), (.agg (IC d)), s13, s14, s15, c_b4, c_b5, rfl, lk h0, lk h1, lk h2, lk h3, lk h4, lk h5, fun _ => rfl, lk h7, lk h8, lk h9, lk h10, lk h11, hz0, hz1, HF⟩
    · refine wpOp_want rfl rfl (fun K hK => ?_)
      simp only [putAll, z1, z2, z3, z4, z5]
      refine ⟨?_⟩
      go_simp
      exact hK _ _ ⟨[s6, s7, s8, s9, s10, s11, s12, (.pointer (some ⟨b3, 33, none⟩)), s14, s15], by simp only [putAll, z1, z2], s6, s7, s8, s9, s10, s11, s12, (.pointer (some ⟨b3, 33, none⟩)), s14, s15, c_b4, c_b5, rfl, lk h0, lk h1, lk h2, lk h3, lk h4, lk h5, lk h6, fun _ => rfl, lk h8, lk h9, lk h10, lk h11, hz0, hz1, HF⟩
    · have d7 := h7 (hd 7 (by kernel_rfl))
      obtain rfl := d7
      refine wpOp_want rfl rfl (fun K hK => ?_)
      simp only [putAll, z1, z2, z3, z4, z5]
      with_reducible apply gLm HF
      · exact rfl
      · (exact tL)
      · exact RC_den _ _
      · (first | (exact tR2))
      go_simp
      exact hK _ _ ⟨[s6, s7, s8, s9, s10, s11, s12, (.pointer (some ⟨b3, 33, none⟩)), (.agg (IC e)), s15], by simp only [putAll, z1, z2], s6, s7, s8, s9, s10, s11, s12, (.pointer (some ⟨b3, 33, none⟩)), (.agg (IC e)), s15, c_b4, c_b5, rfl, lk h0, lk h1, lk h2, lk h3, lk h4, lk h5, lk h6, lk h7, fun _ => rfl, lk h9, lk h10, lk h11, hz0, hz1, HF⟩
    · have d6 := h6 (hd 6 (by kernel_rfl))
      have d8 := h8 (hd 8 (by kernel_rfl))
      obtain rfl := d6
      obtain rfl := d8
      refine wpOp_want rfl rfl (fun K hK => ?_)
      simp only [putAll, z1, z2, z3, z4, z5]
      refine ⟨?_⟩
      go_simp
      with_reducible refine fr_call HF (g2 _) ?_
      clear HF
      intro W HF
      (try dsimp only)
      exact hK _ _ ⟨[s6, s7, s8, s9, s10, s11, (.agg (IC d)), s13, (.agg (IC e)), (.agg (IC (d * e)))], by simp only [putAll, z1, z2], s6, s7, s8, s9, s10, s11, (.agg (IC d)), s13, (.agg (IC e)), (.agg (IC (d * e))), c_b4, c_b5, rfl, lk h0, lk h1, lk h2, lk h3, lk h4, lk h5, lk h6, lk h7, lk h8, fun _ => rfl, lk h10, lk h11, hz0, hz1, HF⟩
    · have d4 := h4 (hd 4 (by kernel_rfl))
      obtain rfl := d4
      refine wpOp_want rfl rfl (fun K hK => ?_)
      simp only [putAll, z1, z2, z3, z4, z5]
      with_reducible apply gS HF
      · exact rfl
      · exact rfl
      · (exact tL)
      · (first | (exact tR2))
      · first | exact hz0 | exact tS2
      clear HF
      intro W HF
      simp only [z7, z8] at HF
      go_simp
      exact hK _ _ ⟨[s6, s7, s8, s9, (.agg (IC (n * m))), s11, s12, s13, s14, s15], by simp only [putAll, z1, z2], s6, s7, s8, s9, (.agg (IC (n * m))), s11, s12, s13, s14, s15, (IC (n * m)), c_b5, rfl, lk h0, lk h1, lk h2, lk h3, lk h4, lk h5, lk h6, lk h7, lk h8, lk h9, fun _ => rfl, lk h11, rfl, hz1, HF⟩
    · have d9 := h9 (hd 9 (by kernel_rfl))
      obtain rfl := d9
      refine wpOp_want rfl rfl (fun K hK => ?_)
      simp only [putAll, z1, z2, z3, z4, z5]
      with_reducible apply gS HF
      · exact rfl
      · exact rfl
      · (exact tL)
      · (first | (exact tR2))
      · first | exact hz1 | exact tS2
      clear HF
      intro W HF
      simp only [z7, z8] at HF
      go_simp
      exact hK _ _ ⟨[s6, s7, s8, s9, s10, s11, s12, s13, s14, (.agg (IC (d * e)))], by simp only [putAll, z1, z2], s6, s7, s8, s9, s10, s11, s12, s13, s14, (.agg (IC (d * e))), c_b4, (IC (d * e)), rfl, lk h0, lk h1, lk h2, lk h3, lk h4, lk h5, lk h6, lk h7, lk h8, lk h9, lk h10, fun _ => rfl, hz0, rfl, HF⟩
  rintro listed mm W ⟨s6, s7, s8, s9, s10, s11, s12, s13, s14, s15, c_b4, c_b5, rfl, h0, h1, h2, h3, h4, h5, h6, h7, h8, h9, h10, h11, hz0, hz1, HF⟩ hall
  obtain rfl := h0 (hall 0 (by decide))
  obtain rfl := h1 (hall 1 (by decide))
  obtain rfl := h2 (hall 2 (by decide))
  obtain rfl := h3 (hall 3 (by decide))
  obtain rfl := h4 (hall 4 (by decide))
  obtain rfl := h5 (hall 5 (by decide))
  obtain rfl := h6 (hall 6 (by decide))
  obtain rfl := h7 (hall 7 (by decide))
  obtain rfl := h8 (hall 8 (by decide))
  obtain rfl := h9 (hall 9 (by decide))
  rw [h10 (hall 10 (by decide))] at HF
  rw [h11 (hall 11 (by decide))] at HF
  clear hall h0 h1 h2 h3 h4 h5 h6 h7 h8 h9 h10 h11 hz0 hz1 F
  have F := HF
  clear HF
  simp only [putAll, z1, z2]
  go_wp2_with (first | go_skip | ((with_reducible apply fL F); exact rfl; exact rfl; (exact tL); (exact tR2)) | ((with_reducible apply fLm F); exact rfl; exact rfl; (exact tL); (exact tM2); (exact tR2)) | ((with_reducible apply fA_int F); exact rfl) | ((with_reducible apply fX_rat F); exact rfl; exact rfl) | ((with_reducible apply fS F); exact rfl; exact rfl; exact rfl; (exact tL); (exact tR2); (exact tS2); clear F; intro W F; simp only [z7, z8] at F))
  exact bodyPost_ret (res_cc rfl rfl rfl (Fr.get F tL) (rowIC _) (Fr.get F tL) (rowIC _)) rfl ⟨rfl, F.below⟩
set_option maxRecDepth 100000 in
theorem calcMul {x : Bool} {a : Nat} {y : Bool} {b : Nat} {x' : Bool} {a' : Nat} {y' : Bool} {b' : Nat} (ha : a < bp 32) (hb : b < bp 32) (ha' : a' < bp 32) (hb' : b' < bp 32)  (w : World) {r : Int × Int × Int}
    (hr : (if okR x a y b ∧ okR x' a' y' b' then mkR (sZ x a * sZ x' a') (sZ y b * sZ y' b') else (0, 0, 20)) = r) : Calls Tryz.prog 106 #[.agg (ratC x a y b), .agg (ratC x' a' y' b'), .func (.func 143) #[] #[]] w (RetB (.tuple #[.agg (RC r.1 r.2.1), .int .i64 r.2.2]) w) := by
  have F := Fr.start w
  obtain ⟨f, hf⟩ : ∃ f, decide (okR x a y b) = f := ⟨_, rfl⟩
  obtain ⟨f', hf'⟩ : ∃ f, decide (okR x' a' y' b') = f := ⟨_, rfl⟩
  have g1 := fun w => valid_any ha hb hf w
  have g2 := fun w => valid_any ha' hb' hf' w
  have HR := Lib.hid hr
  clear hr ha hb ha' hb'
  go_enter Tryz.func106, Tryz.ntmps106
  go_wp2_with (first | go_skip | ((with_reducible apply fL F); exact rfl; exact rfl; (exact tL); (exact tR2)) | ((with_reducible apply fA_rat F); exact rfl) | ((with_reducible apply fX_rat F); exact rfl; exact rfl) | ((with_reducible apply fS F); exact rfl; exact rfl; exact rfl; (exact tL); (exact tR2); (exact tS2); clear F; intro W F; simp only [z7, z8] at F) | ((with_reducible apply fB_rat0); exact rfl))
  (clear F; intro b3 W F; try simp only [Act.put, z6, z1, z2])
  go_wp2_with (first | go_skip | ((with_reducible apply fL F); exact rfl; exact rfl; (exact tL); (exact tR2)) | ((with_reducible apply fA_rat F); exact rfl) | ((with_reducible apply fX_rat F); exact rfl; exact rfl) | ((with_reducible apply fS F); exact rfl; exact rfl; exact rfl; (exact tL); (exact tR2); (exact tS2); clear F; intro W F; simp only [z7, z8] at F) | ((with_reducible apply fB_rat0); exact rfl))
  (clear F; intro b4 W F; try simp only [Act.put, z6, z1, z2])
  go_wp2_with (first | go_skip | ((with_reducible apply fL F); exact rfl; exact rfl; (exact tL); (exact tR2)) | ((with_reducible apply fA_rat F); exact rfl) | ((with_reducible apply fX_rat F); exact rfl; exact rfl) | ((with_reducible apply fS F); exact rfl; exact rfl; exact rfl; (exact tL); (exact tR2); (exact tS2); clear F; intro W F; simp only [z7, z8] at F) | ((with_reducible apply fB_rat0); exact rfl))
  (clear F; intro b6 W F; try simp only [Act.put, z6, z1, z2])
  cases f
  · have hr := HR.out
    rw [if_neg (fun h => of_decide_eq_false hf h.1)] at hr
    subst hr
    clear HR hf hf'
    go_wp2_with (first | go_skip | ((go_at_call 93); (with_reducible refine fr_call F (g1 _) ?_); (clear F; intro W F); (try dsimp only)) | ((with_reducible apply fL F); exact rfl; exact rfl; (exact tL); (exact tR2)) | ((with_reducible apply fA_rat F); exact rfl) | ((with_reducible apply fX_rat F); exact rfl; exact rfl) | ((with_reducible apply fS F); exact rfl; exact rfl; exact rfl; (exact tL); (exact tR2); (exact tS2); clear F; intro W F; simp only [z7, z8] at F) | ((with_reducible apply fB_rat0); exact rfl))
    exact bodyPost_ret (res_cs rfl rfl rfl (Fr.get F tL) (rowRC _ _)) rfl ⟨rfl, F.below⟩
  cases f'
  · have hr := HR.out
    rw [if_neg (fun h => of_decide_eq_false hf' h.2)] at hr
    subst hr
    clear HR hf hf'
    go_wp2_with (first | go_skip | ((go_at_call 93); (with_reducible refine fr_call F (g1 _) ?_); (clear F; intro W F); (try dsimp only)) | ((go_at_call 93); (with_reducible refine fr_call F (g2 _) ?_); (clear F; intro W F); (try dsimp only)) | ((with_reducible apply fL F); exact rfl; exact rfl; (exact tL); (exact tR2)) | ((with_reducible apply fA_rat F); exact rfl) | ((with_reducible apply fX_rat F); exact rfl; exact rfl) | ((with_reducible apply fS F); exact rfl; exact rfl; exact rfl; (exact tL); (exact tR2); (exact tS2); clear F; intro W F; simp only [z7, z8] at F) | ((with_reducible apply fB_rat0); exact rfl))
    exact bodyPost_ret (res_cs rfl rfl rfl (Fr.get F tL) (rowRC _ _)) rfl ⟨rfl, F.below⟩
  have o1 := of_decide_eq_true hf
  have o2 := of_decide_eq_true hf'
  have hr := HR.out
  rw [if_pos ⟨o1, o2⟩] at hr
  obtain ⟨n, d, he1, h1, h2, hd1⟩ := okR_ints o1
  obtain ⟨m, e, he2, h3, h4, hd2⟩ := okR_ints o2
  rw [he1.2.1, he1.2.2, he2.2.1, he2.2.2] at hr
  have g3 := fun w => mulF h1 h2 h3 h4 w
  rw [← he1.1, ← he2.1] at g3
  have g4 := fun w => makeZ (n := n * m) (d := d * e) (b30 h1 h3) (b30 h2 h4) hr w
  clear HR hf hf' hr o1 o2 he1 he2 h1 h2 h3 h4 hd1 hd2
  go_wp2_with (first | go_skip | ((go_at_call 93); (with_reducible refine fr_call F (g1 _) ?_); (clear F; intro W F); (try dsimp only)) | ((go_at_call 93); (with_reducible refine fr_call F (g2 _) ?_); (clear F; intro W F); (try dsimp only)) | ((go_at_call 143); (with_reducible refine fr_call F (g3 _) ?_); (clear F; intro W F); (try dsimp only)) | ((go_at_call 82); (with_reducible refine fr_call F (g4 _) ?_); (clear F; intro W F); (try dsimp only)) | ((with_reducible apply fL F); exact rfl; exact rfl; (exact tL); (exact tR2)) | ((with_reducible apply fA_rat F); exact rfl) | ((with_reducible apply fX_rat F); exact rfl; exact rfl) | ((with_reducible apply fS F); exact rfl; exact rfl; exact rfl; (exact tL); (exact tR2); (exact tS2); clear F; intro W F; simp only [z7, z8] at F) | ((with_reducible apply fB_rat0); exact rfl))
  exact bodyPost_ret (res_cs rfl rfl rfl (Fr.get F tL) (rowRC _ _)) rfl ⟨rfl, F.below⟩
set_option maxRecDepth 100000 in
theorem mulR {x : Bool} {a : Nat} {y : Bool} {b : Nat} {x' : Bool} {a' : Nat} {y' : Bool} {b' : Nat} (ha : a < bp 32) (hb : b < bp 32) (ha' : a' < bp 32) (hb' : b' < bp 32) (w : World) {r : Int × Int × Int}
    (hr : (if okR x a y b ∧ okR x' a' y' b' then mkR (sZ x a * sZ x' a') (sZ y b * sZ y' b') else (0, 0, 20)) = r) : Calls Tryz.prog 94 #[.agg (ratC x a y b), .agg (ratC x' a' y' b')] w (RetB (.tuple #[.agg (RC r.1 r.2.1), .int .i64 r.2.2]) w) := by
  have F := Fr.start w
  have g1 := fun w => calcMul ha hb ha' hb' w hr
  clear hr
  go_enter Tryz.func94, Tryz.ntmps94
  go_wp2_with (first | go_skip | ((with_reducible apply fL F); exact rfl; exact rfl; (exact tL); (exact tR2)) | ((with_reducible apply fA_rat F); exact rfl) | ((with_reducible apply fX_rat F); exact rfl; exact rfl) | ((with_reducible apply fS F); exact rfl; exact rfl; exact rfl; (exact tL); (exact tR2); (exact tS2); clear F; intro W F; simp only [z7, z8] at F))
  (clear F; intro b2 W F; try simp only [Act.put, z6, z1, z2])
  go_wp2_with (first | go_skip | ((with_reducible apply fL F); exact rfl; exact rfl; (exact tL); (exact tR2)) | ((with_reducible apply fA_rat F); exact rfl) | ((with_reducible apply fX_rat F); exact rfl; exact rfl) | ((with_reducible apply fS F); exact rfl; exact rfl; exact rfl; (exact tL); (exact tR2); (exact tS2); clear F; intro W F; simp only [z7, z8] at F))
  (clear F; intro b3 W F; try simp only [Act.put, z6, z1, z2])
  go_wp2_with (first | go_skip | ((with_reducible apply fL F); exact rfl; exact rfl; (exact tL); (exact tR2)) | ((with_reducible apply fA_rat F); exact rfl) | ((with_reducible apply fX_rat F); exact rfl; exact rfl) | ((with_reducible apply fS F); exact rfl; exact rfl; exact rfl; (exact tL); (exact tR2); (exact tS2); clear F; intro W F; simp only [z7, z8] at F))
  (clear F; intro b4 W F; try simp only [Act.put, z6, z1, z2])
  go_wp2_with (first | go_skip | ((go_at_call 106); (with_reducible refine fr_call F (g1 _) ?_); (clear F; intro W F); (try dsimp only)) | ((with_reducible apply fL F); exact rfl; exact rfl; (exact tL); (exact tR2)) | ((with_reducible apply fA_rat F); exact rfl) | ((with_reducible apply fX_rat F); exact rfl; exact rfl) | ((with_reducible apply fS F); exact rfl; exact rfl; exact rfl; (exact tL); (exact tR2); (exact tS2); clear F; intro W F; simp only [z7, z8] at F))
  exact bodyPost_ret (res_cs rfl rfl rfl (Fr.get F tL) (rowRC _ _)) rfl ⟨rfl, F.below⟩
end
section
theorem okR_okZ {x : Bool} {a : Nat} {y : Bool} {b : Nat} (h : okR x a y b) : okZ (sZ x a) (sZ y b) := by
  obtain ⟨h1, h2, h3, h4, h5, h6⟩ := okR_bound h
  subst h3
  rw [okZ_iff]
  have e1 : (sZ x a).natAbs = a := by unfold sZ; split <;> omega
  have e2 : sZ false b = (b : Int) := rfl
  rw [e2]
  refine ⟨⟨by rw [e1]; exact h1, by omega⟩, by omega, ?_⟩
  unfold Int.gcd
  rw [e1, Int.natAbs_natCast]
  exact h6
end
section
open Go.RowKit
set_option maxHeartbeats 2000000
theorem dec_ne (u : Nat) : Lib.decDigits u ≠ [] := by
  rw [Lib.decDigits]
  split <;> simp
end
section
open Go.RowKit
set_option maxHeartbeats 4000000
def leD (n : Nat) : List UInt8 := if h : n = 0 then [] else UInt8.ofNat (48 + n % 10) :: leD (n / 10)
termination_by n
decreasing_by omega
theorem leD_zero : leD 0 = [] := by rw [leD, dif_pos rfl]
theorem leD_pos {n : Nat} (h : n ≠ 0) : leD n = UInt8.ofNat (48 + n % 10) :: leD (n / 10) := by rw [leD, dif_neg h]
theorem dec_leD (n : Nat) (h0 : n ≠ 0) : Lib.decDigits n = (leD n).reverse := by
  induction n using Nat.strongRecOn with
  | _ n ih =>
    rw [Lib.decDigits, leD_pos h0, List.reverse_cons]
    split
    · rename_i h1
      rw [Nat.mod_eq_of_lt h1, Nat.div_eq_of_lt h1, leD_zero]
      rfl
    · rename_i h1
      rw [ih (n / 10) (by omega) (by omega)]
theorem leD_step (n : Nat) : (leD n).length ≤ 1 + (leD (n / 10)).length := by
  by_cases h0 : n = 0
  · subst h0; rw [leD_zero]; exact Nat.zero_le _
  · rw [leD_pos h0, List.length_cons]; omega
theorem leD_steps (k : Nat) : ∀ n : Nat, (leD n).length ≤ k + (leD (n / 10 ^ k)).length := by
  induction k with
  | zero => intro n; simp
  | succ k ih =>
    intro n
    have h1 := leD_step n
    have h2 := ih (n / 10)
    rw [Nat.div_div_eq_div_mul, Nat.mul_comm, ← Nat.pow_succ, Nat.succ_eq_add_one] at h2
    omega
theorem leD_len (k : Nat) : ∀ n : Nat, n < bp k → (leD n).length ≤ 10 * k := by
  induction k with
  | zero => intro n h; rw [bp_zero] at h; obtain rfl : n = 0 := by omega
            rw [leD_zero]; exact Nat.zero_le _
  | succ k ih =>
    intro n h
    rw [bp_succ] at h
    have h1 := leD_steps 10 n
    have h2 := ih (n / 10 ^ 10) (by
      have h3 : 4294967296 ≤ 10 ^ 10 := by decide
      have h4 : 0 < 10 ^ 10 := by decide
      generalize 10 ^ 10 = t at *
      rw [Nat.div_lt_iff_lt_mul h4]
      exact Nat.lt_of_lt_of_le h (Nat.mul_le_mul_left (bp k) h3))
    rw [Nat.mul_succ]
    exact Nat.le_trans h1 (by rw [Nat.add_comm]; exact Nat.add_le_add_right h2 10)
theorem Fr.grown {w W W' : World} {L : List Ent} {row : Option Nat} (h : Fr w W L) (hg : W.grownBy W' row) (hr : ∀ x ∈ L, row ≠ some x.1) (hb : Below w.heap.size w W') : Fr w W' L :=
  ⟨hb, fun x hx => ⟨(hg.block x.1 (h.blk x hx).lt (fun e => hr x hx e.symm)).trans (h.blk x hx).blk⟩, h.own, h.dis⟩
theorem own_ne {w0 W : World} {e t : TypeId} {sz n b : Nat} {v : Value} {xs : List Value} {cs : Array Value} (h : OwnL w0 W e sz v n xs) (hb : BlkAt W b cs t) (hne : t ≠ e) : v.ownBlock ≠ some b := by
  rcases h.own.2 with ⟨rfl, -⟩ | ⟨g, cap, cur, rfl, -, hh, -⟩
  · intro h
    cases h
  · intro h
    injection h with h
    subst h
    have := hh.symm.trans hb.blk
    injection this with this
    injection this with h1 h2
    exact hne h2.symm
theorem OwnL.other {w0 W W' : World} {e : TypeId} {sz n g : Nat} {v : Value} {xs : List Value} (h : OwnL w0 W e sz v n xs) (ho : Own g W W') (hg : w0.heap.size ≤ g) (hne : v.ownBlock ≠ some g) : OwnL w0 W' e sz v n xs :=
  ⟨h.below.trans (ho.below hg h.below.size), h.own.kept (row := some g) ⟨ho.os, ho.tape, ho.output, ho.size, fun i hi hne => ho.block i hi (fun e => hne (by rw [e]))⟩ (.inr hne)⟩
theorem u8_digit {r : Nat} : ((UInt8.ofNat (48 + r % 10)).toNat : Int) = 48 + (r : Int) % 10 := by
  rw [UInt8.toNat_ofNat_of_lt' (by have := Nat.mod_lt r (show 0 < 10 by decide); have e : UInt8.size = 256 := rfl; omega)]
  omega
end
section
open Go.RowKit
set_option maxHeartbeats 4000000
def u8s (l : List UInt8) : List Value := l.map fun b => .int .u8 b.toNat
theorem mk_bytes : ∃ C : Array Value, C.size = 310 ∧ ∀ W, (Instr.makeSlice 85 (.int .i64 0) (.int .i64 310)).run Tryz.prog W = .ok (.slice (some ⟨W.heap.size, 0, none⟩) 0 310) (W.alloc (.cells C 5)) := by
  obtain ⟨i, z, hi, hz, hsz, hby, hzs⟩ := elByte.info
  refine ⟨madeCells z.cells 310, size_madeCells _ _, fun W => ?_⟩
  have h := run_makeSlice (P := Tryz.prog) (w := W) 85 5 i z elByte.sl hi hz .i64 .i64 0 310 (by decide) (by decide) (by rw [hsz]; decide) (by rw [hby]; decide) (by decide)
  rw [hsz] at h
  exact h
theorem Fr.turn {w W W' : World} {b : Nat} {cs cs' : Array Value} {t : TypeId} (h : Fr w W [(b, cs, t)]) (ho : Own b W W') (hb : BlkAt W' b cs' t) : Fr w W' [(b, cs', t)] :=
  Fr.change (A := []) h hb (fun k ds u hk hB => ho.blk hB hk) (h.below.trans (ho.below h.ge h.below.size))
theorem Fr.pushed {w W W' : World} {b : Nat} {cs : Array Value} {t e : TypeId} {sz n n' : Nat} {v v' : Value} {xs xs' : List Value} (h : Fr w W [(b, cs, t)]) (hO : OwnL w W e sz v n xs) (ho : Obj) (hg : (W.alloc ho).grownBy W' v.ownBlock) (hO' : OwnL w W' e sz v' n' xs') (hne : t ≠ e) : Fr w W' [(b, cs, t)] :=
  (h.next (bal0 W ho)).grown hg (fun x hx => by rw [List.mem_singleton.1 hx]; exact own_ne hO h.here hne) hO'.below
theorem rev_at {E L : List UInt8} {n : Nat} (h : E.reverse = L) (hn : E.length = n + 1) {k : Nat} (hk : k < n + 1) (hs : k < (bs L).size) : (bs L)[k] = E.getD (n - k) 0 := by
  subst h
  refine (bs_at hs (by rw [List.length_reverse]; omega)).trans ?_
  rw [List.getElem_reverse]
  have e : E.length - 1 - k = n - k := by omega
  have hi : n - k < E.length := by omega
  simp only [e]
  simp [List.getD, hi]
theorem rev_bytes {W : World} {G : Nat} {cs : Array Value} {t : TypeId} {E L : List UInt8} {n i j : Nat} (hb : BlkAt W G cs t) (hL : E.reverse = L) (hn : E.length = n + 1) (hij : i + j = n) (hle : j ≤ i) (hcs : ∀ k, k < n + 1 → cs[k]? = some (.int .u8 (if k < i ∨ j < k then E.getD (n - k) 0 else E.getD k 0).toNat)) : Lib.Bytes W G 0 (bs L) := by
  intro k hk
  have hk2 : k < n + 1 := by rw [bs_size, ← hL, List.length_reverse] at hk; omega
  rw [Nat.zero_add, hb.cell (hcs k hk2), rev_at hL hn hk2 hk]
  congr 4
  split
  · rfl
  · congr 1
    omega
theorem meas_swap {i j : Nat} (h : i < j) {a b : Int} (ha : a = ((j - 1 : Nat) : Int)) (hb : b = ((i + 1 : Nat) : Int)) : (intOf (Value.int .i64 a) + 1 - intOf (Value.int .i64 b)).toNat < (intOf (Value.int .i64 (j : Int)) + 1 - intOf (Value.int .i64 (i : Int))).toNat := by
  subst ha
  subst hb
  simp only [intOf]
  omega
set_option maxRecDepth 100000 in
theorem bformat_any {z : Int} (hz : z.natAbs < bp 32) (w : World) : Calls Tryz.prog 91 #[.agg (IC z)] w (RetB (.string (bs (Lib.itoa z))) w) := by
  have F := Fr.start w
  have g1 := fun w => splitZ hz w
  obtain ⟨m, hm⟩ : ∃ m, z.natAbs = m := ⟨_, rfl⟩
  rw [hm] at g1 hz
  obtain ⟨g, hg⟩ : ∃ g, decide (z < 0) = g := ⟨_, rfl⟩
  rw [hg] at g1
  obtain ⟨C, hC, mk⟩ := mk_bytes
  have HC := Lib.hid hC
  have HR := Lib.hid (And.intro hm (And.intro hg hz))
  clear hm hg hz hC
  go_enter Tryz.func91, Tryz.ntmps91
  go_wp2_with (first | go_skip | ((with_reducible apply fL F); exact rfl; exact rfl; (exact tL); (exact tR2)) | ((with_reducible apply fX_int F); exact rfl; exact rfl) | ((with_reducible apply fA_mag F); exact rfl) | ((with_reducible apply fS F); exact rfl; exact rfl; exact rfl; (exact tL); (exact tR2); (exact tS2); clear F; intro W F; simp only [z7, z8] at F) | ((with_reducible apply fB_mag0); exact rfl))
  (clear F; intro b1 W F; try simp only [Act.put, z6, z1, z2])
  go_wp2_with (first | go_skip | ((go_at_call 100); (with_reducible refine fr_call F (g1 _) ?_); (clear F; intro W F); (try dsimp only)) | ((with_reducible apply fL F); exact rfl; exact rfl; (exact tL); (exact tR2)) | ((with_reducible apply fX_int F); exact rfl; exact rfl) | ((with_reducible apply fA_mag F); exact rfl) | ((with_reducible apply fS F); exact rfl; exact rfl; exact rfl; (exact tL); (exact tR2); (exact tS2); clear F; intro W F; simp only [z7, z8] at F) | ((with_reducible apply fB_mag0); exact rfl))
  (clear F; intro b4 W F; try simp only [Act.put, z6, z1, z2])
  go_wp2_with (first | go_skip | ((with_reducible apply fL F); exact rfl; exact rfl; (exact tL); (exact tR2)) | ((with_reducible apply fX_int F); exact rfl; exact rfl) | ((with_reducible apply fA_mag F); exact rfl) | ((with_reducible apply fS F); exact rfl; exact rfl; exact rfl; (exact tL); (exact tR2); (exact tS2); clear F; intro W F; simp only [z7, z8] at F) | ((with_reducible apply fB_mag0); exact rfl))
  replace F := F.sub (L' := [(b4, limA 32 m, 108)]) (by repeat (first | exact List.Sublist.slnil | apply List.Sublist.cons_cons | apply List.Sublist.cons))
  have hO : OwnL w (W.alloc (.cells C 5)) 5 1 (.slice (some ⟨W.heap.size, 0, none⟩) 0 310) 0 [] := ⟨bnext F.below (bal0 _ _), World.ownsRow_made W C 310 F.below.size (by unfold maxLen; decide) (by rw [HC.out])⟩
  replace F := F.next (bal0 W (.cells C 5))
  have HO := Lib.hid hO
  clear hO mk HC
  generalize W.alloc _ = W1 at *
  generalize W.heap.size = S at *
  go_loopw [5] (fun vv wr => ∃ c D, c < bp 32 ∧ leD m = D ++ leD c ∧ OwnL w wr 5 1 vv D.length (u8s D) ∧ Fr w wr [(b4, limA 32 c, 108)]) (fun _ wr => magOf wr b4)
  case atStart => exact ⟨m, [], HR.out.2.2, rfl, HO.out, F⟩
  case round =>
    obtain ⟨c, D, hc, hle, hO, F⟩ := hrel
    have HO := Lib.hid hO
    have HL := Lib.hid hle
    have HM := Lib.hid (magOf_is hc F.here)
    clear hle hO
    have ez := eqz c hc
    rw [← magZ] at ez
    by_cases h0 : c = 0
    · have hd0 : decide (c = 0) = true := decide_eq_true h0
      rw [hd0] at ez
      subst h0
      clear hd0
      have hle : leD m = D := by have h := HL.out; rwa [leD_zero, List.append_nil] at h
      subst hle
      clear HL
      by_cases hm0 : m = 0
      · have hlen : (leD m).length = 0 := by rw [hm0, leD_zero]; rfl
        have hz0 : Lib.itoa z = [48] := by
          have h := HR.out.1
          rw [hm0] at h
          obtain rfl : z = 0 := by omega
          unfold Lib.itoa
          rw [if_neg (by decide), Int.toNat_zero, Lib.decDigits, dif_pos (by decide)]
          rfl
        obtain ⟨G, cap, hv⟩ : ∃ A cap, u5 = .slice A 0 cap := by
          obtain ⟨A, cap, h, -⟩ := HO.out.read
          rw [hlen] at h
          exact ⟨A, cap, h⟩
        subst hv
        have HZ0 := Lib.hid hz0
        clear HR hlen hz0 HO hm0
        go_wp2_with (first | go_skip | ((with_reducible apply fL F); exact rfl; exact rfl; (exact tL); (exact tR2)) | ((with_reducible apply fX_int F); exact rfl; exact rfl) | ((with_reducible apply fA_mag F); exact rfl) | ((with_reducible apply fS F); exact rfl; exact rfl; exact rfl; (exact tL); (exact tR2); (exact tS2); clear F; intro W F; simp only [z7, z8] at F) | ((with_reducible apply fB_mag0); exact rfl))
        go_ret
        exact ⟨by rw [HZ0.out]; rfl, F.below⟩
      have hdec := dec_leD m hm0
      have hl0 : (leD m).length ≠ 0 := by
        rw [leD_pos hm0]
        simp
      have hl1 := leD_len 32 m HR.out.2.2
      have hzE : ((leD m) ++ (if g = true then [45] else [])).reverse = Lib.itoa z := by
        obtain ⟨h1, h2, -⟩ := HR.out
        unfold Lib.itoa
        by_cases hz : z < 0
        · rw [if_pos hz, if_pos (by rw [← h2]; exact decide_eq_true hz), List.reverse_append, h1, hdec]
          rfl
        · rw [if_neg hz, if_neg (by rw [← h2]; simpa using hz), List.append_nil, show z.toNat = m by omega, hdec]
      obtain ⟨n, hn⟩ : ∃ n, (leD m).length = n := ⟨_, rfl⟩
      have hn0 : ((n : Int) == 0) = false := by rw [beq_eq_false_iff_ne]; omega
      obtain ⟨A, cap, hv⟩ : ∃ A cap, u5 = .slice A n cap := by
        obtain ⟨A, cap, h, -⟩ := HO.out.read
        rw [hn] at h
        exact ⟨A, cap, h⟩
      subst hv
      rw [hn] at HO hl0 hl1
      have HZ := Lib.hid (And.intro hzE hn)
      have hB := F.below
      clear hdec hm0 HR g1 hzE
      have HG := Lib.hid (And.intro hl0 hl1)
      clear hl0 hl1 hn hc
      go_upto_if 45 with (first | go_skip | ((with_reducible apply fL F); exact rfl; exact rfl; (exact tL); (exact tR2)) | ((with_reducible apply fX_int F); exact rfl; exact rfl) | ((with_reducible apply fA_mag F); exact rfl) | ((with_reducible apply fS F); exact rfl; exact rfl; exact rfl; (exact tL); (exact tR2); (exact tS2); clear F; intro W F; simp only [z7, z8] at F) | ((with_reducible apply fB_mag0); exact rfl))
      clear ez F
      go_cut [5] from 45 to 48 (fun v5 wc => ∃ (E : List UInt8) (N1 : Nat), (E.length = N1 + 1 ∧ E.reverse = Lib.itoa z ∧ N1 ≤ 400) ∧ OwnL w wc 5 1 v5 (N1 + 1) (u8s E))
      case first =>
        cases g
        · go_wp2_with fail
          go_meet
          refine ⟨leD m, n - 1, ⟨by have := HZ.out.2; have := HG.out.1; omega, by have h := HZ.out.1; rwa [if_neg (by decide), List.append_nil] at h, by have := HG.out.2; omega⟩, ?_⟩
          rw [show n - 1 + 1 = n by have := HG.out.1; omega]
          exact HO.out
        · have hn9 : n ≤ 100000 := by have := HG.out.2; omega
          go_wp2_with (at_builtin; refine wpl_push elByte rfl _ _ rfl HO.out rfl #[.int .u8 45] rfl rfl rfl hn9 (by decide) ?_; intro v' w' hO' hg)
          go_meet
          refine ⟨leD m ++ [45], n, ⟨by rw [List.length_append, HZ.out.2]; rfl, by have h := HZ.out.1; simpa using h, by have := HG.out.2; omega⟩, ?_⟩
          rw [show u8s (leD m ++ [45]) = u8s (leD m) ++ #[Value.int .u8 45].toList by unfold u8s; rw [List.map_append]; rfl]
          exact hO'
      case rest =>
        obtain ⟨E, N1, ⟨hEN, hEz, hN4⟩, hO5⟩ := hcut
        obtain ⟨G, cap, cur, hv5, hG, hh, hle5, -, hsz, htk⟩ := hO5.own.2.resolve_left (by rintro ⟨-, h⟩; omega)
        subst hv5
        obtain ⟨N, hN⟩ : ∃ N : Nat, N1 + 1 = N := ⟨_, rfl⟩
        have hB := hO5.below
        rw [hN] at hEN htk hle5
        have HC0 := Lib.hid (show ∀ k, k < N → cur[k]? = some (.int .u8 (if k < 0 ∨ N1 < k then E.getD (N1 - k) 0 else E.getD k 0).toNat) from fun k hk => by
          rw [if_neg (by omega)]
          have h : (cur.toList.take (N * 1))[k]? = (u8s E)[k]? := by rw [htk]
          rw [List.getElem?_take_of_lt (by omega), Array.getElem?_toList] at h
          rw [h]
          unfold u8s
          rw [List.getElem?_map, List.getElem?_eq_getElem (by omega)]
          simp [List.getD, hEN, hk])
        have HB0 := Lib.hid (show BlkAt _ G cur 5 from ⟨hh⟩)
        have HEE := Lib.hid (And.intro hEN (And.intro hEz (And.intro (show N = N1 + 1 by omega) (show N ≤ 401 by omega))))
        rw [hN]
        have e1 : (N : Int) - 1 = (N1 : Int) := by omega
        have E2 := Lib.hid (show RowKit.wrap64 (N1 : Int) = (N1 : Int) by rw [RowKit.wrap64]; omega)
        clear HZ hh htk hsz hle5 HO HM hn0 hEN hEz hO5 hN hN4 HG
        go_wp2_with fail
        go_loopw [8, 9] (fun iv jv wq => ∃ (i j : Nat) (cs : Array Value), i + j = N1 ∧ iv = .int .i64 i ∧ jv = .int .i64 j ∧ BlkAt wq G cs 5 ∧ Below w.heap.size w wq ∧ ∀ k, k < N → cs[k]? = some (.int .u8 (if k < i ∨ j < k then E.getD (N1 - k) 0 else E.getD k 0).toNat)) (fun iv jv _ => (intOf jv + 1 - intOf iv).toNat)
        case atStart => exact ⟨0, N1, cur, by omega, rfl, congrArg (Value.int .i64) E2.out, HB0.out, hB, HC0.out⟩
        case round =>
          obtain ⟨i, j, cs, hij, rfl, rfl, hb, hbl, hcs⟩ := hrel
          have HCS := Lib.hid hcs
          have HBS := Lib.hid hb
          clear hcs hb HC0 HB0 hB
          by_cases hlt : i < j
          · have ci := HBS.out.cell (HCS.out i (by omega))
            have cj := HBS.out.cell (HCS.out j (by omega))
            rw [if_neg (by omega)] at ci cj
            obtain ⟨x, hx⟩ : ∃ x : Nat, (E.getD i 0).toNat = x := ⟨_, rfl⟩
            obtain ⟨y, hy⟩ : ∃ y : Nat, (E.getD j 0).toNat = y := ⟨_, rfl⟩
            rw [hx] at ci
            rw [hy] at cj
            have HXY := Lib.hid (And.intro hx hy)
            have i0 : (0 : Int) ≤ (i : Int) := by omega
            have hNN := HEE.out.2.2.1
            have i1 : (i : Int) < (N : Int) := by omega
            have j0 : (0 : Int) ≤ (j : Int) := by omega
            have j1 : (j : Int) < (N : Int) := by omega
            have i2 : i < N := by omega
            have j2 : j < N := by omega
            have ij : (i : Int) < (j : Int) := by omega
            have fzi := BlkAt.fz HBS.out i
            have fzj := BlkAt.fz HBS.out j
            clear hx hy hNN
            go_wp2_with fail
            go_region_law (first | fail)
            all_goals
              have hb2 : BlkAt ((wr.setCell ⟨G, i, none⟩ (.int .u8 y)).setCell ⟨G, j, none⟩ (.int .u8 x)).drew G ((cs.setIfInBounds i (.int .u8 y)).setIfInBounds j (.int .u8 x)) 5 := (BlkAt.cellSet (BlkAt.cellSet HBS.out i _) j _).next (Below.refl _ _).drew
              have hbl2 : Below w.heap.size w ((wr.setCell ⟨G, i, none⟩ (.int .u8 y)).setCell ⟨G, j, none⟩ (.int .u8 x)).drew := bnext ((hbl.setCell hG _).setCell hG _) (Below.refl _ _).drew
              have HN := Lib.hid (And.intro hb2 hbl2)
              clear hb2 hbl2 ci cj fzi fzj
              have hij4 := HEE.out.2.2
              have HWI := Lib.hid (show RowKit.wrap64 ((i : Int) + 1) = ((i + 1 : Nat) : Int) by rw [RowKit.wrap64]; omega)
              have HWJ := Lib.hid (show RowKit.wrap64 ((j : Int) - 1) = ((j - 1 : Nat) : Int) by rw [RowKit.wrap64]; omega)
              clear hij4
              go_simp
              go_wp2_with fail
              go_roundw
              case rel =>
                refine ⟨i + 1, j - 1, _, by omega, by first | exact congrArg (Value.int .i64) HWI.out | go_num, by first | exact congrArg (Value.int .i64) HWJ.out | (rw [show ((j - 1 : Nat) : Int) = (j : Int) - 1 by omega]; go_num), HN.out.1, HN.out.2, ?_⟩
                intro k hk
                have h := HCS.out k hk
                have hks : k < cs.size := (Array.getElem?_eq_some_iff.1 h).1
                have hNN := HEE.out.2.2.1
                rw [Array.getElem?_setIfInBounds, Array.getElem?_setIfInBounds]
                by_cases hkj : j = k
                · rw [if_pos hkj, Array.size_setIfInBounds, if_pos (by omega), if_pos (by omega), show N1 - k = i by omega, HXY.out.1]
                · rw [if_neg hkj]
                  by_cases hki : i = k
                  · rw [if_pos hki, if_pos (by omega), if_pos (by omega), show N1 - k = j by omega, HXY.out.2]
                  · rw [if_neg hki, h]
                    have e : (k < i + 1 ∨ j - 1 < k) ↔ (k < i ∨ j < k) := by omega
                    by_cases q : k < i ∨ j < k
                    · rw [if_pos q, if_pos (e.2 q)]
                    · rw [if_neg q, if_neg (fun h => q (e.1 h))]
              case measure =>
                exact meas_swap hlt HWJ.out HWI.out
          · have hsz := bs_size (Lib.itoa z)
            rw [← HEE.out.2.1, List.length_reverse, HEE.out.1] at hsz
            have kb := Lib.run_convert_whole (P := Tryz.prog) wr 85 5 9 Tryz.underlying85 Tryz.underlying5 Tryz.underlying9 G 0 (bs (Lib.itoa z)) (rev_bytes (i := i) (j := j) (n := N1) HBS.out HEE.out.2.1 (HEE.out.1.trans HEE.out.2.2.1) hij (by omega) (by rw [← HEE.out.2.2.1]; exact HCS.out))
            rw [HEE.out.2.1] at hsz
            rw [hsz] at kb
            clear hsz
            go_wp2_with fail
            go_ret
            exact ⟨rfl, hbl⟩
    · have hd0 : decide (c = 0) = false := decide_eq_false h0
      rw [hd0] at ez
      clear hd0
      have gs := fun W (h : Fr w W [(b4, limA 32 c, 108)]) => short_any (m := c) (g := b4) (x := 1000000000) (w := W) h.here hc (by omega) (by omega)
      go_wp2_with (first | go_skip | ((with_reducible apply fL F); exact rfl; exact rfl; (exact tL); (exact tR2)) | ((with_reducible apply fX_int F); exact rfl; exact rfl) | ((with_reducible apply fA_mag F); exact rfl) | ((with_reducible apply fS F); exact rfl; exact rfl; exact rfl; (exact tL); (exact tR2); (exact tS2); clear F; intro W F; simp only [z7, z8] at F) | ((with_reducible apply fB_mag0); exact rfl))
      refine (gs _ F).mono ?_
      rintro e W2 ⟨rfl, hq5, ho5⟩
      clear gs
      have HO2 := Lib.hid (HO.out.other ho5 F.ge (own_ne HO.out F.here (by decide)))
      replace F := F.turn ho5 hq5.blk
      clear ez ho5 hq5 HO
      obtain ⟨c', hc'⟩ : ∃ c', c / 1000000000 = c' := ⟨_, rfl⟩
      obtain ⟨r, hr⟩ : ∃ r, c % 1000000000 = r := ⟨_, rfl⟩
      rw [hc'] at F
      rw [hr]
      have hcc : c' < bp 32 ∧ c' < c := by omega
      have he : c = c' * 1000000000 + r := by omega
      have HL2 := Lib.hid (show leD m = D ++ leD (c' * 10 ^ 9 + r) by rw [show (10 : Nat) ^ 9 = 1000000000 from rfl, ← he]; exact HL.out)
      have hr1 : r < 10 ^ 9 := by rw [show (10 : Nat) ^ 9 = 1000000000 from rfl, ← hr]; exact Nat.mod_lt _ (by omega)
      clear he
      have HC := Lib.hid hcc
      clear HL hc' hr h0 hc hcc
      go_wp2_with fail
      go_loopw [5, 6, 7] (fun vv rv iv wr => ∃ i r D, i ≤ 9 ∧ r < 10 ^ (9 - i) ∧ rv = .int .u32 (r : Nat) ∧ iv = .int .i64 (i : Nat) ∧ leD m = D ++ leD (c' * 10 ^ (9 - i) + r) ∧ OwnL w wr 5 1 vv D.length (u8s D) ∧ Fr w wr [(b4, limA 32 c', 108)]) (fun _ _ iv _ => 9 - (intOf iv).toNat)
      case atStart => exact ⟨0, r, D, by omega, hr1, rfl, rfl, HL2.out, HO2.out, F⟩
      case round =>
        clear HL2 HO2 hr1 F
        obtain ⟨i, r, D, hi, hr, rfl, rfl, hle, hO, F⟩ := hrel
        have HO := Lib.hid hO
        have HL := Lib.hid hle
        clear hle hO
        have ez := eqz c' HC.out.1
        rw [← magZ] at ez
        by_cases hi9 : i = 9
        · subst hi9
          have h00 : r = 0 := by simpa using hr
          have HL2 := Lib.hid (show leD m = D ++ leD c' by have h := HL.out; rwa [Nat.sub_self, Nat.pow_zero, Nat.mul_one, h00, Nat.add_zero] at h)
          clear HL hr ez h00
          go_wp2_with fail
          go_roundw
          case rel => exact ⟨c', D, HC.out.1, HL2.out, HO.out, F⟩
          case measure => rw [HM.out, magOf_is HC.out.1 F.here]; exact HC.out.2
        obtain ⟨t, ht⟩ : ∃ t, 10 ^ (9 - (i + 1)) = t := ⟨_, rfl⟩
        have ht2 : 10 ^ (9 - i) = t * 10 := by rw [show 9 - i = 9 - (i + 1) + 1 by omega, Nat.pow_succ, ht]
        have ht0 : 0 < t := by rw [← ht]; exact Nat.pow_pos (by decide)
        rw [ht2] at HL hr
        have tl : decide ((i : Int) < 9) = true := decide_eq_true (by omega)
        by_cases hcur : r = 0 ∧ c' = 0
        · obtain ⟨rfl, rfl⟩ := hcur
          have hd0 : decide ((0 : Nat) = 0) = true := rfl
          rw [hd0] at ez
          have HL2 := Lib.hid (show leD m = D ++ leD 0 by have h := HL.out; rwa [Nat.zero_mul] at h)
          clear HL hr hd0 ht ht2 ht0
          go_wp2_with (first | go_skip | ((with_reducible apply fL F); exact rfl; exact rfl; (exact tL); (exact tR2)) | ((with_reducible apply fX_int F); exact rfl; exact rfl) | ((with_reducible apply fA_mag F); exact rfl) | ((with_reducible apply fS F); exact rfl; exact rfl; exact rfl; (exact tL); (exact tR2); (exact tS2); clear F; intro W F; simp only [z7, z8] at F) | ((with_reducible apply fB_mag0); exact rfl))
          go_roundw
          case rel => exact ⟨0, D, HC.out.1, HL2.out, HO.out, F⟩
          case measure => rw [HM.out, magOf_is HC.out.1 F.here]; exact HC.out.2
        have hcr : c' * (t * 10) + r ≠ 0 := by
          intro h
          have h1 := Nat.eq_zero_of_add_eq_zero h
          rcases Nat.mul_eq_zero.1 h1.1 with h2 | h2
          · exact hcur ⟨h1.2, h2⟩
          · omega
        have HL2 := Lib.hid (show leD m = (D ++ [UInt8.ofNat (48 + r % 10)]) ++ leD (c' * t + r / 10) by
          have h := HL.out
          rw [leD_pos hcr] at h
          rw [h, List.append_assoc, List.singleton_append]
          have e1 : (c' * (t * 10) + r) % 10 = r % 10 := by rw [← Nat.mul_assoc, Nat.mul_comm _ 10, Nat.mul_add_mod]
          have e2 : (c' * (t * 10) + r) / 10 = c' * t + r / 10 := by rw [← Nat.mul_assoc, Nat.mul_comm _ 10, Nat.mul_add_div (by omega)]
          rw [e1, e2])
        have hr2 : r / 10 < t := by omega
        have hrt : r < 4294967296 := by
          have h1 : t ≤ 10 ^ 8 := by rw [← ht]; exact Nat.pow_le_pow_right (by decide) (by omega)
          have h2 : (10 : Nat) ^ 8 = 100000000 := rfl
          omega
        have hD : D.length ≤ 100000 := by
          have h1 := leD_len 32 m HR.out.2.2
          rw [HL.out, List.length_append] at h1
          omega
        have hdig := u8_digit (r := r)
        obtain ⟨d, hd⟩ : ∃ d, UInt8.ofNat (48 + r % 10) = d := ⟨_, rfl⟩
        rw [hd] at HL2 hdig
        have HE := Lib.hid (And.intro ht (And.intro hr2 hdig))
        have hu8 : u8s (D ++ [d]) = u8s D ++ [.int .u8 (48 + (r : Int) % 10)] := by
          unfold u8s
          rw [List.map_append, List.map_singleton, hdig]
        have HU := Lib.hid hu8
        clear hu8
        rcases Nat.eq_zero_or_pos r with h0 | h0
        · have t2 : decide ((0 : Int) < (r : Int)) = false := decide_eq_false (by omega)
          have hd0 : decide (c' = 0) = false := decide_eq_false (fun h => hcur ⟨h0, h⟩)
          rw [hd0] at ez
          subst h0
          have HU := Lib.hid (show u8s (D ++ [d]) = u8s D ++ [.int .u8 48] from HU.out)
          clear HL hr ht ht2 ht0 hcur hcr hr2 hd hdig hd0 t2
          go_wp2_with (first | (at_builtin; refine wpl_push elByte rfl _ _ rfl HO.out rfl #[.int .u8 48] rfl rfl rfl hD (by decide) ?_; intro v' w' hO' hg) | (first | go_skip | ((with_reducible apply fL F); exact rfl; exact rfl; (exact tL); (exact tR2)) | ((with_reducible apply fX_int F); exact rfl; exact rfl) | ((with_reducible apply fA_mag F); exact rfl) | ((with_reducible apply fS F); exact rfl; exact rfl; exact rfl; (exact tL); (exact tR2); (exact tS2); clear F; intro W F; simp only [z7, z8] at F) | ((with_reducible apply fB_mag0); exact rfl)))
          have HX := Lib.hid (show OwnL w w' 5 1 v' (D.length + [d].length) (u8s (D ++ [d])) by rw [HU.out]; exact hO')
          go_roundw
          case rel => exact ⟨i + 1, 0, D ++ [d], by omega, by rw [HE.out.1]; exact HE.out.2.1, rfl, by go_num, by rw [HE.out.1]; exact HL2.out, by rw [List.length_append]; exact HX.out, F.pushed HO.out _ hg hO' (by decide)⟩
          case measure => simp [intOf]; omega
        · have t2 : decide ((0 : Int) < (r : Int)) = true := decide_eq_true (by omega)
          clear HL hr ht ht2 ht0 hcur hcr hr2 hd ez hdig
          go_wp2_with (first | (at_builtin; refine wpl_push elByte rfl _ _ rfl HO.out rfl #[.int .u8 (48 + (r : Int) % 10)] rfl rfl rfl hD (by decide) ?_; intro v' w' hO' hg) | (first | go_skip | ((with_reducible apply fL F); exact rfl; exact rfl; (exact tL); (exact tR2)) | ((with_reducible apply fX_int F); exact rfl; exact rfl) | ((with_reducible apply fA_mag F); exact rfl) | ((with_reducible apply fS F); exact rfl; exact rfl; exact rfl; (exact tL); (exact tR2); (exact tS2); clear F; intro W F; simp only [z7, z8] at F) | ((with_reducible apply fB_mag0); exact rfl)))
          have HX := Lib.hid (show OwnL w w' 5 1 v' (D.length + [d].length) (u8s (D ++ [d])) by rw [HU.out]; exact hO')
          go_roundw
          case rel => exact ⟨i + 1, r / 10, D ++ [d], by omega, by rw [HE.out.1]; exact HE.out.2.1, by go_num, by go_num, by rw [HE.out.1]; exact HL2.out, by rw [List.length_append]; exact HX.out, F.pushed HO.out _ hg hO' (by decide)⟩
          case measure => simp [intOf]; omega
end
section
open Go.RowKit
section
variable {n d m e : Int} {r : Int × Int × Int}
theorem mulZR (h : okZ n d) (k : okZ m e) (hr : mkR (n * m) (d * e) = r) (w : World) : Calls Tryz.prog 94 #[.agg (RC n d), .agg (RC m e)] w (RetB (.tuple #[.agg (RC r.1 r.2.1), .int .i64 r.2.2]) w) :=
  mulR (okZ_b h).1 (okZ_b h).2 (okZ_b k).1 (okZ_b k).2 w (by rw [if_pos ⟨h, k⟩, sZ_z, sZ_z, sZ_z, sZ_z]; exact hr)
end
end
section
open Go.RowKit
set_option maxHeartbeats 4000000
theorem dec_digits (u : Nat) : (Lib.decDigits u).all isD = true := by
  induction u using Nat.strongRecOn with
  | _ u ih =>
    rw [Lib.decDigits]
    have hd : ∀ k : Nat, k < 10 → isD (UInt8.ofNat (48 + k)) = true := by
      intro k hk
      rw [isD_iff, UInt8.toNat_ofNat_of_lt' (by have e : UInt8.size = 256 := rfl; omega)]
      omega
    split
    · rename_i h
      rw [List.all_cons, hd u h]
      rfl
    · rename_i h
      rw [List.all_append, ih _ (by omega), List.all_cons, hd _ (Nat.mod_lt _ (by decide))]
      rfl
theorem dec_noPrefix (u : Nat) : Lib.hasPrefix (Lib.decDigits u) [45] = false := by
  have h := dec_digits u
  have h0 := dec_ne u
  cases hl : Lib.decDigits u with
  | nil => exact absurd hl h0
  | cons b l =>
    rw [hl, List.all_cons, Bool.and_eq_true] at h
    have h1 := isD_iff.1 h.1
    unfold Lib.hasPrefix
    simp only [List.isPrefixOf, Bool.and_eq_false_imp, beq_iff_eq]
    intro h2
    rw [← h2] at h1
    exact absurd h1.1 (by decide)
theorem itoa_cut (z : Int) : Lib.trimPrefix (Lib.itoa z) [45] = Lib.decDigits z.natAbs ∧ Lib.hasPrefix (Lib.itoa z) [45] = decide (z < 0) := by
  unfold Lib.itoa
  by_cases h : z < 0
  · rw [if_pos h, decide_eq_true h]
    have hp : Lib.hasPrefix (45 :: Lib.decDigits z.natAbs) [45] = true := by simp [Lib.hasPrefix, List.isPrefixOf]
    exact ⟨by unfold Lib.trimPrefix; rw [hp, if_pos rfl]; rfl, hp⟩
  · rw [if_neg h, decide_eq_false h, show z.toNat = z.natAbs by omega]
    have hp := dec_noPrefix z.natAbs
    exact ⟨by unfold Lib.trimPrefix; rw [hp, if_neg (by decide)], hp⟩
def txtZ (z : Int) (p : Nat) : List UInt8 × Int :=
  let q := pointL (Lib.decDigits z.natAbs) p
  if 15 < q.1.length then ([], 32)
  else
    let t := Lib.trimRightB q.2 48
    ((if z < 0 then [45] else []) ++ (if t = [] then q.1 else q.1 ++ 46 :: t), 0)
def txtR (v : Prop) [Decidable v] (n d p : Int) : List UInt8 × Int :=
  if chkE v p ≠ 0 then ([], chkE v p)
  else
    let N := n * ((10 ^ p.toNat : Nat) : Int)
    if N % d ≠ 0 then ([], 32) else txtZ (N / d) p.toNat
theorem trimRight_any {s : List UInt8} (hs : s.length ≤ 9223372036854775807) (w : World) : Calls Tryz.prog 92 #[.string (bs s), .string ⟨#[48]⟩] w (RetB (.string (bs (Lib.trimRightB s 48))) w) := by
  have h := Tryz.strings_TrimRight_one (bs s) 48 (by decide) w (by rw [bs_size]; exact hs)
  rw [bs_list] at h
  refine h.mono ?_
  rintro e W ⟨rfl, rfl⟩
  exact ⟨rfl, Below.refl _ _⟩
theorem trimRight_len (s : List UInt8) (c : UInt8) : (Lib.trimRightB s c).length ≤ s.length := by
  unfold Lib.trimRightB
  rw [List.length_reverse]
  have := (List.dropWhile_sublist (· == c) (l := s.reverse)).length_le
  rwa [List.length_reverse] at this
theorem dec_len_bp {u k : Nat} (h : u < bp k) : (Lib.decDigits u).length ≤ 10 * k + 1 := by
  by_cases h0 : u = 0
  · subst h0
    rw [Lib.decDigits, dif_pos (by decide)]
    simp
  · rw [dec_leD u h0, List.length_reverse]
    have := leD_len k u h
    omega
set_option maxRecDepth 100000 in
theorem text_any {x : Bool} {a : Nat} {y : Bool} {b : Nat} (ha : a < bp 32) (hb : b < bp 32) {p : Int} {r : List UInt8 × Int} (hr : txtR (okR x a y b) (sZ x a) (sZ y b) p = r) (w : World) : Calls Tryz.prog 43 #[.agg (ratC x a y b), .int .i64 p] w (RetB (.tuple #[.string (bs r.1), .int .i64 r.2]) w) := by
  have F := Fr.start w
  obtain ⟨e, he⟩ : ∃ e, chkE (okR x a y b) p = e := ⟨_, rfl⟩
  have g1 := fun w => check_any ha hb he w
  unfold txtR at hr
  have hp := chkE_ok (v := okR x a y b) (p := p)
  rw [he] at hr hp
  have HR := Lib.hid hr
  have HP := Lib.hid hp
  clear hr he ha hb hp
  go_enter Tryz.func43, Tryz.ntmps43
  go_wp2_with (first | go_skip | ((with_reducible apply fL F); exact rfl; exact rfl; (exact tL); (exact tR2)) | ((with_reducible apply fA_int F); exact rfl) | ((with_reducible apply fX_rat F); exact rfl; exact rfl) | ((with_reducible apply fS F); exact rfl; exact rfl; exact rfl; (exact tL); (exact tR2); (exact tS2); clear F; intro W F; simp only [z7, z8] at F))
  (clear F; intro b2 W F; try simp only [Act.put, z6, z1, z2])
  by_cases he : ¬ e = 0
  · have hr := HR.out
    rw [if_pos he] at hr
    subst hr
    clear HR HP
    go_wp2_with (first | go_skip | ((go_at_call 68); (with_reducible refine fr_call F (g1 _) ?_); (clear F; intro W F); (try dsimp only)) | ((with_reducible apply fL F); exact rfl; exact rfl; (exact tL); (exact tR2)) | ((with_reducible apply fA_int F); exact rfl) | ((with_reducible apply fX_rat F); exact rfl; exact rfl) | ((with_reducible apply fS F); exact rfl; exact rfl; exact rfl; (exact tL); (exact tR2); (exact tS2); clear F; intro W F; simp only [z7, z8] at F))
    go_ret2
    exact ⟨rfl, F.below⟩
  rw [Classical.not_not] at he
  have hr := HR.out
  obtain ⟨hv, p0, p9⟩ := HP.out he
  rw [if_neg (by rw [Classical.not_not]; exact he)] at hr
  subst he
  clear HR HP
  obtain ⟨n, d, ⟨h1, h2, h3⟩, hn, hd, hd0⟩ := okR_ints hv
  rw [h2, h3] at hr
  obtain ⟨q, rfl⟩ : ∃ q : Nat, p = (q : Int) := ⟨p.toNat, by omega⟩
  have hq : q ≤ 9 := by omega
  rw [Int.toNat_natCast] at hr
  have g2 := fun w => scaledZ hn hd (show d ≠ 0 by omega) hq w
  have hN := b_ten hn hq
  obtain ⟨N, hNN⟩ : ∃ N, n * ((10 ^ q : Nat) : Int) = N := ⟨_, rfl⟩
  simp only [hNN] at hr g2 hN
  have hvv : (N % d).natAbs < bp 15 := by
    have k1 := Int.emod_nonneg N (show d ≠ 0 by omega)
    have k2 := Int.emod_lt_of_pos N hd0
    omega
  have hu : (N / d).natAbs < bp 17 := Nat.lt_of_le_of_lt (div_le_abs N d) hN
  obtain ⟨u, huu⟩ : ∃ u, N / d = u := ⟨_, rfl⟩
  obtain ⟨v, hv2⟩ : ∃ v, N % d = v := ⟨_, rfl⟩
  rw [huu, hv2] at g2 hr
  rw [hv2] at hvv
  rw [huu] at hu
  rw [h1] at g1 F
  have g3 := fun w => signZ (b15 hvv) w
  have hv0 : v.sign = 0 ↔ v = 0 := Int.sign_eq_zero_iff_zero
  obtain ⟨t, ht⟩ : ∃ t, v.sign = t := ⟨_, rfl⟩
  rw [ht] at g3 hv0
  clear ht hvv hv2 huu hN hNN hn hd hd0 h1 h2 h3 hv p0 p9
  by_cases hvz : ¬ v = 0
  · rw [if_pos hvz] at hr
    subst hr
    have t1 : ¬ t = 0 := fun h => hvz (hv0.1 h)
    clear hv0 hvz hu hq
    go_wp2_with (first | go_skip | ((go_at_call 68); (with_reducible refine fr_call F (g1 _) ?_); (clear F; intro W F); (try dsimp only)) | ((go_at_call 69); (with_reducible refine fr_call F (g2 _) ?_); (clear F; intro W F); (try dsimp only)) | ((with_reducible apply fL F); exact rfl; exact rfl; (exact tL); (exact tR2)) | ((with_reducible apply fA_int F); exact rfl) | ((with_reducible apply fX_rat F); exact rfl; exact rfl) | ((with_reducible apply fS F); exact rfl; exact rfl; exact rfl; (exact tL); (exact tR2); (exact tS2); clear F; intro W F; simp only [z7, z8] at F))
    (clear F; intro b7 W F; try simp only [Act.put, z6, z1, z2])
    go_wp2_with (first | go_skip | ((with_reducible apply fL F); exact rfl; exact rfl; (exact tL); (exact tR2)) | ((with_reducible apply fA_int F); exact rfl) | ((with_reducible apply fX_rat F); exact rfl; exact rfl) | ((with_reducible apply fS F); exact rfl; exact rfl; exact rfl; (exact tL); (exact tR2); (exact tS2); clear F; intro W F; simp only [z7, z8] at F))
    (clear F; intro b8 W F; try simp only [Act.put, z6, z1, z2])
    go_wp2_with (first | go_skip | ((go_at_call 72); (with_reducible refine fr_call F (g3 _) ?_); (clear F; intro W F); (try dsimp only)) | ((with_reducible apply fL F); exact rfl; exact rfl; (exact tL); (exact tR2)) | ((with_reducible apply fA_int F); exact rfl) | ((with_reducible apply fX_rat F); exact rfl; exact rfl) | ((with_reducible apply fS F); exact rfl; exact rfl; exact rfl; (exact tL); (exact tR2); (exact tS2); clear F; intro W F; simp only [z7, z8] at F))
    go_ret2
    exact ⟨rfl, F.below⟩
  rw [Classical.not_not] at hvz
  rw [if_neg (by rw [Classical.not_not]; exact hvz)] at hr
  obtain rfl : t = 0 := hv0.2 hvz
  clear hv0
  have g4 := fun w => bformat_any (z := u) (Nat.lt_of_lt_of_le hu (bp_le (by decide))) w
  have g5 := fun w => cutPrefix_any (Lib.itoa u) 45 w
  rw [(itoa_cut u).1, (itoa_cut u).2] at g5
  have hdl := dec_len_bp hu
  have hpl := point_len (s := Lib.decDigits u.natAbs) (p := q) (by omega) hq
  have g6 := fun w => point_any (Lib.decDigits u.natAbs) hq (by omega) rfl w
  unfold txtZ at hr
  obtain ⟨I, hI⟩ : ∃ I, Lib.itoa u = I := ⟨_, rfl⟩
  rw [hI] at g4 g5
  obtain ⟨D, hD⟩ : ∃ D, Lib.decDigits u.natAbs = D := ⟨_, rfl⟩
  rw [hD] at g5 g6 hr hpl
  obtain ⟨c, hc⟩ : ∃ c, pointL D q = c := ⟨_, rfl⟩
  rw [hc] at g6 hr hpl
  obtain ⟨A, B⟩ := c
  dsimp only at g6 hr hpl
  have g7 := fun w => trimRight_any (s := B) (by omega) w
  have htl := trimRight_len B 48
  obtain ⟨P, hP⟩ : ∃ P, Lib.trimRightB B 48 = P := ⟨_, rfl⟩
  rw [hP] at g7 hr htl
  have hdz : decide (u < 0) = decide (u < 0) := rfl
  obtain ⟨ng, hng⟩ : ∃ ng, decide (u < 0) = ng := ⟨_, rfl⟩
  rw [hng] at g5
  have sA := bs_size A
  have sP := bs_size P
  have e1 : bs [46] ++ bs P = bs (46 :: P) := bs_append [46] P
  have e2 := bs_append A (46 :: P)
  have e3 : bs [45] ++ bs A = bs (45 :: A) := bs_append [45] A
  have e4 : bs [45] ++ bs (A ++ 46 :: P) = bs (45 :: (A ++ 46 :: P)) := bs_append [45] (A ++ 46 :: P)
  have e5 : bs [46] = ⟨#[46]⟩ := rfl
  have e6 : bs [45] = ⟨#[45]⟩ := rfl
  rw [e5] at e1
  rw [e6] at e3 e4
  have sB := bs_size (46 :: P)
  have sC := bs_size (A ++ 46 :: P)
  have z1 : (bs P).toList = P := bs_toList P
  obtain ⟨la, hla⟩ : ∃ k, A.length = k := ⟨_, rfl⟩
  obtain ⟨lp, hlp⟩ : ∃ k, P.length = k := ⟨_, rfl⟩
  rw [List.length_cons, hlp, Nat.add_comm] at sB
  rw [List.length_append, List.length_cons, hla, hlp, Nat.add_comm lp] at sC
  rw [hla] at sA hpl hr
  rw [hlp] at sP htl
  clear hdz hI hD hc hP hla hlp hdl hu hq hvz e5 e6
  by_cases h15 : 15 < la
  · rw [if_pos h15] at hr
    subst hr
    have t2 : decide ((15 : Int) < (la : Int)) = true := decide_eq_true (by omega)
    clear h15 g7 hng htl hpl
    go_wp2_with (first | go_skip | ((go_at_call 68); (with_reducible refine fr_call F (g1 _) ?_); (clear F; intro W F); (try dsimp only)) | ((go_at_call 69); (with_reducible refine fr_call F (g2 _) ?_); (clear F; intro W F); (try dsimp only)) | ((with_reducible apply fL F); exact rfl; exact rfl; (exact tL); (exact tR2)) | ((with_reducible apply fA_int F); exact rfl) | ((with_reducible apply fX_rat F); exact rfl; exact rfl) | ((with_reducible apply fS F); exact rfl; exact rfl; exact rfl; (exact tL); (exact tR2); (exact tS2); clear F; intro W F; simp only [z7, z8] at F))
    (clear F; intro b7 W F; try simp only [Act.put, z6, z1, z2])
    go_wp2_with (first | go_skip | ((with_reducible apply fL F); exact rfl; exact rfl; (exact tL); (exact tR2)) | ((with_reducible apply fA_int F); exact rfl) | ((with_reducible apply fX_rat F); exact rfl; exact rfl) | ((with_reducible apply fS F); exact rfl; exact rfl; exact rfl; (exact tL); (exact tR2); (exact tS2); clear F; intro W F; simp only [z7, z8] at F))
    (clear F; intro b8 W F; try simp only [Act.put, z6, z1, z2])
    go_wp2_with (first | go_skip | ((go_at_call 72); (with_reducible refine fr_call F (g3 _) ?_); (clear F; intro W F); (try dsimp only)) | ((go_at_call 91); (with_reducible refine fr_call F (g4 _) ?_); (clear F; intro W F); (try dsimp only)) | ((go_at_call 56); (with_reducible refine fr_call F (g5 _) ?_); (clear F; intro W F); (try dsimp only)) | ((go_at_call 88); (with_reducible refine fr_call F (g6 _) ?_); (clear F; intro W F); (try dsimp only)) | ((with_reducible apply fL F); exact rfl; exact rfl; (exact tL); (exact tR2)) | ((with_reducible apply fA_int F); exact rfl) | ((with_reducible apply fX_rat F); exact rfl; exact rfl) | ((with_reducible apply fS F); exact rfl; exact rfl; exact rfl; (exact tL); (exact tR2); (exact tS2); clear F; intro W F; simp only [z7, z8] at F))
    go_ret2
    exact ⟨rfl, F.below⟩
  rw [if_neg h15] at hr
  have t2 : decide ((15 : Int) < (la : Int)) = false := decide_eq_false (by omega)
  have k1 : (9223372036854775807 < 1 + lp) = False := by rw [eq_iff_iff, iff_false]; omega
  have k2 : (9223372036854775807 < la + (1 + lp)) = False := by rw [eq_iff_iff, iff_false]; clear k1; omega
  have k3 : (9223372036854775807 < 1 + la) = False := by rw [eq_iff_iff, iff_false]; clear k1 k2; omega
  have k4 : (9223372036854775807 < 1 + (la + (1 + lp))) = False := by rw [eq_iff_iff, iff_false]; clear k1 k2 k3; omega
  clear h15 htl hpl
  have hup : (u < 0) = (ng = true) := by rw [← hng, decide_eq_true_eq]
  simp only [hup] at hr
  clear hup hng
  have hPP : P = [] ∨ (P == []) = false := by
    by_cases h : P = []
    · exact .inl h
    · exact .inr (by rw [beq_eq_false_iff_ne]; exact h)
  cases ng <;> rcases hPP with rfl | hPP
  all_goals
    first | rw [if_pos (show ([] : List UInt8) = [] from rfl)] at hr | rw [if_neg (show ¬ P = [] from fun h => by rw [h] at hPP; exact absurd hPP (by decide))] at hr
    first | rw [if_pos (show true = true from rfl)] at hr | rw [if_neg (show ¬ false = true by decide)] at hr
    subst hr
    go_wp2_with (first | go_skip | ((go_at_call 68); (with_reducible refine fr_call F (g1 _) ?_); (clear F; intro W F); (try dsimp only)) | ((go_at_call 69); (with_reducible refine fr_call F (g2 _) ?_); (clear F; intro W F); (try dsimp only)) | ((with_reducible apply fL F); exact rfl; exact rfl; (exact tL); (exact tR2)) | ((with_reducible apply fA_int F); exact rfl) | ((with_reducible apply fX_rat F); exact rfl; exact rfl) | ((with_reducible apply fS F); exact rfl; exact rfl; exact rfl; (exact tL); (exact tR2); (exact tS2); clear F; intro W F; simp only [z7, z8] at F))
    (clear F; intro b7 W F; try simp only [Act.put, z6, z1, z2])
    go_wp2_with (first | go_skip | ((with_reducible apply fL F); exact rfl; exact rfl; (exact tL); (exact tR2)) | ((with_reducible apply fA_int F); exact rfl) | ((with_reducible apply fX_rat F); exact rfl; exact rfl) | ((with_reducible apply fS F); exact rfl; exact rfl; exact rfl; (exact tL); (exact tR2); (exact tS2); clear F; intro W F; simp only [z7, z8] at F))
    (clear F; intro b8 W F; try simp only [Act.put, z6, z1, z2])
    go_wp2_with (first | go_skip | ((go_at_call 72); (with_reducible refine fr_call F (g3 _) ?_); (clear F; intro W F); (try dsimp only)) | ((go_at_call 91); (with_reducible refine fr_call F (g4 _) ?_); (clear F; intro W F); (try dsimp only)) | ((go_at_call 56); (with_reducible refine fr_call F (g5 _) ?_); (clear F; intro W F); (try dsimp only)) | ((go_at_call 88); (with_reducible refine fr_call F (g6 _) ?_); (clear F; intro W F); (try dsimp only)) | ((go_at_call 92); (with_reducible refine fr_call F (g7 _) ?_); (clear F; intro W F); (try dsimp only)) | ((with_reducible apply fL F); exact rfl; exact rfl; (exact tL); (exact tR2)) | ((with_reducible apply fA_int F); exact rfl) | ((with_reducible apply fX_rat F); exact rfl; exact rfl) | ((with_reducible apply fS F); exact rfl; exact rfl; exact rfl; (exact tL); (exact tR2); (exact tS2); clear F; intro W F; simp only [z7, z8] at F))
    go_ret2
    exact ⟨rfl, F.below⟩
end
section
open Go.RowKit
set_option maxHeartbeats 4000000
def pctT (v : Prop) [Decidable v] (n d : Int) : List UInt8 × Int :=
  if ¬ v then ([], 20)
  else
    let r := mkR (n * 100) d
    if r.2.2 ≠ 0 ∨ n < 0 then ([], 32)
    else
      let t := txtR (okZ r.1 r.2.1) r.1 r.2.1 6
      if t.2 ≠ 0 then ([], t.2) else (t.1 ++ [37], 0)
theorem txtR_len {v : Prop} [Decidable v] {n d p : Int} (hN : (n * ((10 ^ p.toNat : Nat) : Int) / d).natAbs < bp 17) (hp : p ≤ 9) : (txtR v n d p).1.length ≤ 2000 := by
  unfold txtR
  split
  · simp
  · dsimp only
    split
    · simp
    · unfold txtZ
      dsimp only
      split
      · simp
      · have h1 := dec_len_bp hN
        have h2 := point_len (s := Lib.decDigits (n * ((10 ^ p.toNat : Nat) : Int) / d).natAbs) (p := p.toNat) (by omega) (by omega)
        have h3 := trimRight_len (pointL (Lib.decDigits (n * ((10 ^ p.toNat : Nat) : Int) / d).natAbs) p.toNat).2 48
        rw [List.length_append]
        have h4 : (if n * ((10 ^ p.toNat : Nat) : Int) / d < 0 then [45] else ([] : List UInt8)).length ≤ 1 := by split <;> simp
        have h5 : (if Lib.trimRightB (pointL (Lib.decDigits (n * ((10 ^ p.toNat : Nat) : Int) / d).natAbs) p.toNat).2 48 = [] then (pointL (Lib.decDigits (n * ((10 ^ p.toNat : Nat) : Int) / d).natAbs) p.toNat).1 else (pointL (Lib.decDigits (n * ((10 ^ p.toNat : Nat) : Int) / d).natAbs) p.toNat).1 ++ 46 :: Lib.trimRightB (pointL (Lib.decDigits (n * ((10 ^ p.toNat : Nat) : Int) / d).natAbs) p.toNat).2 48).length ≤ 1001 := by
          split
          · omega
          · rw [List.length_append, List.length_cons]; omega
        omega
theorem RC_neg (n d : Int) : (RC n d)[0]? = some (.bool (decide (n < 0))) := by
  unfold RC
  rw [Array.getElem?_append_left (by rw [IC_size]; decide)]
  exact intC_neg _ _
theorem textZ {n d : Int} (h : okZ n d) {p : Int} {r : List UInt8 × Int} (hr : txtR (okZ n d) n d p = r) (w : World) : Calls Tryz.prog 43 #[.agg (RC n d), .int .i64 p] w (RetB (.tuple #[.string (bs r.1), .int .i64 r.2]) w) :=
  text_any (okZ_b h).1 (okZ_b h).2 (by rw [sZ_z, sZ_z]; exact hr) w
set_option maxRecDepth 100000 in
theorem percentText_any {x : Bool} {a : Nat} {y : Bool} {b : Nat} (ha : a < bp 32) (hb : b < bp 32) {r : List UInt8 × Int} (hr : pctT (okR x a y b) (sZ x a) (sZ y b) = r) (w : World) : Calls Tryz.prog 45 #[.agg (ratC x a y b)] w (RetB (.tuple #[.string (bs r.1), .int .i64 r.2]) w) := by
  have F := Fr.start w
  obtain ⟨f, hf⟩ : ∃ f, decide (okR x a y b) = f := ⟨_, rfl⟩
  have g1 := fun w => valid_any ha hb hf w
  unfold pctT at hr
  have HR := Lib.hid hr
  clear hr ha hb
  go_enter Tryz.func45, Tryz.ntmps45
  go_wp2_with (first | go_skip | ((with_reducible apply fL F); exact rfl; exact rfl; (exact tL); (exact tR2)) | ((with_reducible apply fA_rat F); exact rfl) | ((with_reducible apply fX_rat F); exact rfl; exact rfl) | ((with_reducible apply fS F); exact rfl; exact rfl; exact rfl; (exact tL); (exact tR2); (exact tS2); clear F; intro W F; simp only [z7, z8] at F))
  (clear F; intro b1 W F; try simp only [Act.put, z6, z1, z2])
  cases f
  · have hr := HR.out
    rw [if_pos (of_decide_eq_false hf)] at hr
    subst hr
    clear HR hf
    go_wp2_with (first | go_skip | ((go_at_call 93); (with_reducible refine fr_call F (g1 _) ?_); (clear F; intro W F); (try dsimp only)) | ((with_reducible apply fL F); exact rfl; exact rfl; (exact tL); (exact tR2)) | ((with_reducible apply fA_rat F); exact rfl) | ((with_reducible apply fX_rat F); exact rfl; exact rfl) | ((with_reducible apply fS F); exact rfl; exact rfl; exact rfl; (exact tL); (exact tR2); (exact tS2); clear F; intro W F; simp only [z7, z8] at F))
    go_ret2
    exact ⟨rfl, F.below⟩
  have hv := of_decide_eq_true hf
  have hr := HR.out
  rw [if_neg (by rw [Classical.not_not]; exact hv)] at hr
  clear HR hf
  obtain ⟨n, d, ⟨h1, h2, h3⟩, hn, hd, hd0⟩ := okR_ints hv
  have hz := okR_okZ hv
  rw [h2, h3] at hr hz
  rw [h1] at g1 F
  have g2 := fun w => wholeR (n := 100) (by decide) (by decide) w
  have g3 := fun w => mulZR hz (okZ_one (n := 100) (by unfold bp; decide)) (show mkR (n * 100) (d * 1) = mkR (n * 100) d by rw [Int.mul_one]) w
  have hmv := mkR_valid (n := n * 100) (d := d)
  obtain ⟨m, hm⟩ : ∃ m, mkR (n * 100) d = m := ⟨_, rfl⟩
  rw [hm] at g3 hr hmv
  obtain ⟨mn, md, me⟩ := m
  dsimp only at g3 hr hmv
  have cn : ∀ W, Fr w W [(b1, RC n d, 31)] → True := fun _ _ => trivial
  have HR := Lib.hid hr
  have HM := Lib.hid hmv
  clear hr hmv hm hz h1 h2 h3 hn hd hd0 hv cn
  go_wp2_with (first | go_skip | ((go_at_call 93); (with_reducible refine fr_call F (g1 _) ?_); (clear F; intro W F); (try dsimp only)) | ((with_reducible apply fL F); exact rfl; exact rfl; (exact tL); (exact tR2)) | ((with_reducible apply fA_rat F); exact rfl) | ((with_reducible apply fX_rat F); exact rfl; exact rfl) | ((with_reducible apply fS F); exact rfl; exact rfl; exact rfl; (exact tL); (exact tR2); (exact tS2); clear F; intro W F; simp only [z7, z8] at F))
  try simp only [Act.put, z6, z1, z2]
  refine wp_region_slots mixP [4, 5, 10, 11, 12, 13, 14, 15] (fun l mm W => ∃ (s4 s5 s10 s11 s12 s13 s14 s15 : Value) (c_b4 : Array Value) (b4 : Nat), mm = [s4, s5, s10, s11, s12, s13, s14, s15] ∧ (l.getD 0 false = true → s11 = .agg (RC n d)) ∧ (l.getD 1 false = true → s12 = .agg (RC 100 1)) ∧ (l.getD 2 false = true → s13 = .tuple #[.agg (RC mn md), .int .i64 me]) ∧ (l.getD 3 false = true → s10 = .tuple #[.agg (RC mn md), .int .i64 me]) ∧ (l.getD 4 false = true → s14 = .agg (RC mn md)) ∧ (l.getD 5 false = true → s15 = .int .i64 me) ∧ (l.getD 6 false = true → s4 = .pointer (some ⟨b4, 0, none⟩)) ∧ (l.getD 7 false = true → c_b4 = RC mn md) ∧ (l.getD 8 false = true → s5 = .int .i64 me) ∧ (l.getD 7 false = true → l.getD 6 false = true) ∧ c_b4.size = (RC mn md).size ∧ Fr w W ((b1, RC n d, 31) :: (onl (l.getD 6 false) (b4, c_b4, 31)))) (by kernel_rfl) rfl ?_ ?_ ?_
  · exact ⟨_, _, _, _, _, _, _, _, (RC 0 0), 0, rfl, nf, nf, nf, nf, nf, nf, nf, nf, nf, nf, by exact tS2, F.drew⟩
  · rintro listed mm W ii hi hsz hoff ⟨s4, s5, s10, s11, s12, s13, s14, s15, c_b4, b4, rfl, h0, h1, h2, h3, h4, h5, h6, h7, h8, hN_b4, hz0, HF⟩ hd
    have hc : ii = 0 ∨ ii = 1 ∨ ii = 2 ∨ ii = 3 ∨ ii = 4 ∨ ii = 5 ∨ ii = 6 ∨ ii = 7 ∨ ii = 8 := by
      have hi2 : ii < 9 := hi
      omega
    have hsz2 : listed.size = 9 := hsz
    clear hi hsz
    rcases hc with rfl | rfl | rfl | rfl | rfl | rfl | rfl | rfl | rfl
    · refine wpOp_want rfl rfl (fun K hK => ?_)
      simp only [putAll, z1, z2, z3, z4, z5]
      with_reducible apply gL HF
      · exact rfl
      · (exact tL)
      · (first | (exact tR2))
      go_simp
      exact hK _ _ ⟨[s4, s5, s10, (.agg (RC n d)), s12, s13, s14, s15], by simp only [putAll, z1, z2], s4, s5, s10, (.agg (RC n d)), s12, s13, s14, s15, c_b4, b4, rfl, fun _ => rfl, lk h1, lk h2, lk h3, lk h4, lk h5, lk h6, lk h7, lk h8, fun h => by rw [getD_keep (show 0 ≠ 7 by decide)] at h; rw [getD_keep (show 0 ≠ 6 by decide)]; exact hN_b4 h, hz0, by rw [getD_keep (show 0 ≠ 6 by decide)]; exact HF⟩
    · refine wpOp_want rfl rfl (fun K hK => ?_)
      simp only [putAll, z1, z2, z3, z4, z5]
      refine ⟨?_⟩
      go_simp
      with_reducible refine fr_call HF (g2 _) ?_
      clear HF
      intro W HF
      (try dsimp only)
      exact hK _ _ ⟨[s4, s5, s10, s11, (.agg (RC 100 1)), s13, s14, s15], by simp only [putAll, z1, z2], s4, s5, s10, s11, (.agg (RC 100 1)), s13, s14, s15, c_b4, b4, rfl, lk h0, fun _ => rfl, lk h2, lk h3, lk h4, lk h5, lk h6, lk h7, lk h8, fun h => by rw [getD_keep (show 1 ≠ 7 by decide)] at h; rw [getD_keep (show 1 ≠ 6 by decide)]; exact hN_b4 h, hz0, by rw [getD_keep (show 1 ≠ 6 by decide)]; exact HF⟩
    · have d0 := h0 (hd 0 (by kernel_rfl))
      have d1 := h1 (hd 1 (by kernel_rfl))
      obtain rfl := d0
      obtain rfl := d1
      refine wpOp_want rfl rfl (fun K hK => ?_)
      simp only [putAll, z1, z2, z3, z4, z5]
      refine ⟨?_⟩
      go_simp
      with_reducible refine fr_call HF (g3 _) ?_
      clear HF
      intro W HF
      (try dsimp only)
      exact hK _ _ ⟨[s4, s5, s10, (.agg (RC n d)), (.agg (RC 100 1)), (.tuple #[.agg (RC mn md), .int .i64 me]), s14, s15], by simp only [putAll, z1, z2], s4, s5, s10, (.agg (RC n d)), (.agg (RC 100 1)), (.tuple #[.agg (RC mn md), .int .i64 me]), s14, s15, c_b4, b4, rfl, lk h0, lk h1, fun _ => rfl, lk h3, lk h4, lk h5, lk h6, lk h7, lk h8, fun h => by rw [getD_keep (show 2 ≠ 7 by decide)] at h; rw [getD_keep (show 2 ≠ 6 by decide)]; exact hN_b4 h, hz0, by rw [getD_keep (show 2 ≠ 6 by decide)]; exact HF⟩
    · have d2 := h2 (hd 2 (by kernel_rfl))
      obtain rfl := d2
      refine wpOp_want rfl rfl (fun K hK => ?_)
      simp only [putAll, z1, z2, z3, z4, z5]
      refine ⟨?_⟩
      go_simp
      exact hK _ _ ⟨[s4, s5, (.tuple #[.agg (RC mn md), .int .i64 me]), s11, s12, (.tuple #[.agg (RC mn md), .int .i64 me]), s14, s15], by simp only [putAll, z1, z2], s4, s5, (.tuple #[.agg (RC mn md), .int .i64 me]), s11, s12, (.tuple #[.agg (RC mn md), .int .i64 me]), s14, s15, c_b4, b4, rfl, lk h0, lk h1, lk h2, fun _ => rfl, lk h4, lk h5, lk h6, lk h7, lk h8, fun h => by rw [getD_keep (show 3 ≠ 7 by decide)] at h; rw [getD_keep (show 3 ≠ 6 by decide)]; exact hN_b4 h, hz0, by rw [getD_keep (show 3 ≠ 6 by decide)]; exact HF⟩
    · have d3 := h3 (hd 3 (by kernel_rfl))
      obtain rfl := d3
      refine wpOp_want rfl rfl (fun K hK => ?_)
      simp only [putAll, z1, z2, z3, z4, z5]
      refine ⟨?_⟩
      go_simp
      exact hK _ _ ⟨[s4, s5, (.tuple #[.agg (RC mn md), .int .i64 me]), s11, s12, s13, (.agg (RC mn md)), s15], by simp only [putAll, z1, z2], s4, s5, (.tuple #[.agg (RC mn md), .int .i64 me]), s11, s12, s13, (.agg (RC mn md)), s15, c_b4, b4, rfl, lk h0, lk h1, lk h2, lk h3, fun _ => rfl, lk h5, lk h6, lk h7, lk h8, fun h => by rw [getD_keep (show 4 ≠ 7 by decide)] at h; rw [getD_keep (show 4 ≠ 6 by decide)]; exact hN_b4 h, hz0, by rw [getD_keep (show 4 ≠ 6 by decide)]; exact HF⟩
    · have d3 := h3 (hd 3 (by kernel_rfl))
      obtain rfl := d3
      refine wpOp_want rfl rfl (fun K hK => ?_)
      simp only [putAll, z1, z2, z3, z4, z5]
      refine ⟨?_⟩
      go_simp
      exact hK _ _ ⟨[s4, s5, (.tuple #[.agg (RC mn md), .int .i64 me]), s11, s12, s13, s14, (.int .i64 me)], by simp only [putAll, z1, z2], s4, s5, (.tuple #[.agg (RC mn md), .int .i64 me]), s11, s12, s13, s14, (.int .i64 me), c_b4, b4, rfl, lk h0, lk h1, lk h2, lk h3, lk h4, fun _ => rfl, lk h6, lk h7, lk h8, fun h => by rw [getD_keep (show 5 ≠ 7 by decide)] at h; rw [getD_keep (show 5 ≠ 6 by decide)]; exact hN_b4 h, hz0, by rw [getD_keep (show 5 ≠ 6 by decide)]; exact HF⟩
    · refine wpOp_want rfl rfl (fun K hK => ?_)
      simp only [putAll, z1, z2, z3, z4, z5]
      rw [show listed.getD 6 false = false from hoff] at HF
      skip
      with_reducible apply gA_rat HF
      intro bN W HF
      go_simp
      exact hK _ _ ⟨[(.pointer (some ⟨bN, 0, none⟩)), s5, s10, s11, s12, s13, s14, s15], by simp only [putAll, z1, z2], (.pointer (some ⟨bN, 0, none⟩)), s5, s10, s11, s12, s13, s14, s15, (RC 0 0), bN, rfl, lk h0, lk h1, lk h2, lk h3, lk h4, lk h5, fun _ => rfl, fun h => absurd (hN_b4 (by rw [getD_keep (show 6 ≠ 7 by decide)] at h; exact h)) (by rw [hoff]; decide), lk h8, fun _ => getD_on (by omega), by exact tS2, by rw [getD_on (show 6 < listed.size by omega)]; exact Fr.mid (A := [(b1, RC n d, 31)]) HF⟩
    · have d4 := h4 (hd 4 (by kernel_rfl))
      have d6 := h6 (hd 6 (by kernel_rfl))
      obtain rfl := d4
      obtain rfl := d6
      refine wpOp_want rfl rfl (fun K hK => ?_)
      simp only [putAll, z1, z2, z3, z4, z5]
      rw [hd 6 (by kernel_rfl)] at HF
      simp only [onl, if_true, z7, z8] at HF
      with_reducible apply gS HF
      · exact rfl
      · exact rfl
      · (exact tL)
      · (first | (exact tR2))
      · first | exact hz0 | exact tS2
      clear HF
      intro W HF
      simp only [z7, z8] at HF
      go_simp
      exact hK _ _ ⟨[(.pointer (some ⟨b4, 0, none⟩)), s5, s10, s11, s12, s13, (.agg (RC mn md)), s15], by simp only [putAll, z1, z2], (.pointer (some ⟨b4, 0, none⟩)), s5, s10, s11, s12, s13, (.agg (RC mn md)), s15, (RC mn md), b4, rfl, lk h0, lk h1, lk h2, lk h3, lk h4, lk h5, lk h6, fun _ => rfl, lk h8, fun _ => by rw [getD_keep (show 7 ≠ 6 by decide)]; exact hd 6 (by kernel_rfl), rfl, by rw [getD_keep (show 7 ≠ 6 by decide), hd 6 (by kernel_rfl)]; exact HF⟩
    · have d5 := h5 (hd 5 (by kernel_rfl))
      obtain rfl := d5
      refine wpOp_want rfl rfl (fun K hK => ?_)
      simp only [putAll, z1, z2, z3, z4, z5]
      refine ⟨?_⟩
      go_simp
      exact hK _ _ ⟨[s4, (.int .i64 me), s10, s11, s12, s13, s14, (.int .i64 me)], by simp only [putAll, z1, z2], s4, (.int .i64 me), s10, s11, s12, s13, s14, (.int .i64 me), c_b4, b4, rfl, lk h0, lk h1, lk h2, lk h3, lk h4, lk h5, lk h6, lk h7, fun _ => rfl, fun h => by rw [getD_keep (show 8 ≠ 7 by decide)] at h; rw [getD_keep (show 8 ≠ 6 by decide)]; exact hN_b4 h, hz0, by rw [getD_keep (show 8 ≠ 6 by decide)]; exact HF⟩
  rintro listed mm W ⟨s4, s5, s10, s11, s12, s13, s14, s15, c_b4, b4, rfl, h0, h1, h2, h3, h4, h5, h6, h7, h8, hN_b4, hz0, HF⟩ hall
  rw [hall 6 (by decide)] at HF
  simp only [onl, if_true, z7, z8] at HF
  obtain rfl := h0 (hall 0 (by decide))
  obtain rfl := h1 (hall 1 (by decide))
  obtain rfl := h2 (hall 2 (by decide))
  obtain rfl := h3 (hall 3 (by decide))
  obtain rfl := h4 (hall 4 (by decide))
  obtain rfl := h5 (hall 5 (by decide))
  obtain rfl := h6 (hall 6 (by decide))
  rw [h7 (hall 7 (by decide))] at HF
  obtain rfl := h8 (hall 8 (by decide))
  clear hall h0 h1 h2 h3 h4 h5 h6 h7 h8 hN_b4 hz0 F
  have F := HF
  clear HF
  simp only [putAll, z1, z2]
  have c0 := (F.get tL : BlkAt W b1 (RC n d) 31).cell (RC_neg n d)
  by_cases he : ¬ me = 0
  · have hr := HR.out
    rw [if_pos (.inl he)] at hr
    subst hr
    clear HR HM
    go_wp2_with (first | go_skip | ((with_reducible apply fL F); exact rfl; exact rfl; (exact tL); (exact tR2)) | ((with_reducible apply fA_rat F); exact rfl) | ((with_reducible apply fX_rat F); exact rfl; exact rfl) | ((with_reducible apply fS F); exact rfl; exact rfl; exact rfl; (exact tL); (exact tR2); (exact tS2); clear F; intro W F; simp only [z7, z8] at F))
    go_ret2
    exact ⟨rfl, F.below⟩
  rw [Classical.not_not] at he
  have hmv := HM.out he
  subst he
  by_cases hneg : n < 0
  · have hr := HR.out
    rw [if_pos (.inr hneg)] at hr
    subst hr
    rw [decide_eq_true hneg] at c0
    clear HR HM hneg
    go_wp2_with (first | go_skip | ((with_reducible apply fL F); exact rfl; exact rfl; (exact tL); (exact tR2)) | ((with_reducible apply fA_rat F); exact rfl) | ((with_reducible apply fX_rat F); exact rfl; exact rfl) | ((with_reducible apply fS F); exact rfl; exact rfl; exact rfl; (exact tL); (exact tR2); (exact tS2); clear F; intro W F; simp only [z7, z8] at F))
    go_ret2
    exact ⟨rfl, F.below⟩
  have hr := HR.out
  rw [if_neg (by
    rintro (h | h)
    · exact h rfl
    · exact hneg h)] at hr
  rw [decide_eq_false hneg] at c0
  have g4 := fun w => textZ hmv (p := 6) rfl w
  have htl := txtR_len (v := okZ mn md) (n := mn) (d := md) (p := 6) (by
    have h1 := (okZ_iff.1 hmv).1.1
    exact Nat.lt_of_le_of_lt (div_le_abs _ _) (b_ten h1 (by decide))) (by decide)
  obtain ⟨t, ht⟩ : ∃ t, txtR (okZ mn md) mn md 6 = t := ⟨_, rfl⟩
  rw [ht] at g4 hr htl
  obtain ⟨tx, te⟩ := t
  dsimp only at g4 hr htl
  have e1 := bs_append tx [37]
  have e2 : bs [37] = ⟨#[37]⟩ := rfl
  rw [e2] at e1
  have st := bs_size tx
  obtain ⟨lt, hlt⟩ : ∃ k, tx.length = k := ⟨_, rfl⟩
  rw [hlt] at st htl
  have k1 : (9223372036854775807 < lt + 1) = False := by rw [eq_iff_iff, iff_false]; omega
  clear HR HM hneg hmv ht hlt e2 htl
  by_cases hte : ¬ te = 0
  · rw [if_pos hte] at hr
    subst hr
    go_wp2_with (first | go_skip | ((go_at_call 43); (with_reducible refine fr_call F (g4 _) ?_); (clear F; intro W F); (try dsimp only)) | ((with_reducible apply fL F); exact rfl; exact rfl; (exact tL); (exact tR2)) | ((with_reducible apply fA_rat F); exact rfl) | ((with_reducible apply fX_rat F); exact rfl; exact rfl) | ((with_reducible apply fS F); exact rfl; exact rfl; exact rfl; (exact tL); (exact tR2); (exact tS2); clear F; intro W F; simp only [z7, z8] at F))
    go_ret2
    exact ⟨rfl, F.below⟩
  rw [if_neg hte] at hr
  rw [Classical.not_not] at hte
  subst hte
  subst hr
  go_wp2_with (first | go_skip | ((go_at_call 43); (with_reducible refine fr_call F (g4 _) ?_); (clear F; intro W F); (try dsimp only)) | ((with_reducible apply fL F); exact rfl; exact rfl; (exact tL); (exact tR2)) | ((with_reducible apply fA_rat F); exact rfl) | ((with_reducible apply fX_rat F); exact rfl; exact rfl) | ((with_reducible apply fS F); exact rfl; exact rfl; exact rfl; (exact tL); (exact tR2); (exact tS2); clear F; intro W F; simp only [z7, z8] at F))
  go_ret2
  exact ⟨rfl, F.below⟩
end
section
open Go.RowKit
set_option maxHeartbeats 4000000
theorem rdF_ok {t : List UInt8} {k : Nat} {neg : Bool} : (rdF t k neg).2.2 = !(neg && decide (numL t = 0)) := by
  unfold rdF
  split
  · rename_i h
    rw [h.1, decide_eq_true h.2]
    rfl
  · rename_i h
    cases neg
    · rfl
    · rw [decide_eq_false (fun h2 => h ⟨rfl, h2⟩)]
      rfl
theorem rdG_ok {a b : List UInt8} {p : Int} {neg : Bool} (ha : a.all isD = true) (hb : b.all isD = true) (h0 : a ≠ []) (hz : 1 < a.length → a.head? ≠ some 48) (hbp : (b.length : Int) ≤ p) :
    rdG (if b = [] then a else a ++ 46 :: b) p neg = if 15 < a.length then (0, 0, false) else rdF (a ++ b) b.length neg := by
  have hal : 0 < a.length := List.length_pos_iff.2 h0
  by_cases hb0 : b = []
  · subst hb0
    rw [if_pos rfl, List.append_nil]
    unfold rdG
    have hd := dcnt_all ha
    by_cases h15 : 15 < a.length
    · rw [if_pos h15, if_pos (rdB_iff.2 (.inr (.inl (by rw [hd]; exact h15))))]
    · rw [if_neg h15, if_neg]
      · rw [hd, List.drop_length]
        dsimp only
        rw [if_pos rfl, List.take_length]
        rfl
      · rw [rdB_iff, hd]
        rintro (h | h | h)
        · omega
        · exact h15 h
        · exact hz h.1 h.2
  · rw [if_neg hb0]
    have hd : dcnt (a ++ 46 :: b) = a.length := by
      refine dcnt_at (i := a.length) (by simp) (by rw [List.take_left' rfl]; exact ha) ?_
      rw [List.getElem_append_right (Nat.le_refl _)]
      simp [isD_dot]
    have hh : (a ++ 46 :: b).head? = a.head? := by
      cases a with
      | nil => exact absurd rfl h0
      | cons c t => rfl
    unfold rdG
    by_cases h15 : 15 < a.length
    · rw [if_pos h15, if_pos (rdB_iff.2 (.inr (.inl (by rw [hd]; exact h15))))]
    · rw [if_neg h15, if_neg]
      · rw [hd, List.drop_left' rfl, List.take_left' rfl]
        dsimp only
        have hC : rdC b p = false := by
          unfold rdC
          rw [decide_eq_false_iff_not, dcnt_all hb]
          have := List.length_pos_iff.2 hb0
          rintro (h | h | h)
          · omega
          · exact h rfl
          · omega
        rw [if_neg (List.cons_ne_nil _ _), List.head?_cons, List.tail_cons, hC, if_neg]
        rintro (h | h)
        · exact h rfl
        · exact absurd h (by decide)
      · rw [rdB_iff, hd, hh]
        rintro (h | h | h)
        · omega
        · exact h15 h
        · exact hz h.1 h.2
end
section
open Go.RowKit
theorem numL_snoc (l : List UInt8) (b : UInt8) : numL (l ++ [b]) = numL l * 10 + (b.toNat - 48) := by
  unfold numL
  rw [numF_append, numF_cons]
  rfl
theorem digit_val {d : Nat} (h : d < 10) : (UInt8.ofNat (48 + d)).toNat - 48 = d := by
  have : (UInt8.ofNat (48 + d)).toNat = 48 + d := by
    rw [UInt8.toNat_ofNat']
    omega
  omega
theorem dec_num (u : Nat) : numL (Lib.decDigits u) = u := by
  induction u using Nat.strongRecOn with
  | ind u ih =>
    rw [Lib.decDigits]
    split
    · rename_i h
      have := digit_val h
      unfold numL
      rw [numF_cons]
      show 0 * 10 + _ = u
      omega
    · rename_i h
      rw [numL_snoc, ih (u / 10) (by omega), digit_val (by omega)]
      omega
theorem dec_head (u : Nat) : 1 < (Lib.decDigits u).length → (Lib.decDigits u).head? ≠ some 48 := by
  have hd : ∀ u : Nat, 0 < u → (Lib.decDigits u).head? ≠ some 48 := by
    intro u
    induction u using Nat.strongRecOn with
    | ind u ih =>
      intro h0
      rw [Lib.decDigits]
      split
      · rename_i h
        rw [List.head?_cons, ne_eq, Option.some.injEq, ← UInt8.toNat_inj]
        have := digit_val h
        rw [show (48 : UInt8).toNat = 48 from rfl]
        omega
      · rename_i h
        have h1 := ih (u / 10) (by omega) (by omega)
        have h2 := dec_ne (u / 10)
        cases hq : Lib.decDigits (u / 10) with
        | nil => exact absurd hq h2
        | cons c t =>
          rw [hq] at h1
          exact h1
  intro h
  refine hd u (Nat.pos_of_ne_zero fun h0 => ?_)
  subst h0
  rw [Lib.decDigits, dif_pos (by decide)] at h
  exact absurd h (by decide)
theorem numL_zeros (j : Nat) (l : List UInt8) : numL (List.replicate j 48 ++ l) = numL l := by
  induction j with
  | zero => rfl
  | succ j ih =>
    rw [List.replicate_succ, List.cons_append]
    unfold numL at ih ⊢
    rw [numF_cons]
    exact ih
theorem numL_tail (l : List UInt8) (k : Nat) : numL (l ++ List.replicate k 48) = numL l * 10 ^ k := by
  induction k generalizing l with
  | zero => rw [List.replicate_zero, List.append_nil, Nat.pow_zero, Nat.mul_one]
  | succ k ih =>
    rw [List.replicate_succ, show l ++ 48 :: List.replicate k 48 = (l ++ [48]) ++ List.replicate k 48 by simp, ih, numL_snoc, Nat.pow_succ, Nat.mul_comm (10 ^ k) 10, ← Nat.mul_assoc]
    rfl
theorem point_facts (u : Nat) {p : Nat} {a b : List UInt8} (h : pointL (Lib.decDigits u) p = (a, b)) : a.all isD = true ∧ b.all isD = true ∧ a ≠ [] ∧ (1 < a.length → a.head? ≠ some 48) ∧ b.length = p ∧ numL (a ++ b) = u := by
  have hD := dec_digits u
  have hn := dec_num u
  have hh := dec_head u
  have h0 := dec_ne u
  generalize Lib.decDigits u = D at *
  unfold pointL at h
  have hl : 0 < D.length := List.length_pos_iff.2 h0
  obtain ⟨t, ht⟩ : ∃ t, (if D.length ≤ p then List.replicate (p + 1 - D.length) 48 ++ D else D) = t := ⟨_, rfl⟩
  rw [ht] at h
  dsimp only at h
  rw [Prod.mk.injEq] at h
  obtain ⟨ha, hb⟩ := h
  have htd : t.all isD = true ∧ numL t = u ∧ p < t.length ∧ (t.length = p + 1 ∨ t = D) := by
    rw [← ht]
    split
    · refine ⟨?_, by rw [numL_zeros, hn], by rw [List.length_append, List.length_replicate]; omega, .inl (by rw [List.length_append, List.length_replicate]; omega)⟩
      rw [List.all_append, hD, Bool.and_true, List.all_eq_true]
      intro x hx
      rw [List.eq_of_mem_replicate hx]
      decide
    · exact ⟨hD, hn, by omega, .inr rfl⟩
  obtain ⟨h1, h2, h3, h4⟩ := htd
  have hab : a ++ b = t := by rw [← ha, ← hb, List.take_append_drop]
  have hal : a.length = t.length - p := by rw [← ha, List.length_take]; omega
  refine ⟨?_, ?_, ?_, ?_, ?_, by rw [hab, h2]⟩
  · rw [← hab, List.all_append, Bool.and_eq_true] at h1
    exact h1.1
  · rw [← hab, List.all_append, Bool.and_eq_true] at h1
    exact h1.2
  · rintro rfl
    rw [List.length_nil] at hal
    omega
  · intro hlt
    rcases h4 with h4 | h4
    · omega
    · have hD1 : 1 < D.length := by rw [← h4]; omega
      have := hh hD1
      rw [← h4, ← hab] at this
      cases a with
      | nil => exact absurd hlt (by simp)
      | cons c t => exact this
  · rw [← hb, List.length_drop]
    omega
theorem trim_zeros (b : List UInt8) : ∃ k, b = Lib.trimRightB b 48 ++ List.replicate k 48 := by
  unfold Lib.trimRightB
  refine ⟨(b.reverse.takeWhile (· == 48)).length, ?_⟩
  have h1 := List.takeWhile_append_dropWhile (p := (· == (48 : UInt8))) (l := b.reverse)
  have h2 : b.reverse.takeWhile (· == 48) = List.replicate (b.reverse.takeWhile (· == 48)).length 48 := by
    rw [List.eq_replicate_iff]
    refine ⟨rfl, fun x hx => ?_⟩
    have := List.all_eq_true.1 List.all_takeWhile x hx
    simpa using this
  have h3 := congrArg List.reverse h1
  rw [List.reverse_append, List.reverse_reverse] at h3
  rw [← List.reverse_replicate, ← h2]
  exact h3.symm
def txtS (neg : Bool) (a t : List UInt8) : List UInt8 := (if neg = true then [45] else []) ++ (if t = [] then a else a ++ 46 :: t)
end
section
open Go.ChangeShapes Go.WideShapes Go.ChangeAt Go.RowKit Go.Deep
abbrev laid7 : List (String × DataW Unit) := [("math/bits.deBruijn32tab", Rows.laid_math_bits_deBruijn32tab), ("math/bits.deBruijn64tab", Rows.laid_math_bits_deBruijn64tab), ("internal/strconv.uint64pow10", Rows.laid_internal_strconv_uint64pow10), ("unicode/utf8.acceptRanges", Rows.laid_unicode_utf8_acceptRanges), ("strconv.ErrRange", Rows.laid_strconv_ErrRange), ("strconv.ErrSyntax", Rows.laid_strconv_ErrSyntax), ("unicode/utf8.first", Rows.laid_unicode_utf8_first)]
theorem tab7 {W : World} (h : laidMetH Tryz.prog laid7 W) : Tab W := by
  rw [MakeChecks.laidMetH_plain _ _ _ (by kernel_rfl)] at h
  obtain ⟨ps, ⟨g0, t0, cs0, f0, p0, q0, hg0, ht0, hv0, hd0, ⟨g1, t1, cs1, f1, p1, q1, hg1, ht1, hv1, hd1, ⟨g2, t2, cs2, f2, p2, q2, hg2, ht2, hv2, hd2, _, _⟩, _⟩, _⟩, _, _⟩ := h
  obtain rfl := Option.some.inj (gP10.symm.trans hg2)
  obtain ⟨t, e, n, hty, hu, he, hce, hct⟩ : ∃ t e n, (Tryz.prog.globals[4]?).map (·.type) = some t ∧ Tryz.prog.underlying t = some (.array n e) ∧ Tryz.prog.underlying e = some (.int .u64) ∧ Tryz.prog.cellsOf e = 1 ∧ Tryz.prog.cellsOf t = n := ⟨_, _, _, by kernel_rfl, Tryz.underlying203, Tryz.underlying112, by kernel_rfl, by kernel_rfl⟩
  obtain rfl := Option.some.inj (hty.symm.trans ht2)
  unfold Tab Lib.TabIs
  rw [hv2, ← Lib.cells_of_tab hu he hce hct hd2]
theorem door7 (os : Os) (args : Array Value) : laidMetH Tryz.prog laid7 ((World.laidAll Tryz.prog os laid7).forCall (fun _ _ => 0) ⟨#[], args, []⟩).memory := by
  rw [MakeChecks.laidMetH_plain _ _ _ (by kernel_rfl)]
  exact laidMet_laidAll _ (by kernel_rfl) (by kernel_rfl)
end
end Go.Proofs.YtpaodheilchfnaaGreatDoor
