/-
  The walk of the document's Instant.
-/
import Derived.Test.YtmjegmlchonlmaaZoneWalkC
namespace Go.Proofs.Ytmjegmlchonlmaa
open Go.RowKit

theorem inst_lt {f o l a p t : Int} {r : List (Int × Int)} (ht : t = max f (l - o)) (h : t < a) : instFrom f o ((a, p) :: r) l = some t := by
  rw [instFrom_cons, ← ht, if_pos h]
theorem inst_ge {f o l a p t : Int} {r : List (Int × Int)} (ht : t = max f (l - o)) (h : a ≤ t) : instFrom f o ((a, p) :: r) l = instFrom a p r l := by
  rw [instFrom_cons, ← ht, if_neg (by omega)]
theorem inst_nil_lt {f o l t : Int} (ht : t = max f (l - o)) (h : t < 105190560) : instFrom f o [] l = some t := by
  rw [instFrom_nil, ← ht, if_pos h]
theorem inst_nil_ge {f o l t : Int} (ht : t = max f (l - o)) (h : 105190560 ≤ t) : instFrom f o [] l = none := by
  rw [instFrom_nil, ← ht, if_neg (by omega)]

set_option maxHeartbeats 1000000 in
theorem refInstant_any (z : ZN) (A : Option Addr) (c : Nat) (d m : Int) (w : World) (hz : ZAt w z A) :
    Calls Try.prog 29 #[.agg #[.string z.name, .int .i64 z.off, .slice A z.cs.length c], .int .i64 d, .int .i64 m] w (RetB (.tuple #[.int .i64 (z.instV d m), .int .i64 (z.instE d m)]) w) := by
  have hz1 : ZAt (w.alloc (.cells #[.string z.name, .int .i64 z.off, .slice A z.cs.length c] 24)) z A := hz.below (bal0 _ _)
  have hw1 : Below w.heap.size w (w.alloc (.cells #[.string z.name, .int .i64 z.off, .slice A z.cs.length c] 24)) := bal0 _ _
  cases ho : z.ok
  · obtain ⟨e1, e2⟩ := ZN.inst_zone ho d m
    rw [e1, e2]
    clear e1 e2
    go_enter Try.func29, Try.ntmps29
    go_wp2_with (go_at_call 32; refine (refCheck_is (ZN.err_of_bad ho) A c _ hz1).mono ?_; rintro e w' ⟨rfl, hb⟩)
    go_ret2
    exact ⟨rfl, bnext hw1 hb⟩
  · cases hd : dayB d
    · obtain ⟨e1, e2⟩ := ZN.inst_day ho hd m
      rw [e1, e2]
      clear e1 e2
      go_enter Try.func29, Try.ntmps29
      go_wp2_with (first | (go_at_call 32; refine (refCheck_is (ZN.err_of_ok ho) A c _ hz1).mono ?_; rintro e w' ⟨rfl, hb⟩) | (go_at_call 84; refine (out_is hd _).mono ?_; rintro e w' ⟨rfl, rfl⟩))
      go_ret2
      exact ⟨rfl, bnext hw1 hb⟩
    · cases hm : minB m
      · obtain ⟨e1, e2⟩ := ZN.inst_min ho hd hm
        rw [e1, e2]
        clear e1 e2
        rcases minB_no hm with hmm | hmm
        all_goals
          clear hm
          go_enter Try.func29, Try.ntmps29
          go_wp2_with (first | (go_at_call 32; refine (refCheck_is (ZN.err_of_ok ho) A c _ hz1).mono ?_; rintro e w' ⟨rfl, hb⟩) | (go_at_call 84; refine (out_is hd _).mono ?_; rintro e w' ⟨rfl, rfl⟩))
          go_ret2
          exact ⟨rfl, bnext hw1 hb⟩
      · have hN := @ZN.inst_none z ho d m hd hm
        have hS := fun x => @ZN.inst_some z ho d m x hd hm
        have HN := Lib.hid hN
        have HS := Lib.hid hS
        have hl4 := ZN.len_of_ok ho
        obtain ⟨hd1, hd2⟩ := (dayB_iff d).1 hd
        obtain ⟨hm1, hm2⟩ := (minB_iff m).1 hm
        obtain ⟨ho1, ho2⟩ := ZN.off_of_ok ho
        have hcs := Lib.hid (ZN.cs_of_ok ho)
        clear hN hS hm
        go_enter Try.func29, Try.ntmps29
        go_wp2_with (first | (go_at_call 32; refine (refCheck_is (ZN.err_of_ok ho) A c _ hz1).mono ?_; rintro e w' ⟨rfl, hb⟩; have hc := bcell hb; simp at hc) | (go_at_call 84; refine (out_is hd _).mono ?_; rintro e w' ⟨rfl, rfl⟩))
        go_quiet (fail)
        go_wp2
        have hW0 : Below w.heap.size w w' := bnext hw1 hb
        have hs0 := hb.size
        simp at hs0
        go_loopw [9, 10, 11] (fun fv ov iv wr => ∃ (k : Nat) (f o : Int), k ≤ z.cs.length + 1 ∧ iv = .int .i64 k ∧ fv = .int .i64 f ∧ ov = .int .i64 o ∧ -900 ≤ o ∧ o ≤ 900 ∧
            (k ≤ z.cs.length → instFrom 0 z.off z.cs (1440 * d + m) = instFrom f o (z.cs.drop k) (1440 * d + m)) ∧ (k = z.cs.length + 1 → instFrom 0 z.off z.cs (1440 * d + m) = none) ∧ Below w'.heap.size w' wr)
          (fun _ _ iv _ => z.cs.length + 1 - (intOf iv).toNat)
        case atStart => exact ⟨0, 0, z.off, by omega, rfl, rfl, rfl, ho1, ho2, fun _ => rfl, fun h => by omega, below_drewN (Below.refl _ _) _⟩
        case round =>
          obtain ⟨k, f, o, hk, rfl, rfl, rfl, hk1, hk2, hE, hX, hB⟩ := hrel
          have HE := Lib.hid hE
          have HX := Lib.hid hX
          clear hE hX
          have hBw : Below w.heap.size w wr := bnext hW0 hB
          have c2 := (bcell hB w.heap.size 2 (by omega)).trans (hc w.heap.size 2 (by omega))
          simp at c2
          by_cases hlt : k < z.cs.length
          · obtain ⟨b, off, x1, x2, rfl, hb0, g1, g2, hdr, -⟩ := hz.at_ hBw k hlt
            have HD := Lib.hid hdr
            have hx := hcs.out (x1, x2) (by have : (x1, x2) ∈ z.cs.drop k := by rw [hdr]; exact List.mem_cons_self
                                            exact List.mem_of_mem_drop this)
            obtain ⟨hx1, hx2, hx3, hx4⟩ := hx
            clear hdr
            obtain ⟨t, ht⟩ : ∃ t, t = max f (1440 * d + m - o) := ⟨_, rfl⟩
            have HT := Lib.hid ht
            by_cases hmx : f < 1440 * d + m - o
            · have ht2 : t = 1440 * d + m - o := by omega
              clear ht
              by_cases htx : 1440 * d + m - o < x1
              · have hin : instFrom 0 z.off z.cs (1440 * d + m) = some (1440 * d + m - o) := by rw [HE.out (by omega), HD.out]; exact inst_lt (by omega) htx
                obtain ⟨e1, e2⟩ := HS.out _ hin
                rw [e1, e2]
                clear e1 e2 hin ht2
                go_wp2
                go_ret2
                exact ⟨rfl, hBw⟩
              · have hin : instFrom 0 z.off z.cs (1440 * d + m) = instFrom x1 x2 (z.cs.drop (k + 1)) (1440 * d + m) := by rw [HE.out (by omega), HD.out]; exact inst_ge HT.out (by omega)
                have HI := Lib.hid hin
                clear hin ht2
                go_wp2
                go_quiet (fail)
                go_wp2
                go_roundw
                case rel => exact ⟨k + 1, x1, x2, by omega, by go_num, rfl, rfl, by omega, by omega, fun _ => HI.out, fun h => by omega, below_drewN hB _⟩
                case measure => simp [intOf]; omega
            · have ht2 : t = f := by omega
              clear ht
              by_cases htx : f < x1
              · have hin : instFrom 0 z.off z.cs (1440 * d + m) = some f := by rw [HE.out (by omega), HD.out]; exact inst_lt (by omega) htx
                obtain ⟨e1, e2⟩ := HS.out _ hin
                rw [e1, e2]
                clear e1 e2 hin ht2
                go_wp2
                go_ret2
                exact ⟨rfl, hBw⟩
              · have hin : instFrom 0 z.off z.cs (1440 * d + m) = instFrom x1 x2 (z.cs.drop (k + 1)) (1440 * d + m) := by rw [HE.out (by omega), HD.out]; exact inst_ge HT.out (by omega)
                have HI := Lib.hid hin
                clear hin ht2
                go_wp2
                go_quiet (fail)
                go_wp2
                go_roundw
                case rel => exact ⟨k + 1, x1, x2, by omega, by go_num, rfl, rfl, by omega, by omega, fun _ => HI.out, fun h => by omega, below_drewN hB _⟩
                case measure => simp [intOf]; omega
          · by_cases hke : k = z.cs.length
            · have hdr : z.cs.drop k = [] := List.drop_of_length_le (by omega)
              have HD := Lib.hid hdr
              have HK := Lib.hid hke
              have hkle : k ≤ z.cs.length := by omega
              clear hdr hke
              obtain ⟨t, ht⟩ : ∃ t, t = max f (1440 * d + m - o) := ⟨_, rfl⟩
              have HT := Lib.hid ht
              by_cases hmx : f < 1440 * d + m - o
              · have ht2 : t = 1440 * d + m - o := by omega
                clear ht
                by_cases htx : 1440 * d + m - o < 105190560
                · have hin : instFrom 0 z.off z.cs (1440 * d + m) = some (1440 * d + m - o) := by rw [HE.out (by omega), HD.out]; exact inst_nil_lt (by omega) htx
                  obtain ⟨e1, e2⟩ := HS.out _ hin
                  rw [e1, e2]
                  clear e1 e2 hin ht2
                  go_wp2
                  go_ret2
                  exact ⟨rfl, hBw⟩
                · have hin : instFrom 0 z.off z.cs (1440 * d + m) = none := by rw [HE.out (by omega), HD.out]; exact inst_nil_ge HT.out (by omega)
                  have HI := Lib.hid hin
                  clear hin ht2
                  go_wp2
                  go_roundw
                  case rel => exact ⟨k + 1, f, o, by omega, by go_num, rfl, rfl, by omega, by omega, fun h => by omega, fun _ => HI.out, hB⟩
                  case measure => simp [intOf]; omega
              · have ht2 : t = f := by omega
                clear ht
                by_cases htx : f < 105190560
                · have hin : instFrom 0 z.off z.cs (1440 * d + m) = some f := by rw [HE.out (by omega), HD.out]; exact inst_nil_lt (by omega) htx
                  obtain ⟨e1, e2⟩ := HS.out _ hin
                  rw [e1, e2]
                  clear e1 e2 hin ht2
                  go_wp2
                  go_ret2
                  exact ⟨rfl, hBw⟩
                · have hin : instFrom 0 z.off z.cs (1440 * d + m) = none := by rw [HE.out (by omega), HD.out]; exact inst_nil_ge HT.out (by omega)
                  have HI := Lib.hid hin
                  clear hin ht2
                  go_wp2
                  go_roundw
                  case rel => exact ⟨k + 1, f, o, by omega, by go_num, rfl, rfl, by omega, by omega, fun h => by omega, fun _ => HI.out, hB⟩
                  case measure => simp [intOf]; omega
            · obtain ⟨e1, e2⟩ := HN.out (HX.out (by omega))
              have E1 := Lib.hid e1
              have E2 := Lib.hid e2
              clear e1 e2
              have hgt : z.cs.length < k := by omega
              go_wp2
              go_ret2
              exact ⟨ret_pair E1.out.symm E2.out.symm, hBw⟩
end Go.Proofs.Ytmjegmlchonlmaa
