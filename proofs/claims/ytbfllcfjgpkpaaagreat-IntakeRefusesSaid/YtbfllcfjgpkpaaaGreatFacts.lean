/-
  Three closed facts on the head of the translation, each in small steps (in one piece the kernel wants more memory than there is).
-/
import Derived.Test.YtbfllcfjgpkpaaaGreatRows
import Derived.KernelRfl
namespace Go.Proofs.YtbfllcfjgpkpaaaGreat

def hH : List Char := [104, 97, 114, 110, 101, 115, 115].map Char.ofNat
def hS : List Char := [51, 48, 50, 53, 101, 57, 57, 55, 100, 51, 54, 56, 51, 55, 56, 102, 50, 49, 56, 54, 101, 102, 54, 99, 100, 52, 56, 53, 100, 55, 51, 101, 49, 100, 98, 55, 48, 99, 49, 97, 102, 100, 51, 57, 55, 100, 99, 98, 54, 54, 51, 54, 100, 102, 56, 49, 54, 98, 48, 50, 97, 97, 100, 53].map Char.ofNat
def hC : List Char := [99, 117, 116].map Char.ofNat
def hQ : List Char := [97, 116, 32, 102, 117, 110, 100, 97, 100, 109, 105, 110, 47, 102, 117, 110, 100, 97, 100, 109, 105, 110, 108, 97, 119, 50, 52, 46, 73, 110, 116, 97, 107, 101, 84, 101, 108, 108, 115, 32, 102, 117, 110, 100, 97, 100, 109, 105, 110, 47, 102, 117, 110, 100, 97, 100, 109, 105, 110, 108, 97, 119, 50, 52, 46, 73, 110, 116, 97, 107, 101, 79, 102, 66, 111, 111, 107, 115, 32, 102, 117, 110, 100, 97, 100, 109, 105, 110, 47, 102, 117, 110, 100, 97, 100, 109, 105, 110, 108, 97, 119, 50, 52, 46, 73, 110, 116, 97, 107, 101, 82, 101, 102, 117, 115, 101, 115, 32, 102, 117, 110, 100, 97, 100, 109, 105, 110, 47, 102, 117, 110, 100, 97, 100, 109, 105, 110, 108, 97, 119, 50, 52, 46, 73, 110, 116, 97, 107, 101, 75, 101, 101, 112, 115, 68, 101, 97, 100, 108, 105, 110, 101, 115].map Char.ofNat
def hB : Char := Char.ofNat 32
theorem ord_eq : Tryz.prog.initOrder = String.ofList (hH ++ hB :: (hS ++ hB :: (hC ++ hB :: hQ))) := by kernel_rfl
theorem ord_list : Tryz.prog.initOrder.toList = hH ++ hB :: (hS ++ hB :: (hC ++ hB :: hQ)) := by rw [ord_eq]; exact String.toList_ofList
theorem words_app (p r : List Char) (h : p.all (fun c => decide (c ≠ hB)) = true) : wordsSigns (p ++ hB :: r) = p :: wordsSigns r := by
  induction p with
  | nil => rfl
  | cons c p ih =>
    simp only [List.all_cons, Bool.and_eq_true, decide_eq_true_eq] at h
    have ih' := ih h.2
    show wordsSigns (c :: (p ++ hB :: r)) = (c :: p) :: wordsSigns r
    rw [wordsSigns.eq_def]
    split
    · rename_i hh; cases hh
    · rename_i r' hh
      injection hh with h1 h2
      exact absurd h1 h.1
    · rename_i c' r' _ hh
      injection hh with h1 h2
      subst h1 h2
      rw [ih']
theorem behind_at (h : List Char) (t : List Char) (r : List (List Char)) (hh : ((h == "harness".toList || h == "ownmain".toList) && isSumSigns t) = true) : behindMainWord (h :: t :: r) = r := by
  show (if ((h == "harness".toList || h == "ownmain".toList) && isSumSigns t) = true then r else h :: t :: r) = r
  rw [if_pos hh]
theorem behind : behindMainWord (wordsSigns Tryz.prog.initOrder.toList) = hC :: wordsSigns hQ := by
  rw [ord_list, words_app _ _ (by decide +kernel), words_app _ _ (by decide +kernel), words_app _ _ (by decide +kernel)]
  exact behind_at _ _ _ (by decide +kernel)
theorem st1 (o : String) (os : List String) (w : List Char) (ws : List (List Char)) (h : (w == o.toList) = false) : stripLifts (o :: os) (w :: ws) = stripLifts os (w :: ws) := by
  rw [stripLifts, h]; rfl
theorem strip_cut (ws : List (List Char)) : stripLifts liftWords (hC :: ws) = ([], hC :: ws) := by
  show stripLifts ["finals", "reflectrows", "leanrows", "onebuild", "publicsums", "eqguard", "ownunsafe", "libbeside", "ownbeside", "reflbeside", "aliases", "afterinit", "crcplain", "roadunsafe", "fmthandon"] (hC :: ws) = _
  rw [st1 _ _ _ _ (by decide +kernel), st1 _ _ _ _ (by decide +kernel), st1 _ _ _ _ (by decide +kernel), st1 _ _ _ _ (by decide +kernel), st1 _ _ _ _ (by decide +kernel), st1 _ _ _ _ (by decide +kernel), st1 _ _ _ _ (by decide +kernel), st1 _ _ _ _ (by decide +kernel), st1 _ _ _ _ (by decide +kernel), st1 _ _ _ _ (by decide +kernel), st1 _ _ _ _ (by decide +kernel), st1 _ _ _ _ (by decide +kernel), st1 _ _ _ _ (by decide +kernel), st1 _ _ _ _ (by decide +kernel), st1 _ _ _ _ (by decide +kernel)]
  rfl
theorem mayEnter_of (P : Program) (ws : List (List Char)) (h : behindMainWord (wordsSigns P.initOrder.toList) = hC :: ws) (h1 : P.laysLater = false) (h2 : P.bearsReflect = false) (h3 : P.doorFits [] = true) : P.mayEnter = true := by
  unfold Program.mayEnter
  rw [h]
  simp only [strip_cut, h1, h2, h3]
  have e : ((List.head? (hC :: ws)) == some "cut".toList) = true := by
    show (hC == "cut".toList) = true
    decide +kernel
  rw [e]
  simp
theorem headLifts_of (P : Program) (ws : List (List Char)) (h : behindMainWord (wordsSigns P.initOrder.toList) = hC :: ws) : P.headLifts = [] := by
  unfold Program.headLifts
  rw [h]
  simp only [strip_cut]
  split <;> rfl
theorem liftsFinal_of (P : Program) (ws : List (List Char)) (h : behindMainWord (wordsSigns P.initOrder.toList) = hC :: ws) : P.liftsFinal = false := by
  unfold Program.liftsFinal
  rw [h, headLifts_of P ws h]
  have e : ((List.head? (hC :: ws)) == some "carried".toList) = false := by
    show (hC == "carried".toList) = false
    decide +kernel
  simp only [e]
  simp
theorem make_of (P : Program) (ws : List (List Char)) (h : behindMainWord (wordsSigns P.initOrder.toList) = hC :: ws) : P.make = some .cut := by
  unfold Program.make
  rw [h]
  have e1 : (hC == "gc".toList || hC == "spec".toList) = false := by decide +kernel
  have e2 : (hC == "cut".toList) = true := by decide +kernel
  simp only [e1, e2]
  simp
theorem mayEnter_eq : Tryz.prog.mayEnter = true := mayEnter_of _ _ behind (by kernel_rfl) (by kernel_rfl) (by kernel_rfl)
theorem liftsFinal_eq : Tryz.prog.liftsFinal = false := liftsFinal_of _ _ behind
theorem make_eq : Tryz.prog.make = some .cut := make_of _ _ behind
end Go.Proofs.YtbfllcfjgpkpaaaGreat
