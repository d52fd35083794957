/- What the laws lean on. -/
import Derived.Test.YtpaodheilchfnaaGreatDoorPz9
namespace Go.Proofs.YtpaodheilchfnaaGreatDoor
set_option linter.unusedVariables false
set_option linter.unusedSimpArgs false
section
theorem low_self {n d : Int} (h : okZ n d) : lowN n d = n ∧ lowD n d = d := by
  obtain ⟨-, -, h3⟩ := okZ_iff.1 h
  unfold lowN lowD
  rw [h3]
  exact ⟨Int.ediv_one _, Int.ediv_one _⟩
theorem okZ_eq {n d m e : Int} (h : okZ n d) (k : okZ m e) (he : n * e = m * d) : n = m ∧ d = e := by
  obtain ⟨-, hd, -⟩ := okZ_iff.1 h
  obtain ⟨-, hE, -⟩ := okZ_iff.1 k
  obtain ⟨a1, a2⟩ := low_self h
  obtain ⟨b1, b2⟩ := low_self k
  obtain ⟨c1, c2⟩ := low_scale (n := n) hd hE
  obtain ⟨d1, d2⟩ := low_scale (n := m) hE hd
  rw [he, Int.mul_comm d e] at c1 c2
  exact ⟨by rw [← a1, ← c1, d1, b1], by rw [← a2, ← c2, d2, b2]⟩
end
end Go.Proofs.YtpaodheilchfnaaGreatDoor
