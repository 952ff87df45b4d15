/- What a disk's steps do to what its sectors hold now; lists of slices that hold that. -/
import Derived.Test.YtefmefimhiedfaaHLaw2a
open Go Go.RowKit Go.Proofs.YtefmefimhiedfaaW.PrintWords Go.Proofs.YtefmefimhiedfaaW.PrintMore
namespace Go.Proofs
open Go.Vel
set_option linter.unusedVariables false
theorem writeR_ok {s : Dsk} {a : Int} {d : List UInt8} (h : (s.writeR a d).2 = 0) : 0 ≤ a ∧ a < s.last.length ∧ d.length = 512 ∧ s.left ≠ 0 ∧ (s.writeR a d).1 = { s with pend := s.pend ++ [(a.toNat, d)], wr := inc s.wr, left := spent s.left } := by
  unfold Dsk.writeR at h ⊢
  by_cases h1 : s.left = 0
  · rw [if_pos h1] at h; exact absurd (show (_ : Int) = 0 from h) (by omega)
  · rw [if_neg h1] at h ⊢
    by_cases h2 : a < 0 ∨ (s.last.length : Int) ≤ a
    · rw [if_pos h2] at h; exact absurd (show (_ : Int) = 0 from h) (by omega)
    · rw [if_neg h2] at h ⊢
      by_cases h3 : d.length ≠ 512
      · rw [if_pos h3] at h; exact absurd (show (_ : Int) = 0 from h) (by omega)
      · rw [if_neg h3] at h ⊢
        exact ⟨by omega, by omega, by omega, h1, rfl⟩
theorem writeR_no {s : Dsk} {a : Int} {d : List UInt8} (h : (s.writeR a d).2 ≠ 0) : (s.writeR a d).1.last = s.last ∧ (s.writeR a d).1.pend = s.pend ∧ (s.writeR a d).1.left = s.left ∧ (0 ≤ a → a < s.last.length → d.length = 512 → (s.writeR a d).2 = 3 ∧ s.left = 0) ∧ (s.left = 0 → (s.writeR a d).2 = 3) := by
  unfold Dsk.writeR at h ⊢
  by_cases h1 : s.left = 0
  · rw [if_pos h1]; exact ⟨rfl, rfl, rfl, fun _ _ _ => ⟨rfl, h1⟩, fun _ => rfl⟩
  · rw [if_neg h1] at h ⊢
    by_cases h2 : a < 0 ∨ (s.last.length : Int) ≤ a
    · rw [if_pos h2]; exact ⟨rfl, rfl, rfl, fun q1 q2 _ => by omega, fun q => absurd q h1⟩
    · rw [if_neg h2] at h ⊢
      by_cases h3 : d.length ≠ 512
      · rw [if_pos h3]; exact ⟨rfl, rfl, rfl, fun _ _ q3 => absurd q3 h3, fun q => absurd q h1⟩
      · rw [if_neg h3] at h; exact absurd rfl h
theorem writeR_yes {s : Dsk} {a : Int} {d : List UInt8} (h0 : s.left ≠ 0) (h1 : 0 ≤ a) (h2 : a < s.last.length) (h3 : d.length = 512) : (s.writeR a d).2 = 0 := by
  unfold Dsk.writeR; rw [if_neg h0, if_neg (by omega), if_neg (by omega)]
theorem readR_ok {s : Dsk} {a : Int} (h : (s.readR a).2.2 = 0) : 0 ≤ a ∧ a < s.last.length ∧ s.left ≠ 0 ∧ (s.readR a).2.1 = s.now a.toNat := by
  unfold Dsk.readR at h ⊢
  by_cases h1 : s.left = 0
  · rw [if_pos h1] at h; exact absurd (show (3 : Int) = 0 from h) (by omega)
  · rw [if_neg h1] at h ⊢
    by_cases h2 : a < 0 ∨ (s.last.length : Int) ≤ a
    · rw [if_pos h2] at h; exact absurd (show (11 : Int) = 0 from h) (by omega)
    · rw [if_neg h2]; exact ⟨by omega, by omega, h1, rfl⟩
theorem readR_no {s : Dsk} {a : Int} (h : (s.readR a).2.2 ≠ 0) : (s.readR a).2.1 = [] ∧ (0 ≤ a → a < s.last.length → (s.readR a).2.2 = 3 ∧ s.left = 0) ∧ (s.left = 0 → (s.readR a).2.2 = 3) := by
  unfold Dsk.readR at h ⊢
  by_cases h1 : s.left = 0
  · rw [if_pos h1]; exact ⟨rfl, fun _ _ => ⟨rfl, h1⟩, fun _ => rfl⟩
  · rw [if_neg h1] at h ⊢
    by_cases h2 : a < 0 ∨ (s.last.length : Int) ≤ a
    · rw [if_pos h2]; exact ⟨rfl, fun q1 q2 => by omega, fun q => absurd q h1⟩
    · rw [if_neg h2] at h; exact absurd rfl h
theorem readR_yes {s : Dsk} {a : Int} (h0 : s.left ≠ 0) (h1 : 0 ≤ a) (h2 : a < s.last.length) : (s.readR a).2.2 = 0 ∧ (s.readR a).2.1 = s.now a.toNat := by
  unfold Dsk.readR; rw [if_neg h0, if_neg (by omega)]; exact ⟨rfl, rfl⟩
theorem readR_same (s : Dsk) (a : Int) : (s.readR a).1.last = s.last ∧ (s.readR a).1.pend = s.pend ∧ (s.readR a).1.left = s.left := by
  unfold Dsk.readR
  split
  · exact ⟨rfl, rfl, rfl⟩
  · split <;> exact ⟨rfl, rfl, rfl⟩
theorem flushR_cases (s : Dsk) : (s.left = 0 ∧ s.flushR = (s, 3)) ∨ (s.left ≠ 0 ∧ s.flushR = ({ s with last := applyP s.last s.pend, pend := [], fl := inc s.fl, left := spent s.left }, 0)) := by
  unfold Dsk.flushR
  by_cases h : s.left = 0
  · rw [if_pos h]; exact .inl ⟨h, rfl⟩
  · rw [if_neg h]; exact .inr ⟨h, rfl⟩
section
variable {junk : List Value} {k : Nat}
end
end Go.Proofs
