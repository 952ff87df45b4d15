/- What a disk's steps do to what its sectors hold now; lists of slices that hold that. -/
import Derived.Test.YtefmefimhiedfaaHLaw2a
open Go Go.RowKit Go.Proofs.YtefmefimhiedfaaW.PrintWords Go.Proofs.YtefmefimhiedfaaW.PrintMore
namespace Go.Proofs
open Go.Vel
set_option linter.unusedVariables false
theorem St.pd_n1 {F : Nat → Prop} {w0 w : World} {L : List Ast} {g : Nat} {s : Dsk} (S : St F w0 w (PDisk g s :: L)) : 1 ≤ s.last.length ∧ ∀ x ∈ s.pend, x.1 < s.last.length ∧ x.2.length = 512 := by
  obtain ⟨gd, gm, clock, es, fused, left, hf, _⟩ := St.popen S
  exact ⟨hf.n1, fun x hx => ⟨(hf.plen x hx).2, (hf.plen x hx).1⟩⟩
theorem now_nil {s : Dsk} (h : s.pend = []) (k : Nat) : s.now k = s.last.getD k [] := Dsk.now_none (by unfold pendOf; rw [h]; rfl)
theorem readR_yes {s : Dsk} {a : Int} (h0 : s.left ≠ 0) (h1 : 0 ≤ a) (h2 : a < s.last.length) : (s.readR a).2.2 = 0 ∧ (s.readR a).2.1 = s.now a.toNat := by
  unfold Dsk.readR; rw [if_neg h0, if_neg (by omega)]; exact ⟨rfl, rfl⟩
theorem readR_same (s : Dsk) (a : Int) : (s.readR a).1.last = s.last ∧ (s.readR a).1.pend = s.pend ∧ (s.readR a).1.left = s.left := by
  unfold Dsk.readR
  split
  · exact ⟨rfl, rfl, rfl⟩
  · split <;> exact ⟨rfl, rfl, rfl⟩
section
end
end Go.Proofs
