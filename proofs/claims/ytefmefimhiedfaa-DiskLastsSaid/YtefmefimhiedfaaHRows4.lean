/- How a list of picks opens; a number's bounds. -/
import Derived.Test.YtefmefimhiedfaaHRows2
open Go Go.RowKit Go.Deep Go.Proofs.YtefmefimhiedfaaW.PrintWords
namespace Go.Proofs
open Go.Vel
set_option maxRecDepth 100000
theorem wf_bd {n : Int} (w : (Lit.int .i64 n).wf = true) : -9223372036854775808 ≤ n ∧ n ≤ 9223372036854775807 := by
  simp [Lit.wf, IntKind.min, IntKind.max, IntKind.signed, IntKind.bits] at w; omega
section
variable {H : Type} {enc : TypeId × Value → H} {W : World}
/-- Picks that came in. -/
theorem open_picks {A : Option Addr} {n c : Nat} {D : DataW H} {p : List MemPlace} (h : DataW.Trod enc Try.prog W 0 (fun _ => true) true 47 (.slice A n c) D p) (hw : ∀ n ∈ D.weights Try.prog 47, n ≤ reachBytes) :
    ∃ ps : List Pick, n = ps.length ∧ RdV W A (picksV ps) ∧ ps.length * 24 ≤ 140737488355328 := by
  obtain ⟨A', c', els, e, _, hl, hm, hq, hr⟩ := Opn.row opnPicks h hw
  obtain ⟨ps, rfl, ho⟩ := all_map (f := pickCells) hq
  simp [Value.cells] at e
  obtain ⟨rfl, rfl, rfl⟩ := e
  rw [List.length_map] at hm
  have hrb : reachBytes = 140737488351232 := by decide
  exact ⟨ps, rfl, by rw [flat_picks] at hr; exact hr, by omega⟩
end
end Go.Proofs
