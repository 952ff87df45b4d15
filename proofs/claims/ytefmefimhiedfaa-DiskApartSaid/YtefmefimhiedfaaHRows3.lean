/- How a list of numbers opens. -/
import Derived.Test.YtefmefimhiedfaaHRows2
open Go Go.RowKit Go.Deep Go.Proofs.YtefmefimhiedfaaW.PrintWords
namespace Go.Proofs
open Go.Vel
set_option maxRecDepth 100000
theorem flat_ints : ∀ l : List Int, (l.map (fun z : Int => [Value.int .i64 z])).flatten = l.map (Value.int .i64)
  | [] => rfl
  | x :: r => by rw [List.map_cons, List.flatten_cons, flat_ints r]; rfl
section
variable {H : Type} {enc : TypeId × Value → H} {W : World}
theorem opnInts : Opn enc Try.prog W 68 (LstQ W 8 fun cs => ∃ n, cs = [.int .i64 n] ∧ (Lit.int .i64 n).wf = true) := Opn.slice Try.underlying68 (Opn.int Try.underlying3) (by kernel_rfl)
/-- Numbers that came in. -/
theorem open_ints {A : Option Addr} {n c : Nat} {D : DataW H} {p : List MemPlace} (h : DataW.Trod enc Try.prog W 0 (fun _ => true) true 68 (.slice A n c) D p) (hw : ∀ n ∈ D.weights Try.prog 68, n ≤ reachBytes) :
    ∃ zs : List Int, n = zs.length ∧ RdV W A (zs.map (Value.int .i64)) ∧ zs.length ≤ 9223372036854775807 := by
  obtain ⟨A', c', els, e, _, hl, hm, hq, hr⟩ := Opn.row opnInts h hw
  obtain ⟨zs, rfl, ho⟩ := all_map (f := fun z : Int => [Value.int .i64 z]) hq
  simp [Value.cells] at e
  obtain ⟨rfl, rfl, rfl⟩ := e
  rw [List.length_map] at hm
  have hrb : reachBytes = 140737488351232 := by decide
  exact ⟨zs, rfl, by rw [flat_ints] at hr; exact hr, by omega⟩
end
end Go.Proofs
