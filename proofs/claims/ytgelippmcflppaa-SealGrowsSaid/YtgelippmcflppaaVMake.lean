/- Laws of the walk: a slice of bytes is made, and appended to where there is room, over any program. -/
import Derived.Test.YtgelippmcflppaaVMem
import Derived.Laws.MakeOwn
import Derived.ArgAppend
open Go Go.RowKit Go.Proofs.YtgelippmcflppaaW.PrintWords Go.Proofs.YtgelippmcflppaaW.PrintMore
namespace Go.Vel
section
variable {P : Program} {ops : Array Oper} {rest : List Oper} {o : Oper} {a : Act} {Q : Exit → Act → World → Prop} {w : World}
theorem madeCells_zero (n : Nat) : madeCells #[Value.int .u8 0] n = bvs (List.replicate n 0) := by
  apply Array.ext'
  simp [madeCells, bvs, bv]
  apply List.ext_getElem?
  intro k
  rw [List.getElem?_map, List.getElem?_replicate]
  by_cases hk : k < n
  · rw [List.getElem?_range hk]; simp [hk, Nat.mod_one]
  · rw [List.getElem?_eq_none (by simpa using hk)]; simp [hk]
end
end Go.Vel
