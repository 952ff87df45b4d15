/- How a list of picks opens; a number's bounds. -/
import Derived.Test.YtefmefimhiedfaaHRows2
open Go Go.RowKit Go.Deep Go.Proofs.YtefmefimhiedfaaW.PrintWords
namespace Go.Proofs
open Go.Vel
set_option maxRecDepth 100000
theorem wf_bd {n : Int} (w : (Lit.int .i64 n).wf = true) : -9223372036854775808 ≤ n ∧ n ≤ 9223372036854775807 := by
  simp [Lit.wf, IntKind.min, IntKind.max, IntKind.signed, IntKind.bits] at w; omega
section
variable {H : Type} {enc : TypeId × Value → H} {W : World}
end
end Go.Proofs
