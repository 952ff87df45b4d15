/- When the document's disk holds an abstract disk: its variable, its two lists, the sectors' bytes, which nobody changes and several places may share. -/
import Derived.Test.YtefmefimhiedfaaHCrash0
open Go Go.RowKit Go.Proofs.YtefmefimhiedfaaW.PrintWords Go.Proofs.YtefmefimhiedfaaW.PrintMore
namespace Go.Proofs
open Go.Vel
set_option linter.unusedVariables false
section
variable {F : Nat → Prop} {w0 w : World} {L : List Ast} {g : Nat} {s : Dsk}
end
section
variable {s s' : Dsk} {LL : List (Nat × List UInt8)} {pool : List (Nat × List UInt8)}
end
end Go.Proofs
namespace Go.Proofs
open Go.Vel
set_option linter.unusedVariables false
section
variable {F : Nat → Prop} {w0 w : World} {L : List Ast} {s s' : Dsk} {LL : List (Nat × List UInt8)} {pool : List (Nat × List UInt8)}
end
end Go.Proofs
namespace Go.Vel
end Go.Vel
