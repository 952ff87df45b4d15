/- More of what a disk's steps do: cuts that lose all, cuts of a disk with nothing pending, fuses; Burnt and Sector as the laws ask them. -/
import Derived.Test.YtefmefimhiedfaaHDskN
open Go Go.RowKit Go.Proofs.YtefmefimhiedfaaW.PrintWords Go.Proofs.YtefmefimhiedfaaW.PrintMore
namespace Go.Proofs
open Go.Vel
set_option linter.unusedVariables false
end Go.Proofs
