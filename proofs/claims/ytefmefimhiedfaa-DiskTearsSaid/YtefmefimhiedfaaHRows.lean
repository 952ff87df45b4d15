/- How a law's arguments open to the words of the walks over owned memory: numbers and bytes. -/
import Derived.Test.YtefmefimhiedfaaVRows2
import Derived.Test.YtefmefimhiedfaaHMore
open Go Go.RowKit Go.Deep Go.Proofs.YtefmefimhiedfaaW.PrintWords Go.Proofs.YtefmefimhiedfaaW.PrintMore
namespace Go.Vel
section
variable {H : Type} {enc : TypeId × Value → H} {P : Program} {W : World}
end
end Go.Vel
