/- How a law's arguments open to the words of the walks over owned memory: numbers and bytes. -/
import Derived.Test.YtgelippmcflppaaVRows2
import Derived.Test.YtgelippmcflppaaHMore
open Go Go.RowKit Go.Deep Go.Proofs.YtgelippmcflppaaW.PrintWords Go.Proofs.YtgelippmcflppaaW.PrintMore
namespace Go.Vel
section
variable {H : Type} {enc : TypeId × Value → H} {P : Program} {W : World}
end
end Go.Vel
