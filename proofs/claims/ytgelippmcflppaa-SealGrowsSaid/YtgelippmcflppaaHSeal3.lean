/- Seal, Open, anchor, Newest of the document, over owned memory. -/
import Derived.Test.YtgelippmcflppaaHSeal2
open Go Go.RowKit Go.Proofs.YtgelippmcflppaaW.PrintWords Go.Proofs.YtgelippmcflppaaW.PrintMore
namespace Go.Proofs
open Go.Vel
set_option linter.unusedVariables false
set_option maxRecDepth 100000
set_option maxHeartbeats 4000000
attribute [local irreducible] gives wpList Code.wp

theorem openF_len' (s : List UInt8) : (openF s).1.length ≤ 504 := by
  unfold openF
  split
  · exact Nat.zero_le _
  · split
    · exact Nat.zero_le _
    · split
      · rw [List.length_take]; omega
      · exact Nat.zero_le _
end Go.Proofs
