/- The law SealRound in plain Lean, as the printed row asks it. -/
import Derived.Test.YtbjijgmafloeaaaVPureC
namespace Go.Proofs.Ytbjijgmafloeaaa.Pure
open Go.RowKit Go.Proofs.Ytbjijgmafloeaaa.P Go.Proofs.YtbjijgmafloeaaaW.PrintWords Go.Proofs.YtbjijgmafloeaaaW.PrintLast Go.Proofs.Ytbjijgmafloeaaa.PureA Go.Vel
theorem SealRound : vellumlaw3_SealRound.Pure := by
  intro l0 l1 h0 h1 h2 h3 h4 h5
  obtain ⟨b0, rfl⟩ := of_wf h2
  obtain ⟨b1, rfl⟩ := of_wf h5
  exact (round_ok b0 b1).rounds
end Go.Proofs.Ytbjijgmafloeaaa.Pure
