/- The law SealSplices in plain Lean, as the printed row asks it. -/
import Derived.Test.YtbjijgmafloeaaaVPureC
namespace Go.Proofs.Ytbjijgmafloeaaa.Pure
open Go.RowKit Go.Proofs.Ytbjijgmafloeaaa.P Go.Proofs.YtbjijgmafloeaaaW.PrintWords Go.Proofs.YtbjijgmafloeaaaW.PrintLast Go.Proofs.Ytbjijgmafloeaaa.PureA Go.Vel
theorem SealSplices : vellumlaw3_SealSplices.Pure := by
  intro l0 l1 a2 h0 h1 h2 h3 h4 h5 h6
  obtain ⟨b0, rfl⟩ := of_wf h2
  obtain ⟨b1, rfl⟩ := of_wf h5
  exact (splices_ok b0 b1 a2 (by rw [len_ofB] at h1; omega) (by rw [len_ofB] at h4; omega)).rounds
end Go.Proofs.Ytbjijgmafloeaaa.Pure
