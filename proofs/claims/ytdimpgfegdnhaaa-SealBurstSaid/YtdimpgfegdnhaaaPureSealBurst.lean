/- The law SealBurst in plain Lean, as the printed row asks it. -/
import Derived.Test.YtdimpgfegdnhaaaVPureU
namespace Go.Proofs.Ytdimpgfegdnhaaa.Pure
open Go.RowKit Go.Proofs.Ytdimpgfegdnhaaa.P Go.Proofs.YtdimpgfegdnhaaaW.PrintWords Go.Proofs.YtdimpgfegdnhaaaW.PrintLast Go.Proofs.Ytdimpgfegdnhaaa.PureA Go.Vel
theorem SealBurst : vellumlaw3_SealBurst.Pure := by
  intro l0 l1 a2 a3 h0 h1 h2 h3 h4 h5 h6 h7
  obtain ⟨b0, rfl⟩ := of_wf h2
  obtain ⟨b1, rfl⟩ := of_wf h5
  exact (burst_ok b0 b1 a2 a3).rounds
end Go.Proofs.Ytdimpgfegdnhaaa.Pure
