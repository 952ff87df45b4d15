/- The law SealTorn in plain Lean, as the printed row asks it. -/
import Derived.Test.YtdimpgfegdnhaaaVPureT
namespace Go.Proofs.Ytdimpgfegdnhaaa.Pure
open Go.RowKit Go.Proofs.Ytdimpgfegdnhaaa.P Go.Proofs.YtdimpgfegdnhaaaW.PrintWords Go.Proofs.YtdimpgfegdnhaaaW.PrintLast Go.Proofs.Ytdimpgfegdnhaaa.PureA Go.Vel
theorem SealTorn : vellumlaw3_SealTorn.Pure := by
  intro l0 l1 a2 h0 h1 h2 h3 h4 h5 h6
  obtain ⟨b0, rfl⟩ := of_wf h2
  obtain ⟨b1, rfl⟩ := of_wf h5
  exact (torn_ok b0 b1 a2).rounds
end Go.Proofs.Ytdimpgfegdnhaaa.Pure
