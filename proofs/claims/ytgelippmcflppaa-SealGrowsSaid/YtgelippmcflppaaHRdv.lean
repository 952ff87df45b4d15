/- Cells of any kind that can be read. -/
import Derived.Test.YtgelippmcflppaaHMore
open Go Go.RowKit Go.Proofs.YtgelippmcflppaaW.PrintWords Go.Proofs.YtgelippmcflppaaW.PrintMore
namespace Go.Vel
/-- Cells that can be read. -/
def RdV (w : World) (A : Option Addr) (vs : List Value) : Prop := 0 < vs.length → ∃ ad, A = some ad ∧ ∀ j u, vs[j]? = some u → w.cell? (ad.add j) = some u
theorem RdV.fr {F : Nat → Prop} {w w' : World} {A : Option Addr} {vs : List Value} (h : RdV w A vs) (hf : Fr F w w') (hF : ∀ k, F k → False) : RdV w' A vs := fun h0 => by
  obtain ⟨ad, e, hc⟩ := h h0
  refine ⟨ad, e, fun j u hu => ?_⟩
  have h1 := hc j u hu
  have hb : (ad.add j).block < w.heap.size := by
    unfold World.cell? at h1
    cases hq : w.heap[(ad.add j).block]? with
    | none => simp [hq] at h1
    | some o => exact (Array.getElem?_eq_some_iff.1 hq).1
  rw [← h1]
  unfold World.cell?
  rw [hf.block _ hb (fun hk => hF _ hk)]
end Go.Vel
