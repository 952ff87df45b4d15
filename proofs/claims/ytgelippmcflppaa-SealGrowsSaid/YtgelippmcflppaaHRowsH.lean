/- How a list of renewals opens. -/
import Derived.Test.YtgelippmcflppaaHRowsG
import Derived.Test.YtgelippmcflppaaHSeal8
open Go Go.RowKit Go.Deep Go.Proofs.YtgelippmcflppaaW.PrintWords
namespace Go.Proofs
open Go.Vel
set_option maxRecDepth 100000
section
variable {H : Type} {enc : TypeId × Value → H} {W : World}
theorem Opn.bool {P : Program} {t : TypeId} (ht : P.underlying t = some .bool) : Opn enc P W t (fun cs => ∃ b, cs = [.bool b]) := by
  intro fuel cs x h _
  obtain ⟨b, e, _⟩ := DataW.trod_bool ht h
  exact ⟨b, e⟩
theorem flat_steps (l : List StepD) : (l.map StepD.cells).flatten = stepsV l := by unfold stepsV; rw [List.flatMap_def]
theorem opnStep : Opn enc Try.prog W 49 (fun cs => ∃ o : StepD, cs = o.cells ∧ o.Ok W) := by
  intro fuel cs x h hw
  obtain ⟨_, _, _, _, hl, _, _⟩ := DataW.trod_struct Try.underlying49 h
  have h4 : Try.prog.cellsOf 49 = 5 := by kernel_rfl
  rw [h4] at hl
  obtain ⟨n0, k0, w0⟩ := Opn.field Try.underlying49 h hw 0 rfl rfl (by kernel_rfl) (Opn.int Try.underlying3)
  obtain ⟨n1, k1, w1⟩ := Opn.field Try.underlying49 h hw 1 rfl rfl (by kernel_rfl) (Opn.int Try.underlying3)
  obtain ⟨A2, c2, b, k2, _, m2, r2⟩ := lst_bytes (Opn.field Try.underlying49 h hw 2 rfl rfl (by kernel_rfl) opnBytes) (fun e he => he)
  obtain ⟨n3, k3⟩ := Opn.field Try.underlying49 h hw 3 rfl rfl (by kernel_rfl) (Opn.bool Try.underlying4)
  obtain ⟨n4, k4⟩ := Opn.field Try.underlying49 h hw 4 rfl rfl (by kernel_rfl) (Opn.bool Try.underlying4)
  match cs, hl with
  | [v0, v1, v2, v3, v4], _ =>
    simp at k0 k1 k2 k3 k4
    subst k0 k1 k2 k3 k4
    exact ⟨⟨n0, n1, A2, b, c2, n3, n4⟩, rfl, ⟨r2, m2, (wf_bd w0).2⟩⟩
theorem opnSteps : Opn enc Try.prog W 47 (LstQ W 48 fun cs => ∃ o : StepD, cs = o.cells ∧ o.Ok W) := Opn.slice Try.underlying47 opnStep (by kernel_rfl)
/-- Steps that came in. -/
theorem open_steps {A : Option Addr} {n c : Nat} {D : DataW H} {p : List MemPlace} (h : DataW.Trod enc Try.prog W 0 (fun _ => true) true 47 (.slice A n c) D p) (hw : ∀ n ∈ D.weights Try.prog 47, n ≤ reachBytes) :
    ∃ ops : List StepD, n = ops.length ∧ RdV W A (stepsV ops) ∧ ops.length ≤ 9007199254740992 ∧ ∀ o ∈ ops, o.Ok W := by
  obtain ⟨A', c', els, e, _, _, hm, hq, hr⟩ := Opn.row opnSteps h hw
  obtain ⟨ops, rfl, ho⟩ := all_map hq
  simp [Value.cells] at e
  obtain ⟨rfl, rfl, rfl⟩ := e
  rw [List.length_map] at hm
  have hrb : reachBytes = 140737488351232 := by decide
  exact ⟨ops, rfl, by rw [flat_steps] at hr; exact hr, by omega, ho⟩
end
end Go.Proofs
