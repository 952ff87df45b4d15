/- Scripts are played alike on both disks. -/
import Derived.Test.YtefmefimhiedfaaHLaw1c
open Go Go.RowKit Go.Proofs.YtefmefimhiedfaaW.PrintWords Go.Proofs.YtefmefimhiedfaaW.PrintMore
namespace Go.Proofs
open Go.Vel
set_option linter.unusedVariables false
set_option maxRecDepth 100000
set_option maxHeartbeats 4000000
attribute [local irreducible] gives wpList Code.wp

theorem RdV.fr {F : Nat → Prop} {w w' : World} {A : Option Addr} {vs : List Value} (h : RdV w A vs) (hf : Fr F w w') (hF : ∀ k, F k → False) : RdV w' A vs := fun h0 => by
  obtain ⟨ad, e, hc⟩ := h h0
  refine ⟨ad, e, fun j u hu => ?_⟩
  have h1 := hc j u hu
  have hb : (ad.add j).block < w.heap.size := by
    unfold World.cell? at h1
    cases hq : w.heap[(ad.add j).block]? with
    | none => simp [hq] at h1
    | some o => exact (Array.getElem?_eq_some_iff.1 hq).1
  rw [← h1]
  unfold World.cell?
  rw [hf.block _ hb (fun hk => hF _ hk)]
theorem RoV.of_rd {w : World} {A : Option Addr} {vs : List Value} (h : RdV w A vs) (L : List Ast) : RoV none' w L A vs := ⟨fun w' L' S => RdV.fr h S.fr (fun _ h => h)⟩
/-- A step of a script as it lies in memory. -/
structure OpD where
  kind : Int
  at_ : Int
  A : Option Addr
  d : List UInt8
  cd : Nat
  A2 : Option Addr
  ps : List Pick
  cp : Nat
def OpD.cells (o : OpD) : List Value := [.int .i64 o.kind, .int .i64 o.at_, .slice o.A o.d.length o.cd, .slice o.A2 o.ps.length o.cp]
def opsV (l : List OpD) : List Value := l.flatMap OpD.cells
theorem length_opsV (l : List OpD) : (opsV l).length = l.length * 4 := by
  induction l with
  | nil => rfl
  | cons p r ih => simp [opsV, OpD.cells] at ih ⊢; omega
theorem opsV_at : ∀ (l : List OpD) (i : Nat) (p : OpD), l[i]? = some p → ∀ j u, p.cells[j]? = some u → (opsV l)[i * 4 + j]? = some u
  | [], i, p, h, _, _, _ => by simp at h
  | q :: r, 0, p, h, j, u, hu => by
    simp at h; subst h
    have := (List.getElem?_eq_some_iff.1 hu).1
    show ((q.cells ++ opsV r))[0 * 4 + j]? = some u
    rw [List.getElem?_append_left (by omega)]; simpa using hu
  | q :: r, i + 1, p, h, j, u, hu => by
    have ih := opsV_at r i p (by simpa using h) j u hu
    show ((q.cells ++ opsV r))[(i + 1) * 4 + j]? = some u
    rw [List.getElem?_append_right (by simp [OpD.cells]; omega)]
    simpa [OpD.cells, show (i + 1) * 4 + j - 4 = i * 4 + j from by omega] using ih
structure OpD.Ok (w : World) (o : OpD) : Prop where
  d : RdB w o.A o.d
  p : RdV w o.A2 (picksV o.ps)
  dm : o.d.length ≤ 140737488355328
  pm : o.ps.length * 24 ≤ 140737488355328
  hat : o.at_ ≤ 9223372036854775807
end Go.Proofs
