/- More of what a disk's steps do: cuts that lose all, cuts of a disk with nothing pending, fuses; Burnt and Sector as the laws ask them. -/
import Derived.Test.YtefmefimhiedfaaHDskN
open Go Go.RowKit Go.Proofs.YtefmefimhiedfaaW.PrintWords Go.Proofs.YtefmefimhiedfaaW.PrintMore
namespace Go.Proofs
open Go.Vel
set_option linter.unusedVariables false
theorem applyP_self : ∀ (ps : List (Nat × List UInt8)) (l : List (List UInt8)), (∀ x ∈ ps, x.1 < l.length ∧ x.2 = l.getD x.1 []) → applyP l ps = l
  | [], _, _ => rfl
  | x :: r, l, h => by
    obtain ⟨h1, h2⟩ := h x List.mem_cons_self
    have e : l.set x.1 x.2 = l := by
      rw [h2, List.getD_eq_getElem?_getD, List.getElem?_eq_getElem h1]; exact List.set_getElem_self h1
    unfold applyP; rw [List.foldl_cons, e]
    exact applyP_self r l fun y hy => h y (List.mem_cons_of_mem _ hy)
/-- A cut without picks loses all that was pending. -/
theorem crash_nil (s : Dsk) : (s.crashR []).last = s.last := by
  refine applyP_self _ _ fun x hx => ?_
  unfold crashOuts at hx
  obtain ⟨i, hi, rfl⟩ := List.mem_mapIdx.1 hx
  have hm : (crashKeys s)[i] ∈ crashKeys s := List.getElem_mem hi
  refine ⟨(keysTo_mem.1 hm).1, ?_⟩
  show tornS (candS s _) (0, 0, 0) = _
  unfold tornS candS
  simp
  rfl
end Go.Proofs
