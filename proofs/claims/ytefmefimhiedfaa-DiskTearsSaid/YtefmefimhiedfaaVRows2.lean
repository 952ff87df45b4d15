/- How an argument opens: from the datum that a row reads to the words of the printed contracts (Kd.C): numbers, bools, slices of anything, structs of one-cell fields. -/
import Derived.Test.YtefmefimhiedfaaWMore
import Derived.Deep.Slices
import Derived.ChangeArms
import Derived.SizedLaws
open Go Go.RowKit Go.Deep Go.Proofs.YtefmefimhiedfaaW.PrintWords Go.Proofs.YtefmefimhiedfaaW.PrintMore
namespace Go.Vel
section
variable {H : Type} {enc : TypeId × Value → H} {P : Program} {W : World} {α : Type}
theorem add_add (a : Addr) (i j : Nat) : (a.add i).add j = a.add (i + j) := by
  unfold Addr.add
  by_cases h0 : i = 0
  · subst h0; simp
  · by_cases h1 : j = 0
    · subst h1; simp
    · have h2 : ¬ (i + j = 0) := by omega
      simp only [h0, h1, h2, if_false, Nat.add_assoc]
theorem weightsAll_mem {e : TypeId} : ∀ {ds : List (DataW H)} {d : DataW H}, d ∈ ds → ∀ n ∈ d.weights P e, n ∈ DataW.weightsAll P e ds
  | [], _, h => by cases h
  | x :: r, d, h => fun n hn => by
    unfold DataW.weightsAll
    rcases List.mem_cons.1 h with rfl | h
    · exact List.mem_append_left _ hn
    · exact List.mem_append_right _ (weightsAll_mem h n hn)
end
end Go.Vel
