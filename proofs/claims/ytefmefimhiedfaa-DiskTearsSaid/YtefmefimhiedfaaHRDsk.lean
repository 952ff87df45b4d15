/- When the document's disk holds an abstract disk: its variable, its two lists, the sectors' bytes, which nobody changes and several places may share. -/
import Derived.Test.YtefmefimhiedfaaHCrash0
open Go Go.RowKit Go.Proofs.YtefmefimhiedfaaW.PrintWords Go.Proofs.YtefmefimhiedfaaW.PrintMore
namespace Go.Proofs
open Go.Vel
set_option linter.unusedVariables false
section
variable {F : Nat → Prop} {w0 w : World} {L : List Ast} {g : Nat} {s : Dsk}
/-- Reading a list's cells, while it stays closed. -/
theorem St.vec_rd {e : TypeId} {sz n c : Nat} {A : Option Addr} {vals : List Value} (S : St F w0 w L) (i : Nat) (hi : L[i]? = some (vec e sz (.slice A n c) n vals)) : RdV w A vals := by
  have S1 := S.mem i hi
  rcases S1.vec_cases with ⟨h, rfl, rfl, _⟩ | ⟨g, c', junk, h, _, h3, _, S2⟩
  · exact fun h => absurd h (Nat.lt_irrefl 0)
  · simp at h
    obtain ⟨rfl, _⟩ := h
    exact fun _ => ⟨_, rfl, fun j u hu => by
      rw [Addr.add_lit, Nat.zero_add, (S2.blk 0 rfl).cell, List.getElem?_toArray, List.getElem?_append_left (List.getElem?_eq_some_iff.1 hu).1]; exact hu⟩
end
section
variable {s s' : Dsk} {LL : List (Nat × List UInt8)} {pool : List (Nat × List UInt8)}
end
end Go.Proofs
namespace Go.Proofs
open Go.Vel
set_option linter.unusedVariables false
section
variable {F : Nat → Prop} {w0 w : World} {L : List Ast} {s s' : Dsk} {LL : List (Nat × List UInt8)} {pool : List (Nat × List UInt8)}
theorem St.vec_one {e : TypeId} {sz n : Nat} {v : Value} {vals : List Value} (S : St F w0 w L) (i : Nat) (hi : L[i]? = some (vec e sz v n vals)) : v.oneCell' = true := by
  obtain ⟨A, c, rfl⟩ := (S.mem i hi).vec_val; rfl
theorem St.vec_v {e : TypeId} {sz n : Nat} {v : Value} {vals : List Value} (S : St F w0 w L) (i : Nat) (hi : L[i]? = some (vec e sz v n vals)) : ∃ A c, v = .slice A n c := (S.mem i hi).vec_val
end
end Go.Proofs
namespace Go.Vel
end Go.Vel
