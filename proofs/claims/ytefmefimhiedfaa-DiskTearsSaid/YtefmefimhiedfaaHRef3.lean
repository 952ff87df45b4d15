/- Image, Zeros, New, Load of the document's disk. -/
import Derived.Test.YtefmefimhiedfaaHRef1
import Derived.Test.YtefmefimhiedfaaHDisk6
open Go Go.RowKit Go.Proofs.YtefmefimhiedfaaW.PrintWords Go.Proofs.YtefmefimhiedfaaW.PrintMore
namespace Go.Proofs
open Go.Vel
set_option linter.unusedVariables false
set_option maxRecDepth 100000
set_option maxHeartbeats 4000000
attribute [local irreducible] gives wpList Code.wp

theorem secs_get : ∀ (n : Nat) (l : List UInt8) (i : Nat), i < n → (secs l n)[i]? = some ((l.drop (512 * i)).take 512)
  | 0, _, i, h => absurd h (Nat.not_lt_zero i)
  | n + 1, l, 0, _ => by simp [secs]
  | n + 1, l, i + 1, h => by
    have := secs_get n (l.drop 512) i (by omega)
    rw [List.drop_drop] at this
    rw [secs, List.getElem?_cons_succ, this, show 512 + 512 * i = 512 * (i + 1) from by omega]
theorem RdV.bytes {w : World} {A : Option Addr} {l : List UInt8} (h : RdV w A (l.map bv)) : RdB w A l := fun h0 => h (by rw [List.length_map]; exact h0)
end Go.Proofs
