/- More of what a disk's steps do: cuts that lose all, cuts of a disk with nothing pending, fuses; Burnt and Sector as the laws ask them. -/
import Derived.Test.YtefmefimhiedfaaHDskN
open Go Go.RowKit Go.Proofs.YtefmefimhiedfaaW.PrintWords Go.Proofs.YtefmefimhiedfaaW.PrintMore
namespace Go.Proofs
open Go.Vel
set_option linter.unusedVariables false
theorem fuse_on {s : Dsk} {n : Int} (h : s.left ≠ 0) (hn : 0 ≤ n) : (s.fuseR n).left = n ∧ (s.fuseR n).last = s.last ∧ (s.fuseR n).pend = s.pend := by
  unfold Dsk.fuseR; rw [if_neg h]
  refine ⟨?_, rfl, rfl⟩
  show (if n < 0 then (-1 : Int) else n) = n
  rw [if_neg (by omega)]
theorem pd_burnt' {F : Nat → Prop} {w0 w : World} {L : List Ast} {g : Nat} {s : Dsk} {b : Bool} (hb : decide (s.left = 0) = b) (S : St F w0 w L) (i : Nat) (hi : L[i]? = some (PDisk g s)) : Calls Try.prog 22 #[.pointer (some ⟨g, 0, none⟩)] w fun e w' => e = .returned (.bool b) ∧ w = w' := hb ▸ pd_burnt S i hi
/-- open, of no image. -/
theorem open_new {F : Nat → Prop} {w0 w : World} {L : List Ast} (S : St F w0 w L) {k : Int} (h1 : 1 ≤ k) (h2 : k ≤ 2048) : Calls Try.prog 33 #[.int .i64 k, .slice none 0 0] w fun e w' => ∃ gd, e = .returned (.tuple #[.pointer (some ⟨gd, 0, none⟩), .bool true]) ∧ St F w0 w' (PDisk gd (Dsk.mk0 (List.replicate k.toNat zsec)) :: L) := by
  obtain ⟨m, rfl⟩ : ∃ m : Nat, k = (m : Int) := ⟨k.toNat, by omega⟩
  rw [Int.toNat_natCast]
  exact open_ngood (l := []) (A := none) (ca := 0) S RoT.nil (Nat.zero_le _) rfl (by omega) (by omega)
/-- Left of the fuse. -/
theorem spent_pos {l : Int} (h : 0 < l) : spent l = l - 1 := if_pos h
/-- Steps that the fuse does not see. -/
theorem act_left {s : Dsk} {kind a : Int} {d : List UInt8} {ps : List Pick} (h2 : kind ≠ 2) (h3 : kind ≠ 3) (h4 : kind ≠ 4) (h6 : kind ≠ 6) : (s.actR kind a d ps).left = s.left ∧ (s.actR kind a d ps).last = s.last ∧ (s.actR kind a d ps).pend = s.pend := by
  unfold Dsk.actR
  by_cases k1 : kind = 1
  · rw [if_pos k1]; obtain ⟨q1, q2, q3⟩ := readR_same s a; exact ⟨q3, q1, q2⟩
  · rw [if_neg k1, if_neg h2, if_neg h3, if_neg h4, if_neg h6]
    split <;> exact ⟨rfl, rfl, rfl⟩
end Go.Proofs
