/- The program's Seal, Open, Newest over owned memory. -/
import Derived.Test.YtgelippmcflppaaHLift
import Derived.Test.YtgelippmcflppaaVSeal
import Derived.Test.YtgelippmcflppaaVOpen
import Derived.Test.YtgelippmcflppaaVRen0
open Go Go.RowKit Go.Proofs.YtgelippmcflppaaW.PrintWords Go.Proofs.YtgelippmcflppaaW.PrintMore
namespace Go.Proofs
open Go.Vel
section
variable {F : Nat → Prop} {w0 w : World} {L : List Ast}
theorem ps_seal {A B : Option Addr} {a b : List UInt8} {ca cb : Nat} (S : St F w0 w L) (ha : RoT F w0 L A a) (hb : RoT F w0 L B b) (hma : a.length ≤ 9223372036854775807) (hmb : b.length ≤ 9223372036854775807) : Calls Try.prog 24 #[.slice A a.length ca, .slice B b.length cb] w fun e w' => ∃ v, e = .returned (.tuple #[v, .int .i64 ((sealF a b).2 : Int)]) ∧ St F w0 w' (bytesX v (sealF a b).1 :: L) := by
  have h := seal_any w A ca a B cb b (ha.to_C S hma) (hb.to_C S hmb)
  rw [len_ofB, len_ofB] at h
  exact h.mono fun e w' ⟨v, h1, h2, h3⟩ => ⟨v, h1, S.lift h3 h2⟩
theorem ps_newest {A B : Option Addr} {a b : List UInt8} {ca cb : Nat} (S : St F w0 w L) (ha : RoT F w0 L A a) (hb : RoT F w0 L B b) (hma : a.length ≤ 9223372036854775807) (hmb : b.length ≤ 9223372036854775807) : Calls Try.prog 37 #[.slice A a.length ca, .slice B b.length cb] w fun e w' => ∃ v, e = .returned (.tuple #[.int .i64 ((newestF a b).1 : Int), .int .i64 ((newestF a b).2.1 : Int), v, .int .i64 ((newestF a b).2.2.2 : Int)]) ∧ St F w0 w' (bytesX v (newestF a b).2.2.1 :: L) := by
  have h := newest_any w A ca a B cb b (ha.to_C S hma) (hb.to_C S hmb)
  rw [len_ofB, len_ofB] at h
  exact h.mono fun e w' ⟨v, h1, h2, h3⟩ => ⟨v, h1, S.lift h3 h2⟩
/-- The pair, as far as Renew asks it: the numbers, the slot. -/
theorem ps_pair {A B : Option Addr} {a b : List UInt8} {ca cb : Nat} {m n : Nat} {sl : Int} (S : St F w0 w L) (ha : RoT F w0 L A a) (hb : RoT F w0 L B b) (hl : a.length = 512 ∧ b.length = 512) (hm : m = (readF a).1) (hn : n = (readF b).1) (hs : slotF m n = sl) : Calls Try.prog 47 #[.slice A a.length ca, .slice B b.length cb] w fun e w' => ∃ v0 v1 : Value, e = .returned (.tuple #[.agg #[.int .i64 (m : Int), v0, .int .i64 (n : Int), v1], .int .i64 sl, .int .i64 0]) ∧ v0.oneCell' = true ∧ v1.oneCell' = true ∧ St F w0 w' L := by
  have h := pair_any w A ca a B cb b (ha.to_C S (by omega)) (hb.to_C S (by omega))
  rw [len_ofB, len_ofB] at h
  refine h.mono fun e w' h => ?_
  rw [pair_told ⟨hl, hm, hn, hs⟩] at h
  obtain ⟨v0, v1, h1, h2, h3, h4⟩ := h
  refine ⟨v0, v1, h1, ?_, ?_, S.below h4⟩
  · obtain ⟨A', c', e, _⟩ := V_slice h2; rw [e]; rfl
  · obtain ⟨A', c', e, _⟩ := V_slice h3; rw [e]; rfl
end
end Go.Proofs
