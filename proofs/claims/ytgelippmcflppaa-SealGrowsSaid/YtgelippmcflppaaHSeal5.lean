/- made, renewed, SealRenews of the laws. -/
import Derived.Test.YtgelippmcflppaaHSeal4
open Go Go.RowKit Go.Proofs.YtgelippmcflppaaW.PrintWords Go.Proofs.YtgelippmcflppaaW.PrintMore
namespace Go.Proofs
open Go.Vel
set_option linter.unusedVariables false
set_option maxRecDepth 100000
set_option maxHeartbeats 4000000
attribute [local irreducible] gives wpList Code.wp

theorem ps_renew' {F : Nat → Prop} {w0 w : World} {L : List Ast} (S : St F w0 w L) {A B D : Option Addr} {a b d : List UInt8} {ca cb cd : Nat} {no : Int} (ha : RoT F w0 L A a) (hb : RoT F w0 L B b) (hd : RoT F w0 L D d) (hma : a.length ≤ 9223372036854775807) (hmb : b.length ≤ 9223372036854775807) (hmd : d.length ≤ 140737488355328) (hno : no ≤ 9223372036854775807) : Calls Try.prog 33 #[.slice A a.length ca, .slice B b.length cb, .int .i64 no, .slice D d.length cd] w fun e w' => ∃ A c, e = .returned (.tuple #[.int .i64 ((renewF a b no d).1 : Int), .slice A (renewF a b no d).2.1.length c, .int .i64 ((renewF a b no d).2.2 : Int)]) ∧ St F w0 w' (bytesX (.slice A (renewF a b no d).2.1.length c) (renewF a b no d).2.1 :: L) := ps_renew S ha hb hd hma hmb hmd hno
theorem num_ro {w : World} {n : Int} : Calls Try.prog 35 #[.int .i64 n] w fun e w' => e = .returned (.int .i64 n) ∧ w = w' := by
  refine wp_enter (fr [iv n] 3) Try.func35 rfl (by kernel_rfl) ?_
  refine wp_seq ?_
  refine wp_region_lit ?_
  refine pv (iv 0) ?_
  refine wl_end (fr [iv n, ud, iv 0] 1) (by kernel_rfl) ?_
  refine then_n ?_
  refine wp_seq ?_
  refine wp_region_lit ?_
  refine pv (iv n) ?_
  refine pv (iv n) ?_
  refine wl_end (fr [iv n, ud, iv n, iv n] 0) (by kernel_rfl) ?_
  refine then_n ?_
  refine wp_ret ?_
  refine bodyPost_ret (v := .int .i64 n) (results_t1 rfl (by kernel_rfl)) rfl ?_
  exact ⟨rfl, rfl⟩
end Go.Proofs
