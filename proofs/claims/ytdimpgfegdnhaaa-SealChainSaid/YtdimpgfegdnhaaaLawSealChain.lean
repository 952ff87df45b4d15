/- SealChain: for every start and every list of turns the Go function SealChain answers true, and changes nothing that was there. No condition. -/
import Derived.Test.YtdimpgfegdnhaaaRows
import Derived.Test.YtdimpgfegdnhaaaPx2
import Derived.Test.YtdimpgfegdnhaaaVPureChain
import Derived.Test.YtdimpgfegdnhaaaVRows
import Derived.WalkKit
import Derived.ProofKit
import Derived.OpenShut
import Derived.ShutString
import Derived.ChangeOld
import Derived.Below
import Derived.SizedLaws
namespace Go.Proofs.Ytdimpgfegdnhaaa.sealChain
open Go.ChangeShapes Go.WideShapes Go.ChangeAt Go.RowKit Go.Vel Go.Proofs.Ytdimpgfegdnhaaa.P Go.Proofs.Ytdimpgfegdnhaaa.PureA Go.Proofs.YtdimpgfegdnhaaaW.PrintWords
set_option linter.unusedVariables false
theorem own : ownKnob Try.prog.godebug = none := by kernel_rfl
theorem laidOut : laidOutB Try.prog = true := by kernel_rfl
section
variable {H : Type} {enc : TypeId × Value → H} {W : World}
theorem opensBytes : Opens enc Try.prog W 22 (Kd.slice 5 (Kd.int .u8)) (fun xs => xs.length ≤ maxLen ∧ ∀ x ∈ xs, (Lit.int .u8 x).wf = true) :=
  Opens.slice Try.underlying22 (Opens.int Try.underlying5) (by kernel_rfl)
instance : Inhabited S32 := ⟨z32⟩
theorem opensTurn : Opens enc Try.prog W 32 k32 (fun t => ∀ x ∈ t.f0, (Lit.int .u8 x).wf = true) := by
  intro fuel cs x h
  have hl := struct_len Try.underlying32 h
  have h4 : Try.prog.cellsOf 32 = 4 := by kernel_rfl
  rw [h4] at hl
  obtain ⟨f0, k0, q0⟩ := field_cell Try.underlying32 h 0 rfl rfl (by kernel_rfl) opensBytes
  obtain ⟨f1, k1, _⟩ := field_cell Try.underlying32 h 1 rfl rfl (by kernel_rfl) (Opens.int Try.underlying3)
  obtain ⟨f2, k2, _⟩ := field_cell Try.underlying32 h 2 rfl rfl (by kernel_rfl) (Opens.bool Try.underlying4)
  obtain ⟨f3, k3, _⟩ := field_cell Try.underlying32 h 3 rfl rfl (by kernel_rfl) (Opens.bool Try.underlying4)
  match cs, hl with
  | [v0, v1, v2, v3], _ =>
    obtain ⟨A0, c0, e0, l0, g0⟩ := k0
    have e1 : [v1] = [Value.int .i64 f1] := k1
    have e2 : [v2] = [Value.bool f2] := k2
    have e3 : [v3] = [Value.bool f3] := k3
    simp at e0 e1 e2 e3
    subst e0 e1 e2 e3
    exact ⟨⟨f0, f1, f2, f3⟩, k32_mk W ⟨f0, f1, f2, f3⟩ l0 g0, q0.2⟩
theorem opensTurns : Opens enc Try.prog W 30 (Kd.slice 32 k32) (fun xs => xs.length ≤ maxLen ∧ ∀ x ∈ xs, ∀ y ∈ x.f0, (Lit.int .u8 y).wf = true) :=
  Opens.slice Try.underlying30 opensTurn (by kernel_rfl)
end
set_option maxRecDepth 100000 in
theorem lifted (os : Os) (started : os.Started) (H : Type) (enc : TypeId × Value → H) :
    ReturnsInHanded {} Try.checked os 4 .any (Rows.sealChainSpec.pre6 enc Try.prog Try.f4 Rows.sealChainRow.domain false) (Rows.sealChainSpec.post enc Try.prog Try.f4 false true false false) := by
  refine returnsInHanded_of_change_sized (C := Try.checked) own started (by kernel_rfl) Try.func4
    (ChangeSpec.witness6 (enc := enc) (C := Try.checked) false ⟨#[], #[.slice none 0 0, .slice none 0 0], []⟩ 8 (by kernel_rfl) (by kernel_rfl) (by kernel_rfl) (by kernel_rfl)) ?_
  intro W base args ds gs before hval0 hW hcnd hsz0 _
  have hval : ∀ (j : Nat) t v, Try.f4.params[j]? = some t → args[j]? = some v → Value.okWide Try.prog W .any base t v := hval0
  have hW' := hW
  obtain ⟨p, q, hA0, hV, rfl, hfz, hnd⟩ := hW
  have hA : DataW.TrodAll enc Try.prog W 0 (fun _ => true) true Try.f4.params.toList args.toList ds p := hA0
  rw [Try.params4] at hA hval
  obtain ⟨v0, vs0, d0, ds0, p0, q0, hargs, rfl, rfl, h0, r0⟩ := trodAll_cons hA
  obtain ⟨v1, vs1, d1, ds1, p1, q1, rfl, rfl, rfl, h1, r1⟩ := trodAll_cons r0
  obtain ⟨rfl, rfl, rfl⟩ := trodAll_nil r1
  obtain rfl : args = #[v0, v1] := by cases args; simp_all
  obtain ⟨rfl, rfl⟩ := trodVars_none hV
  obtain ⟨a0, len0, cap0, rfl⟩ := okWide_slice Try.underlying22 (hval 0 22 v0 rfl rfl)
  have k0 := h0
  have lt0 : ∀ x ∈ p0, x.block < W.heap.size := by obtain ⟨m, hm⟩ := k0; exact DataW.trod_lt m _ _ _ hm
  obtain ⟨l0, rfl, hc0, hr0, hm0, hw0⟩ := Opens.row opensBytes h0
  obtain ⟨a1, len1, cap1, rfl⟩ := okWide_slice Try.underlying30 (hval 1 30 v1 rfl rfl)
  have k1 := h1
  have lt1 : ∀ x ∈ p1, x.block < W.heap.size := by obtain ⟨m, hm⟩ := k1; exact DataW.trod_lt m _ _ _ hm
  obtain ⟨l1, rfl, hc1, hr1, hm1, hw1⟩ := Opens.row opensTurns h1
  clear hA0 hval0 hsz0
  obtain ⟨b0, rfl⟩ := of_wf hw0
  have hmx : maxLen ≤ 9223372036854775807 := by decide
  obtain ⟨k, hk⟩ := (chain_ok b0 l1 (by omega) (fun t ht => of_wf (hw1 t ht))).rounds
  refine (vellumlaw3_SealChain.calls k _ _ (ofB b0) _ _ l1 true W hr0 hc0 hr1 hc1 hk).mono fun e W' ⟨he, bel⟩ => ?_
  subst he
  exact ⟨_, rfl, _, _, _, [], _, [], hW', trodAll_mk1 (shut_bool Try.underlying4 _), (trodAll_cons_mk (Below.trod laidOut (by kernel_rfl) (of_decide_eq_true (by kernel_rfl)) k0 bel lt0) (trodAll_cons_mk (Below.trod laidOut (by kernel_rfl) (of_decide_eq_true (by kernel_rfl)) k1 bel lt1) trodAll_mk0)), rfl, bel.frame _, fun h => by cases h⟩
theorem over : Rows.sealChainRow.holds Try.pinned (OpenSpec.ofChange Rows.sealChainSpec) :=
  OpenClaim.holds_of_wide 4 Try.f4 rfl rfl rfl rfl rfl rfl rfl ⟨rfl, rfl, rfl, rfl, rfl⟩ rfl rfl rfl rfl rfl (by kernel_rfl) Try.func4 (by kernel_rfl)
    (of_decide_eq_true (by kernel_rfl)) (by unfold Func.isWrapper; first | (rw [if_pos (by decide +kernel)]; kernel_rfl) | (rw [if_neg (by decide +kernel)]; exact ⟨rfl, rfl⟩))
    (fun os started H enc _ => lifted os started H enc)
theorem proved : Rows.SealChainSaid := over
#print axioms proved
end Go.Proofs.Ytdimpgfegdnhaaa.sealChain
