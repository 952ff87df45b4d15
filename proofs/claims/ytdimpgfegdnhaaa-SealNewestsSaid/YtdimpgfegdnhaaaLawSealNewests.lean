/- SealNewests: for every two anchors the Go function SealNewests answers true, and changes nothing that was there. No condition. -/
import Derived.Test.YtdimpgfegdnhaaaRows
import Derived.Test.YtdimpgfegdnhaaaPx6
import Derived.Test.YtdimpgfegdnhaaaVPureM
import Derived.Test.YtdimpgfegdnhaaaVRows2
import Derived.WalkKit
import Derived.ProofKit
import Derived.OpenShut
import Derived.ShutString
import Derived.ChangeOld
import Derived.Below
import Derived.SizedLaws
namespace Go.Proofs.Ytdimpgfegdnhaaa.sealNewests
open Go.ChangeShapes Go.WideShapes Go.ChangeAt Go.RowKit Go.Vel Go.Proofs.Ytdimpgfegdnhaaa.P Go.Proofs.Ytdimpgfegdnhaaa.PureA Go.Proofs.YtdimpgfegdnhaaaW.PrintWords
set_option linter.unusedVariables false
theorem own : ownKnob Try.prog.godebug = none := by kernel_rfl
theorem laidOut : laidOutB Try.prog = true := by kernel_rfl
section
variable {H : Type} {enc : TypeId × Value → H} {W : World}
theorem opensBytes : Opens enc Try.prog W 22 (Kd.slice 5 (Kd.int .u8)) (fun xs => xs.length ≤ maxLen ∧ xs.length * 1 ≤ reachBytes ∧ ∀ x ∈ xs, (Lit.int .u8 x).wf = true) :=
  Opens.slice Try.underlying22 (Opens.int Try.underlying5) (by kernel_rfl) (by kernel_rfl)
theorem openAnchor {cs : Array Value} {D : DataW H} {p : List MemPlace} (h : DataW.Trod enc Try.prog W 0 (fun _ => true) true 42 (.agg cs) D p) (hw : ∀ n ∈ D.weights Try.prog 42, n ≤ reachBytes) :
    ∃ (f0 f1 f2 : Int) (A : Option Addr) (c : Nat) (xs : List Int), cs = #[.int .i64 f0, .int .i64 f1, .int .i64 f2, .slice A xs.length c] ∧ xs.length ≤ c ∧ Kd.C (Kd.int .u8) W A xs.length xs ∧ xs.length * 1 ≤ reachBytes ∧ ∀ x ∈ xs, (Lit.int .u8 x).wf = true := by
  obtain ⟨fuel, hf⟩ := h
  have hl := struct_len Try.underlying42 hf
  have h4 : Try.prog.cellsOf 42 = 4 := by kernel_rfl
  rw [h4] at hl
  obtain ⟨f0, k0, _⟩ := field_cell Try.underlying42 hf hw 0 rfl rfl (by kernel_rfl) (Opens.int Try.underlying3)
  obtain ⟨f1, k1, _⟩ := field_cell Try.underlying42 hf hw 1 rfl rfl (by kernel_rfl) (Opens.int Try.underlying3)
  obtain ⟨f2, k2, _⟩ := field_cell Try.underlying42 hf hw 2 rfl rfl (by kernel_rfl) (Opens.int Try.underlying3)
  obtain ⟨xs, k3, q3⟩ := field_cell Try.underlying42 hf hw 3 rfl rfl (by kernel_rfl) opensBytes
  have hcs : (Value.agg cs).cells.toList = cs.toList := rfl
  rw [hcs] at hl k0 k1 k2 k3
  obtain ⟨L⟩ := cs
  change L.length = 4 at hl
  match L, hl with
  | [v0, v1, v2, v3], _ =>
    obtain ⟨A0, c0, e3, l0, g0⟩ := k3
    have e0 : [v0] = [Value.int .i64 f0] := k0
    have e1 : [v1] = [Value.int .i64 f1] := k1
    have e2 : [v2] = [Value.int .i64 f2] := k2
    have e3' : [v3] = [Value.slice A0 xs.length c0] := e3
    simp at e0 e1 e2 e3'
    subst e0 e1 e2 e3'
    exact ⟨f0, f1, f2, A0, c0, xs, rfl, l0, g0, q3.2.1, q3.2.2⟩
end
set_option maxRecDepth 100000 in
theorem lifted (os : Os) (started : os.Started) (H : Type) (enc : TypeId × Value → H) :
    ReturnsInHanded {} Try.checked os 7 .any (Rows.sealNewestsSpec.pre6 enc Try.prog Try.f7 Rows.sealNewestsRow.domain false) (Rows.sealNewestsSpec.post enc Try.prog Try.f7 false true false false) := by
  refine returnsInHanded_of_change_sized (C := Try.checked) own started (by kernel_rfl) Try.func7
    (ChangeSpec.witness6 (enc := enc) (C := Try.checked) false ⟨#[], #[.agg #[.int .i64 0, .int .i64 0, .int .i64 0, .slice none 0 0], .agg #[.int .i64 0, .int .i64 0, .int .i64 0, .slice none 0 0]], []⟩ 8 (by kernel_rfl) (by kernel_rfl) (by kernel_rfl) (by kernel_rfl)) ?_
  intro W base args ds gs before hval0 hW hcnd hsz0 _
  have hsz : (DataW.weightsEach Try.prog (Try.f7.params.toList ++ Rows.sealNewestsSpec.plain.varTypes Try.prog) (ds ++ gs)).all (· ≤ reachBytes) = true := hsz0
  have hval : ∀ (j : Nat) t v, Try.f7.params[j]? = some t → args[j]? = some v → Value.okWide Try.prog W .any base t v := hval0
  have hW' := hW
  obtain ⟨p, q, hA0, hV, rfl, hfz, hnd⟩ := hW
  have hA : DataW.TrodAll enc Try.prog W 0 (fun _ => true) true Try.f7.params.toList args.toList ds p := hA0
  rw [Try.params7] at hA hval hsz
  obtain ⟨v0, vs0, d0, ds0, p0, q0, hargs, rfl, rfl, h0, r0⟩ := trodAll_cons hA
  obtain ⟨v1, vs1, d1, ds1, p1, q1, rfl, rfl, rfl, h1, r1⟩ := trodAll_cons r0
  obtain ⟨rfl, rfl, rfl⟩ := trodAll_nil r1
  obtain rfl : args = #[v0, v1] := by cases args; simp_all
  obtain ⟨rfl, rfl⟩ := trodVars_none hV
  have hwt : ∀ (j : Nat) t d, [42, 42][j]? = some t → [d0, d1][j]? = some d → ∀ n ∈ d.weights Try.prog t, n ≤ reachBytes := fun j t d h1 h2 n hn => by
    have h3 := List.all_eq_true.1 hsz n (DataW.weights_mem_each (j := j) (t := t) (d := d) ?_ ?_ n hn)
    · exact of_decide_eq_true h3
    · exact List.getElem?_append_left (by have := (List.getElem?_eq_some_iff.1 h1).1; simpa using this) |>.trans h1
    · exact List.getElem?_append_left (by have := (List.getElem?_eq_some_iff.1 h2).1; simpa using this) |>.trans h2
  obtain ⟨cs0, rfl, _⟩ := okWide_struct Try.underlying42 (hval 0 42 v0 rfl rfl)
  have k0 := h0
  have lt0 : ∀ x ∈ p0, x.block < W.heap.size := by obtain ⟨m, hm⟩ := k0; exact DataW.trod_lt m _ _ _ hm
  obtain ⟨f0, f1, f2, A0, c0, l0, rfl, hc0, hr0, hs0, hw0⟩ := openAnchor h0 (hwt 0 _ _ rfl rfl)
  obtain ⟨cs1, rfl, _⟩ := okWide_struct Try.underlying42 (hval 1 42 v1 rfl rfl)
  have k1 := h1
  have lt1 : ∀ x ∈ p1, x.block < W.heap.size := by obtain ⟨m, hm⟩ := k1; exact DataW.trod_lt m _ _ _ hm
  obtain ⟨g0, g1, g2, A1, c1, l1, rfl, hc1, hr1, hs1, hw1⟩ := openAnchor h1 (hwt 1 _ _ rfl rfl)
  clear hA0 hval0 hsz0
  obtain ⟨b0, rfl⟩ := of_wf hw0
  obtain ⟨b1, rfl⟩ := of_wf hw1
  have hrb : reachBytes = 140737488351232 := by decide
  rw [len_ofB] at hs0 hs1
  obtain ⟨k, hk⟩ := (newests_ok f0 f1 f2 b0 g0 g1 g2 b1 (by omega) (by omega)).rounds
  refine (vellumlaw3_SealNewests.calls k f0 f1 f2 _ _ (ofB b0) g0 g1 g2 _ _ (ofB b1) true W hr0 hc0 hr1 hc1 hk).mono fun e W' ⟨he, bel⟩ => ?_
  subst he
  exact ⟨_, rfl, _, _, _, [], _, [], hW', trodAll_mk1 (shut_bool Try.underlying4 _), (trodAll_cons_mk (Below.trod laidOut (by kernel_rfl) (of_decide_eq_true (by kernel_rfl)) k0 bel lt0) (trodAll_cons_mk (Below.trod laidOut (by kernel_rfl) (of_decide_eq_true (by kernel_rfl)) k1 bel lt1) trodAll_mk0)), rfl, bel.frame _, fun h => by cases h⟩
theorem over : Rows.sealNewestsRow.holds Try.pinned (OpenSpec.ofChange Rows.sealNewestsSpec) :=
  OpenClaim.holds_of_wide 7 Try.f7 rfl rfl rfl rfl rfl rfl rfl ⟨rfl, rfl, rfl, rfl, rfl⟩ rfl rfl rfl rfl rfl (by kernel_rfl) Try.func7 (by kernel_rfl)
    (of_decide_eq_true (by kernel_rfl)) (by unfold Func.isWrapper; first | (rw [if_pos (by decide +kernel)]; kernel_rfl) | (rw [if_neg (by decide +kernel)]; exact ⟨rfl, rfl⟩))
    (fun os started H enc _ => lifted os started H enc)
theorem proved : Rows.SealNewestsSaid := over
#print axioms proved
end Go.Proofs.Ytdimpgfegdnhaaa.sealNewests
