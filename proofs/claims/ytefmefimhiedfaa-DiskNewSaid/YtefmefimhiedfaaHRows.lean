/- How a law's arguments open to the words of the walks over owned memory: numbers and bytes. -/
import Derived.Test.YtefmefimhiedfaaVRows2
import Derived.Test.YtefmefimhiedfaaHMore
open Go Go.RowKit Go.Deep Go.Proofs.YtefmefimhiedfaaW.PrintWords Go.Proofs.YtefmefimhiedfaaW.PrintMore
namespace Go.Vel
theorem of_wf8 {xs : List Int} (h : ∀ x ∈ xs, (Lit.int .u8 x).wf = true) : ∃ b : List UInt8, xs = ofB b := by
  refine ⟨xs.map fun x => UInt8.ofNat x.toNat, ?_⟩
  unfold ofB
  rw [List.map_map]
  conv => lhs; rw [← List.map_id xs]
  apply List.map_congr_left
  intro x hx
  have := h x hx
  simp [Lit.wf, IntKind.min, IntKind.max, IntKind.signed, IntKind.bits] at this
  simp only [Function.comp, UInt8.toNat_ofNat', id]
  rw [Nat.mod_eq_of_lt (by omega)]
  omega
section
variable {H : Type} {enc : TypeId × Value → H} {P : Program} {W : World}
theorem opensBytes8 {t e : TypeId} (ht : P.underlying t = some (.slice e)) (he : P.underlying e = some (.int .u8)) (h1 : P.cellsOf e = 1) (h2 : P.bytesOf e = 1) : Opens enc P W t (Kd.slice e (Kd.int .u8)) (fun xs => xs.length ≤ maxLen ∧ xs.length * 1 ≤ reachBytes ∧ ∀ x ∈ xs, (Lit.int .u8 x).wf = true) :=
  Opens.slice ht (Opens.int he) h1.symm h2
/-- Bytes that came in. -/
theorem open_bytes8 {t e : TypeId} (ht : P.underlying t = some (.slice e)) (he : P.underlying e = some (.int .u8)) (h1 : P.cellsOf e = 1) (h2 : P.bytesOf e = 1) {A : Option Addr} {n c : Nat} {D : DataW H} {p : List MemPlace} (h : DataW.Trod enc P W 0 (fun _ => true) true t (.slice A n c) D p) (hw : ∀ n ∈ D.weights P t, n ≤ reachBytes) :
    ∃ b : List UInt8, n = b.length ∧ b.length ≤ c ∧ RdB W A b ∧ b.length ≤ 140737488351232 := by
  obtain ⟨xs, rfl, hc, hC, _, hs, hwf⟩ := Opens.row (opensBytes8 ht he h1 h2) h hw
  obtain ⟨b, rfl⟩ := of_wf8 hwf
  have hrb : reachBytes = 140737488351232 := by decide
  rw [len_ofB] at hs hc
  exact ⟨b, len_ofB b, hc, RdB.of_C hC, by omega⟩
end
end Go.Vel
