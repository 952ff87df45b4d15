/- What the elder contracts tell of new memory, as something owned: bytes that stay readable while the blocks that the call made stay. -/
import Derived.Test.YtgelippmcflppaaHMore
open Go Go.RowKit Go.Proofs.YtgelippmcflppaaW.PrintWords Go.Proofs.YtgelippmcflppaaW.PrintMore
namespace Go.Vel
set_option linter.unusedVariables false
/-- Bytes that can be read as long as these blocks stay. -/
def bytesX (v : Value) (l : List UInt8) : Ast := fun h => ∃ A c, v = .slice A l.length c ∧ l.length ≤ c ∧ ∀ w : World, (∀ k o, h k = some o → w.heap[k]? = some o) → RdB w A l
section
variable {F : Nat → Prop} {w0 w w' : World} {L : List Ast}
/-- The new blocks of a call, as one part. -/
theorem St.lift0 {X : Ast} (S : St F w0 w L) (hb : Below w.heap.size w w') (hX : X (fun k => if w.heap.size ≤ k then w'.heap[k]? else none)) : St F w0 w' (X :: L) := by
  refine ⟨S.fr.trans (Fr.of_below hb), ?_⟩
  have h1 : Own (fun k => (F k ∨ w0.heap.size ≤ k) ∧ k < w.heap.size) w' L := (S.own.mono (D1 := fun k => (F k ∨ w0.heap.size ≤ k) ∧ k < w.heap.size) fun k hk hl => ⟨hk, hl⟩).frame fun k _ hk => hb.block k hk
  have h2 : Own (fun k => w.heap.size ≤ k) w' [X] := Own.one hX fun k o hk => by
    split at hk
    · rename_i h; exact ⟨hk, h⟩
    · cases hk
  exact (h2.append h1 fun i hi hj _ => by omega).mono fun k hk _ => hk.elim (fun h => .inr (Nat.le_trans S.fr.size h)) (fun h => h.1)
theorem bytesX_of {v : Value} {l : List UInt8} {e : TypeId} (hv : Kd.V (Kd.int .u8) e w' w.heap.size (fun k_ => (w.heap.size ≤ k_)) v (ofB l)) : bytesX v l (fun k => if w.heap.size ≤ k then w'.heap[k]? else none) := by
  obtain ⟨A, c, e1, hc, hF⟩ := hv
  rw [len_ofB] at e1 hc
  refine ⟨A, c, e1, hc, fun w2 h2 => RdB.of_C (hF w2 fun k hk hlt => ?_)⟩
  have h3 : w'.heap[k]? = some w'.heap[k] := Array.getElem?_eq_getElem hlt
  rw [h3]
  exact h2 k _ ((if_pos hk).trans h3)
theorem St.lift {v : Value} {l : List UInt8} {e : TypeId} (S : St F w0 w L) (hb : Below w.heap.size w w') (hv : Kd.V (Kd.int .u8) e w' w.heap.size (fun k_ => (w.heap.size ≤ k_)) v (ofB l)) : St F w0 w' (bytesX v l :: L) := S.lift0 hb (bytesX_of hv)
theorem RoT.bytesX {v : Value} {l : List UInt8} {A : Option Addr} {n c : Nat} (j : Nat) (hj : L[j]? = some (bytesX v l)) (hv : v = .slice A n c) : RoT F w0 L A l := ⟨fun w' L' S => by
  have h1 : (L' ++ L)[L'.length + j]? = some (Go.Vel.bytesX v l) := by rw [List.getElem?_append_right (by omega)]; simpa using hj
  obtain ⟨_, hs, a1, a2, a3⟩ := S
  obtain ⟨A', c', e, _, hR⟩ := a1 _ _ h1
  rw [hv] at e
  simp at e
  rw [e.1]
  exact hR w' fun k o hk => (a3 _ (List.getElem?_eq_some_iff.1 h1).1 k o hk).1⟩
theorem St.bytesX_v {v : Value} {l : List UInt8} (S : St F w0 w (Go.Vel.bytesX v l :: L)) : ∃ A c, v = .slice A l.length c ∧ l.length ≤ c := by
  obtain ⟨q, A, c, e, hc, _⟩ := S.own.holds
  exact ⟨A, c, e, hc⟩
theorem RoT.to_C {A : Option Addr} {l : List UInt8} (h : RoT F w0 L A l) (S : St F w0 w L) (hm : l.length ≤ 9223372036854775807) : Kd.C (Kd.int .u8) w A (ofB l).length (ofB l) := (h.now S).to_C hm
end
end Go.Vel
