/- What a disk's steps do to what its sectors hold now; lists of slices that hold that. -/
import Derived.Test.YtefmefimhiedfaaHLaw2a
open Go Go.RowKit Go.Proofs.YtefmefimhiedfaaW.PrintWords Go.Proofs.YtefmefimhiedfaaW.PrintMore
namespace Go.Proofs
open Go.Vel
set_option linter.unusedVariables false
theorem St.pd_n1 {F : Nat → Prop} {w0 w : World} {L : List Ast} {g : Nat} {s : Dsk} (S : St F w0 w (PDisk g s :: L)) : 1 ≤ s.last.length ∧ ∀ x ∈ s.pend, x.1 < s.last.length ∧ x.2.length = 512 := by
  obtain ⟨gd, gm, clock, es, fused, left, hf, _⟩ := St.popen S
  exact ⟨hf.n1, fun x hx => ⟨(hf.plen x hx).2, (hf.plen x hx).1⟩⟩
theorem now_nil {s : Dsk} (h : s.pend = []) (k : Nat) : s.now k = s.last.getD k [] := Dsk.now_none (by unfold pendOf; rw [h]; rfl)
theorem writeR_ok {s : Dsk} {a : Int} {d : List UInt8} (h : (s.writeR a d).2 = 0) : 0 ≤ a ∧ a < s.last.length ∧ d.length = 512 ∧ s.left ≠ 0 ∧ (s.writeR a d).1 = { s with pend := s.pend ++ [(a.toNat, d)], wr := inc s.wr, left := spent s.left } := by
  unfold Dsk.writeR at h ⊢
  by_cases h1 : s.left = 0
  · rw [if_pos h1] at h; exact absurd (show (_ : Int) = 0 from h) (by omega)
  · rw [if_neg h1] at h ⊢
    by_cases h2 : a < 0 ∨ (s.last.length : Int) ≤ a
    · rw [if_pos h2] at h; exact absurd (show (_ : Int) = 0 from h) (by omega)
    · rw [if_neg h2] at h ⊢
      by_cases h3 : d.length ≠ 512
      · rw [if_pos h3] at h; exact absurd (show (_ : Int) = 0 from h) (by omega)
      · rw [if_neg h3] at h ⊢
        exact ⟨by omega, by omega, by omega, h1, rfl⟩
theorem writeR_no {s : Dsk} {a : Int} {d : List UInt8} (h : (s.writeR a d).2 ≠ 0) : (s.writeR a d).1.last = s.last ∧ (s.writeR a d).1.pend = s.pend ∧ (s.writeR a d).1.left = s.left ∧ (0 ≤ a → a < s.last.length → d.length = 512 → (s.writeR a d).2 = 3 ∧ s.left = 0) ∧ (s.left = 0 → (s.writeR a d).2 = 3) := by
  unfold Dsk.writeR at h ⊢
  by_cases h1 : s.left = 0
  · rw [if_pos h1]; exact ⟨rfl, rfl, rfl, fun _ _ _ => ⟨rfl, h1⟩, fun _ => rfl⟩
  · rw [if_neg h1] at h ⊢
    by_cases h2 : a < 0 ∨ (s.last.length : Int) ≤ a
    · rw [if_pos h2]; exact ⟨rfl, rfl, rfl, fun q1 q2 _ => by omega, fun q => absurd q h1⟩
    · rw [if_neg h2] at h ⊢
      by_cases h3 : d.length ≠ 512
      · rw [if_pos h3]; exact ⟨rfl, rfl, rfl, fun _ _ q3 => absurd q3 h3, fun q => absurd q h1⟩
      · rw [if_neg h3] at h; exact absurd rfl h
theorem writeR_yes {s : Dsk} {a : Int} {d : List UInt8} (h0 : s.left ≠ 0) (h1 : 0 ≤ a) (h2 : a < s.last.length) (h3 : d.length = 512) : (s.writeR a d).2 = 0 := by
  unfold Dsk.writeR; rw [if_neg h0, if_neg (by omega), if_neg (by omega)]
theorem readR_yes {s : Dsk} {a : Int} (h0 : s.left ≠ 0) (h1 : 0 ≤ a) (h2 : a < s.last.length) : (s.readR a).2.2 = 0 ∧ (s.readR a).2.1 = s.now a.toNat := by
  unfold Dsk.readR; rw [if_neg h0, if_neg (by omega)]; exact ⟨rfl, rfl⟩
theorem readR_same (s : Dsk) (a : Int) : (s.readR a).1.last = s.last ∧ (s.readR a).1.pend = s.pend ∧ (s.readR a).1.left = s.left := by
  unfold Dsk.readR
  split
  · exact ⟨rfl, rfl, rfl⟩
  · split <;> exact ⟨rfl, rfl, rfl⟩
theorem now_flush {s s' : Dsk} (h1 : s'.last = applyP s.last s.pend) (h2 : s'.pend = []) {k : Nat} (hk : k < s.last.length) : s'.now k = s.now k := by
  rw [now_nil h2, h1, List.getD_eq_getElem?_getD, get_applyP]
  unfold newest Dsk.now pendOf
  cases hq : ((s.pend.filter fun x => x.1 == k).map (·.2)).getLast? with
  | none => rw [List.getD_eq_getElem?_getD]
  | some d => simp only []; rw [if_pos hk]; rfl
theorem flushR_cases (s : Dsk) : (s.left = 0 ∧ s.flushR = (s, 3)) ∨ (s.left ≠ 0 ∧ s.flushR = ({ s with last := applyP s.last s.pend, pend := [], fl := inc s.fl, left := spent s.left }, 0)) := by
  unfold Dsk.flushR
  by_cases h : s.left = 0
  · rw [if_pos h]; exact .inl ⟨h, rfl⟩
  · rw [if_neg h]; exact .inr ⟨h, rfl⟩
theorem fuseR_same (s : Dsk) (n : Int) : (s.fuseR n).last = s.last ∧ (s.fuseR n).pend = s.pend := by unfold Dsk.fuseR; split <;> exact ⟨rfl, rfl⟩
theorem crashR_len (s : Dsk) (ps : List Pick) : (s.crashR ps).last.length = s.last.length := length_applyP _ _
section
variable {E : List Hd} {junk : List Value} {k : Nat} {x : Hd}
theorem hd_at (h : E[k]? = some x) : ((E.map Hd.val ++ junk).toArray)[k]? = some (Hd.val x) := by
  rw [List.getElem?_toArray, List.getElem?_append_left (by rw [List.length_map]; exact (List.getElem?_eq_some_iff.1 h).1), List.getElem?_map, h]; rfl
end
end Go.Proofs
