/- What a disk's steps do to what its sectors hold now; lists of slices that hold that. -/
import Derived.Test.YtefmefimhiedfaaHLaw2a
open Go Go.RowKit Go.Proofs.YtefmefimhiedfaaW.PrintWords Go.Proofs.YtefmefimhiedfaaW.PrintMore
namespace Go.Proofs
open Go.Vel
set_option linter.unusedVariables false
theorem St.pd_n1 {F : Nat → Prop} {w0 w : World} {L : List Ast} {g : Nat} {s : Dsk} (S : St F w0 w (PDisk g s :: L)) : 1 ≤ s.last.length ∧ ∀ x ∈ s.pend, x.1 < s.last.length ∧ x.2.length = 512 := by
  obtain ⟨gd, gm, clock, es, fused, left, hf, _⟩ := St.popen S
  exact ⟨hf.n1, fun x hx => ⟨(hf.plen x hx).2, (hf.plen x hx).1⟩⟩
theorem now_congr {s s' : Dsk} (h1 : s'.last = s.last) (h2 : s'.pend = s.pend) (k : Nat) : s'.now k = s.now k := by
  unfold Dsk.now pendOf; rw [h1, h2]
theorem now_nil {s : Dsk} (h : s.pend = []) (k : Nat) : s.now k = s.last.getD k [] := Dsk.now_none (by unfold pendOf; rw [h]; rfl)
theorem writeR_ok {s : Dsk} {a : Int} {d : List UInt8} (h : (s.writeR a d).2 = 0) : 0 ≤ a ∧ a < s.last.length ∧ d.length = 512 ∧ s.left ≠ 0 ∧ (s.writeR a d).1 = { s with pend := s.pend ++ [(a.toNat, d)], wr := inc s.wr, left := spent s.left } := by
  unfold Dsk.writeR at h ⊢
  by_cases h1 : s.left = 0
  · rw [if_pos h1] at h; exact absurd (show (_ : Int) = 0 from h) (by omega)
  · rw [if_neg h1] at h ⊢
    by_cases h2 : a < 0 ∨ (s.last.length : Int) ≤ a
    · rw [if_pos h2] at h; exact absurd (show (_ : Int) = 0 from h) (by omega)
    · rw [if_neg h2] at h ⊢
      by_cases h3 : d.length ≠ 512
      · rw [if_pos h3] at h; exact absurd (show (_ : Int) = 0 from h) (by omega)
      · rw [if_neg h3] at h ⊢
        exact ⟨by omega, by omega, by omega, h1, rfl⟩
theorem writeR_no {s : Dsk} {a : Int} {d : List UInt8} (h : (s.writeR a d).2 ≠ 0) : (s.writeR a d).1.last = s.last ∧ (s.writeR a d).1.pend = s.pend ∧ (s.writeR a d).1.left = s.left ∧ (0 ≤ a → a < s.last.length → d.length = 512 → (s.writeR a d).2 = 3 ∧ s.left = 0) ∧ (s.left = 0 → (s.writeR a d).2 = 3) := by
  unfold Dsk.writeR at h ⊢
  by_cases h1 : s.left = 0
  · rw [if_pos h1]; exact ⟨rfl, rfl, rfl, fun _ _ _ => ⟨rfl, h1⟩, fun _ => rfl⟩
  · rw [if_neg h1] at h ⊢
    by_cases h2 : a < 0 ∨ (s.last.length : Int) ≤ a
    · rw [if_pos h2]; exact ⟨rfl, rfl, rfl, fun q1 q2 _ => by omega, fun q => absurd q h1⟩
    · rw [if_neg h2] at h ⊢
      by_cases h3 : d.length ≠ 512
      · rw [if_pos h3]; exact ⟨rfl, rfl, rfl, fun _ _ q3 => absurd q3 h3, fun q => absurd q h1⟩
      · rw [if_neg h3] at h; exact absurd rfl h
theorem writeR_yes {s : Dsk} {a : Int} {d : List UInt8} (h0 : s.left ≠ 0) (h1 : 0 ≤ a) (h2 : a < s.last.length) (h3 : d.length = 512) : (s.writeR a d).2 = 0 := by
  unfold Dsk.writeR; rw [if_neg h0, if_neg (by omega), if_neg (by omega)]
theorem readR_ok {s : Dsk} {a : Int} (h : (s.readR a).2.2 = 0) : 0 ≤ a ∧ a < s.last.length ∧ s.left ≠ 0 ∧ (s.readR a).2.1 = s.now a.toNat := by
  unfold Dsk.readR at h ⊢
  by_cases h1 : s.left = 0
  · rw [if_pos h1] at h; exact absurd (show (3 : Int) = 0 from h) (by omega)
  · rw [if_neg h1] at h ⊢
    by_cases h2 : a < 0 ∨ (s.last.length : Int) ≤ a
    · rw [if_pos h2] at h; exact absurd (show (11 : Int) = 0 from h) (by omega)
    · rw [if_neg h2]; exact ⟨by omega, by omega, h1, rfl⟩
theorem readR_no {s : Dsk} {a : Int} (h : (s.readR a).2.2 ≠ 0) : (s.readR a).2.1 = [] ∧ (0 ≤ a → a < s.last.length → (s.readR a).2.2 = 3 ∧ s.left = 0) ∧ (s.left = 0 → (s.readR a).2.2 = 3) := by
  unfold Dsk.readR at h ⊢
  by_cases h1 : s.left = 0
  · rw [if_pos h1]; exact ⟨rfl, fun _ _ => ⟨rfl, h1⟩, fun _ => rfl⟩
  · rw [if_neg h1] at h ⊢
    by_cases h2 : a < 0 ∨ (s.last.length : Int) ≤ a
    · rw [if_pos h2]; exact ⟨rfl, fun q1 q2 => by omega, fun q => absurd q h1⟩
    · rw [if_neg h2] at h; exact absurd rfl h
theorem readR_yes {s : Dsk} {a : Int} (h0 : s.left ≠ 0) (h1 : 0 ≤ a) (h2 : a < s.last.length) : (s.readR a).2.2 = 0 ∧ (s.readR a).2.1 = s.now a.toNat := by
  unfold Dsk.readR; rw [if_neg h0, if_neg (by omega)]; exact ⟨rfl, rfl⟩
theorem readR_same (s : Dsk) (a : Int) : (s.readR a).1.last = s.last ∧ (s.readR a).1.pend = s.pend ∧ (s.readR a).1.left = s.left := by
  unfold Dsk.readR
  split
  · exact ⟨rfl, rfl, rfl⟩
  · split <;> exact ⟨rfl, rfl, rfl⟩
theorem now_write {s s' : Dsk} {k : Nat} {d : List UInt8} (h1 : s'.last = s.last) (h2 : s'.pend = s.pend ++ [(k, d)]) (j : Nat) : s'.now j = if k = j then d else s.now j := by
  have hp := pendOf_snoc s k j d s' h2
  unfold Dsk.now
  rw [hp, h1]
  by_cases hk : k = j
  · rw [if_pos hk, if_pos hk, List.getLast?_append]; rfl
  · rw [if_neg hk, if_neg hk, List.append_nil]
theorem now_flush {s s' : Dsk} (h1 : s'.last = applyP s.last s.pend) (h2 : s'.pend = []) {k : Nat} (hk : k < s.last.length) : s'.now k = s.now k := by
  rw [now_nil h2, h1, List.getD_eq_getElem?_getD, get_applyP]
  unfold newest Dsk.now pendOf
  cases hq : ((s.pend.filter fun x => x.1 == k).map (·.2)).getLast? with
  | none => rw [List.getD_eq_getElem?_getD]
  | some d => simp only []; rw [if_pos hk]; rfl
theorem flushR_cases (s : Dsk) : (s.left = 0 ∧ s.flushR = (s, 3)) ∨ (s.left ≠ 0 ∧ s.flushR = ({ s with last := applyP s.last s.pend, pend := [], fl := inc s.fl, left := spent s.left }, 0)) := by
  unfold Dsk.flushR
  by_cases h : s.left = 0
  · rw [if_pos h]; exact .inl ⟨h, rfl⟩
  · rw [if_neg h]; exact .inr ⟨h, rfl⟩
theorem fuseR_same (s : Dsk) (n : Int) : (s.fuseR n).last = s.last ∧ (s.fuseR n).pend = s.pend := by unfold Dsk.fuseR; split <;> exact ⟨rfl, rfl⟩
/-- A step that is no write and no cut leaves what is read. -/
theorem act_now {s : Dsk} {kind a : Int} {d : List UInt8} {ps : List Pick} (h2 : kind ≠ 2) (h6 : kind ≠ 6) : (s.actR kind a d ps).last.length = s.last.length ∧ ∀ k, k < s.last.length → (s.actR kind a d ps).now k = s.now k := by
  unfold Dsk.actR
  by_cases k1 : kind = 1
  · rw [if_pos k1]; obtain ⟨q1, q2, _⟩ := readR_same s a; exact ⟨by rw [q1], fun k _ => now_congr q1 q2 k⟩
  · rw [if_neg k1, if_neg h2]
    by_cases k3 : kind = 3
    · rw [if_pos k3]
      rcases flushR_cases s with ⟨_, e⟩ | ⟨_, e⟩
      · rw [e]; exact ⟨rfl, fun _ _ => rfl⟩
      · rw [e]; exact ⟨length_applyP _ _, fun k hk => now_flush rfl rfl hk⟩
    · rw [if_neg k3]
      by_cases k4 : kind = 4
      · rw [if_pos k4]; obtain ⟨q1, q2⟩ := fuseR_same s a; exact ⟨by rw [q1], fun k _ => now_congr q1 q2 k⟩
      · rw [if_neg k4, if_neg h6]
        by_cases k7 : kind = 7
        · rw [if_pos k7]; exact ⟨rfl, fun k _ => now_congr rfl rfl k⟩
        · rw [if_neg k7]; exact ⟨rfl, fun _ _ => rfl⟩
theorem crashR_len (s : Dsk) (ps : List Pick) : (s.crashR ps).last.length = s.last.length := length_applyP _ _
/-- Behind a cut a right write is taken and read again. -/
theorem end_ok {s : Dsk} {d : List UInt8} (ps : List Pick) (hd : d.length = 512) (h1 : 1 ≤ s.last.length) : ((s.crashR ps).writeR 0 d).2 = 0 ∧ (((s.crashR ps).writeR 0 d).1.readR 0).2.2 = 0 ∧ (((s.crashR ps).writeR 0 d).1.readR 0).2.1 = d := by
  have hl := crashR_len s ps
  have e0 : ((s.crashR ps).writeR 0 d).2 = 0 := writeR_yes (by show (-1 : Int) ≠ 0; decide) (by decide) (by omega) hd
  obtain ⟨_, _, _, _, e1⟩ := writeR_ok e0
  rw [e1]
  refine ⟨e0, ?_⟩
  obtain ⟨q1, q2⟩ := readR_yes (s := { s.crashR ps with pend := (s.crashR ps).pend ++ [((0 : Int).toNat, d)], wr := inc (s.crashR ps).wr, left := spent (s.crashR ps).left }) (a := 0) (by show (-1 : Int) ≠ 0; decide) (by decide) (by show (0 : Int) < (s.crashR ps).last.length; omega)
  refine ⟨q1, q2.trans ?_⟩
  refine Eq.trans (now_write (s := s.crashR ps) (k := 0) (d := d) ?_ ?_ 0) (if_pos rfl) <;> rfl
/-- A list of slices of bytes that hold what the disk's sectors hold now; they lie in the image at gi, or were there before. -/
structure NF (w : World) (s : Dsk) (E : List Hd) (gi : Nat) (im : List UInt8) : Prop where
  len : E.length = s.last.length
  eq : ∀ k x, E[k]? = some x → x.l = s.now k
  ro : ∀ x ∈ E, RoT none' w [row gi (bvs im) 5] x.A x.l
  n1 : 1 ≤ s.last.length
  n2 : s.last.length ≤ 2048
theorem NF.of_cut {w : World} {s : Dsk} {E : List Hd} {gi : Nat} {im : List UInt8} (hE : E.map (·.l) = secs s.last.flatten s.last.length) (h5 : ∀ l ∈ s.last, l.length = 512) (hp : s.pend = []) (hr : ∀ x ∈ E, RoT none' w [row gi (bvs im) 5] x.A x.l) (n1 : 1 ≤ s.last.length) (n2 : s.last.length ≤ 2048) : NF w s E gi im := by
  rw [secs_of_flat h5] at hE
  have hl : E.length = s.last.length := by rw [← hE, List.length_map]
  refine ⟨hl, fun k x hx => ?_, hr, n1, n2⟩
  rw [now_nil hp, List.getD_eq_getElem?_getD, ← hE, List.getElem?_map, hx]; rfl
theorem NF.keep {w : World} {s s' : Dsk} {E : List Hd} {gi : Nat} {im : List UInt8} (h : NF w s E gi im) (h1 : s'.last.length = s.last.length) (h2 : ∀ k, k < s.last.length → s'.now k = s.now k) : NF w s' E gi im :=
  ⟨by rw [h1]; exact h.len, fun k x hx => by rw [h2 k (by rw [← h.len]; exact (List.getElem?_eq_some_iff.1 hx).1)]; exact h.eq k x hx, h.ro, by rw [h1]; exact h.n1, by rw [h1]; exact h.n2⟩
theorem NF.same {w : World} {s s' : Dsk} {E : List Hd} {gi : Nat} {im : List UInt8} (h : NF w s E gi im) (h1 : s'.last = s.last) (h2 : s'.pend = s.pend) : NF w s' E gi im := h.keep (by rw [h1]) fun k _ => now_congr h1 h2 k
theorem NF.write {w : World} {s s' : Dsk} {E : List Hd} {gi k : Nat} {im d : List UInt8} {A : Option Addr} {c : Nat} (h : NF w s E gi im) (h1 : s'.last = s.last) (h2 : s'.pend = s.pend ++ [(k, d)]) (hr : RoT none' w [row gi (bvs im) 5] A d) : NF w s' (E.set k ⟨A, d, c⟩) gi im := by
  refine ⟨by rw [List.length_set, h1]; exact h.len, fun j x hx => ?_, fun x hx => ?_, by rw [h1]; exact h.n1, by rw [h1]; exact h.n2⟩
  · rw [now_write h1 h2, List.getElem?_set] at *
    by_cases hk : k = j
    · rw [if_pos hk] at hx ⊢
      split at hx
      · cases hx; rfl
      · cases hx
    · rw [if_neg hk] at hx ⊢; exact h.eq j x hx
  · rcases List.mem_or_eq_of_mem_set hx with hx | rfl
    · exact h.ro x hx
    · exact hr
section
variable {E : List Hd} {junk : List Value} {k : Nat} {x : Hd}
theorem hd_at (h : E[k]? = some x) : ((E.map Hd.val ++ junk).toArray)[k]? = some (Hd.val x) := by
  rw [List.getElem?_toArray, List.getElem?_append_left (by rw [List.length_map]; exact (List.getElem?_eq_some_iff.1 h).1), List.getElem?_map, h]; rfl
theorem hd_set (h : k < E.length) : (E.map Hd.val ++ junk).toArray.setIfInBounds k (Hd.val x) = ((E.set k x).map Hd.val ++ junk).toArray := by
  rw [List.setIfInBounds_toArray, List.set_append_left _ _ (by rw [List.length_map]; exact h), List.map_set]
theorem hd_blt (h : k < E.length) : Nat.blt k ((E.map Hd.val ++ junk).toArray).size = true := Nat.ble_eq_true_of_le (by simp; omega)
end
end Go.Proofs
