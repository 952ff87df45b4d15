/- Lists that grow by append, copies, cuts of slices, over owned memory. Over any program. -/
import Derived.Test.YtgelippmcflppaaHOps
open Go Go.RowKit Go.Proofs.YtgelippmcflppaaW.PrintWords Go.Proofs.YtgelippmcflppaaW.PrintMore
namespace Go.Vel
set_option linter.unusedVariables false
set_option linter.unusedSimpArgs false
/-- The slice v of n elements (sz cells each, of type e) begins a block of its own, or is nil: its cells are vals. -/
def vec (e : TypeId) (sz : Nat) (v : Value) (n : Nat) (vals : List Value) : Ast := fun h =>
  (v = .slice none 0 0 ∧ n = 0 ∧ vals = [] ∧ emp h) ∨ ∃ g c junk, v = .slice (some ⟨g, 0, none⟩) n c ∧ n ≤ c ∧ vals.length = n * sz ∧ (vals ++ junk).length = c * sz ∧ row g (vals ++ junk).toArray e h
section
variable {P : Program} {ops : Array Oper} {rest : List Oper} {o : Oper} {a : Act} {w w0 : World} {F : Nat → Prop} {L : List Ast} {ρ : Operand → Value} {K : Value → World → Prop} {e : TypeId} {sz n : Nat} {v : Value} {vals : List Value}
theorem St.vec_cases (S : St F w0 w (vec e sz v n vals :: L)) : (v = .slice none 0 0 ∧ n = 0 ∧ vals = [] ∧ St F w0 w L) ∨ ∃ g c junk, v = .slice (some ⟨g, 0, none⟩) n c ∧ n ≤ c ∧ vals.length = n * sz ∧ (vals ++ junk).length = c * sz ∧ St F w0 w (row g (vals ++ junk).toArray e :: L) := by
  obtain ⟨fr, hs, h1, h2, h3⟩ := S
  rcases h1 0 _ rfl with ⟨r1, r2, r3, _⟩ | ⟨g, c, junk, r1, r2, r3, r4, r5⟩
  · refine .inl ⟨r1, r2, r3, fr, fun i => hs (i + 1), fun i A hi => h1 (i + 1) A hi, fun i j hi hj hne => h2 (i + 1) (j + 1) (by simp; omega) (by simp; omega) (by omega), fun i hi => h3 (i + 1) (by simp; omega)⟩
  · refine .inr ⟨g, c, junk, r1, r2, r3, r4, fr, hs, fun i A hi => ?_, h2, h3⟩
    cases i with
    | zero => simp at hi; subst hi; exact r5
    | succ i => exact h1 (i + 1) A hi
theorem St.vec_open (S : St F w0 w (vec e sz v n vals :: L)) (h0 : 0 < n) : ∃ g c junk, v = .slice (some ⟨g, 0, none⟩) n c ∧ n ≤ c ∧ vals.length = n * sz ∧ (vals ++ junk).length = c * sz ∧ St F w0 w (row g (vals ++ junk).toArray e :: L) := by
  rcases S.vec_cases with ⟨_, h, _⟩ | h
  · omega
  · exact h
theorem St.vec_mk {g c : Nat} {junk : List Value} (S : St F w0 w (row g (vals ++ junk).toArray e :: L)) (h1 : n ≤ c) (h2 : vals.length = n * sz) (h3 : (vals ++ junk).length = c * sz) : St F w0 w (vec e sz (.slice (some ⟨g, 0, none⟩) n c) n vals :: L) :=
  S.map1 fun p hp => .inr ⟨g, c, junk, rfl, h1, h2, h3, hp⟩
theorem St.vec_nil (S : St F w0 w L) : St F w0 w (vec e sz (.slice none 0 0) 0 [] :: L) := by
  obtain ⟨fr, hs, h1, h2, h3⟩ := S
  refine ⟨fr, fun i => if i = 0 then (fun _ => none) else hs (i - 1), fun i A hi => ?_, fun i j hi hj hne k => ?_, fun i hi k o hk => ?_⟩
  · cases i with
    | zero => simp at hi; subst hi; exact .inl ⟨rfl, rfl, rfl, fun _ => rfl⟩
    | succ i => exact h1 i A hi
  · cases i with
    | zero => exact .inl rfl
    | succ i =>
      cases j with
      | zero => exact .inr rfl
      | succ j => exact h2 i j (by simpa using hi) (by simpa using hj) (by omega) k
  · cases i with
    | zero => cases hk
    | succ i => exact h3 i (by simpa using hi) k o hk
theorem St.tail {A : Ast} (S : St F w0 w (A :: L)) : St F w0 w L := by
  obtain ⟨fr, hs, h1, h2, h3⟩ := S
  exact ⟨fr, fun i => hs (i + 1), fun i A hi => h1 (i + 1) A hi, fun i j hi hj hne => h2 (i + 1) (j + 1) (by simp; omega) (by simp; omega) (by omega), fun i hi => h3 (i + 1) (by simp; omega)⟩
theorem St.vec_val (S : St F w0 w (vec e sz v n vals :: L)) : ∃ A c, v = .slice A n c := by
  rcases S.vec_cases with ⟨r1, r2, _⟩ | ⟨g, c, junk, r1, _⟩
  · exact ⟨none, 0, by rw [r1, r2]⟩
  · exact ⟨_, c, r1⟩
theorem St.vec_len (S : St F w0 w (vec e sz v n vals :: L)) : vals.length = n * sz := by
  rcases S.vec_cases with ⟨r1, r2, r3, _⟩ | ⟨g, c, junk, r1, _, r3, _⟩
  · rw [r2, r3]; simp
  · exact r3
theorem length_zeroCells (z : Array Value) (n : Nat) : (Builtin.zeroCells z n).toList.length = n * z.size := by simp [Builtin.zeroCells]
/-- append to a list of the call's own. -/
theorem gv_append {s x : Operand} {t : TypeId} {z : Value} {by_ m c' : Nat} {ad : Addr} {news : List Value} (S : St F w0 w (vec e sz v n vals :: L)) (ho : o.op = .call { callee := .builtin .append, args := #[s, x], argTypes := #[t, t] }) (ht : P.underlying t = some (.slice e)) (hE : Elt P e z sz by_) (hzs : z.cells.size = sz)
    (hs : ρ s = v) (hx : ρ x = .slice (some ad) m c') (hm : 0 < m) (hn : news.length = m * sz) (hcell : ∀ j u, news[j]? = some u → w.cell? (ad.add j) = some u) (h1 : ∀ u ∈ news, u.oneCell' = true) (hfit : (n + m) * by_ ≤ 140737488355328) (h63 : n + m ≤ 9223372036854775807)
    (h : ∀ v' w', St F w0 w' (vec e sz v' (n + m) (vals ++ news) :: L) → K v' w') : gives P K ((execOp ρ o).run P w) := by
  obtain ⟨i, hi, hz0, hz1, hz2⟩ := hE.get
  have hop : ∀ r w', (Builtin.append_ #[t, t] o.type #[v, .slice (some ad) m c']).run P w = .ok r w' → (execOp ρ o).run P w = .ok (.value r) w' := fun r w' hr => by
    simp [execOp, ho, resolve, invoke, builtin, hs, hx, hr]
  rcases S.vec_cases with ⟨r1, r2, r3, S1⟩ | ⟨g, c, junk, r1, r2, r3, r4, S1⟩
  · subst r1 r2 r3
    rw [Nat.zero_add] at hfit h63 h
    have hrun := run_append_nil (P := P) w t o.type e i z ht hi hz0 ad m c' news (by rw [hz1]; exact hn) hcell hm (by omega) (by rw [hz2]; omega)
    rw [hop _ _ hrun]
    have hge := grownCap_ge w m 0 e
    refine h _ _ ?_
    have S2 : St F w0 (w.drew.alloc (.cells (news.toArray ++ Builtin.zeroCells z.cells (grownCap w m 0 e - m)) e)) (row w.heap.size ((news ++ (Builtin.zeroCells z.cells (grownCap w m 0 e - m)).toList)).toArray e :: L) := by
      have S3 := S1.new (w' := w.drew.alloc (.cells (news.toArray ++ Builtin.zeroCells z.cells (grownCap w m 0 e - m)) e)) ((Below.refl _ _).drew.alloc (Nat.le_refl _) _) (Nat.le_refl _) (heap_alloc_new w.drew _)
      have e1 : news.toArray ++ Builtin.zeroCells z.cells (grownCap w m 0 e - m) = (news ++ (Builtin.zeroCells z.cells (grownCap w m 0 e - m)).toList).toArray := by apply Array.ext'; simp
      rw [e1] at S3 ⊢
      exact S3
    exact S2.vec_mk hge hn (by rw [List.length_append, length_zeroCells, hzs, hn, ← Nat.add_mul]; congr 1; omega)
  · subst r1
    have hB := S1.blk 0 rfl
    by_cases hroom : n + m ≤ c
    · have hle : n * sz + m * sz ≤ c * sz := by rw [← Nat.add_mul]; exact Nat.mul_le_mul_right _ hroom
      have hrun := run_append_room_cells (P := P) w t o.type e i ht hi g 0 n c ad m c' news (by rw [hz1]; exact hn) hcell h1 hroom
        (fun j hj => by
          rw [hz1, Nat.zero_add, hB.cell, Array.getElem?_eq_getElem (by simp only [List.size_toArray]; rw [r4]; omega)]; rfl)
        (fun j hj => hB.frozen _)
      rw [hz1, Nat.zero_add] at hrun
      rw [hop _ _ hrun]
      obtain ⟨cur', h3, h4, h5⟩ := setCells_row news (n * sz) w _ hB.out (by simp only [List.size_toArray]; rw [r4]; omega)
      have hcur : cur' = (vals ++ news ++ (vals ++ junk).drop (n * sz + m * sz)).toArray := by
        apply Array.ext'
        rw [h5, ← r3, hn]
        simp
      rw [hcur] at h3
      obtain ⟨q1, q2, q3, q4⟩ := setCells_same g news (n * sz) w
      have S2 : St F w0 (w.setCells g (n * sz) news) (row g (vals ++ news ++ (vals ++ junk).drop (n * sz + m * sz)).toArray e :: L) := S1.upd 0 rfl ⟨q1, q2, q3, q4, fun k hk => setCells_far _ _ k hk⟩ h3
      refine h _ _ (S2.vec_mk hroom (by rw [List.length_append, r3, hn, Nat.add_mul]) ?_)
      rw [List.length_append, List.length_append, List.length_drop, r4, r3, hn]
      omega
    · have holds : ∀ j u, vals[j]? = some u → w.cell? ((⟨g, 0, none⟩ : Addr).add j) = some u := fun j u hu => by
        rw [Addr.add_lit, Nat.zero_add, hB.cell, List.getElem?_toArray, List.getElem?_append_left (List.getElem?_eq_some_iff.1 hu).1]; exact hu
      have hrun := run_append_grow (P := P) w t o.type e i z ht hi hz0 ⟨g, 0, none⟩ n c vals (by rw [hz1]; exact r3) holds ad m c' news (by rw [hz1]; exact hn) hcell (by omega) (by omega) (growslice_fits (by omega) (by rw [hz2]; omega))
      rw [hop _ _ hrun]
      have hge := grownCap_ge w (n + m) c e
      have S3 := S1.tail.new (w' := w.drew.alloc (.cells (vals.toArray ++ news.toArray ++ Builtin.zeroCells z.cells (grownCap w (n + m) c e - (n + m))) e)) ((Below.refl _ _).drew.alloc (Nat.le_refl _) _) (Nat.le_refl _) (heap_alloc_new w.drew _)
      have e1 : vals.toArray ++ news.toArray ++ Builtin.zeroCells z.cells (grownCap w (n + m) c e - (n + m)) = (vals ++ news ++ (Builtin.zeroCells z.cells (grownCap w (n + m) c e - (n + m))).toList).toArray := by apply Array.ext'; simp
      rw [e1] at S3 ⊢
      refine h _ _ (St.vec_mk (junk := (Builtin.zeroCells z.cells (grownCap w (n + m) c e - (n + m))).toList) S3 hge (by rw [List.length_append, r3, hn, Nat.add_mul]) ?_)
      rw [List.length_append, List.length_append, length_zeroCells, hzs, r3, hn, ← Nat.add_mul, ← Nat.add_mul]
      congr 1; omega
end
end Go.Vel
