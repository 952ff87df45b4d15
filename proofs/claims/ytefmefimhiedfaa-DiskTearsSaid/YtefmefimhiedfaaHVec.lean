/- Lists that grow by append, copies, cuts of slices, over owned memory. Over any program. -/
import Derived.Test.YtefmefimhiedfaaHOps
open Go Go.RowKit Go.Proofs.YtefmefimhiedfaaW.PrintWords Go.Proofs.YtefmefimhiedfaaW.PrintMore
namespace Go.Vel
set_option linter.unusedVariables false
set_option linter.unusedSimpArgs false
/-- The slice v of n elements (sz cells each, of type e) begins a block of its own, or is nil: its cells are vals. -/
def vec (e : TypeId) (sz : Nat) (v : Value) (n : Nat) (vals : List Value) : Ast := fun h =>
  (v = .slice none 0 0 ∧ n = 0 ∧ vals = [] ∧ emp h) ∨ ∃ g c junk, v = .slice (some ⟨g, 0, none⟩) n c ∧ n ≤ c ∧ vals.length = n * sz ∧ (vals ++ junk).length = c * sz ∧ row g (vals ++ junk).toArray e h
section
variable {P : Program} {ops : Array Oper} {rest : List Oper} {o : Oper} {a : Act} {w w0 : World} {F : Nat → Prop} {L : List Ast} {ρ : Operand → Value} {K : Value → World → Prop} {e : TypeId} {sz n : Nat} {v : Value} {vals : List Value}
theorem St.vec_cases (S : St F w0 w (vec e sz v n vals :: L)) : (v = .slice none 0 0 ∧ n = 0 ∧ vals = [] ∧ St F w0 w L) ∨ ∃ g c junk, v = .slice (some ⟨g, 0, none⟩) n c ∧ n ≤ c ∧ vals.length = n * sz ∧ (vals ++ junk).length = c * sz ∧ St F w0 w (row g (vals ++ junk).toArray e :: L) := by
  obtain ⟨fr, hs, h1, h2, h3⟩ := S
  rcases h1 0 _ rfl with ⟨r1, r2, r3, _⟩ | ⟨g, c, junk, r1, r2, r3, r4, r5⟩
  · refine .inl ⟨r1, r2, r3, fr, fun i => hs (i + 1), fun i A hi => h1 (i + 1) A hi, fun i j hi hj hne => h2 (i + 1) (j + 1) (by simp; omega) (by simp; omega) (by omega), fun i hi => h3 (i + 1) (by simp; omega)⟩
  · refine .inr ⟨g, c, junk, r1, r2, r3, r4, fr, hs, fun i A hi => ?_, h2, h3⟩
    cases i with
    | zero => simp at hi; subst hi; exact r5
    | succ i => exact h1 (i + 1) A hi
theorem St.vec_open (S : St F w0 w (vec e sz v n vals :: L)) (h0 : 0 < n) : ∃ g c junk, v = .slice (some ⟨g, 0, none⟩) n c ∧ n ≤ c ∧ vals.length = n * sz ∧ (vals ++ junk).length = c * sz ∧ St F w0 w (row g (vals ++ junk).toArray e :: L) := by
  rcases S.vec_cases with ⟨_, h, _⟩ | h
  · omega
  · exact h
theorem St.vec_mk {g c : Nat} {junk : List Value} (S : St F w0 w (row g (vals ++ junk).toArray e :: L)) (h1 : n ≤ c) (h2 : vals.length = n * sz) (h3 : (vals ++ junk).length = c * sz) : St F w0 w (vec e sz (.slice (some ⟨g, 0, none⟩) n c) n vals :: L) :=
  S.map1 fun p hp => .inr ⟨g, c, junk, rfl, h1, h2, h3, hp⟩
theorem St.vec_nil (S : St F w0 w L) : St F w0 w (vec e sz (.slice none 0 0) 0 [] :: L) := by
  obtain ⟨fr, hs, h1, h2, h3⟩ := S
  refine ⟨fr, fun i => if i = 0 then (fun _ => none) else hs (i - 1), fun i A hi => ?_, fun i j hi hj hne k => ?_, fun i hi k o hk => ?_⟩
  · cases i with
    | zero => simp at hi; subst hi; exact .inl ⟨rfl, rfl, rfl, fun _ => rfl⟩
    | succ i => exact h1 i A hi
  · cases i with
    | zero => exact .inl rfl
    | succ i =>
      cases j with
      | zero => exact .inr rfl
      | succ j => exact h2 i j (by simpa using hi) (by simpa using hj) (by omega) k
  · cases i with
    | zero => cases hk
    | succ i => exact h3 i (by simpa using hi) k o hk
theorem St.tail {A : Ast} (S : St F w0 w (A :: L)) : St F w0 w L := by
  obtain ⟨fr, hs, h1, h2, h3⟩ := S
  exact ⟨fr, fun i => hs (i + 1), fun i A hi => h1 (i + 1) A hi, fun i j hi hj hne => h2 (i + 1) (j + 1) (by simp; omega) (by simp; omega) (by omega), fun i hi => h3 (i + 1) (by simp; omega)⟩
theorem St.vec_val (S : St F w0 w (vec e sz v n vals :: L)) : ∃ A c, v = .slice A n c := by
  rcases S.vec_cases with ⟨r1, r2, _⟩ | ⟨g, c, junk, r1, _⟩
  · exact ⟨none, 0, by rw [r1, r2]⟩
  · exact ⟨_, c, r1⟩
theorem St.vec_len (S : St F w0 w (vec e sz v n vals :: L)) : vals.length = n * sz := by
  rcases S.vec_cases with ⟨r1, r2, r3, _⟩ | ⟨g, c, junk, r1, _, r3, _⟩
  · rw [r2, r3]; simp
  · exact r3
theorem length_zeroCells (z : Array Value) (n : Nat) : (Builtin.zeroCells z n).toList.length = n * z.size := by simp [Builtin.zeroCells]
/-- append to a list of the call's own. -/
theorem gv_append {s x : Operand} {t : TypeId} {z : Value} {by_ m c' : Nat} {ad : Addr} {news : List Value} (S : St F w0 w (vec e sz v n vals :: L)) (ho : o.op = .call { callee := .builtin .append, args := #[s, x], argTypes := #[t, t] }) (ht : P.underlying t = some (.slice e)) (hE : Elt P e z sz by_) (hzs : z.cells.size = sz)
    (hs : ρ s = v) (hx : ρ x = .slice (some ad) m c') (hm : 0 < m) (hn : news.length = m * sz) (hcell : ∀ j u, news[j]? = some u → w.cell? (ad.add j) = some u) (h1 : ∀ u ∈ news, u.oneCell' = true) (hfit : (n + m) * by_ ≤ 140737488355328) (h63 : n + m ≤ 9223372036854775807)
    (h : ∀ v' w', St F w0 w' (vec e sz v' (n + m) (vals ++ news) :: L) → K v' w') : gives P K ((execOp ρ o).run P w) := by
  obtain ⟨i, hi, hz0, hz1, hz2⟩ := hE.get
  have hop : ∀ r w', (Builtin.append_ #[t, t] o.type #[v, .slice (some ad) m c']).run P w = .ok r w' → (execOp ρ o).run P w = .ok (.value r) w' := fun r w' hr => by
    simp [execOp, ho, resolve, invoke, builtin, hs, hx, hr]
  rcases S.vec_cases with ⟨r1, r2, r3, S1⟩ | ⟨g, c, junk, r1, r2, r3, r4, S1⟩
  · subst r1 r2 r3
    rw [Nat.zero_add] at hfit h63 h
    have hrun := run_append_nil (P := P) w t o.type e i z ht hi hz0 ad m c' news (by rw [hz1]; exact hn) hcell hm (by omega) (by rw [hz2]; omega)
    rw [hop _ _ hrun]
    have hge := grownCap_ge w m 0 e
    refine h _ _ ?_
    have S2 : St F w0 (w.drew.alloc (.cells (news.toArray ++ Builtin.zeroCells z.cells (grownCap w m 0 e - m)) e)) (row w.heap.size ((news ++ (Builtin.zeroCells z.cells (grownCap w m 0 e - m)).toList)).toArray e :: L) := by
      have S3 := S1.new (w' := w.drew.alloc (.cells (news.toArray ++ Builtin.zeroCells z.cells (grownCap w m 0 e - m)) e)) ((Below.refl _ _).drew.alloc (Nat.le_refl _) _) (Nat.le_refl _) (heap_alloc_new w.drew _)
      have e1 : news.toArray ++ Builtin.zeroCells z.cells (grownCap w m 0 e - m) = (news ++ (Builtin.zeroCells z.cells (grownCap w m 0 e - m)).toList).toArray := by apply Array.ext'; simp
      rw [e1] at S3 ⊢
      exact S3
    exact S2.vec_mk hge hn (by rw [List.length_append, length_zeroCells, hzs, hn, ← Nat.add_mul]; congr 1; omega)
  · subst r1
    have hB := S1.blk 0 rfl
    by_cases hroom : n + m ≤ c
    · have hle : n * sz + m * sz ≤ c * sz := by rw [← Nat.add_mul]; exact Nat.mul_le_mul_right _ hroom
      have hrun := run_append_room_cells (P := P) w t o.type e i ht hi g 0 n c ad m c' news (by rw [hz1]; exact hn) hcell h1 hroom
        (fun j hj => by
          rw [hz1, Nat.zero_add, hB.cell, Array.getElem?_eq_getElem (by simp only [List.size_toArray]; rw [r4]; omega)]; rfl)
        (fun j hj => hB.frozen _)
      rw [hz1, Nat.zero_add] at hrun
      rw [hop _ _ hrun]
      obtain ⟨cur', h3, h4, h5⟩ := setCells_row news (n * sz) w _ hB.out (by simp only [List.size_toArray]; rw [r4]; omega)
      have hcur : cur' = (vals ++ news ++ (vals ++ junk).drop (n * sz + m * sz)).toArray := by
        apply Array.ext'
        rw [h5, ← r3, hn]
        simp
      rw [hcur] at h3
      obtain ⟨q1, q2, q3, q4⟩ := setCells_same g news (n * sz) w
      have S2 : St F w0 (w.setCells g (n * sz) news) (row g (vals ++ news ++ (vals ++ junk).drop (n * sz + m * sz)).toArray e :: L) := S1.upd 0 rfl ⟨q1, q2, q3, q4, fun k hk => setCells_far _ _ k hk⟩ h3
      refine h _ _ (S2.vec_mk hroom (by rw [List.length_append, r3, hn, Nat.add_mul]) ?_)
      rw [List.length_append, List.length_append, List.length_drop, r4, r3, hn]
      omega
    · have holds : ∀ j u, vals[j]? = some u → w.cell? ((⟨g, 0, none⟩ : Addr).add j) = some u := fun j u hu => by
        rw [Addr.add_lit, Nat.zero_add, hB.cell, List.getElem?_toArray, List.getElem?_append_left (List.getElem?_eq_some_iff.1 hu).1]; exact hu
      have hrun := run_append_grow (P := P) w t o.type e i z ht hi hz0 ⟨g, 0, none⟩ n c vals (by rw [hz1]; exact r3) holds ad m c' news (by rw [hz1]; exact hn) hcell (by omega) (by omega) (growslice_fits (by omega) (by rw [hz2]; omega))
      rw [hop _ _ hrun]
      have hge := grownCap_ge w (n + m) c e
      have S3 := S1.tail.new (w' := w.drew.alloc (.cells (vals.toArray ++ news.toArray ++ Builtin.zeroCells z.cells (grownCap w (n + m) c e - (n + m))) e)) ((Below.refl _ _).drew.alloc (Nat.le_refl _) _) (Nat.le_refl _) (heap_alloc_new w.drew _)
      have e1 : vals.toArray ++ news.toArray ++ Builtin.zeroCells z.cells (grownCap w (n + m) c e - (n + m)) = (vals ++ news ++ (Builtin.zeroCells z.cells (grownCap w (n + m) c e - (n + m))).toList).toArray := by apply Array.ext'; simp
      rw [e1] at S3 ⊢
      refine h _ _ (St.vec_mk (junk := (Builtin.zeroCells z.cells (grownCap w (n + m) c e - (n + m))).toList) S3 hge (by rw [List.length_append, r3, hn, Nat.add_mul]) ?_)
      rw [List.length_append, List.length_append, length_zeroCells, hzs, r3, hn, ← Nat.add_mul, ← Nat.add_mul]
      congr 1; omega
/-- copy of cells into an owned row. -/
theorem gv_copyV {d s : Operand} {dT sT : TypeId} {g off dLen dCap sLen sCap : Nat} {A : Option Addr} {cs : List Value} {t : TypeId} {news : List Value} (S : St F w0 w L) (i : Nat) (hi : L[i]? = some (row g cs.toArray t)) (ho : o.op = .call { callee := .builtin .copy, args := #[d, s], argTypes := #[dT, sT] }) (ht : P.underlying dT = some (.slice e)) (hsz : (P.info? e).map (·.size) = some sz)
    (hd : ρ d = .slice (some ⟨g, off, none⟩) dLen dCap) (hs : ρ s = .slice A sLen sCap) (hn : news.length = Nat.min sLen dLen * sz) (hcell : 0 < news.length → ∃ ad, A = some ad ∧ ∀ j u, news[j]? = some u → w.cell? (ad.add j) = some u) (h1 : ∀ u ∈ news, u.oneCell' = true) (hfit : off + news.length ≤ cs.length)
    {L' : List Ast} (hL : L.set i (row g (splice cs off news).toArray t) = L') (h : ∀ w' m, St F w0 w' L' → K (goInt m) w') : gives P K ((execOp ρ o).run P w) := by
  have hB := S.blk i hi
  obtain ⟨q1, q2, q3, q4⟩ := setCells_same g news off w
  obtain ⟨cur', h3, h4, h5⟩ := setCells_row news off w _ hB.out (by simpa using hfit)
  have hcur : cur' = (splice cs off news).toArray := by
    apply Array.ext'
    rw [h5]; simp [splice]
  have hst := run_storeCells_cells (P := P) g off news 0 w (fun j hj => by rw [Nat.add_zero, hB.cell, Array.getElem?_eq_getElem (by simp; omega)]; rfl) (fun j _ => hB.frozen _) h1
  rw [Nat.add_zero] at hst
  have hf : (Builtin.firstCells sz (Nat.min sLen dLen) (.slice A sLen sCap)).run P w = .ok news.toArray w := by
    by_cases h0 : news.length = 0
    · have e0 : news = [] := List.eq_nil_of_length_eq_zero h0
      subst e0
      cases A with
      | none => simp [Builtin.firstCells]
      | some ad => exact run_firstCells_some (P := P) w sz _ ad sLen sCap [] hn (by simp)
    · obtain ⟨ad, rfl, hc⟩ := hcell (by omega)
      exact run_firstCells_some (P := P) w sz _ ad sLen sCap news hn hc
  have hr : (execOp ρ o).run P w = .ok (.value (goInt (Nat.min sLen dLen))) (w.setCells g off news) := by
    cases hq : P.info? e with
    | none => simp [hq] at hsz
    | some ie =>
      have he : ie.size = sz := by simpa [hq] using hsz
      simp only [execOp, ho, resolve, invoke, builtin]
      simp [hd, hs, Builtin.copy_, run_underlying ht, sizeOf, typeInfo, hq, he, Builtin.lenOf, hf, hst]
  rw [hr]
  subst hL
  exact h _ _ (S.upd i hi ⟨q1, q2, q3, q4, fun k hk => setCells_far _ _ k hk⟩ (by rw [h3, hcur]))
/-- copy of bytes into an owned row of bytes. -/
theorem gv_copy {d s : Operand} {dT sT : TypeId} {g off dLen dCap sLen sCap : Nat} {A : Option Addr} {B l : List UInt8} {t : TypeId} (S : St F w0 w L) (i : Nat) (hi : L[i]? = some (row g (bvs B) t)) (ho : o.op = .call { callee := .builtin .copy, args := #[d, s], argTypes := #[dT, sT] }) (ht : P.underlying dT = some (.slice e)) (hsz : (P.info? e).map (·.size) = some 1)
    (hd : ρ d = .slice (some ⟨g, off, none⟩) dLen dCap) (hs : ρ s = .slice A sLen sCap) (hl : sLen = l.length) (hr : RdB w A l) (hfit : off + dLen ≤ B.length)
    {L' : List Ast} (hL : L.set i (row g (bvs (splice B off (l.take dLen))) t) = L') (h : ∀ w' m, St F w0 w' L' → K (goInt m) w') : gives P K ((execOp ρ o).run P w) := by
  subst hl
  refine gv_copyV (cs := B.map bv) (news := (l.take dLen).map bv) (sz := 1) S i hi ho ht hsz hd hs ?_ ?_ (map_bv_one _) ?_ (L' := L') ?_ h
  · rw [List.length_map, List.length_take, Nat.mul_one]; exact Nat.min_comm _ _
  · intro h0
    rw [List.length_map, List.length_take] at h0
    obtain ⟨ad, e1, hc⟩ := hr (by omega)
    refine ⟨ad, e1, fun j u hu => hc j u ?_⟩
    rw [List.getElem?_map] at hu ⊢
    rw [List.getElem?_take] at hu
    split at hu
    · exact hu
    · simp at hu
  · rw [List.length_map, List.length_map, List.length_take]; omega
  · rw [← hL]
    congr 2
    simp [bvs, splice, List.map_take, List.map_drop]
/-- A cut of a slice. -/
theorem gv_cut {T : TypeId} {x p q : Operand} {g off n c lo hi : Nat} {kl kh : IntKind} (ho : o.op = .slice T x (some p) (some q) none) (hT : P.underlying T = some (.slice e)) (hsz : (P.info? e).map (·.size) = some sz) (hx : ρ x = .slice (some ⟨g, off, none⟩) n c) {u v : Int} (hp : ρ p = .int kl u) (hq : ρ q = .int kh v) (hu : u = (lo : Int)) (hv : v = (hi : Int)) (h1 : lo ≤ hi) (h2 : hi ≤ c) (h3 : lo < c) (h : K (.slice (some ⟨g, off + lo * sz, none⟩) (hi - lo) (c - lo)) w) : gives P K ((execOp ρ o).run P w) := by
  subst hu hv
  refine gv_val (w' := w) ?_ h
  have hne : ¬ c = lo := by omega
  cases hq2 : P.info? e with
  | none => simp [hq2] at hsz
  | some ie =>
    have he : ie.size = sz := by simpa [hq2] using hsz
    simp only [execOp, ho, hx, hp, hq, Option.map_some, Option.map_none]
    simp [Instr.sliceAt, Instr.slice, Instr.sliceBounds, Instr.sliceBound, asIntOf, run_underlying hT, sizeOf, typeInfo, hq2, he, h1, h2, hne, Addr.add_lit]
/-- A cut of a slice from its begin. -/
theorem gv_cutTo {T : TypeId} {x q : Operand} {A : Option Addr} {n c hi : Nat} {kh : IntKind} (ho : o.op = .slice T x none (some q) none) (hT : P.underlying T = some (.slice e)) (hsz : (P.info? e).map (·.size) = some sz) (hx : ρ x = .slice A n c) {v : Int} (hq : ρ q = .int kh v) (hv : v = (hi : Int)) (h2 : hi ≤ c) (h : K (.slice A hi c) w) : gives P K ((execOp ρ o).run P w) := by
  subst hv
  refine gv_val (w' := w) ?_ h
  cases hq2 : P.info? e with
  | none => simp [hq2] at hsz
  | some ie =>
    have he : ie.size = sz := by simpa [hq2] using hsz
    simp only [execOp, ho, hx, hq, Option.map_some, Option.map_none]
    simp [Instr.sliceAt, Instr.slice, Instr.sliceBounds, Instr.sliceBound, asIntOf, run_underlying hT, sizeOf, typeInfo, hq2, he, h2]
    intro _
    cases A <;> simp [Addr.add_zero']
end
end Go.Vel
