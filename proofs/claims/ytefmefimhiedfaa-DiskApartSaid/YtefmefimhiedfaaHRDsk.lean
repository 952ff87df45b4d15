/- When the document's disk holds an abstract disk: its variable, its two lists, the sectors' bytes, which nobody changes and several places may share. -/
import Derived.Test.YtefmefimhiedfaaHCrash0
open Go Go.RowKit Go.Proofs.YtefmefimhiedfaaW.PrintWords Go.Proofs.YtefmefimhiedfaaW.PrintMore
namespace Go.Proofs
open Go.Vel
set_option linter.unusedVariables false
/-- A write that is pending: where its bytes lie, the sector, the bytes. -/
abbrev RPut := Nat × Nat × List UInt8
def RPut.ref (x : RPut) : Nat × List UInt8 := (x.1, x.2.2)
def putCells (x : RPut) : List Value := [.int .i64 ((x.2.1 : Nat) : Int), PEnt.val x.ref]
def putsV (PP : List RPut) : List Value := PP.flatMap putCells
def rcells (gl nl cl : Nat) (A2 : Option Addr) (np c2 : Nat) (left life rd wr fl rf : Int) : Array Value := #[.slice (some ⟨gl, 0, none⟩) nl cl, .slice A2 np c2, .int .i64 left, .int .i64 life, .int .i64 rd, .int .i64 wr, .int .i64 fl, .int .i64 rf, .int .i64 0]
structure RFacts (s : Dsk) (LL : List (Nat × List UInt8)) (PP : List RPut) (pool : List (Nat × List UInt8)) : Prop where
  last : LL.map (·.2) = s.last
  pend : PP.map (·.2) = s.pend
  lin : ∀ x ∈ LL, x ∈ pool
  pin : ∀ x ∈ PP, x.ref ∈ pool
  len : ∀ l ∈ s.last, l.length = 512
  plen : ∀ x ∈ s.pend, x.2.length = 512 ∧ x.1 < s.last.length
  n1 : 1 ≤ s.last.length
  n2 : s.last.length ≤ 2048
  lb : -1 ≤ s.left ∧ s.left ≤ 9223372036854775807
  pn : s.pend.length ≤ 4611686018427387904
def rdParts (g gl cl c2 : Nat) (A2 : Option Addr) (junk : List Value) (LL : List (Nat × List UInt8)) (PP : List RPut) (pool : List (Nat × List UInt8)) (s : Dsk) : List Ast :=
  [row g (rcells gl LL.length cl A2 PP.length c2 s.left s.life s.rd s.wr s.fl s.rf) 96, row gl (LL.map PEnt.val ++ junk).toArray 31, vec 99 2 (.slice A2 PP.length c2) PP.length (putsV PP), stars (pool.map PEnt.row)]
def RDisk (g : Nat) (s : Dsk) : Ast := fun h => ∃ gl cl c2 A2 junk LL PP pool, (RFacts s LL PP pool ∧ LL.length ≤ cl ∧ (LL.map PEnt.val ++ junk).length = cl * 1) ∧ stars (rdParts g gl cl c2 A2 junk LL PP pool s) h
section
variable {F : Nat → Prop} {w0 w : World} {L : List Ast} {g : Nat} {s : Dsk}
theorem St.ropen (S : St F w0 w (RDisk g s :: L)) : ∃ gl cl c2 A2 junk LL PP pool, RFacts s LL PP pool ∧ LL.length ≤ cl ∧ (LL.map PEnt.val ++ junk).length = cl * 1 ∧ St F w0 w (rdParts g gl cl c2 A2 junk LL PP pool s ++ L) := by
  obtain ⟨gl, S⟩ := S.ex
  obtain ⟨cl, S⟩ := S.ex
  obtain ⟨c2, S⟩ := S.ex
  obtain ⟨A2, S⟩ := S.ex
  obtain ⟨junk, S⟩ := S.ex
  obtain ⟨LL, S⟩ := S.ex
  obtain ⟨PP, S⟩ := S.ex
  obtain ⟨pool, S⟩ := S.ex
  obtain ⟨hf, S⟩ := S.fact
  exact ⟨gl, cl, c2, A2, junk, LL, PP, pool, hf.1, hf.2.1, hf.2.2, S.flat⟩
theorem St.rclose {gl cl c2 : Nat} {A2 : Option Addr} {junk : List Value} {LL : List (Nat × List UInt8)} {PP : List RPut} {pool : List (Nat × List UInt8)} (S : St F w0 w (rdParts g gl cl c2 A2 junk LL PP pool s ++ L)) (hf : RFacts s LL PP pool) (h1 : LL.length ≤ cl) (h2 : (LL.map PEnt.val ++ junk).length = cl * 1) : St F w0 w (RDisk g s :: L) :=
  S.star.map1 fun _ h => ⟨gl, cl, c2, A2, junk, LL, PP, pool, ⟨hf, h1, h2⟩, h⟩
/-- Reading a list's cells, while it stays closed. -/
theorem St.vec_rd {e : TypeId} {sz n c : Nat} {A : Option Addr} {vals : List Value} (S : St F w0 w L) (i : Nat) (hi : L[i]? = some (vec e sz (.slice A n c) n vals)) : RdV w A vals := by
  have S1 := S.mem i hi
  rcases S1.vec_cases with ⟨h, rfl, rfl, _⟩ | ⟨g, c', junk, h, _, h3, _, S2⟩
  · exact fun h => absurd h (Nat.lt_irrefl 0)
  · simp at h
    obtain ⟨rfl, _⟩ := h
    exact fun _ => ⟨_, rfl, fun j u hu => by
      rw [Addr.add_lit, Nat.zero_add, (S2.blk 0 rfl).cell, List.getElem?_toArray, List.getElem?_append_left (List.getElem?_eq_some_iff.1 hu).1]; exact hu⟩
theorem St.pool_rd {pool : List (Nat × List UInt8)} {x : Nat × List UInt8} (S : St F w0 w L) (i : Nat) (hi : L[i]? = some (stars (pool.map PEnt.row))) (hx : x ∈ pool) : Blk w x.1 (bvs x.2) 5 :=
  ((S.mem i hi).star_mem (List.mem_map.2 ⟨x, hx, rfl⟩)).blk 0 rfl
end
section
variable {s s' : Dsk} {LL : List (Nat × List UInt8)} {PP : List RPut} {pool : List (Nat × List UInt8)}
theorem RFacts.upd (h : RFacts s LL PP pool) (h1 : s'.last = s.last) (h2 : s'.pend = s.pend) (h3 : -1 ≤ s'.left ∧ s'.left ≤ 9223372036854775807) : RFacts s' LL PP pool :=
  ⟨by rw [h1]; exact h.last, by rw [h2]; exact h.pend, h.lin, h.pin, by rw [h1]; exact h.len, by rw [h1, h2]; exact h.plen, by rw [h1]; exact h.n1, by rw [h1]; exact h.n2, h3, by rw [h2]; exact h.pn⟩
theorem RFacts.ll (h : RFacts s LL PP pool) : LL.length = s.last.length := by rw [← h.last, List.length_map]
theorem RFacts.pp (h : RFacts s LL PP pool) : PP.length = s.pend.length := by rw [← h.pend, List.length_map]
theorem RFacts.at (h : RFacts s LL PP pool) {k : Nat} (hk : k < s.last.length) : ∃ x, LL[k]? = some x ∧ x ∈ pool ∧ s.last.getD k [] = x.2 ∧ x.2.length = 512 := by
  have hk' : k < LL.length := by rw [h.ll]; exact hk
  refine ⟨LL[k], List.getElem?_eq_getElem hk', h.lin _ (List.getElem_mem hk'), ?_, ?_⟩
  · rw [← h.last, List.getD_eq_getElem?_getD, List.getElem?_map, List.getElem?_eq_getElem hk']; rfl
  · exact h.len _ (by rw [← h.last]; exact List.mem_map.2 ⟨_, List.getElem_mem hk', rfl⟩)
theorem RFacts.pat (h : RFacts s LL PP pool) {i : Nat} (hi : i < PP.length) : ∃ x, PP[i]? = some x ∧ x.ref ∈ pool ∧ s.pend[i]? = some x.2 ∧ x.2.2.length = 512 ∧ x.2.1 < s.last.length := by
  have hm : PP[i].2 ∈ s.pend := by rw [← h.pend]; exact List.mem_map.2 ⟨_, List.getElem_mem hi, rfl⟩
  refine ⟨PP[i], List.getElem?_eq_getElem hi, h.pin _ (List.getElem_mem hi), ?_, (h.plen _ hm).1, (h.plen _ hm).2⟩
  rw [← h.pend, List.getElem?_map, List.getElem?_eq_getElem hi]; rfl
theorem ll_at {LL : List (Nat × List UInt8)} {junk : List Value} {k : Nat} {x : Nat × List UInt8} (h : LL[k]? = some x) : ((LL.map PEnt.val ++ junk).toArray)[k]? = some (PEnt.val x) := by
  rw [List.getElem?_toArray, List.getElem?_append_left (by rw [List.length_map]; exact (List.getElem?_eq_some_iff.1 h).1), List.getElem?_map, h]; rfl
theorem ll_set {LL : List (Nat × List UInt8)} {junk : List Value} {k : Nat} {x : Nat × List UInt8} (h : k < LL.length) : (LL.map PEnt.val ++ junk).toArray.setIfInBounds k (PEnt.val x) = ((LL.set k x).map PEnt.val ++ junk).toArray := by
  rw [List.setIfInBounds_toArray, List.set_append_left _ _ (by rw [List.length_map]; exact h), List.map_set]
end
theorem length_putsV (PP : List RPut) : (putsV PP).length = PP.length * 2 := by
  induction PP with
  | nil => rfl
  | cons p r ih => simp [putsV, putCells] at ih ⊢; omega
theorem putsV_at : ∀ (ps : List RPut) (i : Nat) (p : RPut), ps[i]? = some p → ∀ j u, (putCells p)[j]? = some u → (putsV ps)[i * 2 + j]? = some u
  | [], i, p, h, _, _, _ => by simp at h
  | q :: r, 0, p, h, j, u, hu => by
    simp at h; subst h
    have := (List.getElem?_eq_some_iff.1 hu).1
    show ((putCells q ++ putsV r))[0 * 2 + j]? = some u
    rw [List.getElem?_append_left (by omega)]; simpa using hu
  | q :: r, i + 1, p, h, j, u, hu => by
    have ih := putsV_at r i p (by simpa using h) j u hu
    show ((putCells q ++ putsV r))[(i + 1) * 2 + j]? = some u
    rw [List.getElem?_append_right (by simp [putCells]; omega)]
    simpa [putCells, show (i + 1) * 2 + j - 2 = i * 2 + j from by omega] using ih
theorem putsV_snoc (PP : List RPut) (x : RPut) : putsV PP ++ putCells x = putsV (PP ++ [x]) := by simp [putsV]
/-- The cell of a pending write's sector, of its bytes. -/
theorem put_at {w : World} {ad : Addr} {PP : List RPut} {i : Nat} {x : RPut} (h : ∀ j u, (putsV PP)[j]? = some u → w.cell? (ad.add j) = some u) (hx : PP[i]? = some x) : w.cell? (ad.add (i * 2)) = some (.int .i64 ((x.2.1 : Nat) : Int)) := by
  have := h (i * 2 + 0) _ (putsV_at PP i x hx 0 _ rfl); simpa using this
theorem put_data {w : World} {ad : Addr} {PP : List RPut} {i : Nat} {x : RPut} (h : ∀ j u, (putsV PP)[j]? = some u → w.cell? (ad.add j) = some u) (hx : PP[i]? = some x) : w.cell? ((ad.add (i * 2)).add 1) = some (PEnt.val x.ref) := by
  rw [addr_add_add]; exact h (i * 2 + 1) _ (putsV_at PP i x hx 1 _ rfl)
end Go.Proofs
namespace Go.Proofs
open Go.Vel
set_option linter.unusedVariables false
section
variable {F : Nat → Prop} {w0 w : World} {L : List Ast} {s s' : Dsk} {LL : List (Nat × List UInt8)} {PP : List RPut} {pool : List (Nat × List UInt8)}
theorem rot_pool {b : Nat} {l : List UInt8} (i : Nat) (hi : L[i]? = some (stars (pool.map PEnt.row))) (hx : (b, l) ∈ pool) (h5 : l.length = 512) : RoT F w0 L (some ⟨b, 0, none⟩) l := ⟨fun w' L' S' => by
  have h1 : (L' ++ L)[L'.length + i]? = some (stars (pool.map PEnt.row)) := by rw [List.getElem?_append_right (by omega)]; simpa using hi
  exact RdB.row (St.pool_rd S' _ h1 hx) 0 512 _ (by rw [List.drop_zero, List.take_of_length_le (Nat.le_of_eq h5)])⟩
theorem RFacts.now_len (h : RFacts s LL PP pool) {k : Nat} (hk : k < s.last.length) : (s.now k).length = 512 := by
  unfold Dsk.now
  split
  · rename_i d hd
    have hm := List.mem_of_getLast? hd
    unfold pendOf at hm
    obtain ⟨y, hy, rfl⟩ := List.mem_map.1 hm
    exact (h.plen y (List.mem_filter.1 hy).1).1
  · exact h.len _ (List.mem_of_getElem? (mem_getD hk))
theorem St.vec_one {e : TypeId} {sz n : Nat} {v : Value} {vals : List Value} (S : St F w0 w L) (i : Nat) (hi : L[i]? = some (vec e sz v n vals)) : v.oneCell' = true := by
  obtain ⟨A, c, rfl⟩ := (S.mem i hi).vec_val; rfl
theorem St.vec_v {e : TypeId} {sz n : Nat} {v : Value} {vals : List Value} (S : St F w0 w L) (i : Nat) (hi : L[i]? = some (vec e sz v n vals)) : ∃ A c, v = .slice A n c := (S.mem i hi).vec_val
theorem St.pool_add {b : Nat} {d : List UInt8} (S : St F w0 w (row b (bvs d) 5 :: stars (pool.map PEnt.row) :: L)) : St F w0 w (stars (((b, d) :: pool).map PEnt.row) :: L) := (St.one_star S).star_join
theorem RFacts.put (h : RFacts s LL PP pool) {b k : Nat} {d : List UInt8} (h1 : s'.last = s.last) (h2 : s'.pend = s.pend ++ [(k, d)]) (h3 : -1 ≤ s'.left ∧ s'.left ≤ 9223372036854775807) (hk : k < s.last.length) (hd : d.length = 512) (hp : s.pend.length < 4398046511104) : RFacts s' LL (PP ++ [(b, k, d)]) ((b, d) :: pool) :=
  ⟨by rw [h1]; exact h.last, by rw [h2, List.map_append, h.pend]; rfl, fun x hx => List.mem_cons_of_mem _ (h.lin x hx), fun x hx => (List.mem_append.1 hx).elim (fun hx => List.mem_cons_of_mem _ (h.pin x hx)) (fun hx => by rw [List.mem_singleton] at hx; subst hx; exact List.mem_cons_self), by rw [h1]; exact h.len,
    fun x hx => by
      rw [h2] at hx; rw [h1]
      rcases List.mem_append.1 hx with hx | hx
      · exact h.plen x hx
      · rw [List.mem_singleton] at hx; subst hx; exact ⟨hd, hk⟩, by rw [h1]; exact h.n1, by rw [h1]; exact h.n2, h3, by rw [h2, List.length_append]; show s.pend.length + 1 ≤ _; omega⟩
theorem ll_blt {junk : List Value} {k : Nat} (h : k < LL.length) : Nat.blt k ((LL.map PEnt.val ++ junk).toArray).size = true := Nat.ble_eq_true_of_le (by simp; omega)
/-- The lasting sectors, turned. -/
theorem RFacts.turned (h : RFacts s LL PP pool) {LL1 : List (Nat × List UInt8)} {q : List (Nat × List UInt8)} {pool' : List (Nat × List UInt8)} (h1 : LL1.map (·.2) = applyP s.last q) (hq : ∀ x ∈ q, x.2.length = 512) (h2 : ∀ x ∈ LL1, x ∈ pool') (h3 : s'.last = applyP s.last q) (h4 : s'.pend = []) (h5 : -1 ≤ s'.left ∧ s'.left ≤ 9223372036854775807) : RFacts s' LL1 [] pool' :=
  ⟨by rw [h3]; exact h1, h4.symm, h2, fun x hx => (by cases hx), by rw [h3]; exact applyP_all _ _ h.len hq, fun x hx => (by rw [h4] at hx; cases hx), by rw [h3, length_applyP]; exact h.n1, by rw [h3, length_applyP]; exact h.n2, h5, by rw [h4]; exact Nat.zero_le _⟩
theorem turn_len {l : List (List UInt8)} {LL LL1 : List (Nat × List UInt8)} {q : List (Nat × List UInt8)} (h1 : LL1.map (·.2) = applyP l q) : LL1.length = l.length := by
  have := congrArg List.length h1; rw [List.length_map, length_applyP] at this; exact this
theorem turn_one {l : List (List UInt8)} {LL1 : List (Nat × List UInt8)} {q : List (Nat × List UInt8)} {x : Nat × List UInt8} {b : Nat} (h1 : LL1.map (·.2) = applyP l q) : (LL1.set x.1 (b, x.2)).map (·.2) = applyP l (q ++ [x]) := by
  rw [applyP_snoc, ← h1, List.map_set]
theorem mem_set' {l : List (Nat × List UInt8)} {pool : List (Nat × List UInt8)} {k : Nat} {x : Nat × List UInt8} (h : ∀ y ∈ l, y ∈ pool) (hx : x ∈ pool) : ∀ y ∈ l.set k x, y ∈ pool := fun y hy => (List.mem_or_eq_of_mem_set hy).elim (h y) (fun e => e ▸ hx)
end
end Go.Proofs
namespace Go.Vel
theorem rdv_at {w : World} {A : Option Addr} {ad : Addr} {vs : List Value} (h : RdV w A vs) (e : A = some ad) (h0 : 0 < vs.length) : ∀ j u, vs[j]? = some u → w.cell? (ad.add j) = some u := by
  obtain ⟨ad', e', h'⟩ := h h0
  rw [e] at e'; cases e'; exact h'
end Go.Vel
