/- Laws of the walk: a slice of bytes is made, and appended to where there is room, over any program. -/
import Derived.Test.YtefmefimhiedfaaVMem
import Derived.Laws.MakeOwn
import Derived.ArgAppend
open Go Go.RowKit Go.Proofs.YtefmefimhiedfaaW.PrintWords Go.Proofs.YtefmefimhiedfaaW.PrintMore
namespace Go.Vel
section
variable {P : Program} {ops : Array Oper} {rest : List Oper} {o : Oper} {a : Act} {Q : Exit → Act → World → Prop} {w : World}
theorem madeCells_zero (n : Nat) : madeCells #[Value.int .u8 0] n = bvs (List.replicate n 0) := by
  apply Array.ext'
  simp [madeCells, bvs, bv]
  apply List.ext_getElem?
  intro k
  rw [List.getElem?_map, List.getElem?_replicate]
  by_cases hk : k < n
  · rw [List.getElem?_range hk]; simp [hk, Nat.mod_one]
  · rw [List.getElem?_eq_none (by simpa using hk)]; simp [hk]
theorem wl_make (hg : o.guard = none) {T e : TypeId} {x y : Operand} (ho : o.op = .makeSlice T x y) (ht : P.underlying T = some (.slice e)) (hinfo : (P.info? e).map (fun i => (i.zero, i.size, i.bytes)) = some (some (.int .u8 0), 1, 1)) {n c : Nat} {u v : Int} (hx : a.eval x = .int .i64 u) (hy : a.eval y = .int .i64 v) (hu : u = (n : Int)) (hv : v = (c : Int)) (hnc : n ≤ c) (hc : c ≤ 281474976710656)
    (h : ∀ g w', Blk w' g (bvs (List.replicate c 0)) e → w.heap.size ≤ g → Below w.heap.size w w' → wpList P ops Q rest (a.put o.dst (.slice (some ⟨g, 0, none⟩) n c)) w') : wpList P ops Q (o :: rest) a w := by
  subst hu hv
  obtain ⟨i, hi, hz⟩ := Option.map_eq_some_iff.1 hinfo
  simp only [Prod.mk.injEq] at hz
  obtain ⟨hz0, hz1, hz2⟩ := hz
  have hrun := run_make (P := P) w T e i (.int .u8 0) ht hi hz0 .i64 .i64 (n : Int) (c : Int) (by omega) (by omega) (by rw [hz2]; omega) (by omega)
  have hcells : (Value.int .u8 0).cells = #[Value.int .u8 0] := rfl
  rw [hcells, hz1, Int.toNat_natCast, Int.toNat_natCast, Nat.mul_one, madeCells_zero] at hrun
  refine wl_val (w' := w.alloc (.cells (bvs (List.replicate c 0)) e)) hg ?_ (h w.heap.size _ ⟨heap_alloc_new w _⟩ (Nat.le_refl _) ((Below.refl _ _).alloc (Nat.le_refl _) _))
  simp [execOp, ho, hx, hy, hrun]
/-- append where there is room, to a slice that begins its block. -/
theorem wl_append_room (hg : o.guard = none) {s x : Operand} {t : TypeId} (ho : o.op = .call { callee := .builtin .append, args := #[s, x], argTypes := #[t, t] }) {e : TypeId} (ht : P.underlying t = some (.slice e)) (hinfo : (P.info? e).map (·.size) = some 1)
    {g n c m c' : Nat} {A : Option Addr} {L l : List UInt8} (hs : a.eval s = .slice (some ⟨g, 0, none⟩) n c) (hx : a.eval x = .slice A m c') (hm : m = l.length) (hB : Blk w g (bvs L) e) (hr : (Kd.int .u8).C w A (ofB l).length (ofB l)) (hroom : n + l.length ≤ c) (hL : L.length = c)
    (h : ∀ w', Blk w' g (bvs (splice L n l)) e → Only g w w' → wpList P ops Q rest (a.put o.dst (.slice (some ⟨g, 0, none⟩) (n + l.length) c)) w') : wpList P ops Q (o :: rest) a w := by
  subst hm
  obtain ⟨i, hi, hz⟩ := Option.map_eq_some_iff.1 hinfo
  by_cases h0 : l.length = 0
  · have hl0 : l = [] := List.eq_nil_of_length_eq_zero h0
    subst hl0
    have hsp : splice L n [] = L := by simp [splice]
    refine wl_val (x := .slice (some ⟨g, 0, none⟩) n c) (w' := w) hg ?_ (by have := h w (by rw [hsp]; exact hB) (Only.refl _ _); simpa using this)
    have hroom' : n ≤ c := by simpa using hroom
    cases A with
    | none => simp [execOp, ho, resolve, invoke, builtin, hs, hx, Builtin.append_, run_underlying ht, sizeOf, typeInfo, hi, Builtin.lenOf, hroom', Builtin.firstCells, storeCells]
    | some ad =>
      have hrun := run_append_room_cells (P := P) w t o.type e i ht hi g 0 n c ad 0 c' [] (by simp) (by simp) (by simp) (by omega) (by simp) (by simp)
      simp [execOp, ho, resolve, invoke, builtin, hs, hx, hrun, World.setCells]
  · obtain ⟨ad, rfl, hcs⟩ := cells_C hr (by omega)
    have hrun := run_append_room_cells (P := P) w t o.type e i ht hi g 0 n c ad l.length c' (l.map bv) (by simp [hz]) hcs (map_bv_one l) hroom
      (fun j hj => by
        rw [hz, Nat.mul_one, Nat.zero_add, hB.cell, Array.getElem?_eq_getElem (by rw [size_bvs]; simp at hj; omega)]; rfl)
      (fun j hj => hB.frozen _)
    rw [hz, Nat.mul_one, Nat.zero_add] at hrun
    obtain ⟨cur', h3, h4, h5⟩ := setCells_row (l.map bv) n w (bvs L) hB.out (by rw [size_bvs]; simp; omega)
    have hcur : cur' = bvs (splice L n l) := by
      apply Array.ext'
      rw [h5]
      simp [bvs, splice, List.map_take, List.map_drop]
    rw [hcur] at h3
    obtain ⟨q1, q2, q3, q4⟩ := setCells_same g (l.map bv) n w
    refine wl_val (w' := w.setCells g n (l.map bv)) hg ?_ (h _ ⟨h3⟩ ⟨q1, q2, q3, q4, fun k hk => setCells_far _ _ k hk⟩)
    simp [execOp, ho, resolve, invoke, builtin, hs, hx, hrun]
end
end Go.Vel
