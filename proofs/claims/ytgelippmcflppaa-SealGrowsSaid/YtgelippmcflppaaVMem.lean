/- Laws of the walk for blocks and slices of bytes, over any program: a block known whole, a slice that reads as a list of bytes; allocation, stores, loads, copy, append of these. -/
import Derived.Test.YtgelippmcflppaaWMore
import Derived.WalkKit
import Derived.WalkSpells
import Derived.WalkLawsBesides
import Derived.Laws.CopyOwn
open Go Go.RowKit Go.Proofs.YtgelippmcflppaaW.PrintWords Go.Proofs.YtgelippmcflppaaW.PrintMore
namespace Go.Vel
/-- Bytes as whole numbers. -/
def ofB (b : List UInt8) : List Int := b.map (fun x => (x.toNat : Int))
theorem len_ofB (b : List UInt8) : (ofB b).length = b.length := by simp [ofB]
theorem rd_ofB (b : List UInt8) (i : Nat) : rd (ofB b) (i : Int) = ((b.getD i 0).toNat : Int) := by
  unfold rd ofB
  rw [Int.toNat_natCast, List.getD_eq_getElem?_getD, List.getD_eq_getElem?_getD, List.getElem?_map]
  cases b[i]? <;> rfl
def bv (b : UInt8) : Value := .int .u8 (b.toNat : Int)
/-- A row of cells, each a byte. -/
def bvs (l : List UInt8) : Array Value := (l.map bv).toArray
theorem size_bvs (l : List UInt8) : (bvs l).size = l.length := by simp [bvs]
theorem get_bvs (l : List UInt8) (i : Nat) : (bvs l)[i]? = l[i]?.map bv := by simp [bvs]
theorem bvs_one (l : List UInt8) : ∀ v ∈ (bvs l).toList, v.oneCell' = true := by
  intro v hv
  simp [bvs] at hv
  obtain ⟨b, _, rfl⟩ := hv
  rfl
/-- Block g is whole: these cells, nothing frozen. -/
structure Blk (w : World) (g : Nat) (cs : Array Value) (t : TypeId) : Prop where
  out : w.heap[g]? = some (.cells cs t (0, 0))
theorem Blk.lt {w : World} {g : Nat} {cs : Array Value} {t : TypeId} (h : Blk w g cs t) : g < w.heap.size := (Array.getElem?_eq_some_iff.1 h.out).1
theorem Blk.below {w w1 : World} {g : Nat} {cs : Array Value} {t : TypeId} (h : Blk w g cs t) (hb : Below w.heap.size w w1) : Blk w1 g cs t := ⟨(hb.block g h.lt).trans h.out⟩
theorem Blk.cell {w : World} {g : Nat} {cs : Array Value} {t : TypeId} (h : Blk w g cs t) (i : Nat) : w.cell? ⟨g, i, none⟩ = cs[i]? := cell_of_row w g i cs t (0, 0) h.out
theorem Blk.byte {w : World} {g : Nat} {l : List UInt8} {t : TypeId} (h : Blk w g (bvs l) t) (i : Nat) (hi : i < l.length) : w.cell? ⟨g, i, none⟩ = some (.int .u8 ((l.getD i 0).toNat : Int)) := by
  rw [h.cell, get_bvs, List.getD_eq_getElem?_getD, List.getElem?_eq_getElem hi]; rfl
theorem Blk.frozen {w : World} {g : Nat} {cs : Array Value} {t : TypeId} (h : Blk w g cs t) (i : Nat) : w.frozen? ⟨g, i, none⟩ = false := frozen_of_row w g i cs t h.out
/-- A stretch of a block of bytes, read as a slice. -/
theorem Blk.C {w : World} {g : Nat} {l : List UInt8} {t : TypeId} (h : Blk w g (bvs l) t) (o n : Nat) (ho : o + n ≤ l.length) (hm : n ≤ 9223372036854775807) :
    (Kd.int .u8).C w (some ⟨g, o, none⟩) (ofB ((l.drop o).take n)).length (ofB ((l.drop o).take n)) := by
  have hl : ((l.drop o).take n).length = n := by simp; omega
  refine ⟨rfl, by rw [len_ofB, hl]; exact hm, fun _ => ⟨_, rfl, fun j p hp => ⟨[.int .u8 p], rfl, rfl, fun i u hu => ?_⟩⟩⟩
  have hj : j < n := by
    have := (List.getElem?_eq_some_iff.1 hp).1
    rw [len_ofB, hl] at this; exact this
  cases i with
  | succ i => simp at hu
  | zero =>
    simp at hu
    subst hu
    show w.cell? ((⟨g, o, none⟩ : Addr).add (j * 1 + 0)) = _
    rw [Addr.add_lit, Nat.mul_one, Nat.add_zero, h.byte (o + j) (by omega)]
    unfold ofB at hp
    rw [List.getElem?_map, List.getElem?_take_of_lt hj, List.getElem?_drop, List.getElem?_eq_getElem (by omega)] at hp
    simp only [Option.map_some, Option.some.injEq] at hp
    rw [List.getD_eq_getElem?_getD, List.getElem?_eq_getElem (by omega), Option.getD_some, hp]
/-- At most block g has turned. -/
structure Only (g : Nat) (w w' : World) : Prop where
  os : w'.os = w.os
  tape : w'.tape = w.tape
  output : w'.output = w.output
  size : w'.heap.size = w.heap.size
  block : ∀ k, k ≠ g → w'.heap[k]? = w.heap[k]?
theorem Only.refl (g : Nat) (w : World) : Only g w w := ⟨rfl, rfl, rfl, rfl, fun _ _ => rfl⟩
theorem Only.trans {g : Nat} {w w1 w2 : World} (h : Only g w w1) (k : Only g w1 w2) : Only g w w2 :=
  ⟨k.os.trans h.os, k.tape.trans h.tape, k.output.trans h.output, k.size.trans h.size, fun i hi => (k.block i hi).trans (h.block i hi)⟩
theorem Only.below {g B : Nat} {w w1 : World} (h : Only g w w1) (hB : B ≤ g) : Below B w w1 := ⟨h.os, h.tape, h.output, Nat.le_of_eq h.size.symm, fun k hk => h.block k (by omega)⟩
theorem Only.blk {g k : Nat} {w w1 : World} {cs : Array Value} {t : TypeId} (h : Only g w w1) (hb : Blk w k cs t) (hk : k ≠ g) : Blk w1 k cs t := ⟨(h.block k hk).trans hb.out⟩
theorem only_setCell (w : World) (g i : Nat) (v : Value) : Only g w (w.setCell ⟨g, i, none⟩ v) := ⟨rfl, rfl, rfl, by simp, fun k hk => heap_setCell_other w _ k v hk⟩
theorem only_setRow (w : World) (g : Nat) (cs : Array Value) : Only g w (w.setRow g cs) := ⟨rfl, rfl, rfl, by simp, fun k hk => setRow_other w g k cs hk⟩
/-- One byte of a slice that is read. -/
theorem C_byte {w w1 : World} {A : Option Addr} {b : List UInt8} (h : (Kd.int .u8).C w A (ofB b).length (ofB b)) (hb : Below w.heap.size w w1) (k : Nat) (hk : k < (ofB b).length) : ∃ ad, A = some ad ∧ w1.cell? (ad.add k) = some (.int .u8 ((b.getD k 0).toNat : Int)) := by
  obtain ⟨ad, e, hx⟩ := Kd.at_int h (k : Int) (by omega) (by omega)
  rw [rd_ofB] at hx
  exact ⟨ad, e, (hb.cell (World.block_lt_of_cell? w _ hx)).trans hx⟩
theorem cell_below {w w1 : World} (h : Below w.heap.size w w1) {a : Addr} {v : Value} (hc : w.cell? a = some v) : w1.cell? a = some v := (h.cell (World.block_lt_of_cell? w a hc)).trans hc

/-- A stretch of a new block, handed out to be read. -/
theorem V_of_blk {w : World} {g base : Nat} {L : List UInt8} {t e : TypeId} (h : Blk w g (bvs L) t) (hb : base ≤ g) (o n c : Nat) (ho : o + n ≤ L.length) (hm : n ≤ 9223372036854775807) (hc : n ≤ c) {X : List UInt8} (hX : X = (L.drop o).take n) :
    Kd.V (Kd.int .u8) e w base (fun k_ => (base ≤ k_)) (.slice (some ⟨g, o, none⟩) n c) (ofB X) := by
  subst hX
  have hl : (ofB ((L.drop o).take n)).length = n := by rw [len_ofB]; simp; omega
  refine ⟨some ⟨g, o, none⟩, c, by rw [hl], by rw [hl]; exact hc, fun W' hW => ?_⟩
  exact Blk.C (w := W') ⟨(hW g hb h.lt).trans h.out⟩ o n ho hm
theorem V_nil {w : World} {base e : Nat} {ok : Nat → Prop} : Kd.V (Kd.int .u8) e w base ok (.slice none 0 0) (ofB []) := ⟨none, 0, rfl, Nat.le_refl _, fun W' _ => Kd.C_nil _ W'⟩
/-- A list of bytes and a number are returned. -/
def Ret2 (P : List Int) (n : Int) (w : World) (e : Ending) (w' : World) : Prop :=
  ∃ v : Value, e = .returned (.tuple #[v, .int .i64 n]) ∧ Kd.V (Kd.int .u8) 5 w' w.heap.size (fun k_ => (w.heap.size ≤ k_)) v P ∧ Below w.heap.size w w'
section
variable {P : Program} {ops : Array Oper} {rest : List Oper} {o o2 : Oper} {a : Act} {Q : Exit → Act → World → Prop} {w : World}
theorem wl_val {w' : World} {x : Value} (hg : o.guard = none) (hr : (execOp a.eval o).run P w = .ok (.value x) w') (h : wpList P ops Q rest (a.put o.dst x) w') : wpList P ops Q (o :: rest) a w := by
  refine wpList_plain hg fun K hK => ?_
  unfold Oper.wp
  rw [hr]
  exact hK _ _ h
theorem wl_skip {w' : World} (hg : o.guard = none) (hr : (execOp a.eval o).run P w = .ok .skip w') (h : wpList P ops Q rest (a.put o.dst undef) w') : wpList P ops Q (o :: rest) a w := by
  refine wpList_plain hg fun K hK => ?_
  unfold Oper.wp
  rw [hr]
  exact hK _ _ h
/-- What is told of an aggregate's type: its size in cells, its zero value. -/
structure Agg (P : Program) (T : TypeId) (z : Array Value) : Prop where
  d : ∃ D, P.underlying T = some D ∧ (match D with | .struct _ | .array _ _ => true | _ => false) = true
  size : (P.info? T).map (·.size) = some z.size
  zero : (P.info? T).map (·.zero) = some (some (.agg z))
theorem run_alloc {T : TypeId} {z : Array Value} (h : Agg P T z) (w : World) : (Instr.alloc T true (.tuple #[])).run P w = .ok (.pointer (some ⟨w.heap.size, 0, none⟩)) (w.alloc (.cells z T)) := by
  have hz := h.zero
  cases hq : P.info? T with
  | none => simp [hq] at hz
  | some i =>
    have hz' : i.zero = some (.agg z) := by simpa [hq] using hz
    simp [Instr.alloc, zeroValue, typeInfo, hq, hz', newVar, newRow, Value.cells]
/-- A new variable of an aggregate's type. -/
theorem wl_alloc (hg : o.guard = none) {T : TypeId} (ho : o.op = .alloc T) {z : Array Value} (hT : Agg P T z)
    (h : ∀ g w', Blk w' g z T → w.heap.size ≤ g → Below w.heap.size w w' → wpList P ops Q rest (a.put o.dst (.pointer (some ⟨g, 0, none⟩))) w') : wpList P ops Q (o :: rest) a w := by
  refine wl_val (x := .pointer (some ⟨w.heap.size, 0, none⟩)) (w' := w.alloc (.cells z T)) hg ?_ (h _ _ ⟨heap_alloc_new w _⟩ (Nat.le_refl _) ((Below.refl _ _).alloc (Nat.le_refl _) _))
  simp [execOp, ho, run_alloc hT]
/-- A store of a whole aggregate into a block that is known whole. -/
theorem wl_store_row (hg : o.guard = none) {T : TypeId} {x y : Operand} (ho : o.op = .store T x y) {z cs old : Array Value} {g : Nat} {t : TypeId} (hT : Agg P T z) (hx : a.eval x = .pointer (some ⟨g, 0, none⟩)) (hy : a.eval y = .agg cs)
    (hB : Blk w g old t) (hs : cs.size = z.size) (hs' : old.size = z.size) (h1 : ∀ v ∈ cs.toList, v.oneCell' = true)
    (h : ∀ w', Blk w' g cs t → Only g w w' → wpList P ops Q rest (a.put o.dst undef) w') : wpList P ops Q (o :: rest) a w := by
  have hst := run_storeCells_from (P := P) g t cs.toList 0 old w hB.out (by simp; omega) h1
  have hsz := hT.size
  cases hq : P.info? T with
  | none => simp [hq] at hsz
  | some i =>
    have hi : i.size = z.size := by simpa [hq] using hsz
    refine wl_skip (w' := w.setRow g cs) hg ?_ (h _ ⟨setRow_heap w g old cs t _ hB.out⟩ (only_setRow w g cs))
    simp only [execOp, ho, Instr.storeAt, hx, hy]
    simp [Instr.sureAddr, storeVar, sizeOf, typeInfo, hq, hi, Value.cells, hs, hst]
/-- A load of a whole aggregate out of a block that is known whole. -/
theorem wl_load_row (hg : o.guard = none) {T : TypeId} {x : Operand} (ho : o.op = .load T x) {z cs : Array Value} {g : Nat} {t : TypeId} (hT : Agg P T z) (hx : a.eval x = .pointer (some ⟨g, 0, none⟩)) (hB : Blk w g cs t) (hs : cs.size = z.size)
    (h : wpList P ops Q rest (a.put o.dst (.agg cs)) w) : wpList P ops Q (o :: rest) a w := by
  obtain ⟨D, hd, hD⟩ := hT.d
  refine wl_val hg ?_ h
  simp only [execOp, ho, hx, Instr.loadAt, Instr.sureAddr, Sem.run_bind, Sem.run_pure, Result.andThen_ok, run_loadVar_row w g t T cs (0, 0) D hB.out hd (by cases D <;> simp_all) (by rw [hT.size, hs])]
/-- A store of one cell into a block that is known whole. -/
theorem wl_store_cell (hg : o.guard = none) {E : TypeId} {x y : Operand} (ho : o.op = .store E x y) {cs : Array Value} {g i : Nat} {t : TypeId} {v : Value} (hE : (P.info? E).map (·.size) = some 1) (hx : a.eval x = .pointer (some ⟨g, i, none⟩)) (hy : a.eval y = v) (hv : v.oneCell' = true)
    (hB : Blk w g cs t) (hi : i < cs.size)
    (h : ∀ w', Blk w' g (cs.setIfInBounds i v) t → Only g w w' → wpList P ops Q rest (a.put o.dst undef) w') : wpList P ops Q (o :: rest) a w := by
  have hst : (store (⟨g, i, none⟩ : Addr) v).run P w = .ok () (w.setCell ⟨g, i, none⟩ v) := by
    rw [run_store P w _ v _ hv, hB.cell, hB.frozen, Array.getElem?_eq_getElem hi]; rfl
  cases hq : P.info? E with
  | none => simp [hq] at hE
  | some e =>
    have he : e.size = 1 := by simpa [hq] using hE
    have hc : v.cells = #[v] := by cases v <;> first | rfl | simp [Value.oneCell'] at hv
    refine wl_skip (w' := w.setCell ⟨g, i, none⟩ v) hg ?_ (h _ ⟨heap_setCell_same w g i cs t v hB.out⟩ (only_setCell w g i v))
    simp only [execOp, ho, Instr.storeAt, hx, hy]
    simp [Instr.sureAddr, storeVar, sizeOf, typeInfo, hq, he, hc, storeCells, Addr.add_zero', hst]

/-- The cells that a slice of bytes reads. -/
theorem cells_C {A : Option Addr} {l : List UInt8} (h : (Kd.int .u8).C w A (ofB l).length (ofB l)) (h0 : 0 < l.length) : ∃ ad, A = some ad ∧ ∀ j v, (l.map bv)[j]? = some v → w.cell? (ad.add j) = some v := by
  obtain ⟨_, _, h3⟩ := h
  obtain ⟨ad, e, hc⟩ := h3 (by rw [len_ofB]; exact h0)
  refine ⟨ad, e, fun j v hv => ?_⟩
  rw [List.getElem?_map] at hv
  cases hl : l[j]? with
  | none => simp [hl] at hv
  | some b =>
    simp [hl] at hv
    subst hv
    obtain ⟨c, hc1, hc2, hc3⟩ := hc j (b.toNat : Int) (by simp [ofB, hl])
    have h4 : c = [.int .u8 (b.toNat : Int)] := hc2
    subst h4
    have h5 := hc3 0 _ rfl
    change w.cell? (ad.add (j * 1 + 0)) = _ at h5
    rwa [Nat.mul_one, Nat.add_zero] at h5
theorem map_bv_one (l : List UInt8) : ∀ v ∈ l.map bv, v.oneCell' = true := by
  intro v hv
  obtain ⟨b, _, rfl⟩ := List.mem_map.1 hv
  rfl
/-- A slice of bytes turned to an array's pointer. -/
theorem wl_arrayPtr (hg : o.guard = none) {T : TypeId} {x : Operand} (ho : o.op = .sliceToArrayPointer T x) {n E len c : Nat} {A : Option Addr} (hT : P.underlying T = some (.array n E)) (hx : a.eval x = .slice A len c) (hn : n ≤ len)
    (h : wpList P ops Q rest (a.put o.dst (.pointer A)) w) : wpList P ops Q (o :: rest) a w := by
  refine wl_val hg ?_ h
  simp only [execOp, ho, hx]
  simp [Instr.arrayAt, run_underlying hT, show ¬ len < n by omega]
/-- A load of a whole array out of a slice of bytes. -/
theorem wl_load_bytes (hg : o.guard = none) {T : TypeId} {x : Operand} (ho : o.op = .load T x) {z : Array Value} {A : Option Addr} {l : List UInt8} (hT : Agg P T z) (hx : a.eval x = .pointer A)
    (hr : (Kd.int .u8).C w A (ofB l).length (ofB l)) (h0 : 0 < l.length) (hs : l.length = z.size) (h : wpList P ops Q rest (a.put o.dst (.agg (bvs l))) w) : wpList P ops Q (o :: rest) a w := by
  obtain ⟨ad, rfl, hc⟩ := cells_C hr h0
  obtain ⟨D, hd, hD⟩ := hT.d
  have hagg : (isAgg T).run P w = .ok true w := by
    unfold isAgg
    rw [Sem.run_bind, run_underlying hd w]
    cases D <;> simp_all
  have hsz := hT.size
  have hl := run_loadCells_list (P := P) w ad (l.map bv) hc
  cases hq : P.info? T with
  | none => simp [hq] at hsz
  | some i =>
    have hi : i.size = (l.map bv).length := by have : i.size = z.size := by simpa [hq] using hsz
                                               simp; omega
    refine wl_val hg ?_ h
    simp only [execOp, ho, hx, Instr.loadAt, Instr.sureAddr]
    simp [loadVar, hagg, sizeOf, typeInfo, hq, hi]
    simp at hl
    rw [hl]
    rfl
/-- copy into a block of bytes that is known whole. -/
theorem wl_copy (hg : o.guard = none) {d s : Operand} {dT sT : TypeId} (ho : o.op = .call { callee := .builtin .copy, args := #[d, s], argTypes := #[dT, sT] }) {E : TypeId} (hu : P.underlying dT = some (.slice E)) (hE : (P.info? E).map (·.size) = some 1)
    {g off dLen dCap c : Nat} {A : Option Addr} {L l : List UInt8} {t : TypeId} (hd : a.eval d = .slice (some ⟨g, off, none⟩) dLen dCap) {n : Nat} (hs : a.eval s = .slice A n c) (hn : n = l.length)
    (hB : Blk w g (bvs L) t) (hr : (Kd.int .u8).C w A (ofB l).length (ofB l)) (hfit : off + dLen ≤ L.length)
    (h : ∀ w' n, Blk w' g (bvs (splice L off (l.take dLen))) t → Only g w w' → wpList P ops Q rest (a.put o.dst (goInt n)) w') : wpList P ops Q (o :: rest) a w := by
  subst hn
  by_cases h0 : Nat.min l.length dLen = 0
  · refine wpList_copy_nothing hg d s dT sT ho E hu hE _ _ dLen dCap l.length c hd hs h0 ?_
    have he : l.take dLen = [] := by
      apply List.eq_nil_of_length_eq_zero; rw [List.length_take]
      have : Nat.min l.length dLen = min l.length dLen := rfl
      omega
    refine h w 0 ⟨?_⟩ (Only.refl _ _)
    rw [he]
    simpa [splice] using hB.out
  · have hmin : Nat.min l.length dLen = min l.length dLen := rfl
    obtain ⟨ad, rfl, hc⟩ := cells_C hr (by omega)
    have hlen : ((l.take dLen).map bv).length = Nat.min l.length dLen := by simp [hmin]; omega
    refine wpList_copy_own hg d s dT sT ho E hu hE g off dLen dCap ad l.length c hd hs (bvs L) t hB.out ((l.take dLen).map bv) hlen ?_ (by rw [size_bvs]; simp; omega) (map_bv_one _) ?_
    · intro j v hv
      refine hc j v ?_
      rw [List.getElem?_map] at hv ⊢
      rw [List.getElem?_take] at hv
      split at hv
      · exact hv
      · simp at hv
    · have e : ((bvs L).toList.take off ++ ((l.take dLen).map bv ++ (bvs L).toList.drop (off + ((l.take dLen).map bv).length))).toArray = bvs (splice L off (l.take dLen)) := by
        simp [bvs, splice, List.map_drop, List.map_take]
      rw [e]
      refine h _ _ ⟨setRow_heap w g _ _ t _ hB.out⟩ (only_setRow w g _)
/-- append that does not fit: a new row. -/
theorem wl_append_grow (hg : o.guard = none) {s x : Operand} {t : TypeId} (ho : o.op = .call { callee := .builtin .append, args := #[s, x], argTypes := #[t, t] }) {e : TypeId} (ht : P.underlying t = some (.slice e))
    (hinfo : (P.info? e).map (fun i => (i.zero, i.size, i.bytes)) = some (some (.int .u8 0), 1, 1)) {A A' : Option Addr} {l l' : List UInt8} {n n' c c' : Nat} (hs : a.eval s = .slice A n c) (hx : a.eval x = .slice A' n' c') (hn : n = l.length) (hn' : n' = l'.length)
    (hr : (Kd.int .u8).C w A (ofB l).length (ofB l)) (hr' : (Kd.int .u8).C w A' (ofB l').length (ofB l')) (hl0 : 0 < l.length) (hl : 0 < l'.length) (hc : c < l.length + l'.length) (hm : l.length + l'.length ≤ 140737488355328)
    (h : ∀ A1 c1 w', (Kd.int .u8).C w' A1 (ofB (l ++ l')).length (ofB (l ++ l')) → (ofB (l ++ l')).length ≤ c1 → Below w.heap.size w w' → wpList P ops Q rest (a.put o.dst (.slice A1 (ofB (l ++ l')).length c1)) w') : wpList P ops Q (o :: rest) a w := by
  obtain ⟨i, hi, hz⟩ := Option.map_eq_some_iff.1 hinfo
  simp only [Prod.mk.injEq] at hz
  obtain ⟨hz0, hz1, hz2⟩ := hz
  obtain ⟨ad, rfl, hcs⟩ := cells_C hr hl0
  obtain ⟨ad', rfl, hcs'⟩ := cells_C hr' hl
  subst hn hn'
  have hrun := run_append_grow (P := P) w t o.type e i (.int .u8 0) ht hi hz0 ad l.length c (l.map bv) (by simp [hz1]) hcs ad' l'.length c' (l'.map bv) (by simp [hz1]) hcs' hc (by omega) (growslice_fits (by omega) (by rw [hz2]; omega))
  have hge := grownCap_ge w (l.length + l'.length) c e
  refine wl_val (w' := w.drew.alloc (.cells ((l.map bv).toArray ++ (l'.map bv).toArray ++ Builtin.zeroCells (Value.int .u8 0).cells (grownCap w (l.length + l'.length) c e - (l.length + l'.length))) e)) hg ?_ (h (some ⟨w.heap.size, 0, none⟩) (grownCap w (l.length + l'.length) c e) _ ?_ (by rw [len_ofB]; simpa using hge) ?_)
  · have e2 : (ofB (l ++ l')).length = l.length + l'.length := by rw [len_ofB]; simp
    rw [e2]
    simp [execOp, ho, resolve, invoke, builtin, hs, hx, hrun]
  · have e3 : (l.map bv).toArray ++ (l'.map bv).toArray ++ Builtin.zeroCells (Value.int .u8 0).cells (grownCap w (l.length + l'.length) c e - (l.length + l'.length)) = bvs (l ++ l' ++ List.replicate (grownCap w (l.length + l'.length) c e - (l.length + l'.length)) 0) := by
      apply Array.ext'
      simp [bvs, Builtin.zeroCells, Value.cells, bv]
      apply List.ext_getElem?
      intro k
      rw [List.getElem?_map, List.getElem?_replicate]
      by_cases hk : k < grownCap w (l.length + l'.length) c e - (l.length + l'.length)
      · rw [List.getElem?_range hk]; simp [Nat.mod_one, hk]
      · rw [List.getElem?_eq_none (by simpa using hk)]; simp [hk]
    rw [e3]
    have hb := Blk.C (w := w.drew.alloc (.cells (bvs (l ++ l' ++ List.replicate (grownCap w (l.length + l'.length) c e - (l.length + l'.length)) 0)) e)) (g := w.heap.size) ⟨heap_alloc_new w.drew _⟩ 0 (l.length + l'.length) (by simp) (by omega)
    have e4 : (List.drop 0 (l ++ l' ++ List.replicate (grownCap w (l.length + l'.length) c e - (l.length + l'.length)) 0)).take (l.length + l'.length) = l ++ l' := by
      rw [List.drop_zero]; exact List.take_left' (by simp)
    rw [e4] at hb
    exact hb
  · exact (Below.refl _ _).drew.alloc (Nat.le_refl _) _
/-- A byte stored into a block of bytes. -/
theorem wl_store_byte (hg : o.guard = none) {E : TypeId} {x y : Operand} (ho : o.op = .store E x y) {L : List UInt8} {g i : Nat} {t : TypeId} {b : UInt8} {n : Int} (hE : (P.info? E).map (·.size) = some 1) (hx : a.eval x = .pointer (some ⟨g, i, none⟩)) (hy : a.eval y = .int .u8 n) (hn : n = (b.toNat : Int))
    (hB : Blk w g (bvs L) t) (hi : i < L.length) (h : ∀ w', Blk w' g (bvs (L.set i b)) t → Only g w w' → wpList P ops Q rest (a.put o.dst undef) w') : wpList P ops Q (o :: rest) a w := by
  subst hn
  refine wl_store_cell hg ho hE hx hy rfl hB (by rw [size_bvs]; exact hi) (fun w' h1 h2 => h w' ?_ h2)
  have e : (bvs L).setIfInBounds i (.int .u8 (b.toNat : Int)) = bvs (L.set i b) := by
    apply Array.ext'
    simp [bvs, List.map_set, bv]
  rwa [e] at h1
end
end Go.Vel
