/- Single operations of a walk over owned memory: what each gives, read off the list of what is owned; and the steps of code. Over any program. -/
import Derived.Test.YtgelippmcflppaaHHeap
import Derived.Test.YtgelippmcflppaaVGv
import Derived.Test.YtgelippmcflppaaVMake
import Derived.Great.BuildSlice
import Derived.Laws.CopyRow
import Derived.Deep.LoopGhost
open Go Go.RowKit Go.Proofs.YtgelippmcflppaaW.PrintWords Go.Proofs.YtgelippmcflppaaW.PrintMore
namespace Go.Vel
set_option linter.unusedVariables false
set_option linter.unusedSimpArgs false
/-- A type that lies in one cell. -/
def oneB (P : Program) (T : TypeId) : Bool := match P.underlying T with | some (.struct _) | some (.array _ _) | none => false | some _ => true
/-- A type that lies in n cells of its own. -/
def aggB (P : Program) (T : TypeId) (n : Nat) : Bool := (match P.underlying T with | some (.struct _) | some (.array _ _) => true | _ => false) && ((P.info? T).map (·.size) == some n)
theorem oneB_run {P : Program} {T : TypeId} (h : oneB P T = true) (w : World) : (isAgg T).run P w = .ok false w := by
  unfold oneB at h
  cases hd : P.underlying T with
  | none => simp [hd] at h
  | some d => cases d <;> simp_all [isAgg, run_underlying hd]
theorem aggB_run {P : Program} {T : TypeId} {n : Nat} (h : aggB P T n = true) (w : World) : (isAgg T).run P w = .ok true w ∧ ∃ i, P.info? T = some i ∧ i.size = n := by
  unfold aggB at h
  rw [Bool.and_eq_true] at h
  obtain ⟨h1, h2⟩ := h
  constructor
  · cases hd : P.underlying T with
    | none => simp [hd] at h1
    | some d => cases d <;> simp_all [isAgg, run_underlying hd]
  · cases hi : P.info? T with
    | none => simp [hi] at h2
    | some i => exact ⟨i, rfl, by simpa [hi] using h2⟩
/-- What is told of an element's type: its zero value, its cells, its bytes. -/
structure Elt (P : Program) (e : TypeId) (z : Value) (sz by_ : Nat) : Prop where
  info : (P.info? e).map (fun i => (i.zero, i.size, i.bytes)) = some (some z, sz, by_)
theorem Elt.get {P : Program} {e : TypeId} {z : Value} {sz by_ : Nat} (h : Elt P e z sz by_) : ∃ i, P.info? e = some i ∧ i.zero = some z ∧ i.size = sz ∧ i.bytes = by_ := by
  obtain ⟨i, hi, hz⟩ := Option.map_eq_some_iff.1 h.info
  simp only [Prod.mk.injEq] at hz
  exact ⟨i, hi, hz.1, hz.2.1, hz.2.2⟩
/-- A slice value reads as these bytes. -/
def RdB (w : World) (A : Option Addr) (l : List UInt8) : Prop := 0 < l.length → ∃ ad, A = some ad ∧ ∀ j v, (l.map bv)[j]? = some v → w.cell? (ad.add j) = some v
theorem RdB.of_C {w : World} {A : Option Addr} {l : List UInt8} (h : (Kd.int .u8).C w A (ofB l).length (ofB l)) : RdB w A l := fun h0 => cells_C h h0
theorem RdB.to_C {w : World} {A : Option Addr} {l : List UInt8} (h : RdB w A l) (hm : l.length ≤ 9223372036854775807) : (Kd.int .u8).C w A (ofB l).length (ofB l) := by
  refine ⟨rfl, by rw [len_ofB]; exact hm, fun h0 => ?_⟩
  rw [len_ofB] at h0
  obtain ⟨ad, e, hc⟩ := h h0
  refine ⟨ad, e, fun j p hp => ⟨[.int .u8 p], rfl, rfl, fun i u hu => ?_⟩⟩
  cases i with
  | succ i => simp at hu
  | zero =>
    simp at hu
    subst hu
    show w.cell? (ad.add (j * 1 + 0)) = _
    rw [Nat.mul_one, Nat.add_zero]
    refine hc j _ ?_
    unfold ofB at hp
    rw [List.getElem?_map] at hp ⊢
    cases hl : l[j]? with
    | none => simp [hl] at hp
    | some b => simp [hl] at hp; subst hp; rfl
theorem RdB.nil {w : World} {A : Option Addr} : RdB w A [] := fun h => absurd h (Nat.lt_irrefl 0)
theorem RdB.row {w : World} {g : Nat} {L : List UInt8} {t : TypeId} (h : Blk w g (bvs L) t) (o n : Nat) (l : List UInt8) (hl : l = (L.drop o).take n) : RdB w (some ⟨g, o, none⟩) l := by
  intro _
  refine ⟨_, rfl, fun j v hv => ?_⟩
  subst hl
  rw [Addr.add_lit, h.cell, get_bvs]
  rw [List.getElem?_map, List.getElem?_take] at hv
  split at hv
  · rw [List.getElem?_drop] at hv; exact hv
  · simp at hv
theorem RdB.fr {F : Nat → Prop} {w w' : World} {A : Option Addr} {l : List UInt8} (h : RdB w A l) (hf : Fr F w w') (hA : ∀ ad, A = some ad → 0 < l.length → ¬ F ad.block) : RdB w' A l := by
  intro h0
  obtain ⟨ad, e, hc⟩ := h h0
  refine ⟨ad, e, fun j v hv => ?_⟩
  have h1 := hc j v hv
  have hb : (ad.add j).block = ad.block := by unfold Addr.add; split <;> rfl
  have hlt := World.block_lt_of_cell? w _ h1
  rw [hb] at hlt
  have h2 := hf.block ad.block hlt (hA ad e h0)
  unfold World.cell? at h1 ⊢
  rw [hb] at h1 ⊢
  rw [h2]; exact h1
/-- Bytes that are read, and stay while only blocks of F, and new ones, turn. -/
structure Ro (F : Nat → Prop) (w : World) (A : Option Addr) (l : List UInt8) : Prop where
  out : ∀ w', Fr F w w' → RdB w' A l
theorem Ro.step {F F1 : Nat → Prop} {w0 w : World} {A : Option Addr} {l : List UInt8} (h : Ro F w0 A l) (hf : Fr F w0 w) (hF : ∀ k, F1 k → F k ∨ w0.heap.size ≤ k) : Ro F1 w A l := ⟨fun w' h' => h.out w' (hf.step h' hF)⟩
theorem Ro.of_C {F : Nat → Prop} {w : World} {A : Option Addr} {l : List UInt8} (h : RdB w A l) (hF : ∀ k, F k → False) : Ro F w A l := ⟨fun w' hf => h.fr hf (fun _ _ _ hk => hF _ hk)⟩
section
variable {P : Program} {ops : Array Oper} {rest : List Oper} {o : Oper} {a : Act} {Q : Exit → Act → World → Prop} {w w0 : World} {F : Nat → Prop} {L : List Ast} {ρ : Operand → Value} {K : Value → World → Prop} {next : Act → World → Prop}
/-! ### The steps of code -/
theorem wl_gv (hg : o.guard = none) (h : gives P (fun v w' => wpList P ops Q rest (a.put o.dst v) w') ((execOp a.eval o).run P w)) : wpList P ops Q (o :: rest) a w :=
  wpList_plain hg fun _ hK => wp_of_gives (gives_mono (fun _ _ h => hK _ _ h) h)
/-! Short names: frames are printed with them. -/
abbrev ud : Value := undef
abbrev iv (z : Int) : Value := .int .i64 z
abbrev tv : Value := .bool true
abbrev fv : Value := .bool false
abbrev pq (g : Nat) : Value := .pointer (some ⟨g, 0, none⟩)
abbrev po (g o : Nat) : Value := .pointer (some ⟨g, o, none⟩)
abbrev sl (g o n c : Nat) : Value := .slice (some ⟨g, o, none⟩) n c
abbrev fr (l : List Value) (n : Nat) : Act := ⟨(l ++ List.replicate n undef).toArray, []⟩
abbrev jl (l : List Value) (i : Nat) : Value := l.getD i undef
theorem pv (v : Value) (h : wpList P ops Q rest (a.put o.dst v) w) (hg : o.guard = none := by rfl) (hr : (execOp a.eval o).run P w = .ok (.value v) w := by kernel_rfl) : wpList P ops Q (o :: rest) a w :=
  wl_gv hg (gv_val hr h)
theorem wl_when (hw : Region.wanted o (yielded ops a.tmps) = true) (h : gives P (fun v w' => wpList P ops Q rest (a.put o.dst v) w') ((execOp a.eval o).run P w)) : wpList P ops Q (o :: rest) a w := by
  unfold wpList
  rw [if_pos hw]
  exact .inl (wp_of_gives h)
theorem wl_not (hw : Region.wanted o (yielded ops a.tmps) = false) (h : wpList P ops Q rest (a.put o.dst undef) w) : wpList P ops Q (o :: rest) a w := wpList_skip hw h
theorem wl_end (b : Act) (h : a = b) (h2 : Q .normal b w) : wpList P ops Q [] a w := by subst h; exact h2
theorem then_n (h : next a w) : Exit.then next Q .normal a w := h
theorem then_x {i : Nat} (h : Q (.exit i) a w) : Exit.then next Q (.exit i) a w := h
theorem then_r (h : Q .ret a w) : Exit.then next Q .ret a w := h
theorem inb_n {i : Nat} (h : Q .normal a w) : Exit.inBlock i Q .normal a w := h
theorem inb_r {i : Nat} (h : Q .ret a w) : Exit.inBlock i Q .ret a w := h
theorem inb_x {i : Nat} (h : Q .normal a w) : Exit.inBlock i Q (.exit i) a w := by simp only [Exit.inBlock, if_true]; exact h
theorem wp_enter {f : FuncId} {fn : Func} {c : Code} {args : Array Value} {R : Ending → World → Prop} (b : Act) (hf : P.funcs[f]? = some fn) (hb : fn.body = some c) (he : ({ tmps := args ++ Array.replicate (fn.ntmps - args.size) undef, defers := [] } : Act) = b) (h : c.wp P (bodyPost P fn R) b w) : Calls P f args w R :=
  calls_of_wp hf hb (he ▸ h)
theorem wp_loop_g {G : Type} {c : Code} (I : G → Act → World → Prop) (μ : G → Nat) (g0 : G) (h0 : I g0 a w) (round : ∀ g a w, I g a w → c.wp P (Exit.then (fun a' w' => ∃ g', I g' a' w' ∧ μ g' < μ g) Q) a w) : (Code.loop c).wp P Q a w := by
  refine wp_loop_ghost (fun n a w => ∃ g, μ g = n ∧ I g a w) (μ g0) ⟨g0, rfl, h0⟩ ?_
  rintro n a w ⟨g, rfl, hI⟩
  refine Code.wp_mono ?_ (round g a w hI)
  intro e a' w' hq
  cases e <;> first
    | exact hq
    | (obtain ⟨g', h1, h2⟩ := hq; exact ⟨μ g', h2, g', rfl, h1⟩)
/-! ### Values -/
theorem gv_int {k : IntKind} {z z' : Int} (hr : (execOp ρ o).run P w = .ok (.value (.int k z)) w) (hz : z = z') (h : K (.int k z') w) : gives P K ((execOp ρ o).run P w) := by subst hz; exact gv_val hr h
theorem gv_boolv {b : Bool} (hr : (execOp ρ o).run P w = .ok (.value (.bool b)) w) (ht : b = true → K (.bool true) w) (hf : b = false → K (.bool false) w) : gives P K ((execOp ρ o).run P w) := by
  cases b with
  | true => exact gv_val hr (ht rfl)
  | false => exact gv_val hr (hf rfl)
theorem gv_dec {p : Prop} [Decidable p] (hr : (execOp ρ o).run P w = .ok (.value (.bool (decide p))) w) (ht : p → K (.bool true) w) (hf : ¬ p → K (.bool false) w) : gives P K ((execOp ρ o).run P w) :=
  gv_boolv hr (fun h => ht (of_decide_eq_true h)) (fun h => hf (of_decide_eq_false h))
theorem gv_eq {x y : Int} (hr : (execOp ρ o).run P w = .ok (.value (.bool (x == y))) w) (ht : x = y → K (.bool true) w) (hf : ¬ x = y → K (.bool false) w) : gives P K ((execOp ρ o).run P w) :=
  gv_boolv hr (fun h => ht (by simpa using h)) (fun h => hf (by simpa using h))
theorem gv_ne {x y : Int} (hr : (execOp ρ o).run P w = .ok (.value (.bool (x != y))) w) (ht : ¬ x = y → K (.bool true) w) (hf : x = y → K (.bool false) w) : gives P K ((execOp ρ o).run P w) :=
  gv_boolv hr (fun h => ht (by simpa using h)) (fun h => hf (by simpa using h))
/-! ### Cells -/
theorem gv_ldR {T : TypeId} {x : Operand} {ad : Addr} {v : Value} (ho : o.op = .load T x) (hT : oneB P T = true) (hx : ρ x = .pointer (some ad)) (hc : w.cell? ad = some v) (h : K v w) : gives P K ((execOp ρ o).run P w) := by
  refine gv_val (w' := w) ?_ h
  simp only [execOp, ho, hx, Instr.loadAt, Instr.sureAddr]
  simp [loadVar, oneB_run hT, hc]
theorem gv_ldRA {T : TypeId} {x : Operand} {ad : Addr} {vs : List Value} {n : Nat} (ho : o.op = .load T x) (hT : aggB P T n = true) (hx : ρ x = .pointer (some ad)) (hn : vs.length = n) (hc : ∀ j v, vs[j]? = some v → w.cell? (ad.add j) = some v) (h : K (.agg vs.toArray) w) : gives P K ((execOp ρ o).run P w) := by
  refine gv_val (w' := w) ?_ h
  obtain ⟨h1, i, hi, hs⟩ := aggB_run hT w
  have hl := run_loadCells_list (P := P) w ad vs hc
  rw [hn] at hl
  simp only [execOp, ho, hx, Instr.loadAt, Instr.sureAddr]
  simp [loadVar, h1, sizeOf, typeInfo, hi, hs, hl]
theorem gv_ldA {T : TypeId} {x : Operand} {g k n : Nat} {cs : Array Value} {t : TypeId} {vs : List Value} (S : St F w0 w L) (i : Nat) (hi : L[i]? = some (row g cs t)) (ho : o.op = .load T x) (hT : aggB P T n = true) (hx : ρ x = .pointer (some ⟨g, k, none⟩)) (hn : vs.length = n) (hk : (cs.toList.drop k).take n = vs) (h : K (.agg vs.toArray) w) : gives P K ((execOp ρ o).run P w) := by
  refine gv_ldRA ho hT hx hn (fun j v hv => ?_) h
  rw [Addr.add_lit, (S.blk i hi).cell]
  rw [← hk, List.getElem?_take] at hv
  split at hv
  · rw [List.getElem?_drop] at hv; simpa using hv
  · cases hv
theorem gv_st {T : TypeId} {x y : Operand} {g k : Nat} {cs : Array Value} {t : TypeId} {v : Value} (S : St F w0 w L) (i : Nat) (hi : L[i]? = some (row g cs t)) (ho : o.op = .store T x y) (hT : (P.info? T).map (·.size) = some 1) (hx : ρ x = .pointer (some ⟨g, k, none⟩)) (hy : ρ y = v) (hv : v.oneCell' = true) (hk : Nat.blt k cs.size = true) {L' : List Ast} (hL : L.set i (row g (cs.setIfInBounds k v) t) = L') (h : ∀ w', St F w0 w' L' → K undef w') : gives P K ((execOp ρ o).run P w) := by
  have hB := S.blk i hi
  have hk' : k < cs.size := Nat.le_of_ble_eq_true hk
  have hst : (store (⟨g, k, none⟩ : Addr) v).run P w = .ok () (w.setCell ⟨g, k, none⟩ v) := by
    rw [run_store P w _ v _ hv, hB.cell, hB.frozen, Array.getElem?_eq_getElem hk']; rfl
  have hc : v.cells = #[v] := by cases v <;> first | rfl | simp [Value.oneCell'] at hv
  have hr : (execOp ρ o).run P w = .ok .skip (w.setCell ⟨g, k, none⟩ v) := by
    cases hq : P.info? T with
    | none => simp [hq] at hT
    | some e =>
      have he : e.size = 1 := by simpa [hq] using hT
      simp only [execOp, ho, Instr.storeAt, hx, hy]
      simp [Instr.sureAddr, storeVar, sizeOf, typeInfo, hq, he, hc, storeCells, Addr.add_zero', hst]
  rw [hr]
  subst hL
  exact h _ (S.upd i hi (only_setCell w g k v) (heap_setCell_same w g k cs t v hB.out))
/-- A store of an aggregate somewhere in an owned row. -/
theorem gv_stA {T : TypeId} {x y : Operand} {g k n : Nat} {cs : Array Value} {t : TypeId} {vs : List Value} (S : St F w0 w L) (i : Nat) (hi : L[i]? = some (row g cs t)) (ho : o.op = .store T x y) (hT : (P.info? T).map (·.size) = some n) (hx : ρ x = .pointer (some ⟨g, k, none⟩)) (hy : ρ y = .agg vs.toArray) (hn : vs.length = n) (h1 : ∀ v ∈ vs, v.oneCell' = true) (hk : k + n ≤ cs.size) {L' : List Ast} (hL : L.set i (row g (splice cs.toList k vs).toArray t) = L') (h : ∀ w', St F w0 w' L' → K undef w') : gives P K ((execOp ρ o).run P w) := by
  have hB := S.blk i hi
  have hst := run_storeCells_cells (P := P) g k vs 0 w (fun j hj => by rw [Nat.add_zero, hB.cell, Array.getElem?_eq_getElem (by omega)]; rfl) (fun j _ => hB.frozen _) h1
  rw [Nat.add_zero] at hst
  obtain ⟨cur', h3, h4, h5⟩ := setCells_row vs k w cs hB.out (by omega)
  have hcur : cur' = (splice cs.toList k vs).toArray := by
    apply Array.ext'
    rw [h5]; simp [splice]
  obtain ⟨q1, q2, q3, q4⟩ := setCells_same g vs k w
  have hr : (execOp ρ o).run P w = .ok .skip (w.setCells g k vs) := by
    cases hq : P.info? T with
    | none => simp [hq] at hT
    | some e =>
      have he : e.size = n := by simpa [hq] using hT
      simp only [execOp, ho, Instr.storeAt, hx, hy]
      simp [Instr.sureAddr, storeVar, sizeOf, typeInfo, hq, he, Value.cells, hn, hst]
  rw [hr]
  subst hL
  exact h _ (S.upd i hi ⟨q1, q2, q3, q4, fun k' hk' => setCells_far _ _ k' hk'⟩ (by rw [h3, hcur]))
/-! ### New memory -/
theorem gv_new {T : TypeId} {z : Value} (S : St F w0 w L) (ho : o.op = .alloc T) (hz : (P.info? T).map (·.zero) = some (some z)) (h : ∀ g w', w.heap.size ≤ g → St F w0 w' (row g z.cells T :: L) → K (.pointer (some ⟨g, 0, none⟩)) w') : gives P K ((execOp ρ o).run P w) := by
  have hr : (execOp ρ o).run P w = .ok (.value (.pointer (some ⟨w.heap.size, 0, none⟩))) (w.alloc (.cells z.cells T)) := by
    cases hq : P.info? T with
    | none => simp [hq] at hz
    | some i =>
      have hz' : i.zero = some z := by simpa [hq] using hz
      simp [execOp, ho, Instr.alloc, zeroValue, typeInfo, hq, hz', newVar, newRow]
  rw [hr]
  exact h _ _ (Nat.le_refl _) (S.new ((Below.refl _ _).alloc (Nat.le_refl _) _) (Nat.le_refl _) (heap_alloc_new w _))
theorem gv_box {T : TypeId} {x : Operand} {v : Value} (S : St F w0 w L) (ho : o.op = .box T x) (hx : ρ x = v) (h : ∀ g w', w.heap.size ≤ g → St F w0 w' (row g v.cells T :: L) → K (.pointer (some ⟨g, 0, none⟩)) w') : gives P K ((execOp ρ o).run P w) := by
  have hr : (execOp ρ o).run P w = .ok (.value (.pointer (some ⟨w.heap.size, 0, none⟩))) (w.alloc (.cells v.cells T)) := by
    simp [execOp, ho, hx, Instr.box, newVar, newRow]
  rw [hr]
  exact h _ _ (Nat.le_refl _) (S.new ((Below.refl _ _).alloc (Nat.le_refl _) _) (Nat.le_refl _) (heap_alloc_new w _))
theorem gv_make {T e : TypeId} {x y : Operand} {z : Value} {sz by_ : Nat} {u v : Int} {n c : Nat} (S : St F w0 w L) (ho : o.op = .makeSlice T x y) (ht : P.underlying T = some (.slice e)) (hE : Elt P e z sz by_) (hx : ρ x = .int .i64 u) (hy : ρ y = .int .i64 v) (hu : u = (n : Int)) (hv : v = (c : Int)) (hnc : n ≤ c) (hc : by_ * c ≤ 281474976710656) (h63 : c ≤ 9223372036854775807) {cs : Array Value} (hcs : madeCells z.cells (c * sz) = cs)
    (h : ∀ g w', w.heap.size ≤ g → St F w0 w' (row g cs e :: L) → K (.slice (some ⟨g, 0, none⟩) n c) w') : gives P K ((execOp ρ o).run P w) := by
  subst hu hv hcs
  obtain ⟨i, hi, hz0, hz1, hz2⟩ := hE.get
  have hrun := run_make (P := P) w T e i z ht hi hz0 .i64 .i64 (n : Int) (c : Int) (by omega) (by omega) (by rw [hz2, ← Int.natCast_mul]; omega) (by omega)
  rw [hz1, Int.toNat_natCast, Int.toNat_natCast] at hrun
  have hr : (execOp ρ o).run P w = .ok (.value (.slice (some ⟨w.heap.size, 0, none⟩) n c)) (w.alloc (.cells (madeCells z.cells (c * sz)) e)) := by
    simp [execOp, ho, hx, hy, hrun]
  rw [hr]
  exact h _ _ (Nat.le_refl _) (S.new ((Below.refl _ _).alloc (Nat.le_refl _) _) (Nat.le_refl _) (heap_alloc_new w _))
theorem gv_slit {T e : TypeId} {len : Nat} {parts : Array (Nat × Operand)} {vs : Array (Nat × Value)} {cells : Array Value} {z : Value} {sz by_ : Nat} (S : St F w0 w L) (ho : o.op = .buildSlice T len parts) (ht : P.underlying T = some (.slice e)) (hE : Elt P e z sz by_) (hp : (parts.map fun p => (p.1, ρ p.2)) = vs) (hsmall : Nat.ble (len * sz) 16000000 = true) (hpos : (len * sz == 0) = false)
    (hc : Instr.fill (fun i => some (i * sz, sz)) ((Array.range (len * sz)).map (z.cells[· % z.cells.size]!)) vs.toList = some cells) (h : ∀ g w', w.heap.size ≤ g → St F w0 w' (row g cells e :: L) → K (.slice (some ⟨g, 0, none⟩) len len) w') : gives P K ((execOp ρ o).run P w) := by
  obtain ⟨i, hi, hz0, hz1, hz2⟩ := hE.get
  have hpos' : ¬ len * sz = 0 := by simpa using hpos
  have hsm := Nat.le_of_ble_eq_true hsmall
  subst hz1 hp
  have hrun := run_buildSlice (P := P) w T e len _ cells i z ht hi hz0 (by omega) hpos' hc
  have hr : (execOp ρ o).run P w = .ok (.value (.slice (some ⟨w.heap.size, 0, none⟩) len len)) (w.alloc (.cells cells e)) := by
    simp only [execOp, ho]
    simp only [Sem.run_bind, hrun, Result.andThen_ok, Sem.run_pure]
  rw [hr]
  exact h _ _ (Nat.le_refl _) (S.new ((Below.refl _ _).alloc (Nat.le_refl _) _) (Nat.le_refl _) (heap_alloc_new w _))
/-! ### Slices -/
theorem gv_ix {T e : TypeId} {x y : Operand} {g off n c sz : Nat} {i : Int} {k : IntKind} (ho : o.op = .indexAddr T x y) (hT : P.underlying T = some (.slice e)) (hs : (P.info? e).map (·.size) = some sz) (hx : ρ x = .slice (some ⟨g, off, none⟩) n c) (hy : ρ y = .int k i) {j : Nat} (hi : i = (j : Int)) (hj : j < n) (h : K (.pointer (some ⟨g, off + j * sz, none⟩)) w) : gives P K ((execOp ρ o).run P w) := by
  subst hi
  refine gv_val (w' := w) ?_ h
  have hT' : P.underlying T = some (.slice (P.elem T)) := by simp [Program.elem, hT]
  have he : P.elem T = e := by simp [Program.elem, hT]
  cases hq : P.info? e with
  | none => simp [hq] at hs
  | some i =>
    have hsz : i.size = sz := by simpa [hq] using hs
    simp only [execOp, ho, hx, hy]
    simp [run_indexAt_slice _ _ _ _ _ _ _ hT', sizeOf, typeInfo, he, hq, hsz, hj, Addr.add_lit]
theorem gv_ixA {T e : TypeId} {x y : Operand} {ad : Addr} {n c sz : Nat} {i : Int} {k : IntKind} (ho : o.op = .indexAddr T x y) (hT : P.underlying T = some (.slice e)) (hs : (P.info? e).map (·.size) = some sz) (hx : ρ x = .slice (some ad) n c) (hy : ρ y = .int k i) {j : Nat} (hi : i = (j : Int)) (hj : j < n) (h : K (.pointer (some (ad.add (j * sz)))) w) : gives P K ((execOp ρ o).run P w) := by
  subst hi
  refine gv_val (w' := w) ?_ h
  have hT' : P.underlying T = some (.slice (P.elem T)) := by simp [Program.elem, hT]
  have he : P.elem T = e := by simp [Program.elem, hT]
  cases hq : P.info? e with
  | none => simp [hq] at hs
  | some i =>
    have hsz : i.size = sz := by simpa [hq] using hs
    simp only [execOp, ho, hx, hy]
    simp [run_indexAt_slice _ _ _ _ _ _ _ hT', sizeOf, typeInfo, he, hq, hsz, hj]
end
end Go.Vel
