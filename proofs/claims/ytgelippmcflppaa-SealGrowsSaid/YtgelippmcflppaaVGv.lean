/- For regions that draw their order (XVReg): what single operations give, and how a slot of the frame at hand reads. -/
import Derived.Test.YtgelippmcflppaaVReg
import Derived.Test.YtgelippmcflppaaVMem
import Derived.ChangeKeysEq
open Go Go.RowKit Go.Proofs.YtgelippmcflppaaW.PrintWords Go.Proofs.YtgelippmcflppaaW.PrintMore
namespace Go.Vel
section
variable {P : Program} {l : List Oper} {a : Act} {o : Oper} {ρ : Operand → Value} {w : World} {K : Value → World → Prop}
theorem fill_hit {sel : Nat → Bool} {vals : Nat → Value} {t k : Nat} (h : (List.range l.length).find? (fun i => sel i && ((l[i]?).bind (·.dst) == some t)) = some k) (ht : t < a.tmps.size) : (fill l sel vals a).eval (.tmp t) = vals k := by
  show (fill l sel vals a).tmps.getD t undef = _
  rw [Array.getD_eq_getD_getElem?, fill_get, h, Array.getElem?_eq_getElem ht]; rfl
theorem fill_miss {sel : Nat → Bool} {vals : Nat → Value} {t : Nat} (h : (List.range l.length).find? (fun i => sel i && ((l[i]?).bind (·.dst) == some t)) = none) : (fill l sel vals a).eval (.tmp t) = a.eval (.tmp t) := by
  show (fill l sel vals a).tmps.getD t undef = a.tmps.getD t undef
  rw [Array.getD_eq_getD_getElem?, Array.getD_eq_getD_getElem?, fill_get, h]
  cases a.tmps[t]? <;> rfl
theorem gv_move {x : Operand} {v : Value} (ho : o.op = .move x) (hx : ρ x = v) (h : K v w) : gives P K ((execOp ρ o).run P w) := by
  simp only [execOp, ho, hx, Sem.run_pure]; exact h
theorem gv_val {v : Value} {w' : World} (hr : (execOp ρ o).run P w = .ok (.value v) w') (h : K v w') : gives P K ((execOp ρ o).run P w) := by
  rw [hr]; exact h
theorem gv_at {T : TypeId} {x i : Operand} {ad : Addr} {n c k : Nat} (ho : o.op = .indexAddr T x i) (hT : P.underlying T = some (.slice (P.elem T))) (hs : ((P.elem T) |> P.info?).map (·.size) = some 1) (hx : ρ x = .slice (some ad) n c) (hi : ρ i = .int .i64 (k : Int)) (hk : k < n) (h : K (.pointer (some (ad.add k))) w) : gives P K ((execOp ρ o).run P w) := by
  refine gv_val (w' := w) ?_ h
  cases hq : P.info? (P.elem T) with
  | none => rw [hq] at hs; cases hs
  | some e =>
    have he : e.size = 1 := by rw [hq] at hs; simpa using hs
    simp only [execOp, ho, hx, hi]
    simp [run_indexAt_slice _ _ _ _ _ _ _ hT, sizeOf, typeInfo, hq, he, hk]
theorem gv_load {T : TypeId} {x : Operand} {ad : Addr} {v : Value} {d : TypeDesc} (ho : o.op = .load T x) (hd : (match d with | .struct _ | .array _ _ => true | _ => false) = false) (hT : P.underlying T = some d) (hx : ρ x = .pointer (some ad)) (hc : w.cell? ad = some v) (h : K v w) : gives P K ((execOp ρ o).run P w) := by
  refine gv_val (w' := w) ?_ h
  simp only [execOp, ho, hx, Instr.loadAt, Instr.sureAddr]
  have e : (isAgg T).run P w = .ok false w := by
    unfold isAgg
    rw [Sem.run_bind, run_underlying hT w]
    cases d <;> simp_all
  simp [loadVar, e, hc]
theorem gv_call {f : FuncId} {xs : Array Operand} {ts : Array TypeId} {fn : Func} {c : Code} {args : Array Value} (ho : o.op = .call { callee := .value (.func f), args := xs, argTypes := ts }) (hf : P.funcs[f]? = some fn) (hname : (fn.name == "runtime.NumGoroutine") = false) (hb : fn.body = some c) (hρ : ρ (.func f) = .func (.func f) #[] #[])
    (hx : xs.map ρ = args) (h : Calls P f args w fun e w'' => ∃ v, e = .returned v ∧ K v w'') : gives P K ((execOp ρ o).run P w) := by
  have h1 : fn.name ≠ "runtime.NumGoroutine" := by simpa using hname
  have e : (execOp ρ o).run P w = .ok (.enter f args) w := by
    simp only [execOp, ho, resolve, hρ, hx]
    simp [Deferred.ofValue, invoke, callFunc, hf, h1, hb]
  rw [e]; exact h
theorem gv_alloc {T : TypeId} {z : Array Value} (ho : o.op = .alloc T) (hT : Agg P T z) (h : ∀ g w', Blk w' g z T → w.heap.size ≤ g → Below w.heap.size w w' → K (.pointer (some ⟨g, 0, none⟩)) w') : gives P K ((execOp ρ o).run P w) := by
  refine gv_val (v := .pointer (some ⟨w.heap.size, 0, none⟩)) (w' := w.alloc (.cells z T)) ?_ (h _ _ ⟨heap_alloc_new w _⟩ (Nat.le_refl _) ((Below.refl _ _).alloc (Nat.le_refl _) _))
  simp [execOp, ho, run_alloc hT]
end
/-- How operation i of a drawing region reads an operand. -/
def look (l : List Oper) (a : Act) (vals : Nat → Value) (i : Nat) (x : Operand) : Value :=
  match l[i]? with
  | some o => (fill l (waits o) vals a).eval x
  | none => undef
/-- Who among those that operation i waits for has written slot t. -/
def src (l : List Oper) (i t : Nat) : Option Nat := (l[i]?).bind fun o => (List.range l.length).find? (fun k => waits o k && ((l[k]?).bind (·.dst) == some t))
def waitsAt (l : List Oper) (i j : Nat) : Bool := match l[i]? with | some o => waits o j | none => false
/-- Operation i, done when what it waits for is done, tells what it is to tell. -/
structure StepOK (P : Program) (l : List Oper) (a : Act) (Cls : World → Prop) (S : Nat → Value → World → Prop) (vals : Nat → Value) (w : World) (i : Nat) : Prop where
  out : ∀ o, l[i]? = some o → if Region.wanted o (yielded l.toArray (fill l (waits o) vals a).tmps) = true then gives P (fun v w2 => Below w.heap.size w w2 ∧ Cls w2 ∧ S i v w2) ((execOp (fill l (waits o) vals a).eval o).run P w) else S i undef w
section
variable {P : Program} {l : List Oper} {a : Act} {Cls : World → Prop} {S : Nat → Value → World → Prop} {vals : Nat → Value} {w : World} {i : Nat}
theorem look_hit {t k : Nat} (h : src l i t = some k) (ht : Nat.blt t a.tmps.size = true) : look l a vals i (.tmp t) = vals k := by
  unfold src at h
  unfold look
  cases ho : l[i]? with
  | none => rw [ho] at h; cases h
  | some o => rw [ho] at h; exact fill_hit h (Nat.le_of_ble_eq_true ht)
theorem look_miss {t : Nat} (hs : (l[i]?).isSome = true) (h : src l i t = none) : look l a vals i (.tmp t) = a.eval (.tmp t) := by
  unfold src at h
  unfold look
  cases ho : l[i]? with
  | none => rw [ho] at hs; cases hs
  | some o => rw [ho] at h; exact fill_miss h
theorem look_const {v : Value} (hs : (l[i]?).isSome = true) : look l a vals i (.const v) = v := by
  unfold look
  cases ho : l[i]? with
  | none => rw [ho] at hs; cases hs
  | some o => rfl
/-- Operation i is this one, and it runs. -/
structure Runs (l : List Oper) (a : Act) (vals : Nat → Value) (i : Nat) (f : Op) : Prop where
  out : ∀ o, l[i]? = some o → o.op = f ∧ Region.wanted o (yielded l.toArray (fill l (waits o) vals a).tmps) = true
theorem Runs.free {f : Op} (ho : (l[i]?).map (fun o => (o.op, o.guard)) = some (f, none)) : Runs l a vals i f := by
  refine ⟨fun o hq => ?_⟩
  rw [hq] at ho
  simp only [Option.map_some, Option.some.injEq, Prod.mk.injEq] at ho
  exact ⟨ho.1, by unfold Region.wanted; rw [ho.2]⟩
theorem yields_at {o : Oper} {g t k : Nat} {b' : Bool} (hq : l[i]? = some o) (hg : (l[g]?).bind (·.dst) = some t) (hs : src l i t = some k) (ht : Nat.blt t a.tmps.size = true) (hv : vals k = .bool b') : yielded l.toArray (fill l (waits o) vals a).tmps g = some b' := by
  unfold src at hs
  rw [hq] at hs
  unfold yielded
  rw [List.getElem?_toArray, hg]
  simp only [Option.bind_some, fill_get] at hs ⊢
  rw [hs, Array.getElem?_eq_getElem (Nat.le_of_ble_eq_true ht)]
  simp only [Option.map_some, hv]
/-- With a guard that is met. -/
theorem Runs.when {f : Op} {g t k : Nat} {b : Bool} (ho : (l[i]?).map (fun o => (o.op, o.guard)) = some (f, some (g, b))) (hg : (l[g]?).bind (·.dst) = some t) (hs : src l i t = some k) (ht : Nat.blt t a.tmps.size = true) (hv : vals k = .bool b) : Runs l a vals i f := by
  refine ⟨fun o hq => ?_⟩
  have hy := yields_at hq hg hs ht hv
  rw [hq] at ho
  simp only [Option.map_some, Option.some.injEq, Prod.mk.injEq] at ho
  exact ⟨ho.1, by unfold Region.wanted; rw [ho.2]; simp [hy]⟩
theorem StepOK.intro {f : Op} (H : Runs l a vals i f)
    (h : ∀ (o : Oper), o.op = f → look l a vals i = (fill l (waits o) vals a).eval → gives P (fun v w2 => Below w.heap.size w w2 ∧ Cls w2 ∧ S i v w2) ((execOp (fill l (waits o) vals a).eval o).run P w)) : StepOK P l a Cls S vals w i := by
  refine ⟨fun o hq => ?_⟩
  obtain ⟨h1, h2⟩ := H.out o hq
  rw [if_pos h2]
  refine h o h1 ?_
  funext x
  unfold look
  rw [hq]
/-- With a guard that is not met. -/
theorem StepOK.not {gd : Option (Nat × Bool)} {g t k : Nat} {b b' : Bool} (ho : (l[i]?).map (·.guard) = some gd) (hgd : gd = some (g, b)) (hg : (l[g]?).bind (·.dst) = some t) (hs : src l i t = some k) (ht : Nat.blt t a.tmps.size = true) (hv : vals k = .bool b') (hb : b' ≠ b) (h : S i undef w) : StepOK P l a Cls S vals w i := by
  refine ⟨fun o hq => ?_⟩
  have hy := yields_at hq hg hs ht hv
  rw [hq, hgd] at ho
  simp only [Option.map_some, Option.some.injEq] at ho
  have : ¬ Region.wanted o (yielded l.toArray (fill l (waits o) vals a).tmps) = true := by unfold Region.wanted; rw [ho]; simp [hy, hb]
  rw [if_neg this]; exact h
theorem StepOK.move {x : Operand} {v : Value} (H : Runs l a vals i (.move x)) (hc : Cls w) (hx : look l a vals i x = v) (h : S i v w) : StepOK P l a Cls S vals w i :=
  .intro H fun _ e1 e2 => gv_move e1 (by rw [← e2]; exact hx) ⟨Below.refl _ _, hc, h⟩
theorem StepOK.assign {x : Operand} {v : Value} (H : Runs l a vals i (.assign x)) (hc : Cls w) (hx : look l a vals i x = v) (h : S i v w) : StepOK P l a Cls S vals w i :=
  .intro H fun o e1 e2 => gv_val (w' := w) (by simp only [execOp, e1, ← e2, hx, Sem.run_pure]) ⟨Below.refl _ _, hc, h⟩
theorem StepOK.at {T : TypeId} {x y : Operand} {ad : Addr} {n c k : Nat} (H : Runs l a vals i (.indexAddr T x y)) (hc : Cls w) (hT : P.underlying T = some (.slice (P.elem T))) (hs : ((P.elem T) |> P.info?).map (·.size) = some 1) (hx : look l a vals i x = .slice (some ad) n c) (hi : look l a vals i y = .int .i64 (k : Int)) (hk : k < n) (h : S i (.pointer (some (ad.add k))) w) : StepOK P l a Cls S vals w i :=
  .intro H fun _ e1 e2 => gv_at e1 hT hs (by rw [← e2]; exact hx) (by rw [← e2]; exact hi) hk ⟨Below.refl _ _, hc, h⟩
theorem StepOK.load {T : TypeId} {x : Operand} {ad : Addr} {v : Value} {d : TypeDesc} (H : Runs l a vals i (.load T x)) (hc : Cls w) (hd : (match d with | .struct _ | .array _ _ => true | _ => false) = false) (hT : P.underlying T = some d) (hx : look l a vals i x = .pointer (some ad)) (hcell : w.cell? ad = some v) (h : S i v w) : StepOK P l a Cls S vals w i :=
  .intro H fun _ e1 e2 => gv_load e1 hd hT (by rw [← e2]; exact hx) hcell ⟨Below.refl _ _, hc, h⟩
theorem StepOK.loadRow {T : TypeId} {x : Operand} {z cs : Array Value} {g : Nat} {t : TypeId} (H : Runs l a vals i (.load T x)) (hc : Cls w) (hT : Agg P T z) (hx : look l a vals i x = .pointer (some ⟨g, 0, none⟩)) (hB : Blk w g cs t) (hs : cs.size = z.size) (h : S i (.agg cs) w) : StepOK P l a Cls S vals w i :=
  .intro H fun o e1 e2 => gv_val (w' := w) (by
    obtain ⟨D, hd, hD⟩ := hT.d
    simp only [execOp, e1, ← e2, hx, Instr.loadAt, Instr.sureAddr, Sem.run_bind, Sem.run_pure, Result.andThen_ok, run_loadVar_row w g t T cs (0, 0) D hB.out hd (by cases D <;> simp_all) (by rw [hT.size, hs])]) ⟨Below.refl _ _, hc, h⟩
theorem StepOK.alloc {T : TypeId} {z : Array Value} (H : Runs l a vals i (.alloc T)) (hT : Agg P T z) (h : ∀ g w', Blk w' g z T → w.heap.size ≤ g → Below w.heap.size w w' → Cls w' ∧ S i (.pointer (some ⟨g, 0, none⟩)) w') : StepOK P l a Cls S vals w i :=
  .intro H fun _ e1 _ => gv_alloc e1 hT fun g w' h1 h2 h3 => ⟨h3, h g w' h1 h2 h3⟩
theorem StepOK.call {f : FuncId} {xs : Array Operand} {ts : Array TypeId} {fn : Func} {c : Code} {args : Array Value} (H : Runs l a vals i (.call { callee := .value (.func f), args := xs, argTypes := ts })) (hf : P.funcs[f]? = some fn) (hname : (fn.name == "runtime.NumGoroutine") = false) (hb : fn.body = some c)
    (hx : xs.map (look l a vals i) = args) (h : Calls P f args w fun e w'' => ∃ v, e = .returned v ∧ Below w.heap.size w w'' ∧ Cls w'' ∧ S i v w'') : StepOK P l a Cls S vals w i :=
  .intro H fun _ e1 e2 => gv_call e1 hf hname hb rfl (by rw [← e2]; exact hx) h
/-- A place in an array behind a pointer. -/
theorem StepOK.atArr {T : TypeId} {x y : Operand} {ad : Addr} {k : Nat} (H : Runs l a vals i (.indexAddr T x y)) (hc : Cls w) (hT : P.underlying T = some (.array (P.arrayLen T) (P.elem T))) (hs : ((P.elem T) |> P.info?).map (·.size) = some 1) (hx : look l a vals i x = .pointer (some ad)) (hi : look l a vals i y = .int .i64 (k : Int)) (hk : Nat.blt k (P.arrayLen T) = true) (h : S i (.pointer (some (ad.add k))) w) : StepOK P l a Cls S vals w i :=
  .intro H fun o e1 e2 => gv_val (w' := w) (by
    replace hk : k < P.arrayLen T := Nat.le_of_ble_eq_true hk
    cases hq : P.info? (P.elem T) with
    | none => rw [hq] at hs; cases hs
    | some e =>
      have he : e.size = 1 := by rw [hq] at hs; simpa using hs
      simp only [execOp, e1, ← e2, hx, hi]
      simp [run_indexAt_array _ _ _ _ _ hT, sizeOf, typeInfo, hq, he, hk]) ⟨Below.refl _ _, hc, h⟩
/-- A place in an array of structs behind a pointer. -/
theorem StepOK.atArrN {T : TypeId} {x y : Operand} {g k sz : Nat} (H : Runs l a vals i (.indexAddr T x y)) (hc : Cls w) (hT : P.underlying T = some (.array (P.arrayLen T) (P.elem T))) (hs : ((P.elem T) |> P.info?).map (·.size) = some sz) (hx : look l a vals i x = .pointer (some ⟨g, 0, none⟩)) (hi : look l a vals i y = .int .i64 (k : Int)) (hk : Nat.blt k (P.arrayLen T) = true) (h : S i (.pointer (some ⟨g, k * sz, none⟩)) w) : StepOK P l a Cls S vals w i :=
  .intro H fun o e1 e2 => gv_val (w' := w) (by
    replace hk : k < P.arrayLen T := Nat.le_of_ble_eq_true hk
    cases hq : P.info? (P.elem T) with
    | none => rw [hq] at hs; cases hs
    | some e =>
      have he : e.size = sz := by rw [hq] at hs; simpa using hs
      simp only [execOp, e1, ← e2, hx, hi]
      simp [run_indexAt_array _ _ _ _ _ hT, sizeOf, typeInfo, hq, he, hk, Addr.add_lit]) ⟨Below.refl _ _, hc, h⟩
/-- Any operation that gives a value and leaves the world. -/
theorem StepOK.val {f : Op} {v : Value} (H : Runs l a vals i f) (hc : Cls w) (hr : ∀ (o : Oper), o.op = f → (execOp (look l a vals i) o).run P w = .ok (.value v) w) (h : S i v w) : StepOK P l a Cls S vals w i :=
  .intro H fun o e1 e2 => gv_val (w' := w) (by rw [← e2]; exact hr o e1) ⟨Below.refl _ _, hc, h⟩
theorem StepOK.fieldP {T : TypeId} {x : Operand} {f g k k' : Nat} (H : Runs l a vals i (.fieldAddr T x f)) (hc : Cls w) (hx : look l a vals i x = .pointer (some ⟨g, k, none⟩)) (hp : ((Instr.fieldAt T (.pointer (some ⟨g, k, none⟩)) f).run P w).andThen (fun a w' => .ok (.value a) w') = .ok (Next.value (.pointer (some ⟨g, k', none⟩))) w) (h : S i (.pointer (some ⟨g, k', none⟩)) w) : StepOK P l a Cls S vals w i :=
  .val H hc (fun o e => by simp only [execOp, e, hx, Sem.run_bind, Sem.run_pure]; exact hp) h
theorem StepOK.bin {op : BinOp} {T T2 : TypeId} {x y : Operand} {u v r : Value} (H : Runs l a vals i (.binOp op T x y T2)) (hc : Cls w) (hx : look l a vals i x = u) (hy : look l a vals i y = v) (hg : (eqGuard op T x y u v).run P w = .ok () w) (hr : (binOp op T u v).run P w = .ok r w) (h : S i r w) : StepOK P l a Cls S vals w i :=
  .val H hc (fun o e => by simp only [execOp, e, hx, hy]; simp [hg, hr]) h
theorem StepOK.pick {x y z : Operand} {b : Bool} {u v : Value} (H : Runs l a vals i (.pick x y z)) (hc : Cls w) (hx : look l a vals i x = .bool b) (hy : look l a vals i y = u) (hz : look l a vals i z = v) (h : S i (if b then u else v) w) : StepOK P l a Cls S vals w i :=
  .val H hc (fun o e => by simp only [execOp, e, hx, hy, hz]; cases b <;> simp [asBool]) h
/-- A stretch of an array behind a pointer. -/
theorem StepOK.sliceArr {T : TypeId} {x p q : Operand} {ad : Addr} {lo hi : Nat} (H : Runs l a vals i (.slice T x (some p) (some q) none)) (hc : Cls w) (hT : P.underlying T = some (.array (P.arrayLen T) (P.elem T))) (hs : ((P.elem T) |> P.info?).map (·.size) = some 1) (hx : look l a vals i x = .pointer (some ad)) (hp : look l a vals i p = .int .i64 (lo : Int)) (hq : look l a vals i q = .int .i64 (hi : Int)) (hlo : lo ≤ hi) (hhi : hi ≤ P.arrayLen T) (h0 : Nat.blt lo (P.arrayLen T) = true) (h : S i (.slice (some (ad.add lo)) (hi - lo) (P.arrayLen T - lo)) w) : StepOK P l a Cls S vals w i :=
  .val H hc (fun o e => by
    cases hq2 : P.info? (P.elem T) with
    | none => rw [hq2] at hs; cases hs
    | some e2 =>
      have he : e2.size = 1 := by rw [hq2] at hs; simpa using hs
      simp only [execOp, e, hx, hp, hq, Option.map_some, Option.map_none]
      have h0' := Nat.le_of_ble_eq_true h0
      have hm : ¬ P.arrayLen T = lo := by omega
      simp [run_sliceAt_array_lh w T ad hT .i64 .i64 (lo : Int) (hi : Int) (by omega) (by omega) (by omega), sizeOf, typeInfo, hq2, he, slicedAt, hm]) h
/-- **The law**, a step for each place. -/
theorem wp_region_told {Q : Exit → Act → World → Prop} {id : Nat} (n : Nat) (Cls : World → Prop) (S : Nat → Value → World → Prop) (hm : P.follows .mixedOrders = true) (hB : relyB l n = true) (hC : relyC l n = true) (hcls : Cls w.drew)
    (hstab : ∀ i v w1 w2, Below w1.heap.size w1 w2 → S i v w1 → S i v w2)
    (hstep : ∀ i (vals : Nat → Value) w1, i < n → Cls w1 → (∀ j, waitsAt l i j = true → S j (vals j) w1) → StepOK P l a Cls S vals w1 i)
    (hend : ∀ vals w1, Cls w1 → (∀ j, j < n → S j (vals j) w1) → wpList P l.toArray Q (l.drop n) (fill l (fun i => decide (i < n)) vals a) w1) :
    (Code.region id l.toArray true).wp P Q a w := by
  refine wp_region_rely n Cls S hm hB hC hcls hstab (fun i o vals w1 hi ho hc hd => ?_) hend
  have h := hstep i vals w1 hi hc (fun j hj => hd j (by unfold waitsAt at hj; rw [ho] at hj; exact hj))
  exact h.out o ho
/-- The frame at hand, written out. -/
theorem wl_frame {ops : Array Oper} {rest : List Oper} {Q : Exit → Act → World → Prop} (b : Act) (h : a = b) (h2 : wpList P ops Q rest b w) : wpList P ops Q rest a w := h ▸ h2
end
section
variable {P : Program}
theorem run_eqItems_bytes (w : World) (d : Nat) {e : TypeId} (he : P.underlying e = some (.int .u8)) (x y : List UInt8) (hl : x.length = y.length) : ∀ (is : List Nat), (∀ i ∈ is, i < x.length) → (Op.eqItems (d + 1) e 1 (bvs x) (bvs y) is).run P w = .ok (is.all fun i => x[i]? == y[i]?) w
  | [], _ => by simp [Op.eqItems]
  | i :: is, h => by
    have hi : i < x.length := h i List.mem_cons_self
    have hi' : i < y.length := by omega
    have ih := run_eqItems_bytes w d he x y hl is (fun j hj => h j (List.mem_cons_of_mem _ hj))
    have p1 : (part e (bvs x) (i * 1)).run P w = .ok (.int .u8 (x[i].toNat : Int)) w := by
      simp [part, isAgg, run_underlying he, get_bvs, List.getElem?_eq_getElem hi, bv]
    have p2 : (part e (bvs y) (i * 1)).run P w = .ok (.int .u8 (y[i].toNat : Int)) w := by
      simp [part, isAgg, run_underlying he, get_bvs, List.getElem?_eq_getElem hi', bv]
    have p3 := run_equalIn_int (P := P) w d e .u8 .u8 (x[i].toNat : Int) (y[i].toNat : Int) he
    simp only [Op.eqItems, Sem.run_bind, p1, p2, p3, Result.andThen_ok, List.all_cons, List.getElem?_eq_getElem hi, List.getElem?_eq_getElem hi']
    by_cases hq : x[i] = y[i]
    · simp [hq, ih]
    · have : x[i].toNat ≠ y[i].toNat := fun h => hq (UInt8.toNat_inj.1 h)
      have h2 : ((x[i].toNat : Int) == (y[i].toNat : Int)) = false := beq_eq_false_iff_ne.2 (by omega)
      simp [h2, hq]
theorem run_neq_bytes (w : World) {t e : TypeId} {n : Nat} (hu : P.underlying t = some (.array n e)) (he : P.underlying e = some (.int .u8)) (hs : (P.info? e).map (·.size) = some 1) (x y : List UInt8) (hx : x.length = n) (hy : y.length = n) :
    (binOp .neq t (.agg (bvs x)) (.agg (bvs y))).run P w = .ok (.bool (decide (x ≠ y))) w := by
  obtain ⟨i, hi⟩ : ∃ i, P.info? e = some i := by
    cases h : P.info? e with
    | none => rw [h] at hs; cases hs
    | some i => exact ⟨i, rfl⟩
  have hc : P.cellsOf e = 1 := by
    rw [hi] at hs
    simp only [Option.map_some, Option.some.injEq] at hs
    simp [Program.cellsOf, hi, hs]
  have h1 : (Op.equal t (.agg (bvs x)) (.agg (bvs y))).run P w = .ok (decide (x = y)) w := by
    unfold Op.equal
    rw [show Op.maxDepth = (Op.maxDepth - 2 + 1) + 1 from rfl, run_equalIn_array w _ (bvs x) (bvs y) hu hi, hc, run_eqItems_bytes w _ he x y (by omega) (List.range n) (fun j hj => by rw [hx]; exact List.mem_range.1 hj)]
    congr 1
    rw [Bool.eq_iff_iff, List.all_eq_true]
    simp only [List.mem_range, beq_iff_eq, decide_eq_true_eq]
    constructor
    · intro h
      apply List.ext_getElem?
      intro j
      by_cases hj : j < n
      · exact h j hj
      · rw [List.getElem?_eq_none (by omega), List.getElem?_eq_none (by omega)]
    · rintro rfl _ _; rfl
  simp [binOp, h1]
theorem run_eqGuard_bytes (w : World) {t : TypeId} (hg : P.eqGuardType P.depth t = false) (x y : Operand) (a b : Array Value) : (eqGuard .neq t x y (.agg a) (.agg b)).run P w = .ok () w := by
  simp [eqGuard, hg]
end
end Go.Vel
