/- Maps from whole numbers, over owned memory: lookup, update, clear, and the steps of a loop over one. Over any program. -/
import Derived.Test.YtefmefimhiedfaaHVec
open Go Go.RowKit Go.Proofs.YtefmefimhiedfaaW.PrintWords Go.Proofs.YtefmefimhiedfaaW.PrintMore
namespace Go.Vel
set_option linter.unusedVariables false
set_option linter.unusedSimpArgs false
/-- An entry: its key, its value, its stamp. -/
structure Ent where
  k : Int
  v : Value
  b : Nat
def Ent.me (e : Ent) : MapEntry := { key := .int .i64 e.k, val := e.v, born := e.b }
def mapO (es : List Ent) (clock : Nat) : Obj := .map (es.map Ent.me).toArray clock
theorem findNow_none {k : Int} : ∀ (es : List Ent) (i : Nat), (∀ e ∈ es, e.k ≠ k) → Instr.findNow (.int .i64) (.int .i64 k) (es.map Ent.me) i = some none
  | [], _, _ => rfl
  | e :: es, i, h => by
    have h1 : (k == e.k) = false := by have := h e List.mem_cons_self; simpa using fun h => this h.symm
    simp only [List.map_cons, Instr.findNow, Ent.me, Instr.sameNow, h1, if_true]
    exact findNow_none es (i + 1) (fun x hx => h x (List.mem_cons_of_mem _ hx))
theorem findNow_some {k : Int} : ∀ (es : List Ent) (i j : Nat) (e0 : Ent), es[j]? = some e0 → e0.k = k → (∀ m e, m < j → es[m]? = some e → e.k ≠ k) → Instr.findNow (.int .i64) (.int .i64 k) (es.map Ent.me) i = some (some (i + j, e0.v))
  | [], _, _, _, h, _, _ => by simp at h
  | e :: es, i, 0, e0, h, hk, _ => by
    simp at h
    subst h
    have h1 : (k == e.k) = true := by simp [hk]
    simp only [List.map_cons, Instr.findNow, Ent.me, Instr.sameNow, h1, if_true, Nat.add_zero]
  | e :: es, i, j + 1, e0, h, hk, hf => by
    have h1 : (k == e.k) = false := by have := hf 0 e (by omega) rfl; simpa using fun h => this h.symm
    simp only [List.map_cons, Instr.findNow, Ent.me, Instr.sameNow, h1, if_true]
    rw [findNow_some es (i + 1) j e0 (by simpa using h) hk (fun m x hm hx => hf (m + 1) x (by omega) (by simpa using hx))]
    congr 3; omega
section
variable {P : Program} {o : Oper} {w w0 : World} {F : Nat → Prop} {L : List Ast} {ρ : Operand → Value} {K : Value → World → Prop} {T kT eT : TypeId} {g clock : Nat} {es : List Ent}
theorem run_getMap (h : w.heap[g]? = some (mapO es clock)) : (getObj g).run P w = .ok (mapO es clock) w := by
  simp [getObj, Sem.run, h, mapO]
theorem run_setMap {o' : Obj} (h : w.heap[g]? = some (mapO es clock)) : (setObj g o').run P w = .ok () { w with heap := w.heap.setIfInBounds g o' } := by
  simp [setObj, Sem.run, h, mapO]
theorem only_setObj (w : World) (g : Nat) (o' : Obj) : Only g w { w with heap := w.heap.setIfInBounds g o' } := ⟨rfl, rfl, rfl, by simp, fun k hk => by
  show (w.heap.setIfInBounds g o')[k]? = w.heap[k]?
  rw [Array.getElem?_setIfInBounds, if_neg (fun h => hk h.symm)]⟩
theorem heap_setObj {o' x : Obj} (h : w.heap[g]? = some x) : ({ w with heap := w.heap.setIfInBounds g o' } : World).heap[g]? = some o' := by
  have := lt_of_some h
  show (w.heap.setIfInBounds g o')[g]? = some o'
  rw [Array.getElem?_setIfInBounds, if_pos rfl]; simp [this]
theorem checkKey_int {k : Int} {b : Bool} {n : Nat} (hk : P.underlying kT = some (.int .i64)) : (Instr.checkKey b (n + 1) kT (.int .i64 k)).run P w = .ok () w := by
  simp [Instr.checkKey, run_underlying hk]
theorem gv_look_none {x y : Operand} {k : Int} {z : Value} (hg : w.heap[g]? = some (mapO es clock)) (ho : o.op = .lookup T x y false) (hT : P.underlying T = some (.map kT eT)) (hk : P.underlying kT = some (.int .i64)) (hz : (P.info? eT).map (·.zero) = some (some z)) (hx : ρ x = .map (some g)) (hy : ρ y = .int .i64 k) (hno : ∀ e ∈ es, e.k ≠ k) (h : K z w) : gives P K ((execOp ρ o).run P w) := by
  refine gv_val (w' := w) ?_ h
  cases hq : P.info? eT with
  | none => simp [hq] at hz
  | some ie =>
    have hz' : ie.zero = some z := by simpa [hq] using hz
    simp only [execOp, ho, hx, hy]
    simp [Instr.lookup, run_underlying hT, run_getMap hg, mapO, checkKey_int hk, Instr.findKey, run_underlying hk, findNow_none es 0 hno, zeroValue, typeInfo, hq, hz']
theorem gv_look_some {x y : Operand} {k : Int} {j : Nat} {e0 : Ent} (hg : w.heap[g]? = some (mapO es clock)) (ho : o.op = .lookup T x y false) (hT : P.underlying T = some (.map kT eT)) (hk : P.underlying kT = some (.int .i64)) (hx : ρ x = .map (some g)) (hy : ρ y = .int .i64 k) (hj : es[j]? = some e0) (he : e0.k = k) (hf : ∀ m e, m < j → es[m]? = some e → e.k ≠ k) (h : K e0.v w) : gives P K ((execOp ρ o).run P w) := by
  refine gv_val (w' := w) ?_ h
  simp only [execOp, ho, hx, hy]
  simp [Instr.lookup, run_underlying hT, run_getMap hg, mapO, checkKey_int hk, Instr.findKey, run_underlying hk, findNow_some es 0 j e0 hj he hf]
theorem gv_put_new {m x y : Operand} {k : Int} {v : Value} (S : St F w0 w L) (i : Nat) (hi : L[i]? = some (pt g (mapO es clock))) (ho : o.op = .mapUpdate T m x y) (hT : P.underlying T = some (.map kT eT)) (hk : P.underlying kT = some (.int .i64)) (hm : ρ m = .map (some g)) (hx : ρ x = .int .i64 k) (hy : ρ y = v) (hno : ∀ e ∈ es, e.k ≠ k) {L' : List Ast} (hL : L.set i (pt g (mapO (es ++ [⟨k, v, clock⟩]) (clock + 1))) = L') (h : ∀ w', St F w0 w' L' → K undef w') : gives P K ((execOp ρ o).run P w) := by
  have hg := S.get i hi
  have hr : (execOp ρ o).run P w = .ok .skip { w with heap := w.heap.setIfInBounds g (mapO (es ++ [⟨k, v, clock⟩]) (clock + 1)) } := by
    have e1 : (es.map Ent.me).toArray.push { key := .int .i64 k, val := v, born := clock } = ((es ++ [(⟨k, v, clock⟩ : Ent)]).map Ent.me).toArray := by simp [Ent.me]
    have hs := run_setMap (P := P) (o' := mapO (es ++ [⟨k, v, clock⟩]) (clock + 1)) hg
    rw [mapO, ← e1] at hs
    rw [mapO, ← e1]
    simp only [execOp, ho, hm, hx, hy]
    simp [Instr.mapUpdate, run_underlying hT, run_getMap hg, mapO, checkKey_int hk, Instr.findKey, run_underlying hk, findNow_none es 0 hno] at hs ⊢
    simp [hs]
  rw [hr]
  subst hL
  exact h _ (S.upd i hi (only_setObj w g _) (heap_setObj hg))
theorem gv_put_old {m x y : Operand} {k : Int} {v : Value} {j : Nat} {e0 : Ent} (S : St F w0 w L) (i : Nat) (hi : L[i]? = some (pt g (mapO es clock))) (ho : o.op = .mapUpdate T m x y) (hT : P.underlying T = some (.map kT eT)) (hk : P.underlying kT = some (.int .i64)) (hm : ρ m = .map (some g)) (hx : ρ x = .int .i64 k) (hy : ρ y = v) (hj : es[j]? = some e0) (he : e0.k = k) (hf : ∀ m e, m < j → es[m]? = some e → e.k ≠ k) {L' : List Ast} (hL : L.set i (pt g (mapO (es.set j ⟨k, v, e0.b⟩) clock)) = L') (h : ∀ w', St F w0 w' L' → K undef w') : gives P K ((execOp ρ o).run P w) := by
  have hg := S.get i hi
  have hjl := (List.getElem?_eq_some_iff.1 hj).1
  have hr : (execOp ρ o).run P w = .ok .skip { w with heap := w.heap.setIfInBounds g (mapO (es.set j ⟨k, v, e0.b⟩) clock) } := by
    have e1 : (es.map Ent.me).toArray.modify j (fun e => { e with key := .int .i64 k, val := v }) = ((es.set j ⟨k, v, e0.b⟩).map Ent.me).toArray := by
      apply Array.ext_getElem?
      intro m
      rw [Array.getElem?_modify, List.getElem?_toArray, List.getElem?_toArray, List.getElem?_map, List.getElem?_map, List.getElem?_set]
      by_cases hm : j = m
      · subst hm
        rw [if_pos rfl, if_pos rfl, hj]
        simp [hjl, Ent.me]
      · rw [if_neg hm, if_neg hm]
    have hs := run_setMap (P := P) (o' := mapO (es.set j ⟨k, v, e0.b⟩) clock) hg
    rw [mapO, ← e1] at hs
    rw [mapO, ← e1]
    have hkey : ((es.map Ent.me)[j]?).map (·.key) = some (.int .i64 k) := by rw [List.getElem?_map, hj]; simp [Ent.me, he]
    simp only [execOp, ho, hm, hx, hy]
    simp [Instr.mapUpdate, run_underlying hT, run_getMap hg, mapO, checkKey_int hk, Instr.findKey, run_underlying hk, findNow_some es 0 j e0 hj he hf, Instr.keyThatStays, Instr.sameBits, hj, Ent.me, he] at hs ⊢
    simp [hs]
  rw [hr]
  subst hL
  exact h _ (S.upd i hi (only_setObj w g _) (heap_setObj hg))
theorem gv_clear {x : Operand} (S : St F w0 w L) (i : Nat) (hi : L[i]? = some (pt g (mapO es clock))) (ho : o.op = .call { callee := .builtin .clear, args := #[x], argTypes := #[T] }) (hT : P.underlying T = some (.map kT eT)) (hx : ρ x = .map (some g)) {L' : List Ast} (hL : L.set i (pt g (mapO [] clock)) = L') (h : ∀ w', St F w0 w' L' → K (.tuple #[]) w') : gives P K ((execOp ρ o).run P w) := by
  have hg := S.get i hi
  have hs := run_setMap (P := P) (o' := mapO [] clock) hg
  have hr : (execOp ρ o).run P w = .ok (.value (.tuple #[])) { w with heap := w.heap.setIfInBounds g (mapO [] clock) } := by
    simp only [execOp, ho, resolve, invoke, builtin]
    simp [hx, Builtin.clear_, run_underlying hT, run_getMap hg, mapO] at hs ⊢
    simp [hs]
  rw [hr]
  subst hL
  exact h _ (S.upd i hi (only_setObj w g _) (heap_setObj hg))
/-- An iterator over the map. -/
def iterO (g since : Nat) (seen : List Nat) : Obj := .mapIter (some g) since seen.toArray since
theorem gv_range {x : Operand} (S : St F w0 w L) (i : Nat) (hi : L[i]? = some (pt g (mapO es clock))) (ho : o.op = .range T x) (hT : P.underlying T = some (.map kT eT)) (hx : ρ x = .map (some g)) (h : ∀ gi w', w.heap.size ≤ gi → St F w0 w' (pt gi (iterO g clock []) :: L) → K (.pointer (some ⟨gi, 0, none⟩)) w') : gives P K ((execOp ρ o).run P w) := by
  have hg := S.get i hi
  have hr : (execOp ρ o).run P w = .ok (.value (.pointer (some ⟨w.heap.size, 0, none⟩))) (w.alloc (iterO g clock [])) := by
    simp only [execOp, ho, hx]
    simp [Instr.range, run_underlying hT, run_getMap hg, mapO, iterO]
  rw [hr]
  exact h _ _ (Nat.le_refl _) (S.new ((Below.refl _ _).alloc (Nat.le_refl _) _) (Nat.le_refl _) (heap_alloc_new w _))
theorem run_getIter {gi since : Nat} {seen : List Nat} (h : w.heap[gi]? = some (iterO g since seen)) : (getObj gi).run P w = .ok (iterO g since seen) w := by
  simp [getObj, Sem.run, h, iterO]
theorem run_setIter {gi since : Nat} {seen : List Nat} {o' : Obj} (h : w.heap[gi]? = some (iterO g since seen)) : (setObj gi o').run P w = .ok () { w with heap := w.heap.setIfInBounds gi o' } := by
  simp [setObj, Sem.run, h, iterO]
/-- The entries that are still to come. -/
def leftE (es : List Ent) (seen : List Nat) : List Ent := es.filter fun e => !seen.contains e.b
/-- A step of a loop over a map that the loop doesn't turn. -/
theorem gv_next {x : Operand} {gi : Nat} {seen : List Nat} (S : St F w0 w L) (i j : Nat) (hi : L[i]? = some (pt gi (iterO g clock seen))) (hj : L[j]? = some (pt g (mapO es clock))) (hb : ∀ e ∈ es, e.b < clock) (ho : o.op = .next x false) (hx : ρ x = .pointer (some ⟨gi, 0, none⟩))
    (hover : leftE es seen = [] → K (.tuple #[.bool false]) w) (hstep : ∀ e w', e ∈ leftE es seen → St F w0 w' (L.set i (pt gi (iterO g clock (seen ++ [e.b])))) → K (.tuple #[.bool true, .int .i64 e.k, e.v]) w') : gives P K ((execOp ρ o).run P w) := by
  have hgi := S.get i hi
  have hg := S.get j hj
  have hold : ((es.map Ent.me).toArray.filter fun e => !seen.toArray.contains e.born) = ((leftE es seen).map Ent.me).toArray := by
    have hp : ((fun e : MapEntry => !seen.toArray.contains e.born) ∘ Ent.me) = fun e : Ent => !seen.contains e.b := by
      funext e
      show (!seen.toArray.contains e.b) = _
      rw [List.contains_toArray]
    rw [List.filter_toArray, List.filter_map, hp]; rfl
  have h1 : (((leftE es seen).map Ent.me).toArray.filter fun e => decide (e.born < clock)) = ((leftE es seen).map Ent.me).toArray := by
    apply Array.filter_eq_self.2
    intro e he
    simp [leftE] at he
    obtain ⟨x, ⟨hx1, _⟩, rfl⟩ := he
    exact decide_eq_true (hb x hx1)
  have h2 : (((leftE es seen).map Ent.me).toArray.filter fun e => decide (e.born ≥ clock)) = #[] := by
    apply Array.filter_eq_empty_iff.2
    intro e he
    simp [leftE] at he
    obtain ⟨x, ⟨hx1, _⟩, rfl⟩ := he
    have := hb x hx1
    simp [Ent.me]; omega
  have h3 : (!seen.toArray.isEmpty && !(es.map Ent.me).toArray.isEmpty && (es.map Ent.me).toArray.all (fun e => decide (e.born ≥ clock))) = false := by
    cases es with
    | nil => simp
    | cons e r =>
      have := hb e List.mem_cons_self
      have h4 : decide (e.b ≥ clock) = false := decide_eq_false (by omega)
      have h5 : (((e :: r).map Ent.me).toArray.all fun e => decide (e.born ≥ clock)) = false := by
        rw [List.all_toArray]
        simp only [List.map_cons, List.all_cons, Ent.me, h4, Bool.false_and]
      rw [h5, Bool.and_false]
  have key : (Instr.next (.pointer (some ⟨gi, 0, none⟩)) false o.type).run P w = (choose (.mapNext ((if ((leftE es seen).map Ent.me).toArray.isEmpty then #[none] else #[]) ++ (((leftE es seen).map Ent.me).toArray ++ #[]).map some).size) >>= fun idx =>
      match ((if ((leftE es seen).map Ent.me).toArray.isEmpty then #[none] else #[]) ++ (((leftE es seen).map Ent.me).toArray ++ #[]).map some)[idx]? with
      | some (some e) => (do setObj gi (.mapIter (some g) clock (seen.toArray.push e.born) clock); pure (.tuple #[.bool true, e.key, e.val]))
      | some none => pure (.tuple #[.bool false])
      | none => stuck "Next: no such candidate" : Sem Value).run P w := by
    have e1 : (Instr.next (.pointer (some ⟨gi, 0, none⟩)) false o.type) = (do
        match ← getObj gi, false with
        | .stringIter s pos, true =>
          if pos < s.size then
            let (c, width) := Utf8.decode s pos
            setObj gi (.stringIter s (pos + width))
            pure (.tuple #[.bool true, goInt pos, .int .i32 c])
          else pure (.tuple #[.bool false])
        | .mapIter none _ _ _, false => pure (.tuple #[.bool false])
        | .mapIter (some m) since seen last, false =>
          let .map es clock ← getObj m | stuck "Next: map expected"
          if !seen.isEmpty && !es.isEmpty && es.all (·.born ≥ last) then
            unsupported (.noEntry "instr/Next: every entry that the ranged map held at the last iteration is gone, and it holds new ones")
          let left := es.filter fun e => !seen.contains e.born
          let old := left.filter (·.born < since)
          let new := left.filter (·.born ≥ since)
          let candidates := (if old.isEmpty then #[none] else #[]) ++ (old ++ new).map some
          match candidates[← choose (.mapNext candidates.size)]? with
          | some (some e) =>
            setObj gi (.mapIter (some m) since (seen.push e.born) clock)
            pure (.tuple #[.bool true, e.key, e.val])
          | some none => pure (.tuple #[.bool false])
          | none => stuck "Next: no such candidate"
        | _, _ => stuck "Next: iterator of the other kind") := rfl
    rw [e1, Sem.run_bind, run_getIter hgi, Result.andThen_ok]
    simp only [iterO]
    rw [Sem.run_bind, run_getMap hg, Result.andThen_ok]
    simp only [mapO]
    rw [if_neg (by rw [h3]; decide), hold, h1, h2]
  have hex : ∀ r w', (Instr.next (.pointer (some ⟨gi, 0, none⟩)) false o.type).run P w = .ok r w' → (execOp ρ o).run P w = .ok (.value r) w' := fun r w' hr => by
    simp only [execOp, ho, hx, Sem.run_bind, hr, Result.andThen_ok, Sem.run_pure]
  cases hl : leftE es seen with
  | nil =>
    rw [hl] at key
    have hr : (Instr.next (.pointer (some ⟨gi, 0, none⟩)) false o.type).run P w = .ok (.tuple #[.bool false]) w := by
      rw [key]
      simp [choose, Sem.run, Question.forced]
    rw [hex _ _ hr]
    exact hover hl
  | cons e0 r0 =>
    rw [hl] at key
    have hcand : ((if (((e0 :: r0).map Ent.me).toArray.isEmpty = true) then #[none] else #[]) ++ (((e0 :: r0).map Ent.me).toArray ++ #[]).map some) = ((e0 :: r0).map fun e => some (Ent.me e)).toArray := by simp
    rw [hcand] at key
    have hsz : ((e0 :: r0).map fun e => some (Ent.me e)).toArray.size = r0.length + 1 := by simp
    rw [hsz] at key
    obtain ⟨idx, w1, hch, hlt, hbel⟩ : ∃ idx w1, (choose (.mapNext (r0.length + 1))).run P w = .ok idx w1 ∧ idx < r0.length + 1 ∧ Below w.heap.size w w1 := by
      by_cases hf : (Question.mapNext (r0.length + 1)).forced = true
      · exact ⟨0, w, by simp [choose, Sem.run, hf], by omega, Below.refl _ _⟩
      · exact ⟨_, w.drew, (by simp only [choose, Sem.run]; rw [if_neg hf]; rfl), (by simp only [Question.cut]; exact Nat.mod_lt _ (by omega)), (Below.refl _ _).drew⟩
    have hidx : ((e0 :: r0).map fun e => some (Ent.me e)).toArray[idx]? = some (some (Ent.me ((e0 :: r0)[idx]'(by simpa using hlt)))) := by
      rw [List.getElem?_toArray, List.getElem?_map, List.getElem?_eq_getElem (by simpa using hlt)]; rfl
    generalize he : (e0 :: r0)[idx]'(by simpa using hlt) = e at hidx
    have hmem : e ∈ leftE es seen := by rw [hl, ← he]; exact List.getElem_mem _
    have S1 := S.below hbel
    have hgi1 := S1.get i hi
    have hset := run_setIter (P := P) (o' := iterO g clock (seen ++ [e.b])) hgi1
    have hr : (Instr.next (.pointer (some ⟨gi, 0, none⟩)) false o.type).run P w = .ok (.tuple #[.bool true, .int .i64 e.k, e.v]) { w1 with heap := w1.heap.setIfInBounds gi (iterO g clock (seen ++ [e.b])) } := by
      rw [key, Sem.run_bind, hch, Result.andThen_ok, hidx]
      have e2 : Obj.mapIter (some g) clock (seen.toArray.push (Ent.me e).born) clock = iterO g clock (seen ++ [e.b]) := by simp [iterO, Ent.me]
      simp only [e2]
      rw [Sem.run_bind, hset, Result.andThen_ok]
      rfl
    rw [hex _ _ hr]
    exact hstep e _ hmem (S1.upd i hi (only_setObj w1 gi _) (heap_setObj hgi1))
/-- The entry at which the loop stands. -/
theorem gv_entry {x : Operand} {gi : Nat} {seen : List Nat} {e : Ent} (S : St F w0 w L) (i j : Nat) (hi : L[i]? = some (pt gi (iterO g clock (seen ++ [e.b])))) (hj : L[j]? = some (pt g (mapO es clock))) (ho : o.op = .entry x) (hx : ρ x = .pointer (some ⟨gi, 0, none⟩)) (he : e ∈ es) (hn : ∀ x ∈ es, x.b = e.b → x = e) (h : K (.tuple #[.int .i64 e.k, e.v]) w) : gives P K ((execOp ρ o).run P w) := by
  refine gv_val (w' := w) ?_ h
  have hgi := S.get i hi
  have hg := S.get j hj
  have hfind : (es.map Ent.me).find? (fun x => x.born == e.b) = some e.me := by
    rw [List.find?_map]
    cases hq : es.find? ((fun x => x.born == e.b) ∘ Ent.me) with
    | none =>
      have := List.find?_eq_none.1 hq e he
      simp [Ent.me] at this
    | some y =>
      have h1 := List.find?_some hq
      have h2 := List.mem_of_find?_eq_some hq
      simp only [Function.comp, Ent.me, beq_iff_eq] at h1
      rw [hn y h2 h1]; rfl
  simp only [execOp, ho, hx]
  simp [Instr.entry, run_getIter hgi, iterO, run_getMap hg, mapO, hfind]
  exact ⟨rfl, rfl⟩
end
end Go.Vel
