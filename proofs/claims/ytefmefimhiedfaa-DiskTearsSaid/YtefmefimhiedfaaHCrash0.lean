/- What a power cut leaves: the plain law; the sort's contract on owned memory; a call through a closure. -/
import Derived.Test.YtefmefimhiedfaaHDskF
import Derived.Test.YtefmefimhiedfaaHSort
open Go Go.RowKit Go.Proofs.YtefmefimhiedfaaW.PrintWords Go.Proofs.YtefmefimhiedfaaW.PrintMore
namespace Go.Vel
/-- Cells that can be read. -/
def RdV (w : World) (A : Option Addr) (vs : List Value) : Prop := 0 < vs.length → ∃ ad, A = some ad ∧ ∀ j u, vs[j]? = some u → w.cell? (ad.add j) = some u
structure RoV (F : Nat → Prop) (w0 : World) (L : List Ast) (A : Option Addr) (vs : List Value) : Prop where
  out : ∀ w' L', St F w0 w' (L' ++ L) → RdV w' A vs
section
variable {F : Nat → Prop} {w0 w : World} {L : List Ast}
theorem RoV.more {A : Option Addr} {l : List Value} {X : Ast} (h : RoV F w0 L A l) : RoV F w0 (X :: L) A l := ⟨fun w' L' S => h.out w' (L' ++ [X]) (by rw [List.append_assoc]; exact S)⟩
theorem RoV.item {g : Nat} {vs : List Value} {t : TypeId} (j : Nat) (hj : L[j]? = some (row g vs.toArray t)) : RoV F w0 L (some ⟨g, 0, none⟩) vs := ⟨fun w' L' S _ => by
  have h1 : (L' ++ L)[L'.length + j]? = some (row g vs.toArray t) := by rw [List.getElem?_append_right (by omega)]; simpa using hj
  exact ⟨_, rfl, fun k u hu => by rw [Addr.add_lit, Nat.zero_add, (S.blk _ h1).cell]; simpa using hu⟩⟩
theorem RoV.cells {ad : Addr} {vs us : List Value} (h : RdV w (some ad) vs) (k : Nat) (hk : ∀ j u, us[j]? = some u → vs[k + j]? = some u) (h0 : 0 < us.length) : ∀ j u, us[j]? = some u → w.cell? ((ad.add k).add j) = some u := fun j u hu => by
  have h1 : 0 < vs.length := by
    obtain ⟨u0, hu0⟩ : ∃ u0, us[0]? = some u0 := ⟨_, List.getElem?_eq_getElem h0⟩
    have := (List.getElem?_eq_some_iff.1 (hk 0 u0 hu0)).1; omega
  obtain ⟨ad', e, hc⟩ := h h1
  cases e
  rw [addr_add_add]; exact hc _ u (hk j u hu)
end
section
variable {P : Program} {o : Oper} {w : World} {ρ : Operand → Value} {K : Value → World → Prop}
theorem gv_callC {f : FuncId} {y : Operand} {xs : Array Operand} {ts : Array TypeId} {fn : Func} {c : Code} {args caps : Array Value} (ho : o.op = .call { callee := .value y, args := xs, argTypes := ts }) (hf : P.funcs[f]? = some fn) (hname : (fn.name == "runtime.NumGoroutine") = false) (hb : fn.body = some c) (hρ : ρ y = .func (.func f) #[] caps)
    (hx : xs.map ρ ++ caps = args) (h : Calls P f args w fun e w'' => ∃ v, e = .returned v ∧ K v w'') : gives P K ((execOp ρ o).run P w) := by
  subst hx
  have h1 : fn.name ≠ "runtime.NumGoroutine" := by simpa using hname
  have e : (execOp ρ o).run P w = .ok (.enter f (xs.map ρ ++ caps)) w := by
    simp only [execOp, ho, resolve, hρ]
    simp [Deferred.ofValue, invoke, callFunc, hf, h1, hb]
  rw [e]; exact h
end
end Go.Vel
namespace Go.Proofs
open Go.Vel
set_option linter.unusedVariables false
/-- The sort, of a list that is owned. -/
theorem sort_own {F : Nat → Prop} {w0 w : World} {L : List Ast} {v : Value} {n : Nat} {zs : List Int} (S : St F w0 w (vec 3 1 v n (zs.map (Value.int .i64)) :: L)) (hsz : n < 4611686018427387904) :
    Calls Try.prog 70 #[v] w fun e w' => e = .returned (.tuple #[]) ∧ St F w0 w' (vec 3 1 v n ((zs.mergeSort fun x y => decide (x ≤ y)).map (Value.int .i64)) :: L) := by
  have hlen := S.vec_len
  rw [List.length_map, Nat.mul_one] at hlen
  subst hlen
  rcases S.vec_cases with ⟨rfl, h0, _, S1⟩ | ⟨g, c, junk, rfl, hc, _, hj, S1⟩
  · have hz : zs = [] := List.eq_nil_of_length_eq_zero h0
    subst hz
    refine (Try.slices_Sort_int_none none 0 w).mono ?_
    rintro _ _ ⟨rfl, rfl⟩
    exact ⟨rfl, by rw [List.mergeSort_nil]; exact St.vec_nil S1⟩
  · have hb := S1.blk 0 rfl
    have hg := S1.get 0 rfl
    have hsz' : g < w.heap.size := lt_of_some hg
    have hH : Go.Sort.Holds (Value.int .i64) w g 0 zs.toArray := fun j hj => by
      have hj' : j < zs.length := by simpa using hj
      refine ⟨?_, ?_⟩
      · rw [Nat.zero_add, hb.cell, List.getElem?_toArray, List.getElem?_append_left (by simpa using hj'), List.getElem?_map, List.getElem?_eq_getElem hj']
        simp [hj']
      · simp [World.frozen?, hg]
    refine (Try.slices_Sort_int g 0 c zs w hH hsz' hsz).mono ?_
    rintro _ _ ⟨rfl, k, os, rfl⟩
    refine ⟨rfl, ?_⟩
    have hsl : (zs.mergeSort fun x y => decide (x ≤ y)).length = zs.length := List.length_mergeSort _
    generalize hw1 : Go.Sort.putRow (Value.int .i64) (Go.Sort.ahead w k) g 0 (zs.mergeSort fun x y => decide (x ≤ y)).toArray = w1
    have hnew : w1.heap[g]? = some (.cells (((zs.mergeSort fun x y => decide (x ≤ y)).map (Value.int .i64)) ++ junk).toArray 3 (0, 0)) := by
      subst hw1
      simp only [Go.Sort.putRow, Go.Sort.mapBlock, Go.Sort.ahead]
      rw [Array.getElem?_modify, if_pos rfl, hg]
      simp only [Option.map_some, Go.Sort.onCells]
      congr 2
      apply Array.ext_getElem?
      intro i
      simp only [Go.Sort.putCells, Array.getElem?_mapIdx, List.getElem?_toArray]
      by_cases hi : i < zs.length
      · rw [List.getElem?_append_left (by simpa using hi), List.getElem?_append_left (by rw [List.length_map, hsl]; exact hi), List.getElem?_map, List.getElem?_map, List.getElem?_eq_getElem hi, List.getElem?_eq_getElem (by rw [hsl]; exact hi)]
        simp [hi, hsl]
      · rw [List.getElem?_append_right (by simpa using hi), List.getElem?_append_right (by rw [List.length_map, hsl]; omega), List.length_map, List.length_map, hsl]
        cases hq : junk[i - zs.length]? with
        | none => rfl
        | some y => simp [hsl, hi]
    have hO : Only g w w1 := by
      subst hw1
      refine ⟨rfl, rfl, rfl, by simp, fun i hne => ?_⟩
      simp only [Go.Sort.putRow, Go.Sort.mapBlock, Go.Sort.ahead]
      rw [Array.getElem?_modify, if_neg (Ne.symm hne)]
    have S2 := S1.upd (g := g) 0 rfl hO hnew
    have S3 := S2.below (w' := Go.Sort.grow w1 os) ⟨rfl, rfl, rfl, by simp, fun i hi => by simp only [Go.Sort.grow]; rw [Array.getElem?_append_left hi]⟩
    exact St.vec_mk S3 hc (by rw [List.length_map, hsl, Nat.mul_one]) (by rw [List.length_append, List.length_map, hsl, ← hj, List.length_append, List.length_map])
/-! What a cut leaves. -/
/-- A pick: which content gives the first bytes, which the others, how many. -/
abbrev Pick := Int × Int × Int
def tornS (l : List (List UInt8)) (p : Pick) : List UInt8 := (l.getD (p.1.toNat % l.length) []).take (p.2.2.toNat % 513) ++ (l.getD (p.2.1.toNat % l.length) []).drop (p.2.2.toNat % 513)
def candS (s : Dsk) (a : Nat) : List (List UInt8) := s.last.getD a [] :: pendOf s a
def pickAt (ps : List Pick) (k : Nat) : Pick := if ps.length = 0 then (0, 0, 0) else ps.getD (k % ps.length) (0, 0, 0)
/-- The sectors below a with something pending, in order. -/
def keysTo (s : Dsk) (a : Nat) : List Nat := (List.range a).filter fun a => !(pendOf s a).isEmpty
def crashKeys (s : Dsk) : List Nat := keysTo s s.last.length
def outOf (s : Dsk) (ps : List Pick) (k : Nat) (a : Nat) : Nat × List UInt8 := (a, tornS (candS s a) (pickAt ps k))
def crashOuts (s : Dsk) (ps : List Pick) : List (Nat × List UInt8) := (crashKeys s).mapIdx (outOf s ps)
def Dsk.crashR (s : Dsk) (ps : List Pick) : Dsk := { s with last := applyP s.last (crashOuts s ps), pend := [], left := -1, life := inc s.life }
def pickCells (p : Pick) : List Value := [.int .i64 p.1, .int .i64 p.2.1, .int .i64 p.2.2]
def picksV (ps : List Pick) : List Value := ps.flatMap pickCells
theorem length_picksV (ps : List Pick) : (picksV ps).length = ps.length * 3 := by
  induction ps with
  | nil => rfl
  | cons p r ih => simp [picksV, pickCells] at ih ⊢; omega
theorem picksV_at : ∀ (ps : List Pick) (i : Nat) (p : Pick), ps[i]? = some p → ∀ j u, (pickCells p)[j]? = some u → (picksV ps)[i * 3 + j]? = some u
  | [], i, p, h, _, _, _ => by simp at h
  | q :: r, 0, p, h, j, u, hu => by
    simp at h; subst h
    have := (List.getElem?_eq_some_iff.1 hu).1
    show ((pickCells q ++ picksV r))[0 * 3 + j]? = some u
    rw [List.getElem?_append_left (by omega)]; simpa using hu
  | q :: r, i + 1, p, h, j, u, hu => by
    have ih := picksV_at r i p (by simpa using h) j u hu
    show ((pickCells q ++ picksV r))[(i + 1) * 3 + j]? = some u
    rw [List.getElem?_append_right (by simp [pickCells]; omega)]
    simpa [pickCells, show (i + 1) * 3 + j - 3 = i * 3 + j from by omega] using ih
theorem tornS_len {l : List (List UInt8)} {p : Pick} (h : ∀ x ∈ l, x.length = 512) (h0 : l ≠ []) : (tornS l p).length = 512 := by
  have hl := List.length_pos_iff.2 h0
  have key : ∀ m, (l.getD (m % l.length) []).length = 512 := fun m => by
    have hm : m % l.length < l.length := Nat.mod_lt _ hl
    rw [List.getD_eq_getElem?_getD, List.getElem?_eq_getElem hm]
    exact h _ (List.getElem_mem hm)
  have hm : p.2.2.toNat % 513 < 513 := Nat.mod_lt _ (by decide)
  unfold tornS
  rw [List.length_append, List.length_take, List.length_drop, key, key]; omega
theorem keysTo_mem {s : Dsk} {a x : Nat} : x ∈ keysTo s a ↔ x < a ∧ pendOf s x ≠ [] := by
  simp [keysTo, List.mem_filter]
theorem keysTo_lt (s : Dsk) (a : Nat) : (keysTo s a).Pairwise (· < ·) := List.Pairwise.filter _ List.pairwise_lt_range
theorem keysTo_succ (s : Dsk) (a : Nat) : keysTo s (a + 1) = keysTo s a ++ (if (pendOf s a).isEmpty then [] else [a]) := by
  unfold keysTo
  rw [List.range_succ, List.filter_append]
  cases h : (pendOf s a).isEmpty <;> simp [h]
theorem keysTo_len (s : Dsk) : ∀ a, (keysTo s a).length ≤ a
  | 0 => Nat.le_refl 0
  | a + 1 => by
    have := keysTo_len s a
    rw [keysTo_succ, List.length_append]
    split <;> simp <;> omega
theorem applyP_getD : ∀ (ps : List (Nat × List UInt8)) (l : List (List UInt8)) (a : Nat), (∀ x ∈ ps, x.1 ≠ a) → (applyP l ps).getD a [] = l.getD a []
  | [], _, _, _ => rfl
  | x :: r, l, a, h => by
    unfold applyP; rw [List.foldl_cons]
    refine (applyP_getD r _ a fun y hy => h y (List.mem_cons_of_mem _ hy)).trans ?_
    rw [List.getD_eq_getElem?_getD, List.getElem?_set_ne (h x List.mem_cons_self), ← List.getD_eq_getElem?_getD]
section
variable {s : Dsk} {clock : Nat} {es : List PEnt} {fused : Bool} {left : Int}
theorem PFacts.cand_len (h : PFacts s clock es fused left) {a : Nat} (ha : a < s.last.length) : ∀ x ∈ candS s a, x.length = 512 := fun x hx => by
  rcases List.mem_cons.1 hx with rfl | hx
  · exact h.len _ (List.mem_of_getElem? (mem_getD ha))
  · unfold pendOf at hx
    obtain ⟨y, hy, rfl⟩ := List.mem_map.1 hx
    exact (h.plen y (List.mem_filter.1 hy).1).1
theorem PFacts.out_len (h : PFacts s clock es fused left) (ps : List Pick) : ∀ x ∈ crashOuts s ps, x.2.length = 512 := fun x hx => by
  unfold crashOuts at hx
  obtain ⟨i, hi, rfl⟩ := List.mem_mapIdx.1 hx
  refine tornS_len (h.cand_len ?_) (by simp [candS])
  have : (crashKeys s)[i] ∈ crashKeys s := List.getElem_mem hi
  exact (keysTo_mem.1 this).1
theorem PFacts.key_mem (h : PFacts s clock es fused left) {a : Nat} : a ∈ crashKeys s ↔ ∃ p ∈ es, p.at_ = a := by
  rw [crashKeys, keysTo_mem]
  constructor
  · rintro ⟨_, hp⟩
    rcases h.find a with ⟨h1, _⟩ | ⟨j, p, hj, hat, _⟩
    · exact absurd h1 hp
    · exact ⟨p, List.mem_of_getElem? hj, hat⟩
  · rintro ⟨p, hp, rfl⟩
    obtain ⟨j, _, _, _, _, hk, hne, _, _⟩ := h.find_mem hp
    refine ⟨hk, fun e => hne ?_⟩
    have := h.ws p hp
    rw [e] at this
    exact List.map_eq_nil_iff.1 this
/-- The keys that were collected, sorted. -/
theorem PFacts.sorted (h : PFacts s clock es fused left) {ps : List PEnt} (hps : ∀ p ∈ ps, p ∈ es) (hnd : (ps.map (·.b)).Nodup) (hl : leftE (es.map PEnt.ent) (ps.map (·.b)) = []) :
    ((ps.map fun p => ((p.at_ : Nat) : Int)).mergeSort fun x y => decide (x ≤ y)) = (crashKeys s).map fun a => ((a : Nat) : Int) := by
  have hall : ∀ p ∈ es, p ∈ ps := fun p hp => by
    have h1 : p.ent ∉ leftE (es.map PEnt.ent) (ps.map (·.b)) := by rw [hl]; exact List.not_mem_nil
    have h2 : (ps.map (·.b)).contains p.b = true := by
      cases hq : (ps.map (·.b)).contains p.b with
      | true => rfl
      | false => exact absurd (List.mem_filter.2 ⟨List.mem_map.2 ⟨p, hp, rfl⟩, by show (!(ps.map (·.b)).contains p.b) = true; rw [hq]; rfl⟩) h1
    obtain ⟨q, hq, hb⟩ := List.mem_map.1 (List.contains_iff_mem.1 h2)
    have : q = p := h.injB (hps q hq) hp hb
    exact this ▸ hq
  have hpn : ps.Nodup := List.Pairwise.of_map (·.b) (fun a b hne e => hne (congrArg _ e)) hnd
  have hen : es.Nodup := List.Pairwise.of_map (·.b) (fun a b hne e => hne (congrArg _ e)) h.bornN
  have p1 : ps.Perm es := (List.perm_ext_iff_of_nodup hpn hen).2 fun p => ⟨hps p, hall p⟩
  have p2 : (es.map (·.at_)).Perm (crashKeys s) := (List.perm_ext_iff_of_nodup h.keyN ((keysTo_lt s _).imp fun hab => Nat.ne_of_lt hab)).2 fun a => by
    refine Iff.trans ?_ (h.key_mem (a := a)).symm; simp
  have p3 : (ps.map fun p => ((p.at_ : Nat) : Int)).Perm ((crashKeys s).map fun a => ((a : Nat) : Int)) := by
    have q1 := (p1.map (fun p => p.at_)).trans p2
    have q2 := q1.map (fun a => ((a : Nat) : Int))
    rwa [List.map_map] at q2
  refine List.Perm.eq_of_pairwise (le := fun x y => x ≤ y) (fun a b _ _ h1 h2 => Int.le_antisymm h1 h2) ?_ ?_ ((List.mergeSort_perm _ _).trans p3)
  · refine (List.pairwise_mergeSort (le := fun x y => decide (x ≤ y)) (fun a b c h1 h2 => ?_) (fun a b => ?_) _).imp fun hab => of_decide_eq_true hab
    · have e1 := of_decide_eq_true h1; have e2 := of_decide_eq_true h2
      exact decide_eq_true (Int.le_trans e1 e2)
    · simp; omega
  · exact List.Pairwise.map _ (fun a b hab => by show ((a : Nat) : Int) ≤ ((b : Nat) : Int); omega) (keysTo_lt s _)
theorem out_take {s : Dsk} {ps : List Pick} {k a : Nat} (hk : (crashKeys s)[k]? = some a) : (crashOuts s ps).take (k + 1) = (crashOuts s ps).take k ++ [outOf s ps k a] := by
  have e : (crashOuts s ps)[k]? = some (outOf s ps k a) := by unfold crashOuts; rw [List.getElem?_mapIdx, hk]; rfl
  rw [List.take_add_one, e]; rfl
theorem out_fst {s : Dsk} {ps : List Pick} {k a : Nat} (hk : (crashKeys s)[k]? = some a) : ∀ x ∈ (crashOuts s ps).take k, x.1 ≠ a := fun x hx => by
  obtain ⟨i, hi, rfl⟩ := List.mem_take_iff_getElem.1 hx
  have hi2 : i < (crashKeys s).length := by simp [crashOuts] at hi; omega
  simp only [crashOuts, List.getElem_mapIdx, outOf]
  have hlt := List.pairwise_iff_getElem.1 (keysTo_lt s s.last.length) i k hi2 (List.getElem?_eq_some_iff.1 hk).1 (by omega)
  have e2 : (keysTo s s.last.length)[k]'(List.getElem?_eq_some_iff.1 hk).1 = a := (List.getElem?_eq_some_iff.1 hk).2
  rw [e2] at hlt
  exact Nat.ne_of_lt hlt
end
end Go.Proofs
