/- Laws of the walk for arrays of structs, shifts, appends where there is room; prefixes of lists of bytes; numbers as bytes. -/
import Derived.Test.YtgelippmcflppaaHLift
import Derived.Test.YtgelippmcflppaaVMake
import Derived.Test.YtgelippmcflppaaHReg
open Go Go.RowKit Go.Proofs.YtgelippmcflppaaW.PrintWords Go.Proofs.YtgelippmcflppaaW.PrintMore
namespace Go.Vel
set_option linter.unusedVariables false
section
variable {P : Program} {ops : Array Oper} {rest : List Oper} {o : Oper} {a : Act} {w w0 : World} {F : Nat → Prop} {L : List Ast} {ρ : Operand → Value} {K : Value → World → Prop} {e : TypeId} {sz n : Nat} {v : Value} {vals : List Value}
theorem gv_ixArr {T : TypeId} {x y : Operand} {g off N : Nat} {k : IntKind} {i : Int} {j off' : Nat} (ho : o.op = .indexAddr T x y) (hT : P.underlying T = some (.array (P.arrayLen T) (P.elem T))) (hN : P.arrayLen T = N) (hs : (P.info? (P.elem T)).map (·.size) = some sz) (hx : ρ x = .pointer (some ⟨g, off, none⟩)) (hy : ρ y = .int k i) (hi : i = (j : Int)) (hj : j < N) (hf : off' = off + j * sz) (h : K (.pointer (some ⟨g, off', none⟩)) w) : gives P K ((execOp ρ o).run P w) := by
  subst hi hf hN
  refine gv_val (w' := w) ?_ h
  cases hq : P.info? (P.elem T) with
  | none => simp [hq] at hs
  | some ie =>
    have he : ie.size = sz := by simpa [hq] using hs
    simp only [execOp, ho, hx, hy]
    simp [run_indexAt_array _ _ _ _ _ hT, sizeOf, typeInfo, hq, he, hj, Addr.add_lit]
/-- append where there is room, to a slice that begins its block; of no elements too. -/
theorem gv_appendB {s x : Operand} {t : TypeId} {g n c m c' : Nat} {A : Option Addr} {X l : List UInt8} (S : St F w0 w L) (i : Nat) (hi : L[i]? = some (row g (bvs X) e)) (ho : o.op = .call { callee := .builtin .append, args := #[s, x], argTypes := #[t, t] }) (ht : P.underlying t = some (.slice e)) (hinfo : (P.info? e).map (·.size) = some 1)
    (hs : ρ s = .slice (some ⟨g, 0, none⟩) n c) (hx : ρ x = .slice A m c') (hm : m = l.length) (hr : RdB w A l) (hroom : n + l.length ≤ c) (hL : X.length = c) {n' : Nat} (hn' : n' = n + l.length)
    {L' : List Ast} (hL' : L.set i (row g (bvs (splice X n l)) e) = L') (h : ∀ w', St F w0 w' L' → K (.slice (some ⟨g, 0, none⟩) n' c) w') : gives P K ((execOp ρ o).run P w) := by
  subst hm hn'
  obtain ⟨ie, hie, hz⟩ := Option.map_eq_some_iff.1 hinfo
  have hB := S.blk i hi
  by_cases h0 : l.length = 0
  · have hl0 : l = [] := List.eq_nil_of_length_eq_zero h0
    subst hl0
    have hsp : splice X n [] = X := by simp [splice]
    rw [hsp] at hL'
    have hset : L.set i (row g (bvs X) e) = L := by
      apply List.ext_getElem?
      intro k
      rw [List.getElem?_set]
      split
      · rename_i hk
        subst hk
        rw [hi, if_pos (List.getElem?_eq_some_iff.1 hi).1]
      · rfl
    rw [hset] at hL'
    subst hL'
    refine gv_val (w' := w) (v := .slice (some ⟨g, 0, none⟩) n c) ?_ (by simpa using h w S)
    have hroom' : n ≤ c := by simpa using hroom
    cases A with
    | none => simp [execOp, ho, resolve, invoke, builtin, hs, hx, Builtin.append_, run_underlying ht, sizeOf, typeInfo, hie, Builtin.lenOf, hroom', Builtin.firstCells, storeCells]
    | some ad =>
      have hrun := run_append_room_cells (P := P) w t o.type e ie ht hie g 0 n c ad 0 c' [] (by simp) (by simp) (by simp) (by omega) (by simp) (by simp)
      simp [execOp, ho, resolve, invoke, builtin, hs, hx, hrun, World.setCells]
  · obtain ⟨ad, rfl, hcs⟩ := hr (by omega)
    have hrun := run_append_room_cells (P := P) w t o.type e ie ht hie g 0 n c ad l.length c' (l.map bv) (by simp [hz]) hcs (map_bv_one l) hroom
      (fun j hj => by
        rw [hz, Nat.mul_one, Nat.zero_add, hB.cell, Array.getElem?_eq_getElem (by rw [size_bvs]; simp at hj; omega)]; rfl)
      (fun j hj => hB.frozen _)
    rw [hz, Nat.mul_one, Nat.zero_add] at hrun
    obtain ⟨cur', h3, h4, h5⟩ := setCells_row (l.map bv) n w (bvs X) hB.out (by rw [size_bvs]; simp; omega)
    have hcur : cur' = bvs (splice X n l) := by
      apply Array.ext'
      rw [h5]
      simp [bvs, splice, List.map_take, List.map_drop]
    rw [hcur] at h3
    obtain ⟨q1, q2, q3, q4⟩ := setCells_same g (l.map bv) n w
    subst hL'
    refine gv_val (w' := w.setCells g n (l.map bv)) (v := .slice (some ⟨g, 0, none⟩) (n + l.length) c) ?_ (h _ (S.upd i hi ⟨q1, q2, q3, q4, fun k hk => setCells_far _ _ k hk⟩ h3))
    simp [execOp, ho, resolve, invoke, builtin, hs, hx, hrun]
/-- A shift to the right by a number that is a Nat. -/
theorem gv_shr {x y : Operand} {T U : TypeId} {k yk : IntKind} {z i : Int} {j : Nat} {z' : Int} (ho : o.op = .binOp .shr T x y U) (hx : ρ x = .int k z) (hy : ρ y = .int yk i) (hi : i = (j : Int)) (hj : j ≤ k.bits) (hz : z' = z / 2 ^ j) (h : K (.int k z') w) : gives P K ((execOp ρ o).run P w) := by
  subst hi hz
  refine gv_val (w' := w) ?_ h
  have hf : z.fdiv (2 ^ j) = z / 2 ^ j := Int.fdiv_eq_ediv_of_nonneg _ (Int.pow_nonneg (by decide))
  have hn : ¬ ((j : Int) < 0) := by omega
  have hm : min j k.bits = j := Nat.min_eq_left hj
  simp only [execOp, ho, hx, hy]
  simp [binOp, eqGuard, Op.shift, hn, hm, hf]
theorem RoT.ofVec {t : TypeId} {A : Option Addr} {l : List UInt8} {n c : Nat} (i : Nat) (hi : L[i]? = some (vec t 1 (.slice A n c) n (l.map bv))) : RoT F w0 L A l := ⟨fun w' L' S => by
  have h1 : (L' ++ L)[L'.length + i]? = some (vec t 1 (.slice A n c) n (l.map bv)) := by rw [List.getElem?_append_right (by omega)]; simpa using hi
  have S1 := S.mem _ h1
  intro h0
  have hl := S1.vec_len
  rw [List.length_map] at hl
  obtain ⟨g, c2, junk, hv, _, h3, _, S2⟩ := S1.vec_open (by omega)
  have hB := S2.blk 0 rfl
  simp at hv
  refine ⟨⟨g, 0, none⟩, hv.1, fun j u hu => ?_⟩
  rw [Addr.add_lit, Nat.zero_add, hB.cell, List.getElem?_toArray, List.getElem?_append_left (List.getElem?_eq_some_iff.1 hu).1]; exact hu⟩
theorem St.vecV {t : TypeId} {sz n : Nat} {v : Value} {vals : List Value} (S : St F w0 w L) (i : Nat) (hi : L[i]? = some (vec t sz v n vals)) : ∃ A c, v = .slice A n c := (S.mem i hi).vec_val
end
/-- The first i bytes; zeros where the list has ended. -/
def pre (l : List UInt8) (i : Nat) : List UInt8 := (List.range i).map fun j => l.getD j 0
theorem length_pre (l : List UInt8) (i : Nat) : (pre l i).length = i := by simp [pre]
theorem pre_succ (l : List UInt8) (i : Nat) : (pre l i).map bv ++ [Value.int .u8 ((l.getD i 0).toNat : Int)] = (pre l (i + 1)).map bv := by
  unfold pre
  rw [List.range_succ, List.map_append, List.map_append]; rfl
theorem pre_take {l : List UInt8} {i : Nat} (h : i ≤ l.length) : pre l i = l.take i := by
  apply List.ext_getElem?
  intro k
  unfold pre
  rw [List.getElem?_map, List.getElem?_take]
  by_cases hk : k < i
  · rw [List.getElem?_range hk, if_pos hk, List.getElem?_eq_getElem (by omega), Option.map_some, List.getD_eq_getElem?_getD, List.getElem?_eq_getElem (by omega)]; rfl
  · rw [List.getElem?_eq_none (by simpa using hk), if_neg hk]; rfl
theorem pre_all (l : List UInt8) : pre l l.length = l := by rw [pre_take (Nat.le_refl _), List.take_length]
theorem getD_past {l : List UInt8} {i : Nat} (h : l.length ≤ i) : ((l.getD i 0).toNat : Int) = 0 := by rw [List.getD_eq_getElem?_getD, List.getElem?_eq_none h]; rfl
theorem wrap_u8 (z : Int) : IntKind.u8.wrap z = ((UInt8.ofNat (z % 256).toNat).toNat : Int) := by
  rw [UInt8.toNat_ofNat', IntKind.wrap_u8]
  have h1 := Int.emod_nonneg z (show (256 : Int) ≠ 0 by decide)
  have h2 := Int.emod_lt_of_pos z (show (0 : Int) < 256 by decide)
  omega
end Go.Vel
