/- Small laws for walks over owned memory. -/
import Derived.Test.YtgelippmcflppaaHMap
import Derived.Test.YtgelippmcflppaaProg
open Go Go.RowKit Go.Proofs.YtgelippmcflppaaW.PrintWords Go.Proofs.YtgelippmcflppaaW.PrintMore
namespace Go.Vel
set_option linter.unusedVariables false
theorem wr_ok {x : Int} (h1 : -9223372036854775808 ≤ x) (h2 : x ≤ 9223372036854775807) : IntKind.i64.wrap x = x := by
  rw [IntKind.wrap_i64]; omega
theorem wr_eq {x y : Int} (h : x = y) (h1 : -9223372036854775808 ≤ y) (h2 : y ≤ 9223372036854775807) : IntKind.i64.wrap x = y := by
  subst h; exact wr_ok h1 h2
theorem mk_bytes (c : Nat) : madeCells (Value.int .u8 0).cells (c * 1) = bvs (List.replicate c 0) := by rw [Nat.mul_one]; exact madeCells_zero c
theorem results_cell1 {P : Program} {fn : Func} {p : Tmp} {ty : TypeId} (h : fn.results = #[.cell p ty]) (tmps : Array Value) {w : World} {g : Nat} {cs : Array Value} {t : TypeId} (hg : w.heap[g]? = some (.cells cs t (0, 0))) (hp : tmps.getD p undef = .pointer (some ⟨g, 0, none⟩)) (hT : aggB P ty cs.size = true) :
    (results fn tmps).run P w = .ok (.agg cs) w := by
  have hp' : tmps[p]?.getD undef = .pointer (some ⟨g, 0, none⟩) := by simpa using hp
  obtain ⟨h1, i, hi, hs⟩ := aggB_run hT w
  have hl := run_loadCells_list (P := P) w ⟨g, 0, none⟩ cs.toList (fun j v hv => by
    rw [Addr.add_lit, Nat.zero_add, cell_of_row w g j cs t (0, 0) hg]; simpa using hv)
  simp only [Array.length_toList, Array.toArray_toList] at hl
  simp [results, h, hp', asAddr, loadVar, h1, sizeOf, typeInfo, hi, hs, hl]
theorem results_t1 {P : Program} {fn : Func} {p : Tmp} (h : fn.results = #[.tmp p]) {tmps : Array Value} {w : World} {a : Value} (ha : tmps.getD p undef = a) : (results fn tmps).run P w = .ok a w := by
  rw [results_tmp h, ha]
theorem results_t2 {P : Program} {fn : Func} {p q : Tmp} (h : fn.results = #[.tmp p, .tmp q]) {tmps : Array Value} {w : World} {a b : Value} (ha : tmps.getD p undef = a) (hb : tmps.getD q undef = b) : (results fn tmps).run P w = .ok (.tuple #[a, b]) w := by
  rw [results_tmp2 h, ha, hb]
theorem results_tmp3 {P : Program} {fn : Func} {p q r : Tmp} (h : fn.results = #[.tmp p, .tmp q, .tmp r]) (tmps : Array Value) (w : World) {a b c : Value} (ha : tmps.getD p undef = a) (hb : tmps.getD q undef = b) (hc : tmps.getD r undef = c) :
    (results fn tmps).run P w = .ok (.tuple #[a, b, c]) w := by
  have ha' : tmps[p]?.getD undef = a := by simpa using ha
  have hb' : tmps[q]?.getD undef = b := by simpa using hb
  have hc' : tmps[r]?.getD undef = c := by simpa using hc
  simp [results, h, ha', hb', hc']
section
variable {P : Program} {o : Oper} {w : World} {ρ : Operand → Value} {K : Value → World → Prop} {e : TypeId} {sz : Nat}
theorem gv_ixB {T : TypeId} {x y : Operand} {ad ad' : Addr} {n c sz : Nat} {i : Int} {k : IntKind} (ho : o.op = .indexAddr T x y) (hT : P.underlying T = some (.slice e)) (hs : (P.info? e).map (·.size) = some sz) (hx : ρ x = .slice (some ad) n c) (hy : ρ y = .int k i) {j : Nat} (hi : i = (j : Int)) (hj : j < n) (ha : ad.add (j * sz) = ad') (h : K (.pointer (some ad')) w) : gives P K ((execOp ρ o).run P w) := by
  subst ha; exact gv_ixA ho hT hs hx hy hi hj h
theorem gv_ixE {T : TypeId} {x y : Operand} {g off n c sz off' : Nat} {i : Int} {k : IntKind} (ho : o.op = .indexAddr T x y) (hT : P.underlying T = some (.slice e)) (hs : (P.info? e).map (·.size) = some sz) (hx : ρ x = .slice (some ⟨g, off, none⟩) n c) (hy : ρ y = .int k i) {j : Nat} (hi : i = (j : Int)) (hj : j < n) (ha : off + j * sz = off') (h : K (.pointer (some ⟨g, off', none⟩)) w) : gives P K ((execOp ρ o).run P w) := by
  subst ha; exact gv_ix ho hT hs hx hy hi hj h
end
section
variable {F : Nat → Prop} {w0 w : World} {L LA LB : List Ast}
/-- One of several is looked at. -/
theorem St.mem {X : Ast} (S : St F w0 w L) (i : Nat) (hi : L[i]? = some X) : St F w0 w [X] := by
  have hl := (List.getElem?_eq_some_iff.1 hi).1
  have h := S.pick [i] (by simp) (by intro j hj; simp at hj; omega)
  simp only [List.map_cons, List.map_nil, List.getD_eq_getElem?_getD, hi, Option.getD_some] at h
  exact h
theorem St.star_join (S : St F w0 w (stars LA :: stars LB :: L)) : St F w0 w (stars (LA ++ LB) :: L) := by
  have h1 := S.flat
  obtain ⟨D1, D2, a1, a2, a3, a4, a5⟩ := h1.own.split
  obtain ⟨D3, D4, b1, b2, b3, b4, b5⟩ := Own.split (L1 := [stars LB]) (L2 := L) a2
  have h2 : Own (fun k => F k ∨ w0.heap.size ≤ k) w ((LA ++ LB) ++ L) := by
    have h3 := a1.append (b1.flat.append b2 fun i hi hj _ => b3 i hi hj) fun i hi hj _ => a3 i hi (hj.elim (b4 i) (b5 i))
    rw [← List.append_assoc] at h3
    exact h3.mono fun k hk _ => hk.elim (a4 k) (fun h => a5 k (h.elim (b4 k) (b5 k)))
  exact St.star ⟨S.fr, h2⟩
theorem St.swap {X Y : Ast} (S : St F w0 w (X :: Y :: L)) : St F w0 w (Y :: X :: L) := by
  obtain ⟨D1, D2, a1, a2, a3, a4, a5⟩ := Own.split (L1 := [X]) (L2 := Y :: L) S.own
  obtain ⟨D3, D4, b1, b2, b3, b4, b5⟩ := Own.split (L1 := [Y]) (L2 := L) a2
  have h3 := b1.append (a1.append b2 fun i hi hj _ => a3 i hi (b5 i hj)) fun i hi hj _ => hj.elim (fun h => a3 i h (b4 i hi)) (b3 i hi)
  exact ⟨S.fr, h3.mono fun k hk _ => hk.elim (fun h => a5 k (b4 k h)) (fun h => h.elim (a4 k) (fun h => a5 k (b5 k h)))⟩
/-- The parts ahead in another order, or fewer. -/
theorem St.permT (LA : List Ast) (idx : List Nat) (hn : idx.Nodup) (hb : (idx.all fun i => Nat.blt i LA.length) = true) (S : St F w0 w (LA ++ L)) : St F w0 w ((idx.map fun i => LA.getD i emp) ++ L) := by
  obtain ⟨D1, D2, a1, a2, a3, a4, a5⟩ := S.own.split
  exact ⟨S.fr, ((a1.pick idx hn (fun i hi => Nat.le_of_ble_eq_true (List.all_eq_true.1 hb i hi))).append a2 fun i hi hj _ => a3 i hi hj).mono fun k hk _ => hk.elim (a4 k) (a5 k)⟩
theorem St.fill {α : Type} {f : α → Ast} {l : List α} {x : α} (i : Nat) (hi : i < l.length) (S : St F w0 w (f x :: stars ((l.take i).map f) :: stars ((l.drop (i + 1)).map f) :: L)) : St F w0 w (stars ((l.set i x).map f) :: L) := by
  have e : l.set i x = l.take i ++ ([x] ++ l.drop (i + 1)) := by
    rw [List.set_eq_take_append_cons_drop]; simp [hi]
  rw [e, List.map_append, List.map_append]
  have h1 := S.swap
  obtain ⟨D1, D2, a1, a2, a3, a4, a5⟩ := Own.split (L1 := [stars ((l.take i).map f)]) h1.own
  have a2' : St F w0 w (f x :: stars ((l.drop (i + 1)).map f) :: L) := ⟨S.fr, a2.mono fun k hk _ => a5 k hk⟩
  have h3 := a1.append (L2 := stars ([x].map f ++ (l.drop (i + 1)).map f) :: L) (D2 := D2) ?_ fun i hi hj _ => a3 i hi hj
  · exact St.star_join ⟨S.fr, h3.mono fun k hk _ => hk.elim (a4 k) (a5 k)⟩
  · obtain ⟨D3, D4, b1, b2, b3, b4, b5⟩ := Own.split (L1 := [f x]) a2
    obtain ⟨D5, D6, c1, c2, c3, c4, c5⟩ := Own.split (L1 := [stars ((l.drop (i + 1)).map f)]) b2
    have h4 := (Own.star (b1.append c1.flat fun i hi hj _ => b3 i hi (c4 i hj))).append c2 fun i hi hj _ => hi.elim (fun h => b3 i h (c5 i hj)) (fun h => c3 i h hj)
    exact h4.mono fun k hk _ => hk.elim (fun h => h.elim (b4 k) (fun h => b5 k (c4 k h))) (fun h => b5 k (c5 k h))
theorem row_news {w : World} {g : Nat} {cs : Array Value} {t : TypeId} (h : Blk w g cs t) : ∀ j u, cs.toList[j]? = some u → w.cell? ((⟨g, 0, none⟩ : Addr).add j) = some u := fun j u hu => by
  rw [Addr.add_lit, Nat.zero_add, h.cell]; simpa using hu
theorem addr_add_add (a : Addr) (i j : Nat) : (a.add i).add j = a.add (i + j) := by
  unfold Addr.add
  by_cases h0 : i = 0
  · subst h0; simp
  · by_cases h1 : j = 0
    · subst h1; simp
    · have h2 : ¬ (i + j = 0) := by omega
      simp only [h0, h1, h2, if_false, Nat.add_assoc]
theorem RdB.at {w : World} {A : Option Addr} {l : List UInt8} (h : RdB w A l) {k : Nat} (hk : k < l.length) : ∃ ad, A = some ad := by
  obtain ⟨ad, e, _⟩ := h (by omega); exact ⟨ad, e⟩
theorem RdB.cell {w : World} {ad : Addr} {l : List UInt8} (h : RdB w (some ad) l) {k : Nat} (hk : k < l.length) : w.cell? (ad.add k) = some (.int .u8 ((l.getD k 0).toNat : Int)) := by
  obtain ⟨ad', e, hc⟩ := h (by omega)
  cases e
  refine hc k _ ?_
  rw [List.getElem?_map, List.getElem?_eq_getElem hk, List.getD_eq_getElem?_getD, List.getElem?_eq_getElem hk]; rfl
/-- Bytes that stay while what is owned ahead of L is turned. -/
structure RoT (F : Nat → Prop) (w0 : World) (L : List Ast) (A : Option Addr) (l : List UInt8) : Prop where
  out : ∀ w' L', St F w0 w' (L' ++ L) → RdB w' A l
theorem Ro.T {A : Option Addr} {l : List UInt8} (h : Ro F w0 A l) : RoT F w0 L A l := ⟨fun w' _ S => h.out w' S.fr⟩
theorem RoT.item {g : Nat} {B : List UInt8} {t : TypeId} (j : Nat) (hj : L[j]? = some (row g (bvs B) t)) (o n : Nat) (l : List UInt8) (hl : l = (B.drop o).take n) : RoT F w0 L (some ⟨g, o, none⟩) l := ⟨fun w' L' S => by
  have h1 : (L' ++ L)[L'.length + j]? = some (row g (bvs B) t) := by rw [List.getElem?_append_right (by omega)]; simpa using hj
  exact RdB.row (S.blk _ h1) o n l hl⟩
theorem RoT.now {A : Option Addr} {l : List UInt8} (h : RoT F w0 L A l) (S : St F w0 w L) : RdB w A l := h.out w [] S
theorem RoT.nil {A : Option Addr} : RoT F w0 L A [] := ⟨fun _ _ _ => RdB.nil⟩
theorem RoT.more {A : Option Addr} {l : List UInt8} {X : Ast} (h : RoT F w0 L A l) : RoT F w0 (X :: L) A l := ⟨fun w' L' S => h.out w' (L' ++ [X]) (by rw [List.append_assoc]; exact S)⟩
end
end Go.Vel
