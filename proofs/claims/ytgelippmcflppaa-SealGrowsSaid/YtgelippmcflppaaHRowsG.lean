/- How a law's arguments open, without the print's words: numbers, lists of anything, structs of one-cell fields; an anchor. -/
import Derived.Test.YtgelippmcflppaaHRows
import Derived.Test.YtgelippmcflppaaHRdv
open Go Go.RowKit Go.Deep Go.Proofs.YtgelippmcflppaaW.PrintWords
namespace Go.Vel
/-- Whatever is read as type t has cells of which Q holds. -/
def Opn {H : Type} (enc : TypeId × Value → H) (P : Program) (W : World) (t : TypeId) (Q : List Value → Prop) : Prop :=
  ∀ fuel cs x, DataW.trod enc P W 0 (fun _ => true) true fuel t cs = some x → (∀ n ∈ x.1.weights P t, n ≤ reachBytes) → Q cs
theorem flatten_get {sz : Nat} : ∀ {els : List (List Value)} {j : Nat} {u : Value}, (∀ e ∈ els, e.length = sz) → els.flatten[j]? = some u → ∃ i r e, j = i * sz + r ∧ els[i]? = some e ∧ e[r]? = some u
  | [], j, u, _, h => by simp at h
  | e :: l, j, u, hl, h => by
    have he := hl e List.mem_cons_self
    rw [List.flatten_cons] at h
    by_cases hj : j < e.length
    · rw [List.getElem?_append_left hj] at h
      exact ⟨0, j, e, by rw [Nat.zero_mul, Nat.zero_add], rfl, h⟩
    · rw [List.getElem?_append_right (by omega)] at h
      obtain ⟨i, r, e', h1, h2, h3⟩ := flatten_get (fun y hy => hl y (List.mem_cons_of_mem _ hy)) h
      exact ⟨i + 1, r, e', by rw [Nat.add_mul, Nat.one_mul]; omega, by simpa using h2, h3⟩
theorem all_map {α : Type} {f : α → List Value} {Q : α → Prop} : ∀ {els : List (List Value)}, (∀ e ∈ els, ∃ a, e = f a ∧ Q a) → ∃ l : List α, els = l.map f ∧ ∀ a ∈ l, Q a
  | [], _ => ⟨[], rfl, fun a h => by cases h⟩
  | e :: r, h => by
    obtain ⟨a, rfl, ha⟩ := h e List.mem_cons_self
    obtain ⟨l, rfl, hl⟩ := all_map fun y hy => h y (List.mem_cons_of_mem _ hy)
    exact ⟨a :: l, rfl, fun b hb => (List.mem_cons.1 hb).elim (fun e => e ▸ ha) (hl b)⟩
section
variable {H : Type} {enc : TypeId × Value → H} {P : Program} {W : World}
theorem Opn.int {t : TypeId} {k : IntKind} (ht : P.underlying t = some (.int k)) : Opn enc P W t (fun cs => ∃ n, cs = [.int k n] ∧ (Lit.int k n).wf = true) := by
  intro fuel cs x h _
  obtain ⟨n, e, _, hw⟩ := DataW.trod_int ht h
  exact ⟨n, e, hw⟩
/-- What a list's cell says. -/
def LstQ (W : World) (B : Nat) (Q : List Value → Prop) (cs : List Value) : Prop := ∃ (A : Option Addr) (c : Nat) (els : List (List Value)), cs = [.slice A els.length c] ∧ els.length ≤ c ∧ els.length ≤ maxLen ∧ els.length * B ≤ reachBytes ∧ (∀ e ∈ els, Q e) ∧ RdV W A els.flatten
theorem Opn.slice {t e : TypeId} {Q : List Value → Prop} {B : Nat} (ht : P.underlying t = some (.slice e)) (hd : Opn enc P W e Q) (hB : P.bytesOf e = B) : Opn enc P W t (LstQ W B Q) := by
  intro fuel cs x h hw
  rcases open_slice ht h with ⟨rfl, _⟩ | ⟨a, len, cap, m, n, D, Pl, rfl, _, hl, hm, hmm, hx, he⟩
  · exact ⟨none, 0, [], rfl, Nat.le_refl _, Nat.zero_le _, by simp, fun x hx => (by cases hx), fun h => absurd h (Nat.lt_irrefl 0)⟩
  · rw [if_pos rfl] at hmm
    subst hmm
    have hw1 : ∀ n ∈ ((((List.range len).map D).length * P.bytesOf e + ((List.range (m - len)).map fun j => D (len + j)).length * P.bytesOf e) :: (DataW.weightsAll P e ((List.range len).map D) ++ DataW.weightsAll P e ((List.range (m - len)).map fun j => D (len + j))) : List Nat), n ≤ reachBytes := by
      rw [hx] at hw
      simp only [DataW.weights, ht] at hw
      rw [Nat.add_mul] at hw
      exact hw
    have hfirst := hw1 _ List.mem_cons_self
    have hex : ∀ i, i < len → ∃ cs', W.cells? 0 (a.add (i * P.cellsOf e)) (P.cellsOf e) = some cs' ∧ Q cs' := by
      intro i hi
      obtain ⟨cs', h1, h2⟩ := he i (by omega)
      exact ⟨cs', h1, hd _ _ _ h2 (fun n hn => hw1 n (List.mem_cons_of_mem _ (List.mem_append_left _ (weightsAll_mem (d := D i) (List.mem_map.2 ⟨i, List.mem_range.2 hi, rfl⟩) n hn))))⟩
    obtain ⟨f, hf⟩ := choose_lt hex
    have hlen : ((List.range len).map f).length = len := by simp
    have hmx : maxLen ≤ 9223372036854775807 := by decide
    have hget : ∀ i e', ((List.range len).map f)[i]? = some e' → i < len ∧ f i = e' := fun i e' hi => by
      have hj : i < len := by
        have := (List.getElem?_eq_some_iff.1 hi).1
        rwa [hlen] at this
      rw [List.getElem?_map, List.getElem?_range hj] at hi
      exact ⟨hj, by simpa using hi⟩
    refine ⟨some a, m, (List.range len).map f, by rw [hlen], by rw [hlen]; exact hl, by rw [hlen]; omega, ?_, ?_, fun _ => ⟨a, rfl, fun j u hu => ?_⟩⟩
    · rw [hlen, ← hB]
      simp only [List.length_map, List.length_range] at hfirst
      exact Nat.le_trans (Nat.le_add_right _ _) hfirst
    · intro x hx
      obtain ⟨i, hi, rfl⟩ := List.mem_map.1 hx
      exact (hf i (List.mem_range.1 hi)).2
    · have hall : ∀ y ∈ (List.range len).map f, y.length = P.cellsOf e := fun y hy => by
        obtain ⟨i, hi, rfl⟩ := List.mem_map.1 hy
        exact (World.cells?_some (hf i (List.mem_range.1 hi)).1).2.1
      obtain ⟨i, r, e', rfl, h2, h3⟩ := flatten_get hall hu
      obtain ⟨hi, rfl⟩ := hget i e' h2
      obtain ⟨_, hl2, hc⟩ := World.cells?_some (hf i hi).1
      have hr : r < P.cellsOf e := by have := (List.getElem?_eq_some_iff.1 h3).1; omega
      have := hc r hr
      rw [h3, add_add] at this
      exact this
/-- A field of one cell. -/
theorem Opn.field {fs : Array Field} {t : TypeId} {fuel : Nat} {cs : List Value} {x : DataW H × List MemPlace} {Q : List Value → Prop} (ht : P.underlying t = some (.struct fs)) (h : DataW.trod enc P W 0 (fun _ => true) true fuel t cs = some x) (hw : ∀ n ∈ x.1.weights P t, n ≤ reachBytes) (i : Nat) {f : Field} (hf : fs[i]? = some f) (ho : f.offset = i) (hc : P.cellsOf f.type = 1) (hd : Opn enc P W f.type Q) : Q ((cs.drop i).take 1) := by
  obtain ⟨xs, n, _, hx, _, hl, hh⟩ := DataW.trod_struct ht h
  have h1 := hh i f hf
  have hi : i < xs.length := by
    rw [hl]
    have := (Array.getElem?_eq_some_iff.1 hf).1
    exact this
  rw [ho, hc, List.getElem?_eq_getElem hi] at h1
  refine hd _ _ _ h1 (fun n hn => hw n ?_)
  rw [hx]
  simp only [DataW.weights, ht]
  refine DataW.weights_mem_each (j := i) (t := f.type) (d := xs[i].1) ?_ ?_ n hn
  · rw [List.getElem?_map, Array.getElem?_toList, hf]; rfl
  · rw [List.getElem?_map, List.getElem?_eq_getElem hi]; rfl
theorem Opn.row {t : TypeId} {Q : List Value → Prop} {v : Value} {D : DataW H} {p : List MemPlace} (ho : Opn enc P W t Q) (h : DataW.Trod enc P W 0 (fun _ => true) true t v D p) (hw : ∀ n ∈ D.weights P t, n ≤ reachBytes) : Q v.cells.toList := by
  obtain ⟨fuel, hf⟩ := h
  exact ho _ _ _ hf hw
end
theorem flat_one : ∀ l : List UInt8, (l.map (fun b : UInt8 => [bv b])).flatten = l.map bv
  | [] => rfl
  | x :: r => by rw [List.map_cons, List.flatten_cons, flat_one r]; rfl
theorem lst_bytes {W : World} {Q : List Value → Prop} {cs : List Value} (h : LstQ W 1 Q cs) (hq : ∀ e, Q e → ∃ n, e = [.int .u8 n] ∧ (Lit.int .u8 n).wf = true) : ∃ A c, ∃ b : List UInt8, cs = [.slice A b.length c] ∧ b.length ≤ c ∧ b.length ≤ 140737488351232 ∧ RdB W A b := by
  obtain ⟨A, c, els, rfl, h1, _, h3, h4, h5⟩ := h
  obtain ⟨l, rfl, _⟩ := all_map (f := fun b : UInt8 => [bv b]) (Q := fun _ => True) (els := els) (fun e he => by
    obtain ⟨n, rfl, hn⟩ := hq e (h4 e he)
    refine ⟨UInt8.ofNat n.toNat, ?_, trivial⟩
    simp [Lit.wf, IntKind.min, IntKind.max, IntKind.signed, IntKind.bits] at hn
    simp only [bv, UInt8.toNat_ofNat']
    rw [Nat.mod_eq_of_lt (by omega)]
    congr 2; omega)
  rw [List.length_map] at h1 h3 ⊢
  have hrb : reachBytes = 140737488351232 := by decide
  rw [flat_one] at h5
  exact ⟨A, c, l, rfl, h1, by omega, fun h0 => h5 (by rw [List.length_map]; exact h0)⟩
end Go.Vel
namespace Go.Proofs
open Go.Vel
set_option maxRecDepth 100000
section
variable {H : Type} {enc : TypeId × Value → H} {W : World}
theorem opnBytes : Opn enc Try.prog W 31 (LstQ W 1 fun cs => ∃ n, cs = [.int .u8 n] ∧ (Lit.int .u8 n).wf = true) := Opn.slice Try.underlying31 (Opn.int Try.underlying5) (by kernel_rfl)
/-- A script that came in. -/
theorem wf_bd {n : Int} (w : (Lit.int .i64 n).wf = true) : -9223372036854775808 ≤ n ∧ n ≤ 9223372036854775807 := by
  simp [Lit.wf, IntKind.min, IntKind.max, IntKind.signed, IntKind.bits] at w; omega
end
end Go.Proofs
