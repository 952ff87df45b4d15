/- What a call owns of the memory: lists of assertions on blocks that do not meet, and how they live through changes of the world and through calls. Over any program. -/
import Derived.Test.YtgelippmcflppaaVMem
open Go Go.RowKit
namespace Go.Vel
/-- A part of the memory: some blocks and what they hold. -/
abbrev PH := Nat → Option Obj
abbrev Ast := PH → Prop
def emp : Ast := fun h => ∀ k, h k = none
/-- Block g holds o, and that is all. -/
def pt (g : Nat) (o : Obj) : Ast := fun h => ∀ k, h k = if k = g then some o else none
/-- A row of cells, nothing of it frozen. -/
def row (g : Nat) (cs : Array Value) (t : TypeId) : Ast := pt g (.cells cs t (0, 0))
/-- Only blocks of F, and new ones, have turned. -/
structure Fr (F : Nat → Prop) (w w' : World) : Prop where
  os : w'.os = w.os
  tape : w'.tape = w.tape
  output : w'.output = w.output
  size : w.heap.size ≤ w'.heap.size
  block : ∀ k, k < w.heap.size → ¬ F k → w'.heap[k]? = w.heap[k]?
def none' : Nat → Prop := fun _ => False
theorem Fr.refl (F : Nat → Prop) (w : World) : Fr F w w := ⟨rfl, rfl, rfl, Nat.le_refl _, fun _ _ _ => rfl⟩
theorem Fr.trans {F : Nat → Prop} {w w1 w2 : World} (h : Fr F w w1) (k : Fr F w1 w2) : Fr F w w2 :=
  ⟨k.os.trans h.os, k.tape.trans h.tape, k.output.trans h.output, Nat.le_trans h.size k.size, fun i hi hf => (k.block i (Nat.lt_of_lt_of_le hi h.size) hf).trans (h.block i hi hf)⟩
/-- What a callee turned, of a caller's. -/
theorem Fr.step {F F1 : Nat → Prop} {w0 w w' : World} (h : Fr F w0 w) (k : Fr F1 w w') (hF : ∀ i, F1 i → F i ∨ w0.heap.size ≤ i) : Fr F w0 w' :=
  ⟨k.os.trans h.os, k.tape.trans h.tape, k.output.trans h.output, Nat.le_trans h.size k.size, fun i hi hf => (k.block i (Nat.lt_of_lt_of_le hi h.size) (fun h1 => (hF i h1).elim hf (fun h2 => absurd hi (Nat.not_lt.2 h2)))).trans (h.block i hi hf)⟩
theorem Fr.mono {F F' : Nat → Prop} {w w' : World} (h : Fr F w w') (hF : ∀ i, F i → F' i) : Fr F' w w' := ⟨h.os, h.tape, h.output, h.size, fun i hi hf => h.block i hi (fun h1 => hf (hF i h1))⟩
theorem Fr.of_below {F : Nat → Prop} {w w' : World} (h : Below w.heap.size w w') : Fr F w w' := ⟨h.os, h.tape, h.output, h.size, fun i hi _ => h.block i hi⟩
theorem Fr.below {w w' : World} (h : Fr none' w w') : Below w.heap.size w w' := ⟨h.os, h.tape, h.output, h.size, fun i hi => h.block i hi (fun h => h)⟩
/-- The assertions of L hold of parts of w that do not meet, each block of which is in D. -/
def Own (D : Nat → Prop) (w : World) (L : List Ast) : Prop :=
  ∃ hs : Nat → PH, (∀ (i : Nat) (A : Ast), L[i]? = some A → A (hs i)) ∧ (∀ i j, i < L.length → j < L.length → i ≠ j → ∀ k, hs i k = none ∨ hs j k = none) ∧ (∀ i, i < L.length → ∀ k o, hs i k = some o → w.heap[k]? = some o ∧ D k)
theorem lt_of_some {w : World} {k : Nat} {o : Obj} (h : w.heap[k]? = some o) : k < w.heap.size := (Array.getElem?_eq_some_iff.1 h).1
section
variable {D D1 D2 : Nat → Prop} {w w' : World} {L L1 L2 : List Ast}
theorem Own.nil (D : Nat → Prop) (w : World) : Own D w [] := ⟨fun _ _ => none, fun _ _ h => by simp at h, fun i _ h => by simp at h, fun i h => by simp at h⟩
theorem Own.mono (h : Own D w L) (hD : ∀ k, D k → k < w.heap.size → D1 k) : Own D1 w L := by
  obtain ⟨hs, h1, h2, h3⟩ := h
  exact ⟨hs, h1, h2, fun i hi k o hk => ⟨(h3 i hi k o hk).1, hD k (h3 i hi k o hk).2 (lt_of_some (h3 i hi k o hk).1)⟩⟩
theorem Own.frame (h : Own D w L) (hw : ∀ k, D k → k < w.heap.size → w'.heap[k]? = w.heap[k]?) : Own D w' L := by
  obtain ⟨hs, h1, h2, h3⟩ := h
  exact ⟨hs, h1, h2, fun i hi k o hk => ⟨(hw k (h3 i hi k o hk).2 (lt_of_some (h3 i hi k o hk).1)).trans (h3 i hi k o hk).1, (h3 i hi k o hk).2⟩⟩
theorem Own.one {A : Ast} {h : PH} (hA : A h) (hh : ∀ k o, h k = some o → w.heap[k]? = some o ∧ D k) : Own D w [A] := by
  refine ⟨fun _ => h, fun i B hi => ?_, fun i j hi hj hne => ?_, fun i hi => hh⟩
  · cases i with
    | zero => simp at hi; subst hi; exact hA
    | succ i => simp at hi
  · simp at hi hj; omega
theorem Own.pt {g : Nat} {o : Obj} (h : w.heap[g]? = some o) : Own (fun k => k = g) w [pt g o] :=
  Own.one (h := fun k => if k = g then some o else none) (fun _ => rfl) fun k x hk => by
    split at hk
    · rename_i e; subst e; cases hk; exact ⟨h, rfl⟩
    · cases hk
theorem Own.append (h : Own D1 w L1) (k : Own D2 w L2) (hd : ∀ i, D1 i → D2 i → i < w.heap.size → False) : Own (fun i => D1 i ∨ D2 i) w (L1 ++ L2) := by
  obtain ⟨hs, a1, a2, a3⟩ := h
  obtain ⟨ks, b1, b2, b3⟩ := k
  have cross : ∀ i j, i < L1.length → j < L2.length → ∀ k, hs i k = none ∨ ks j k = none := fun i j hi hj k => by
    cases e1 : hs i k with
    | none => exact .inl rfl
    | some x =>
      cases e2 : ks j k with
      | none => exact .inr rfl
      | some y => exact (hd k (a3 i hi k x e1).2 (b3 j hj k y e2).2 (lt_of_some (a3 i hi k x e1).1)).elim
  refine ⟨fun i => if i < L1.length then hs i else ks (i - L1.length), fun i A hi => ?_, fun i j hi hj hne k => ?_, fun i hi k o hk => ?_⟩
  · by_cases hl : i < L1.length
    · rw [List.getElem?_append_left hl] at hi
      simp only [hl, if_true]; exact a1 i A hi
    · rw [List.getElem?_append_right (Nat.le_of_not_lt hl)] at hi
      simp only [hl, if_false]; exact b1 _ A hi
  · rw [List.length_append] at hi hj
    by_cases hl : i < L1.length
    · by_cases hl' : j < L1.length
      · simp only [hl, hl', if_true]; exact a2 i j hl hl' hne k
      · simp only [hl, hl', if_true, if_false]; exact cross i _ hl (by omega) k
    · by_cases hl' : j < L1.length
      · simp only [hl, hl', if_true, if_false]; exact (cross j _ hl' (by omega) k).symm
      · simp only [hl, hl', if_false]; exact b2 _ _ (by omega) (by omega) (by omega) k
  · rw [List.length_append] at hi
    by_cases hl : i < L1.length
    · simp only [hl, if_true] at hk
      exact ⟨(a3 i hl k o hk).1, .inl (a3 i hl k o hk).2⟩
    · simp only [hl, if_false] at hk
      exact ⟨(b3 _ (by omega) k o hk).1, .inr (b3 _ (by omega) k o hk).2⟩
theorem Own.split (h : Own D w (L1 ++ L2)) : ∃ D1 D2, Own D1 w L1 ∧ Own D2 w L2 ∧ (∀ i, D1 i → D2 i → False) ∧ (∀ i, D1 i → D i) ∧ (∀ i, D2 i → D i) := by
  obtain ⟨hs, h1, h2, h3⟩ := h
  rw [List.length_append] at h2 h3
  refine ⟨fun k => ∃ i, i < L1.length ∧ hs i k ≠ none, fun k => ∃ i, i < L2.length ∧ hs (L1.length + i) k ≠ none, ⟨hs, fun i A hi => h1 i A ?_, fun i j hi hj => h2 i j (by omega) (by omega), fun i hi k o hk => ⟨(h3 i (by omega) k o hk).1, i, hi, by rw [hk]; simp⟩⟩,
    ⟨fun i => hs (L1.length + i), fun i A hi => h1 _ A ?_, fun i j hi hj hne => h2 _ _ (by omega) (by omega) (by omega), fun i hi k o hk => ⟨(h3 _ (by omega) k o hk).1, i, hi, (fun h => by rw [show hs (L1.length + i) k = some o from hk] at h; cases h)⟩⟩, ?_, ?_, ?_⟩
  · rw [List.getElem?_append_left (List.getElem?_eq_some_iff.1 hi).1]; exact hi
  · rw [List.getElem?_append_right (by omega)]; simpa using hi
  · rintro k ⟨i, hi, hk⟩ ⟨j, hj, hk'⟩
    rcases h2 i (L1.length + j) (by omega) (by omega) (by omega) k with h | h
    · exact hk h
    · exact hk' h
  · rintro k ⟨i, hi, hk⟩
    cases e : hs i k with
    | none => exact absurd e hk
    | some o => exact (h3 i (by omega) k o e).2
  · rintro k ⟨i, hi, hk⟩
    cases e : hs (L1.length + i) k with
    | none => exact absurd e hk
    | some o => exact (h3 _ (by omega) k o e).2
theorem Own.pick (h : Own D w L) (idx : List Nat) (hn : idx.Nodup) (hb : ∀ i ∈ idx, i < L.length) : Own D w (idx.map fun i => L.getD i emp) := by
  obtain ⟨hs, h1, h2, h3⟩ := h
  have hg : ∀ j, j < idx.length → idx.getD j 0 < L.length := fun j hj => by
    rw [List.getD_eq_getElem?_getD, List.getElem?_eq_getElem hj]; exact hb _ (List.getElem_mem hj)
  refine ⟨fun j => hs (idx.getD j 0), fun j A hj => ?_, fun i j hi hj hne => ?_, fun j hj k o hk => ?_⟩
  · rw [List.getElem?_map] at hj
    cases e : idx[j]? with
    | none => simp [e] at hj
    | some i =>
      have hi : i < L.length := hb i (List.mem_of_getElem? e)
      simp only [e, Option.map_some, Option.some.injEq] at hj
      show A (hs (idx.getD j 0))
      rw [List.getD_eq_getElem?_getD, e]
      refine h1 i A ?_
      rw [← hj, List.getD_eq_getElem?_getD, List.getElem?_eq_getElem hi]; rfl
  · rw [List.length_map] at hi hj
    refine h2 _ _ (hg i hi) (hg j hj) fun e => hne ?_
    rw [List.getD_eq_getElem?_getD, List.getD_eq_getElem?_getD, List.getElem?_eq_getElem hi, List.getElem?_eq_getElem hj] at e
    have hp := List.pairwise_iff_getElem.1 hn
    rcases Nat.lt_trichotomy i j with h | h | h
    · exact absurd e (hp i j hi hj h)
    · exact h
    · exact absurd e.symm (hp j i hj hi h)
  · rw [List.length_map] at hj
    exact h3 _ (hg j hj) k o hk
theorem Own.get {g : Nat} {o : Obj} (h : Own D w L) (i : Nat) (hi : L[i]? = some (Vel.pt g o)) : w.heap[g]? = some o ∧ D g := by
  obtain ⟨hs, h1, _, h3⟩ := h
  have hp := h1 i _ hi g
  rw [if_pos rfl] at hp
  exact h3 i (List.getElem?_eq_some_iff.1 hi).1 g o hp
theorem Own.upd {g : Nat} {o o' : Obj} (h : Own D w L) (i : Nat) (hi : L[i]? = some (Vel.pt g o)) (hw : ∀ k, k ≠ g → w'.heap[k]? = w.heap[k]?) (hg : w'.heap[g]? = some o') : Own D w' (L.set i (Vel.pt g o')) := by
  have hm := (h.get i hi).2
  obtain ⟨hs, h1, h2, h3⟩ := h
  have hil := (List.getElem?_eq_some_iff.1 hi).1
  have hp := h1 i _ hi
  have hdom : ∀ j, j < L.length → j ≠ i → hs j g = none := fun j hj hne => by
    rcases h2 j i hj hil hne g with h | h
    · exact h
    · rw [hp g, if_pos rfl] at h; cases h
  refine ⟨fun j => if j = i then (fun k => if k = g then some o' else none) else hs j, fun j A hj => ?_, fun j j' hj hj' hne k => ?_, fun j hj k x hx => ?_⟩
  · by_cases hji : j = i
    · subst hji
      rw [List.getElem?_set_self hil] at hj
      cases hj
      intro k; simp
    · rw [List.getElem?_set_ne (fun h => hji h.symm)] at hj
      simp only [hji, if_false]
      exact h1 j A hj
  · rw [List.length_set] at hj hj'
    by_cases hji : j = i
    · subst hji
      have : j' ≠ j := fun h => hne h.symm
      simp only [this, if_false, if_true]
      by_cases hk : k = g
      · subst hk; exact .inr (hdom j' hj' this)
      · simp [hk]
    · by_cases hji' : j' = i
      · subst hji'
        simp only [hji, if_false, if_true]
        by_cases hk : k = g
        · subst hk; exact .inl (hdom j hj hji)
        · simp [hk]
      · simp only [hji, hji', if_false]
        exact h2 j j' hj hj' hne k
  · rw [List.length_set] at hj
    by_cases hji : j = i
    · subst hji
      simp only [if_true] at hx
      split at hx
      · rename_i hk; subst hk; cases hx; exact ⟨hg, hm⟩
      · cases hx
    · simp only [hji, if_false] at hx
      have h4 := h3 j hj k x hx
      refine ⟨(hw k ?_).trans h4.1, h4.2⟩
      rintro rfl
      rw [hdom j hj hji] at hx; cases hx
/-- A list of assertions as one. -/
def stars (L : List Ast) : Ast := fun h => ∃ hs : Nat → PH, (∀ (i : Nat) (A : Ast), L[i]? = some A → A (hs i)) ∧ (∀ i j, i < L.length → j < L.length → i ≠ j → ∀ k, hs i k = none ∨ hs j k = none) ∧ (∀ k o, h k = some o ↔ ∃ i, i < L.length ∧ hs i k = some o)
theorem Own.flat (h : Own D w [stars L]) : Own D w L := by
  obtain ⟨hs, h1, _, h3⟩ := h
  obtain ⟨ks, k1, k2, k3⟩ := h1 0 _ rfl
  exact ⟨ks, k1, k2, fun i hi k o hk => h3 0 (by simp) k o ((k3 k o).2 ⟨i, hi, hk⟩)⟩
theorem Own.star (h : Own D w L) : Own D w [stars L] := by
  obtain ⟨hs, h1, h2, h3⟩ := h
  have key : ∀ k : Nat, ∃ r : Option Obj, ∀ o, r = some o ↔ ∃ i, i < L.length ∧ hs i k = some o := fun k => by
    by_cases he : ∃ i, i < L.length ∧ hs i k ≠ none
    · obtain ⟨i, hi, hk⟩ := he
      refine ⟨hs i k, fun o => ⟨fun h => ⟨i, hi, h⟩, fun ⟨j, hj, h⟩ => ?_⟩⟩
      by_cases hij : i = j
      · subst hij; exact h
      · rcases h2 i j hi hj hij k with h4 | h4
        · exact absurd h4 hk
        · rw [h] at h4; cases h4
    · refine ⟨none, fun o => ⟨(fun h => by cases h), fun ⟨i, hi, h⟩ => (he ⟨i, hi, by rw [h]; simp⟩).elim⟩⟩
  obtain ⟨f, hf⟩ := Classical.axiomOfChoice key
  refine Own.one (h := f) ⟨hs, h1, h2, hf⟩ fun k o hk => ?_
  obtain ⟨i, hi, hk'⟩ := (hf k o).1 hk
  exact h3 i hi k o hk'
/-- One assertion for another, of the same part. -/
theorem Own.map1 {A B : Ast} (h : Own D w [A]) (hAB : ∀ p, A p → B p) : Own D w [B] := by
  obtain ⟨hs, h1, h2, h3⟩ := h
  refine ⟨hs, fun i C hi => ?_, h2, h3⟩
  cases i with
  | zero => simp at hi; subst hi; exact hAB _ (h1 0 _ rfl)
  | succ i => simp at hi
theorem Own.holds {A : Ast} (h : Own D w (A :: L)) : ∃ p, A p := by
  obtain ⟨hs, h1, _⟩ := h
  exact ⟨hs 0, h1 0 _ rfl⟩
end
/-- The state of a walk: what is owned (L) of the world w; only blocks of F, and new ones, have turned since w0; L's are such. -/
structure St (F : Nat → Prop) (w0 w : World) (L : List Ast) : Prop where
  fr : Fr F w0 w
  own : Own (fun k => F k ∨ w0.heap.size ≤ k) w L
section
variable {F : Nat → Prop} {w0 w w' : World} {L LA LB : List Ast}
theorem St.init (F : Nat → Prop) (w : World) : St F w w [] := ⟨Fr.refl _ _, Own.nil _ _⟩
theorem St.get {g : Nat} {o : Obj} (S : St F w0 w L) (i : Nat) (hi : L[i]? = some (pt g o)) : w.heap[g]? = some o := (S.own.get i hi).1
theorem St.blk {g : Nat} {cs : Array Value} {t : TypeId} (S : St F w0 w L) (i : Nat) (hi : L[i]? = some (row g cs t)) : Blk w g cs t := ⟨S.get i hi⟩
theorem St.mine {g : Nat} {o : Obj} (S : St F w0 w L) (i : Nat) (hi : L[i]? = some (pt g o)) : F g ∨ w0.heap.size ≤ g := (S.own.get i hi).2
/-- The world has new blocks alone, or has drawn. -/
theorem St.below (S : St F w0 w L) (hb : Below w.heap.size w w') : St F w0 w' L := ⟨S.fr.trans (Fr.of_below hb), S.own.frame fun k _ hk => hb.block k hk⟩
theorem St.drew (S : St F w0 w L) : St F w0 w.drew L := S.below ((Below.refl _ _).drew)
/-- One owned block has turned. -/
theorem St.upd {g : Nat} {o o' : Obj} (S : St F w0 w L) (i : Nat) (hi : L[i]? = some (pt g o)) (hw : Only g w w') (hg : w'.heap[g]? = some o') : St F w0 w' (L.set i (pt g o')) := by
  have hm := S.mine i hi
  refine ⟨⟨hw.os.trans S.fr.os, hw.tape.trans S.fr.tape, hw.output.trans S.fr.output, hw.size ▸ S.fr.size, fun k hk hf => ?_⟩, S.own.upd i hi hw.block hg⟩
  have hkg : k ≠ g := by rintro rfl; exact hm.elim hf (fun h => absurd hk (Nat.not_lt.2 h))
  exact (hw.block k hkg).trans (S.fr.block k hk hf)
/-- A new block. -/
theorem St.new {g : Nat} {o : Obj} (S : St F w0 w L) (hb : Below w.heap.size w w') (hg : w.heap.size ≤ g) (ho : w'.heap[g]? = some o) : St F w0 w' (pt g o :: L) := by
  refine ⟨S.fr.trans (Fr.of_below hb), ?_⟩
  have h1 : Own (fun k => (F k ∨ w0.heap.size ≤ k) ∧ k < w.heap.size) w' L := (S.own.mono (D1 := fun k => (F k ∨ w0.heap.size ≤ k) ∧ k < w.heap.size) fun k hk hl => ⟨hk, hl⟩).frame fun k _ hk => hb.block k hk
  exact ((Own.pt ho).append h1 fun i hi hj _ => by subst hi; omega).mono fun k hk _ => hk.elim (fun h => .inr (by subst h; exact Nat.le_trans S.fr.size hg)) (fun h => h.1)
theorem St.pick (S : St F w0 w L) (idx : List Nat) (hn : idx.Nodup) (hb : ∀ i ∈ idx, i < L.length) : St F w0 w (idx.map fun i => L.getD i emp) := ⟨S.fr, S.own.pick idx hn hb⟩
theorem St.split_own (S : St F w0 w (LA ++ LB)) : ∃ F1, St F1 w w LA ∧ (∀ k, F1 k → F k ∨ w0.heap.size ≤ k) ∧ (∀ w' L', St F1 w w' L' → St F w0 w' (L' ++ LB)) ∧ ∀ w', Fr F1 w w' → Own (fun _ => True) w' LB := by
  obtain ⟨D1, D2, h1, h2, h3, h4, h5⟩ := S.own.split
  have fr2 : ∀ w', Fr D1 w w' → Own D2 w' LB := fun w' hf => h2.frame fun k hk hl => hf.block k hl (fun h => h3 k h hk)
  refine ⟨D1, ⟨Fr.refl _ _, h1.mono fun k hk _ => .inl hk⟩, h4, fun w' L' S' => ⟨S.fr.step S'.fr h4, ?_⟩, fun w' hf => (fr2 w' hf).mono fun _ _ _ => trivial⟩
  have h2' : Own (fun k => D2 k ∧ k < w.heap.size) w' LB := (h2.mono (D1 := fun k => D2 k ∧ k < w.heap.size) fun k hk hl => ⟨hk, hl⟩).frame fun k hk _ => S'.fr.block k hk.2 (fun h => h3 k h hk.1)
  refine (S'.own.append h2' fun i hi hj _ => hi.elim (fun h => h3 i h hj.1) (fun h => absurd hj.2 (Nat.not_lt.2 h))).mono fun k hk _ => ?_
  rcases hk with (h | h) | h
  · exact h4 k h
  · exact .inr (Nat.le_trans S.fr.size h)
  · exact h5 k h.1
/-- What a caller lends (LA), what comes back, what stays its own (LB). -/
theorem St.call (S : St F w0 w (LA ++ LB)) : ∃ F1, St F1 w w LA ∧ (∀ k, F1 k → F k ∨ w0.heap.size ≤ k) ∧ (∀ w' L', St F1 w w' L' → St F w0 w' (L' ++ LB)) ∧ ∀ (i g : Nat) (o : Obj), LB[i]? = some (pt g o) → ∀ w', Fr F1 w w' → w'.heap[g]? = some o := by
  obtain ⟨F1, h1, h2, h3, h4⟩ := S.split_own
  exact ⟨F1, h1, h2, h3, fun i g o hi w' hf => ((h4 w' hf).get i hi).1⟩
/-- Several assertions that stand ahead, as one, and back. -/
theorem St.flat (S : St F w0 w (stars LA :: LB)) : St F w0 w (LA ++ LB) := by
  obtain ⟨D1, D2, h1, h2, h3, h4, h5⟩ := Own.split (L1 := [stars LA]) (L2 := LB) S.own
  exact ⟨S.fr, (h1.flat.append h2 fun i hi hj _ => h3 i hi hj).mono fun k hk _ => hk.elim (h4 k) (h5 k)⟩
theorem St.star (S : St F w0 w (LA ++ LB)) : St F w0 w (stars LA :: LB) := by
  obtain ⟨D1, D2, h1, h2, h3, h4, h5⟩ := S.own.split
  exact ⟨S.fr, ((Own.star h1).append h2 fun i hi hj _ => h3 i hi hj).mono fun k hk _ => hk.elim (h4 k) (h5 k)⟩
theorem St.map1 {A B : Ast} (S : St F w0 w (A :: L)) (h : ∀ p, A p → B p) : St F w0 w (B :: L) := by
  obtain ⟨D1, D2, h1, h2, h3, h4, h5⟩ := Own.split (L1 := [A]) (L2 := L) S.own
  exact ⟨S.fr, ((h1.map1 h).append h2 fun i hi hj _ => h3 i hi hj).mono fun k hk _ => hk.elim (h4 k) (h5 k)⟩
end
end Go.Vel
