/- What a flush makes of the sectors: whatever order the entries of the cache come in, each sector becomes the newest that was written. -/
import Derived.Test.YtefmefimhiedfaaHDskW
open Go Go.RowKit Go.Proofs.YtefmefimhiedfaaW.PrintWords Go.Proofs.YtefmefimhiedfaaW.PrintMore
namespace Go.Proofs
open Go.Vel
set_option linter.unusedVariables false
def applyP (l : List (List UInt8)) (ps : List (Nat × List UInt8)) : List (List UInt8) := ps.foldl (fun l x => l.set x.1 x.2) l
theorem length_applyP : ∀ (ps : List (Nat × List UInt8)) (l : List (List UInt8)), (applyP l ps).length = l.length
  | [], _ => rfl
  | x :: r, l => by unfold applyP; rw [List.foldl_cons]; exact (length_applyP r _).trans (List.length_set)
theorem applyP_snoc (l : List (List UInt8)) (ps : List (Nat × List UInt8)) (x : Nat × List UInt8) : applyP l (ps ++ [x]) = (applyP l ps).set x.1 x.2 := by unfold applyP; rw [List.foldl_append]; rfl
theorem applyP_all {Q : List UInt8 → Prop} : ∀ (ps : List (Nat × List UInt8)) (l : List (List UInt8)), (∀ y ∈ l, Q y) → (∀ x ∈ ps, Q x.2) → ∀ y ∈ applyP l ps, Q y
  | [], l, h, _ => h
  | x :: r, l, h, h2 => by
    unfold applyP; rw [List.foldl_cons]
    refine applyP_all r _ (fun y hy => ?_) (fun z hz => h2 z (List.mem_cons_of_mem _ hz))
    rcases List.mem_or_eq_of_mem_set hy with hy | rfl
    · exact h y hy
    · exact h2 x List.mem_cons_self
/-- The newest of a sector. -/
def newest (ps : List (Nat × List UInt8)) (a : Nat) : Option (List UInt8) := ((ps.filter (fun x => x.1 == a)).map (·.2)).getLast?
theorem get_applyP : ∀ (ps : List (Nat × List UInt8)) (l : List (List UInt8)) (a : Nat), (applyP l ps)[a]? = match newest ps a with | some d => if a < l.length then some d else none | none => l[a]?
  | [], l, a => rfl
  | x :: r, l, a => by
    have ih := get_applyP r (l.set x.1 x.2) a
    unfold applyP; rw [List.foldl_cons]
    refine Eq.trans ih ?_
    rw [List.length_set]
    unfold newest
    by_cases hx : x.1 = a
    · have hb : (x.1 == a) = true := by simpa using hx
      rw [List.filter_cons, if_pos hb, List.map_cons, List.getLast?_cons]
      cases hq : ((r.filter fun x => x.1 == a).map (·.2)).getLast? with
      | some d => simp
      | none =>
        simp only [Option.getD_none]
        rw [List.getElem?_set, if_pos hx]
        subst hx; rfl
    · have hb : (x.1 == a) = false := by simpa using hx
      rw [List.filter_cons, if_neg (by rw [hb]; decide)]
      cases hq : ((r.filter fun x => x.1 == a).map (·.2)).getLast? with
      | some d => rfl
      | none => simp only []; rw [List.getElem?_set, if_neg hx]
theorem applyP_eq {l : List (List UInt8)} {ps qs : List (Nat × List UInt8)} (h : ∀ a, newest ps a = newest qs a) : applyP l ps = applyP l qs := by
  apply List.ext_getElem?
  intro a
  rw [get_applyP, get_applyP, h a]
/-- An entry's newest write. -/
def PEnt.top (p : PEnt) : Nat × List UInt8 := (p.at_, ((p.ws.map (·.2)).getLast?).getD [])
def Dsk.flushR (s : Dsk) : Dsk × Int := if s.left = 0 then (s, 3) else ({ s with last := applyP s.last s.pend, pend := [], fl := inc s.fl, left := spent s.left }, 0)
section
variable {s : Dsk} {clock : Nat} {es : List PEnt} {fused : Bool} {left : Int}
theorem mem_left {ps : List PEnt} {e : Ent} (h : e ∈ leftE (es.map PEnt.ent) (ps.map (·.b))) : ∃ p ∈ es, e = p.ent ∧ p.b ∉ ps.map (·.b) := by
  unfold leftE at h
  obtain ⟨h1, h2⟩ := List.mem_filter.1 h
  obtain ⟨p, hp, rfl⟩ := List.mem_map.1 h1
  refine ⟨p, hp, rfl, fun hm => ?_⟩
  have : (ps.map (·.b)).contains p.ent.b = true := by simpa [PEnt.ent] using hm
  rw [this] at h2; cases h2
theorem left_less {es : List Ent} {seen : List Nat} {e : Ent} (h : e ∈ leftE es seen) : (leftE es (seen ++ [e.b])).length < (leftE es seen).length := by
  have e1 : leftE es (seen ++ [e.b]) = (leftE es seen).filter (fun x => !(x.b == e.b)) := by
    unfold leftE
    rw [List.filter_filter]
    apply List.filter_congr
    intro x _
    rw [Bool.eq_iff_iff]
    simp
    constructor
    · rintro ⟨h1, h2⟩; exact ⟨h2, h1⟩
    · rintro ⟨h1, h2⟩; exact ⟨h2, h1⟩
  rw [e1]
  exact List.length_filter_lt_length_iff_exists.2 ⟨e, h, by simp⟩
theorem PFacts.inj (h : PFacts s clock es fused left) {p q : PEnt} (hp : p ∈ es) (hq : q ∈ es) (hk : p.at_ = q.at_) : p = q := by
  obtain ⟨i, hi⟩ := List.getElem?_of_mem hp
  obtain ⟨j, hj⟩ := List.getElem?_of_mem hq
  have hil := (List.getElem?_eq_some_iff.1 hi).1
  have hjl := (List.getElem?_eq_some_iff.1 hj).1
  have e1 : es[i] = p := (List.getElem?_eq_some_iff.1 hi).2
  have e2 : es[j] = q := (List.getElem?_eq_some_iff.1 hj).2
  have hn := List.pairwise_iff_getElem.1 h.keyN
  rcases Nat.lt_trichotomy i j with hlt | hlt | hlt
  · have := hn i j (by simpa using hil) (by simpa using hjl) hlt
    simp only [List.getElem_map, e1, e2] at this; exact absurd hk this
  · subst hlt; rw [← e1, ← e2]
  · have := hn j i (by simpa using hjl) (by simpa using hil) hlt
    simp only [List.getElem_map, e1, e2] at this; exact absurd hk.symm this
theorem PFacts.injB (h : PFacts s clock es fused left) {p q : PEnt} (hp : p ∈ es) (hq : q ∈ es) (hk : p.b = q.b) : p = q := by
  obtain ⟨i, hi⟩ := List.getElem?_of_mem hp
  obtain ⟨j, hj⟩ := List.getElem?_of_mem hq
  have hil := (List.getElem?_eq_some_iff.1 hi).1
  have hjl := (List.getElem?_eq_some_iff.1 hj).1
  have e1 : es[i] = p := (List.getElem?_eq_some_iff.1 hi).2
  have e2 : es[j] = q := (List.getElem?_eq_some_iff.1 hj).2
  have hn := List.pairwise_iff_getElem.1 h.bornN
  rcases Nat.lt_trichotomy i j with hlt | hlt | hlt
  · have := hn i j (by simpa using hil) (by simpa using hjl) hlt
    simp only [List.getElem_map, e1, e2] at this; exact absurd hk this
  · subst hlt; rw [← e1, ← e2]
  · have := hn j i (by simpa using hjl) (by simpa using hil) hlt
    simp only [List.getElem_map, e1, e2] at this; exact absurd hk.symm this
theorem PFacts.find_mem (h : PFacts s clock es fused left) {p : PEnt} (hp : p ∈ es) : ∃ j, es[j]? = some p ∧ (es.map PEnt.ent)[j]? = some p.ent ∧ p.ent.k = ((p.at_ : Nat) : Int) ∧ (∀ (m : Nat) (e : Ent), m < j → (es.map PEnt.ent)[m]? = some e → e.k ≠ ((p.at_ : Nat) : Int)) ∧ p.at_ < s.last.length ∧ p.ws ≠ [] ∧ (∀ x ∈ p.ws, x.2.length = 512) ∧ p.ws.length ≤ s.pend.length := by
  have hin : p.at_ < s.last.length ∧ (∀ x ∈ p.ws, x.2.length = 512) := by
    have hw := h.ws p hp
    have key : ∀ d ∈ p.ws.map (·.2), d.length = 512 ∧ p.at_ < s.last.length := fun d hd => by
      rw [hw] at hd
      obtain ⟨y, hy, rfl⟩ := List.mem_map.1 hd
      obtain ⟨hy1, hy2⟩ := List.mem_filter.1 hy
      have := h.plen y hy1
      have e : y.1 = p.at_ := by simpa using hy2
      exact ⟨this.1, e ▸ this.2⟩
    obtain ⟨x, hx⟩ := List.exists_mem_of_ne_nil _ (h.ne p hp)
    exact ⟨(key x.2 (List.mem_map.2 ⟨x, hx, rfl⟩)).2, fun x hx => (key x.2 (List.mem_map.2 ⟨x, hx, rfl⟩)).1⟩
  have hle : p.ws.length ≤ s.pend.length := by
    have h2 : p.ws.length = (pendOf s p.at_).length := by rw [← h.ws p hp, List.length_map]
    have h3 : (pendOf s p.at_).length ≤ s.pend.length := by unfold pendOf; rw [List.length_map]; exact List.length_filter_le _ _
    omega
  rcases h.find p.at_ with ⟨_, hno⟩ | ⟨j, q, hj, hat, _, _, hje, hke, hfe⟩
  · exact absurd rfl (hno p.ent (List.mem_map.2 ⟨p, hp, rfl⟩))
  · have e : q = p := h.inj (List.mem_of_getElem? hj) hp hat
    subst e
    exact ⟨j, hj, hje, hke, hfe, hin.1, h.ne q hp, hin.2, hle⟩
/-- All entries are seen: the sectors are as the writes say. -/
theorem PFacts.flushed (h : PFacts s clock es fused left) {ps : List PEnt} (hps : ∀ p ∈ ps, p ∈ es) (hl : leftE (es.map PEnt.ent) (ps.map (·.b)) = []) : applyP s.last (ps.map PEnt.top) = applyP s.last s.pend := by
  apply applyP_eq
  intro a
  have hall : ∀ p ∈ es, p ∈ ps := fun p hp => by
    have h1 : p.ent ∉ leftE (es.map PEnt.ent) (ps.map (·.b)) := by rw [hl]; exact List.not_mem_nil
    have h2 : (ps.map (·.b)).contains p.b = true := by
      cases hq : (ps.map (·.b)).contains p.b with
      | true => rfl
      | false => exact absurd (List.mem_filter.2 ⟨List.mem_map.2 ⟨p, hp, rfl⟩, by show (!(ps.map (·.b)).contains p.b) = true; rw [hq]; rfl⟩) h1
    obtain ⟨q, hq, hb⟩ := List.mem_map.1 (List.contains_iff_mem.1 h2)
    rw [h.injB hp (hps q hq) hb.symm]; exact hq
  show newest (ps.map PEnt.top) a = (pendOf s a).getLast?
  rcases h.find a with ⟨hn, hno⟩ | ⟨j, p, hj, hat, hp, hne, _, _, _⟩
  · rw [hn]
    unfold newest
    have : ((ps.map PEnt.top).filter fun x => x.1 == a) = [] := by
      rw [List.filter_eq_nil_iff]
      intro x hx hk
      obtain ⟨q, hq, rfl⟩ := List.mem_map.1 hx
      exact hno q.ent (List.mem_map.2 ⟨q, hps q hq, rfl⟩) (by have : q.at_ = a := by simpa [PEnt.top] using hk
                                                              simp [PEnt.ent, this])
    rw [this]; rfl
  · have hpe := List.mem_of_getElem? hj
    rw [hp]
    unfold newest
    have hmem : p.top ∈ (ps.map PEnt.top).filter fun x => x.1 == a := List.mem_filter.2 ⟨List.mem_map.2 ⟨p, hall p hpe, rfl⟩, by simpa [PEnt.top] using hat⟩
    have hsame : ∀ x ∈ ((ps.map PEnt.top).filter fun x => x.1 == a).map (·.2), x = p.top.2 := fun x hx => by
      obtain ⟨y, hy, rfl⟩ := List.mem_map.1 hx
      obtain ⟨hy1, hy2⟩ := List.mem_filter.1 hy
      obtain ⟨q, hq, rfl⟩ := List.mem_map.1 hy1
      have e : q.at_ = p.at_ := by have : q.at_ = a := by simpa [PEnt.top] using hy2
                                   omega
      rw [h.inj (hps q hq) hpe e]
    have hne2 : ((ps.map PEnt.top).filter fun x => x.1 == a).map (·.2) ≠ [] := by
      intro e
      rw [List.map_eq_nil_iff] at e
      rw [e] at hmem; cases hmem
    rw [List.getLast?_eq_some_getLast hne2, hsame _ (List.getLast_mem hne2)]
    have h3 : p.ws.map (·.2) ≠ [] := by simpa using hne
    show some (((p.ws.map (·.2)).getLast?).getD []) = _
    rw [List.getLast?_eq_some_getLast h3]; rfl
theorem PFacts.settled {s' : Dsk} {fused' : Bool} {left' : Int} (h : PFacts s clock es fused left) (h0 : s'.last.length = s.last.length) (h1 : ∀ l ∈ s'.last, l.length = 512) (h2 : s'.pend = []) (h3 : fused' = decide (0 ≤ s'.left)) (h4 : 0 ≤ s'.left → left' = s'.left) (h5 : -1 ≤ s'.left ∧ s'.left ≤ 9223372036854775807) : PFacts s' clock [] fused' left' :=
  ⟨fun p hp => (by cases hp), List.nodup_nil, List.nodup_nil, fun p hp => (by cases hp), fun x hx => (by rw [h2] at hx; cases hx), fun p hp => (by cases hp), h1, fun x hx => (by rw [h2] at hx; cases hx), by rw [h0]; exact h.n1, by rw [h0]; exact h.n2, h3, h4, h5, by rw [h2]; simp⟩
end
end Go.Proofs
