/- How the program's disk takes a write, and how its cache is emptied: the parts of memory put together anew; the facts of the new state. -/
import Derived.Test.YtefmefimhiedfaaHDsk
open Go Go.RowKit Go.Proofs.YtefmefimhiedfaaW.PrintWords Go.Proofs.YtefmefimhiedfaaW.PrintMore
namespace Go.Proofs
open Go.Vel
set_option linter.unusedVariables false
def spent (l : Int) : Int := if 0 < l then l - 1 else l
def Dsk.writeR (s : Dsk) (at_ : Int) (d : List UInt8) : Dsk × Int :=
  if s.left = 0 then (s, 3) else if at_ < 0 ∨ (s.last.length : Int) ≤ at_ then ({ s with rf := inc s.rf }, 11) else if d.length ≠ 512 then ({ s with rf := inc s.rf }, 2)
  else ({ s with pend := s.pend ++ [(at_.toNat, d)], wr := inc s.wr, left := spent s.left }, 0)
section
variable {F : Nat → Prop} {w0 w : World} {L : List Ast} {es : List PEnt} {j : Nat} {p : PEnt}
theorem entry_out (LA : List Ast) (S : St F w0 w (LA ++ (stars (es.map PEnt.ast) :: L))) (hj : es[j]? = some p) :
    St F w0 w (vec 31 1 p.v p.ws.length (p.ws.map PEnt.val) :: stars (p.ws.map PEnt.row) :: stars ((es.take j).map PEnt.ast) :: stars ((es.drop (j + 1)).map PEnt.ast) :: (LA ++ L)) := by
  have h1 := St.rot' S
  exact (h1.nth j hj).flat
/-- The list of an old entry, one longer. -/
theorem entry_in {go : Nat} {d : List UInt8} {v' : Value} {A1 A2 A3 : Ast} (hj : es[j]? = some p) (S : St F w0 w (vec 31 1 v' (p.ws.length + 1) (p.ws.map PEnt.val ++ [.slice (some ⟨go, 0, none⟩) 512 512]) :: stars (p.ws.map PEnt.row) :: stars ((es.take j).map PEnt.ast) :: stars ((es.drop (j + 1)).map PEnt.ast) :: row go (bvs d) 5 :: A1 :: A2 :: A3 :: L)) :
    St F w0 w (A1 :: A2 :: A3 :: stars ((es.set j ⟨p.at_, v', p.b, p.ws ++ [(go, d)]⟩).map PEnt.ast) :: L) := by
  have hl := (List.getElem?_eq_some_iff.1 hj).1
  have h1 : St F w0 w (row go (bvs d) 5 :: stars (p.ws.map PEnt.row) :: vec 31 1 v' (p.ws.length + 1) (p.ws.map PEnt.val ++ [.slice (some ⟨go, 0, none⟩) 512 512]) :: stars ((es.take j).map PEnt.ast) :: stars ((es.drop (j + 1)).map PEnt.ast) :: A1 :: A2 :: A3 :: L) :=
    St.permT [vec 31 1 v' (p.ws.length + 1) (p.ws.map PEnt.val ++ [.slice (some ⟨go, 0, none⟩) 512 512]), stars (p.ws.map PEnt.row), stars ((es.take j).map PEnt.ast), stars ((es.drop (j + 1)).map PEnt.ast), row go (bvs d) 5, A1, A2, A3] [4, 1, 0, 2, 3, 5, 6, 7] (by decide) rfl S
  have h2 := (St.star_join (St.swap (St.one_star h1))).swap
  have e1 : p.ws.map PEnt.row ++ [row go (bvs d) 5] = (p.ws ++ [((go, d) : Nat × List UInt8)]).map PEnt.row := by rw [List.map_append]; rfl
  have e2 : p.ws.map PEnt.val ++ [.slice (some ⟨go, 0, none⟩) 512 512] = (p.ws ++ [(go, d)]).map PEnt.val := by rw [List.map_append]; rfl
  have e3 : p.ws.length + 1 = (p.ws ++ [(go, d)]).length := by simp
  rw [e1, e2, e3] at h2
  have h3 := St.star (LA := [_, _]) h2
  have h4 := St.fill (f := PEnt.ast) (l := es) (x := ⟨p.at_, v', p.b, p.ws ++ [(go, d)]⟩) j hl h3
  exact St.rot (LA := [A1, A2, A3]) h4
/-- A new entry. -/
theorem entry_new {go k clock : Nat} {d : List UInt8} {v' : Value} {A1 A2 A3 : Ast} (S : St F w0 w (vec 31 1 v' 1 [.slice (some ⟨go, 0, none⟩) 512 512] :: row go (bvs d) 5 :: A1 :: A2 :: A3 :: stars (es.map PEnt.ast) :: L)) :
    St F w0 w (A1 :: A2 :: A3 :: stars ((es ++ [(⟨k, v', clock, [(go, d)]⟩ : PEnt)]).map PEnt.ast) :: L) := by
  have h1 := (St.one_star S.swap).swap
  have h3 : St F w0 w (PEnt.ast ⟨k, v', clock, [(go, d)]⟩ :: A1 :: A2 :: A3 :: stars (es.map PEnt.ast) :: L) := St.star (LA := [_, _]) h1
  have h4 : St F w0 w (stars [PEnt.ast ⟨k, v', clock, [(go, d)]⟩] :: A1 :: A2 :: A3 :: stars (es.map PEnt.ast) :: L) := St.one_star h3
  have h5 : St F w0 w (stars (es.map PEnt.ast) :: stars [PEnt.ast ⟨k, v', clock, [(go, d)]⟩] :: A1 :: A2 :: A3 :: L) :=
    St.permT [stars [PEnt.ast ⟨k, v', clock, [(go, d)]⟩], A1, A2, A3, stars (es.map PEnt.ast)] [4, 0, 1, 2, 3] (by decide) rfl h4
  have h6 := St.star_join h5
  rw [show es.map PEnt.ast ++ [PEnt.ast ⟨k, v', clock, [(go, d)]⟩] = (es ++ [(⟨k, v', clock, [(go, d)]⟩ : PEnt)]).map PEnt.ast from by rw [List.map_append]; rfl] at h6
  exact St.rot (LA := [A1, A2, A3]) h6
end
theorem map_set {α β : Type} (f : α → β) : ∀ (l : List α) (i : Nat) (x : α), (l.set i x).map f = (l.map f).set i (f x) := fun l i x => List.map_set
section
variable {s : Dsk} {clock : Nat} {es : List PEnt} {fused : Bool} {left : Int}
theorem pendOf_snoc (s : Dsk) (k a : Nat) (d : List UInt8) (s' : Dsk) (h : s'.pend = s.pend ++ [(k, d)]) : pendOf s' a = pendOf s a ++ if k = a then [d] else [] := by
  unfold pendOf
  rw [h, List.filter_append, List.map_append]
  congr 1
  by_cases hk : k = a
  · subst hk; simp
  · simp [hk]
/-- The new left-over of the fuse. -/
theorem PFacts.spend (h : PFacts s clock es fused left) (hz : s.left ≠ 0) : (fused = true ∧ decide (0 ≤ spent s.left) = true ∧ dec left = spent s.left) ∨ (fused = false ∧ decide (0 ≤ spent s.left) = false ∧ spent s.left = s.left) := by
  have h1 := h.fuse
  have h2 := h.lb
  by_cases hp : 0 ≤ s.left
  · refine .inl ⟨by rw [h1]; exact decide_eq_true hp, ?_, ?_⟩
    · unfold spent; rw [if_pos (by omega)]; exact decide_eq_true (by omega)
    · unfold spent dec; rw [if_pos (by omega), h.left hp]; exact wr_ok (by omega) (by omega)
  · refine .inr ⟨by rw [h1]; exact decide_eq_false hp, ?_, ?_⟩
    · unfold spent; rw [if_neg (by omega)]; exact decide_eq_false hp
    · unfold spent; rw [if_neg (by omega)]
theorem spent_lb {l : Int} (h : -1 ≤ l ∧ l ≤ 9223372036854775807) (hz : l ≠ 0) : -1 ≤ spent l ∧ spent l ≤ 9223372036854775807 := by unfold spent; split <;> omega
/-- Other counts, another fuse. -/
theorem PFacts.refuse {s' : Dsk} {fused' : Bool} {left' : Int} (h : PFacts s clock es fused left) (h1 : s'.last = s.last) (h2 : s'.pend = s.pend) (h3 : fused' = decide (0 ≤ s'.left)) (h4 : 0 ≤ s'.left → left' = s'.left) (h5 : -1 ≤ s'.left ∧ s'.left ≤ 9223372036854775807) : PFacts s' clock es fused' left' := by
  have hp : ∀ a, pendOf s' a = pendOf s a := fun a => by unfold pendOf; rw [h2]
  exact ⟨h.born, h.bornN, h.keyN, fun p hm => (h.ws p hm).trans (hp _).symm, by rw [h2]; exact h.has, h.ne, by rw [h1]; exact h.len, by rw [h1, h2]; exact h.plen, by rw [h1]; exact h.n1, by rw [h1]; exact h.n2, h3, h4, h5, by rw [h2]; exact h.pn⟩
theorem PFacts.write_old {s' : Dsk} {j k go : Nat} {p : PEnt} {d : List UInt8} {v' : Value} (h : PFacts s clock es fused left) (hj : es[j]? = some p) (hat : p.at_ = k) (hk : k < s.last.length) (hd : d.length = 512) (hpn : s.pend.length < 4398046511104)
    (h1 : s'.last = s.last) (h2 : s'.pend = s.pend ++ [(k, d)]) (h3 : s'.left = s.left) : PFacts s' clock (es.set j ⟨p.at_, v', p.b, p.ws ++ [(go, d)]⟩) fused left := by
  subst hat
  have hpm := List.mem_of_getElem? hj
  have hjl := (List.getElem?_eq_some_iff.1 hj).1
  have hmem : ∀ q, q ∈ es.set j ⟨p.at_, v', p.b, p.ws ++ [(go, d)]⟩ → q = ⟨p.at_, v', p.b, p.ws ++ [(go, d)]⟩ ∨ (q ∈ es ∧ q.at_ ≠ p.at_) := fun q hq => by
    obtain ⟨m, hm⟩ := List.getElem?_of_mem hq
    rw [List.getElem?_set] at hm
    split at hm
    · rename_i e
      first
        | exact .inl (Option.some.inj hm).symm
        | (split at hm
           · exact .inl (Option.some.inj hm).symm
           · cases hm)
    · rename_i e
      refine .inr ⟨List.mem_of_getElem? hm, fun he => ?_⟩
      have hml := (List.getElem?_eq_some_iff.1 hm).1
      have e1 : es[m] = q := (List.getElem?_eq_some_iff.1 hm).2
      have e2 : es[j] = p := (List.getElem?_eq_some_iff.1 hj).2
      have hp := List.pairwise_iff_getElem.1 h.keyN
      rcases Nat.lt_trichotomy m j with hlt | hlt | hlt
      · have := hp m j (by simpa using hml) (by simpa using hjl) hlt
        simp only [List.getElem_map, e1, e2] at this; exact this he
      · exact e hlt.symm
      · have := hp j m (by simpa using hjl) (by simpa using hml) hlt
        simp only [List.getElem_map, e1, e2] at this; exact this he.symm
  have eb : (es.set j ⟨p.at_, v', p.b, p.ws ++ [(go, d)]⟩).map (·.b) = es.map (·.b) := by
    rw [List.map_set]
    apply List.ext_getElem?
    intro m
    rw [List.getElem?_set]
    split
    · rename_i e; subst e; simp [hjl]
      exact congrArg PEnt.b (List.getElem?_eq_some_iff.1 hj).2.symm
    · rfl
  have ek : (es.set j ⟨p.at_, v', p.b, p.ws ++ [(go, d)]⟩).map (·.at_) = es.map (·.at_) := by
    rw [List.map_set]
    apply List.ext_getElem?
    intro m
    rw [List.getElem?_set]
    split
    · rename_i e; subst e; simp [hjl]
      exact congrArg PEnt.at_ (List.getElem?_eq_some_iff.1 hj).2.symm
    · rfl
  refine ⟨fun q hq => ?_, by rw [eb]; exact h.bornN, by rw [ek]; exact h.keyN, fun q hq => ?_, fun x hx => ?_, fun q hq => ?_, by rw [h1]; exact h.len, fun x hx => ?_, by rw [h1]; exact h.n1, by rw [h1]; exact h.n2, by rw [h3]; exact h.fuse, by rw [h3]; exact h.left, by rw [h3]; exact h.lb, by rw [h2, List.length_append]; simp; omega⟩
  · rcases hmem q hq with rfl | ⟨hq, _⟩
    · exact h.born p hpm
    · exact h.born q hq
  · rw [pendOf_snoc s p.at_ q.at_ d s' h2]
    rcases hmem q hq with rfl | ⟨hq, hne⟩
    · simp only [if_true, List.map_append, List.map_cons, List.map_nil]
      rw [h.ws p hpm]
    · rw [if_neg (fun e => hne e.symm), List.append_nil]; exact h.ws q hq
  · rw [h2] at hx
    have hex : ∃ q ∈ es, q.at_ = x.1 := by
      rcases List.mem_append.1 hx with hx | hx
      · exact h.has x hx
      · simp at hx; subst hx; exact ⟨p, hpm, rfl⟩
    obtain ⟨q, hq, he⟩ := hex
    have : x.1 ∈ (es.set j ⟨p.at_, v', p.b, p.ws ++ [(go, d)]⟩).map (·.at_) := by rw [ek]; exact List.mem_map.2 ⟨q, hq, he⟩
    obtain ⟨q', h4, h5⟩ := List.mem_map.1 this
    exact ⟨q', h4, h5⟩
  · rcases hmem q hq with rfl | ⟨hq, _⟩
    · simp
    · exact h.ne q hq
  · rw [h2] at hx
    rw [h1]
    rcases List.mem_append.1 hx with hx | hx
    · exact h.plen x hx
    · simp at hx; subst hx; exact ⟨hd, hk⟩
theorem PFacts.write_new {s' : Dsk} {k go : Nat} {d : List UInt8} {v' : Value} (h : PFacts s clock es fused left) (hp : pendOf s k = []) (hno : ∀ e ∈ es.map PEnt.ent, e.k ≠ (k : Int)) (hk : k < s.last.length) (hd : d.length = 512) (hpn : s.pend.length < 4398046511104)
    (h1 : s'.last = s.last) (h2 : s'.pend = s.pend ++ [(k, d)]) (h3 : s'.left = s.left) : PFacts s' (clock + 1) (es ++ [⟨k, v', clock, [(go, d)]⟩]) fused left := by
  have hne : ∀ q ∈ es, q.at_ ≠ k := fun q hq he => hno q.ent (List.mem_map.2 ⟨q, hq, rfl⟩) (by simp [PEnt.ent, he])
  refine ⟨fun q hq => ?_, ?_, ?_, fun q hq => ?_, fun x hx => ?_, fun q hq => ?_, by rw [h1]; exact h.len, fun x hx => ?_, by rw [h1]; exact h.n1, by rw [h1]; exact h.n2, by rw [h3]; exact h.fuse, by rw [h3]; exact h.left, by rw [h3]; exact h.lb, by rw [h2, List.length_append]; simp; omega⟩
  · rcases List.mem_append.1 hq with hq | hq
    · have := h.born q hq; omega
    · simp at hq; subst hq; simp
  · rw [List.map_append, List.nodup_append]
    refine ⟨h.bornN, by simp, fun a ha b hb => ?_⟩
    obtain ⟨q, hq, rfl⟩ := List.mem_map.1 ha
    simp at hb; subst hb
    have := h.born q hq; omega
  · rw [List.map_append, List.nodup_append]
    refine ⟨h.keyN, by simp, fun a ha b hb => ?_⟩
    obtain ⟨q, hq, rfl⟩ := List.mem_map.1 ha
    simp at hb; subst hb
    exact hne q hq
  · rw [pendOf_snoc s k q.at_ d s' h2]
    rcases List.mem_append.1 hq with hq | hq
    · rw [if_neg (fun e => hne q hq e.symm), List.append_nil]; exact h.ws q hq
    · simp at hq; subst hq; simp [hp]
  · rw [h2] at hx
    rcases List.mem_append.1 hx with hx | hx
    · obtain ⟨q, hq, he⟩ := h.has x hx
      exact ⟨q, List.mem_append_left _ hq, he⟩
    · simp at hx; subst hx; exact ⟨_, List.mem_append_right _ (List.mem_singleton.2 rfl), rfl⟩
  · rcases List.mem_append.1 hq with hq | hq
    · exact h.ne q hq
    · simp at hq; subst hq; simp
  · rw [h2] at hx
    rw [h1]
    rcases List.mem_append.1 hx with hx | hx
    · exact h.plen x hx
    · simp at hx; subst hx; exact ⟨hd, hk⟩
end
end Go.Proofs
