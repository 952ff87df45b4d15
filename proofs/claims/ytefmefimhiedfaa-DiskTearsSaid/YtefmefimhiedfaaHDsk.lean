/- The abstract disk, and when the program's disk holds it: its variable, what lasts, the map of what is pending. -/
import Derived.Test.YtefmefimhiedfaaHDisk1
open Go Go.RowKit Go.Proofs.YtefmefimhiedfaaW.PrintWords Go.Proofs.YtefmefimhiedfaaW.PrintMore
namespace Go.Proofs
open Go.Vel
set_option linter.unusedVariables false
/-- A disk: what lasts, by sector; what is pending, in order; the fuse (-1: none); the life; what was asked. -/
structure Dsk where
  last : List (List UInt8)
  pend : List (Nat × List UInt8)
  left : Int
  life : Int
  rd : Int
  wr : Int
  fl : Int
  rf : Int
/-- An entry of the map of what is pending: the sector, the list's value, its stamp, the writes: where each lies, and its bytes. -/
structure PEnt where
  at_ : Nat
  v : Value
  b : Nat
  ws : List (Nat × List UInt8)
def PEnt.ent (p : PEnt) : Ent := ⟨(p.at_ : Int), p.v, p.b⟩
def PEnt.val (x : Nat × List UInt8) : Value := .slice (some ⟨x.1, 0, none⟩) 512 512
def PEnt.row (x : Nat × List UInt8) : Ast := Vel.row x.1 (bvs x.2) 5
def PEnt.ast (p : PEnt) : Ast := stars [vec 31 1 p.v p.ws.length (p.ws.map PEnt.val), stars (p.ws.map PEnt.row)]
def pendOf (s : Dsk) (at_ : Nat) : List (List UInt8) := (s.pend.filter (fun x => x.1 == at_)).map (·.2)
structure PFacts (s : Dsk) (clock : Nat) (es : List PEnt) (fused : Bool) (left : Int) : Prop where
  born : ∀ p ∈ es, p.b < clock
  bornN : (es.map (·.b)).Nodup
  keyN : (es.map (·.at_)).Nodup
  ws : ∀ p ∈ es, p.ws.map (·.2) = pendOf s p.at_
  has : ∀ x ∈ s.pend, ∃ p ∈ es, p.at_ = x.1
  ne : ∀ p ∈ es, p.ws ≠ []
  len : ∀ l ∈ s.last, l.length = 512
  plen : ∀ x ∈ s.pend, x.2.length = 512 ∧ x.1 < s.last.length
  n1 : 1 ≤ s.last.length
  n2 : s.last.length ≤ 2048
  fuse : fused = decide (0 ≤ s.left)
  left : 0 ≤ s.left → left = s.left
  lb : -1 ≤ s.left ∧ s.left ≤ 9223372036854775807
  pn : s.pend.length ≤ 4611686018427387904
/-- The program's disk at g holds s: laid open. -/
def pdParts (g gd gm clock : Nat) (es : List PEnt) (fused : Bool) (left : Int) (s : Dsk) : List Ast :=
  [row g (dcells gd (512 * s.last.length) (512 * s.last.length) gm fused left s.life s.rd s.wr s.fl s.rf s.pend.length) 87, row gd (bvs s.last.flatten) 5, pt gm (mapO (es.map PEnt.ent) clock), stars (es.map PEnt.ast)]
def PDisk (g : Nat) (s : Dsk) : Ast := fun h => ∃ gd gm clock es fused left, PFacts s clock es fused left ∧ stars (pdParts g gd gm clock es fused left s) h
theorem flat_len : ∀ {l : List (List UInt8)}, (∀ x ∈ l, x.length = 512) → l.flatten.length = 512 * l.length
  | [], _ => rfl
  | x :: r, h => by
    rw [List.flatten_cons, List.length_append, h x List.mem_cons_self, flat_len (fun y hy => h y (List.mem_cons_of_mem _ hy)), List.length_cons]; omega
theorem flat_sec : ∀ {l : List (List UInt8)}, (∀ x ∈ l, x.length = 512) → ∀ k x, l[k]? = some x → (l.flatten.drop (512 * k)).take 512 = x
  | [], _, k, x, hk => by simp at hk
  | y :: r, h, 0, x, hk => by
    simp at hk
    subst hk
    rw [Nat.mul_zero, List.drop_zero, List.flatten_cons, List.take_append_of_le_length (by rw [h y List.mem_cons_self]; exact Nat.le_refl _), List.take_of_length_le (by rw [h y List.mem_cons_self]; exact Nat.le_refl _)]
  | y :: r, h, k + 1, x, hk => by
    have hy := h y List.mem_cons_self
    rw [List.flatten_cons, List.drop_append, List.drop_of_length_le (by rw [hy]; omega), List.nil_append, hy, show 512 * (k + 1) - 512 = 512 * k from by omega]
    exact flat_sec (fun z hz => h z (List.mem_cons_of_mem _ hz)) k x (by simpa using hk)
theorem flat_set : ∀ {l : List (List UInt8)}, (∀ x ∈ l, x.length = 512) → ∀ k x, k < l.length → x.length = 512 → splice l.flatten (512 * k) x = (l.set k x).flatten
  | [], _, k, x, hk, _ => by simp at hk
  | y :: r, h, 0, x, hk, hx => by
    have hy := h y List.mem_cons_self
    simp only [splice, Nat.mul_zero, List.take_zero, List.nil_append, Nat.zero_add, List.flatten_cons, List.set_cons_zero]
    rw [hx, List.drop_append, List.drop_of_length_le (by omega), List.nil_append, hy]; rfl
  | y :: r, h, k + 1, x, hk, hx => by
    have hy := h y List.mem_cons_self
    have ih := flat_set (fun z hz => h z (List.mem_cons_of_mem _ hz)) k x (by simpa using hk) hx
    simp only [splice, List.flatten_cons, List.set_cons_succ] at ih ⊢
    rw [← ih, List.take_append, List.take_of_length_le (by omega), List.drop_append, List.drop_of_length_le (by omega), hy, show 512 * (k + 1) - 512 = 512 * k from by omega, show 512 * (k + 1) + x.length - 512 = 512 * k + x.length from by omega]
    simp
section
variable {F : Nat → Prop} {w0 w : World} {L : List Ast} {g : Nat} {s : Dsk}
theorem St.popen (S : St F w0 w (PDisk g s :: L)) : ∃ gd gm clock es fused left, PFacts s clock es fused left ∧ St F w0 w (pdParts g gd gm clock es fused left s ++ L) := by
  obtain ⟨gd, S⟩ := S.ex
  obtain ⟨gm, S⟩ := S.ex
  obtain ⟨clock, S⟩ := S.ex
  obtain ⟨es, S⟩ := S.ex
  obtain ⟨fused, S⟩ := S.ex
  obtain ⟨left, S⟩ := S.ex
  obtain ⟨hf, S⟩ := S.fact
  exact ⟨gd, gm, clock, es, fused, left, hf, S.flat⟩
theorem St.pclose {gd gm clock : Nat} {es : List PEnt} {fused : Bool} {left : Int} (S : St F w0 w (pdParts g gd gm clock es fused left s ++ L)) (hf : PFacts s clock es fused left) : St F w0 w (PDisk g s :: L) :=
  S.star.map1 fun _ h => ⟨gd, gm, clock, es, fused, left, hf, h⟩
end
/-- Which entry is a sector's. -/
theorem PFacts.find {s : Dsk} {clock : Nat} {es : List PEnt} {fused : Bool} {left : Int} (h : PFacts s clock es fused left) (at_ : Nat) : (pendOf s at_ = [] ∧ ∀ e ∈ es.map PEnt.ent, e.k ≠ (at_ : Int)) ∨ ∃ (j : Nat) (p : PEnt), es[j]? = some p ∧ p.at_ = at_ ∧ pendOf s at_ = p.ws.map (·.2) ∧ p.ws ≠ [] ∧ (es.map PEnt.ent)[j]? = some p.ent ∧ p.ent.k = (at_ : Int) ∧ ∀ m e, m < j → (es.map PEnt.ent)[m]? = some e → e.k ≠ (at_ : Int) := by
  by_cases hp : ∃ p ∈ es, p.at_ = at_
  · obtain ⟨p, hm, hat⟩ := hp
    obtain ⟨j, hj⟩ := List.getElem?_of_mem hm
    refine .inr ⟨j, p, hj, hat, by rw [h.ws p hm, hat], h.ne p hm, by rw [List.getElem?_map, hj]; rfl, by simp [PEnt.ent, hat], fun m e hmj he hk => ?_⟩
    rw [List.getElem?_map] at he
    cases hq : es[m]? with
    | none => simp [hq] at he
    | some q =>
      simp [hq] at he
      subst he
      have hqk : q.at_ = at_ := by simp [PEnt.ent] at hk; omega
      have h1 := List.pairwise_iff_getElem.1 h.keyN m j (by have := (List.getElem?_eq_some_iff.1 hq).1; simpa using this) (by have := (List.getElem?_eq_some_iff.1 hj).1; simpa using this) hmj
      simp only [List.getElem_map] at h1
      have e1 : es[m]'(List.getElem?_eq_some_iff.1 hq).1 = q := (List.getElem?_eq_some_iff.1 hq).2
      have e2 : es[j]'(List.getElem?_eq_some_iff.1 hj).1 = p := (List.getElem?_eq_some_iff.1 hj).2
      rw [e1, e2] at h1
      exact h1 (hqk.trans hat.symm)
  · refine .inl ⟨?_, fun e he hk => ?_⟩
    · unfold pendOf
      rw [List.map_eq_nil_iff, List.filter_eq_nil_iff]
      intro x hx hk
      obtain ⟨p, hm, hat⟩ := h.has x hx
      exact hp ⟨p, hm, hat.trans (by simpa using hk)⟩
    · obtain ⟨p, hm, rfl⟩ := List.mem_map.1 he
      exact hp ⟨p, hm, by simp [PEnt.ent] at hk; omega⟩
/-- What a sector holds now. -/
def Dsk.now (s : Dsk) (at_ : Nat) : List UInt8 := match (pendOf s at_).getLast? with | some d => d | none => s.last.getD at_ []
/-- A list of bytes that is handed out: its own memory, or nil. -/
def bytesA (v : Value) (l : List UInt8) : Ast := fun h => (v = .slice none 0 0 ∧ l = [] ∧ emp h) ∨ ∃ g, v = .slice (some ⟨g, 0, none⟩) l.length l.length ∧ row g (bvs l) 5 h
section
variable {F : Nat → Prop} {w0 w : World} {L : List Ast}
theorem St.bytes_nil (S : St F w0 w L) : St F w0 w (bytesA (.slice none 0 0) [] :: L) := by
  have h := St.vec_nil (e := 0) (sz := 0) S
  exact h.map1 fun p hp => .inl ⟨rfl, rfl, by
    rcases hp with ⟨_, _, _, h⟩ | ⟨_, _, _, h, _⟩
    · exact h
    · cases h⟩
theorem St.bytes_row {g n c : Nat} {l : List UInt8} (S : St F w0 w (row g (bvs l) 5 :: L)) (hn : n = l.length) (hc : c = l.length) : St F w0 w (bytesA (.slice (some ⟨g, 0, none⟩) n c) l :: L) := by
  subst hn hc
  exact S.map1 fun p hp => .inr ⟨g, rfl, hp⟩
/-- What is handed out can be read, as long as it is owned. -/
theorem St.bytes_read {v : Value} {l : List UInt8} (S : St F w0 w L) (i : Nat) (hi : L[i]? = some (bytesA v l)) : ∃ A, v = .slice A l.length l.length ∧ RdB w A l := by
  have S1 := S.mem i hi
  obtain ⟨q, hq⟩ := S1.own.holds
  rcases hq with ⟨rfl, rfl, _⟩ | ⟨g, rfl, hr⟩
  · exact ⟨none, rfl, RdB.nil⟩
  · have S2 : St F w0 w [row g (bvs l) 5] := by
      obtain ⟨fr, hs, h1, h2, h3⟩ := S1
      refine ⟨fr, hs, fun j A hj => ?_, h2, h3⟩
      cases j with
      | zero =>
        simp at hj
        subst hj
        rcases h1 0 _ rfl with ⟨h, _⟩ | ⟨g', e, hr'⟩
        · cases h
        · have hg : g = g' := by simpa using e
          subst hg; exact hr'
      | succ j => simp at hj
    exact ⟨_, rfl, RdB.row (S2.blk 0 rfl) 0 l.length l (by simp)⟩
theorem St.bytes_eq {v : Value} {l : List UInt8} (S : St F w0 w (bytesA v l :: L)) : ∃ A, v = .slice A l.length l.length ∧ St F w0 w (bytesA (.slice A l.length l.length) l :: L) := by
  obtain ⟨A, e, _⟩ := St.bytes_read S 0 rfl
  exact ⟨A, e, e ▸ S⟩
theorem RoT.bytes {v : Value} {l : List UInt8} {A : Option Addr} {n c : Nat} (j : Nat) (hj : L[j]? = some (bytesA v l)) (hv : v = .slice A n c) : RoT F w0 L A l := ⟨fun w' L' S => by
  have h1 : (L' ++ L)[L'.length + j]? = some (bytesA v l) := by rw [List.getElem?_append_right (by omega)]; simpa using hj
  obtain ⟨A', e, h2⟩ := St.bytes_read S _ h1
  rw [hv] at e
  simp at e
  rw [e.1]; exact h2⟩
end
theorem PFacts.congr {s s' : Dsk} {clock : Nat} {es : List PEnt} {fused : Bool} {left : Int} (h : PFacts s clock es fused left) (h1 : s'.last = s.last) (h2 : s'.pend = s.pend) (h3 : s'.left = s.left) : PFacts s' clock es fused left := by
  have hp : ∀ a, pendOf s' a = pendOf s a := fun a => by unfold pendOf; rw [h2]
  exact ⟨h.born, h.bornN, h.keyN, fun p hm => (h.ws p hm).trans (hp _).symm, by rw [h2]; exact h.has, h.ne, by rw [h1]; exact h.len, by rw [h1, h2]; exact h.plen, by rw [h1]; exact h.n1, by rw [h1]; exact h.n2, by rw [h3]; exact h.fuse, by rw [h3]; exact h.left, by rw [h3]; exact h.lb, by rw [h2]; exact h.pn⟩
theorem PFacts.burnt {s : Dsk} {clock : Nat} {es : List PEnt} {fused : Bool} {left : Int} (h : PFacts s clock es fused left) : (fused && decide (left = 0)) = decide (s.left = 0) := by
  have h1 := h.fuse
  have h2 := h.left
  have h3 := h.lb.1
  by_cases hz : s.left = 0
  · have := h2 (by omega)
    simp [h1, hz]; omega
  · by_cases hn : 0 ≤ s.left
    · have := h2 hn
      simp [h1, hz]; omega
    · have e : decide (0 ≤ s.left) = false := decide_eq_false hn
      simp [h1, e, hz]
theorem copy_all {x : List UInt8} {n : Nat} (h : x.length = n) : splice (List.replicate n 0) 0 (x.take n) = x := by
  rw [List.take_of_length_le (by omega)]
  simp [splice, h]
theorem copy512 {x : List UInt8} (h : x.length = 512) : splice (List.replicate 512 0) 0 (x.take 512) = x := copy_all h
/-- What stands of an entry in memory. -/
theorem pend_facts {F : Nat → Prop} {w0 w : World} {L : List Ast} {es : List PEnt} {j : Nat} {p : PEnt} (S : St F w0 w L) (i : Nat) (hi : L[i]? = some (stars (es.map PEnt.ast))) (hj : es[j]? = some p) (hne : p.ws ≠ []) : ∃ (gb cb : Nat) (cells : Array Value), p.v = .slice (some ⟨gb, 0, none⟩) p.ws.length cb ∧ Blk w gb cells 31 ∧ (∀ (m : Nat) (x : Nat × List UInt8), p.ws[m]? = some x → cells[m]? = some (PEnt.val x)) ∧ ∀ x ∈ p.ws, Blk w x.1 (bvs x.2) 5 := by
  have S1 := (S.mem i hi).star_mem (List.mem_map.2 ⟨p, List.mem_of_getElem? hj, rfl⟩)
  have S2 := St.unstar S1
  obtain ⟨gb, cb, junk, hv, _, h3, _, S3⟩ := S2.vec_open (List.length_pos_iff.2 hne)
  refine ⟨gb, cb, _, hv, S3.blk 0 rfl, fun m x hx => ?_, fun x hx => ?_⟩
  · rw [List.getElem?_toArray, List.getElem?_append_left (by have := (List.getElem?_eq_some_iff.1 hx).1; simpa using this), List.getElem?_map, hx]; rfl
  · exact ((S3.mem 1 rfl).star_mem (List.mem_map.2 ⟨x, hx, rfl⟩)).blk 0 rfl
theorem last_some {α β : Type} {f : α → β} {l : List α} (h : l ≠ []) : ∃ x, l[l.length - 1]? = some x ∧ (l.map f).getLast? = some (f x) ∧ x ∈ l := by
  have hl := List.length_pos_iff.2 h
  refine ⟨l[l.length - 1]'(by omega), List.getElem?_eq_getElem _, ?_, List.getElem_mem _⟩
  rw [List.getLast?_eq_getElem?, List.getElem?_map, List.length_map, List.getElem?_eq_getElem (by omega)]; rfl
def Dsk.readR (s : Dsk) (at_ : Int) : Dsk × List UInt8 × Int :=
  if s.left = 0 then (s, [], 3) else if at_ < 0 ∨ (s.last.length : Int) ≤ at_ then ({ s with rf := inc s.rf }, [], 11) else ({ s with rd := inc s.rd }, s.now at_.toNat, 0)
theorem Dsk.now_some {s : Dsk} {a : Nat} {ws : List (List UInt8)} {x : List UInt8} (h : pendOf s a = ws) (hx : ws.getLast? = some x) : s.now a = x := by unfold Dsk.now; rw [h, hx]
theorem Dsk.now_none {s : Dsk} {a : Nat} (h : pendOf s a = []) : s.now a = s.last.getD a [] := by unfold Dsk.now; rw [h]; rfl
theorem mem_getD {l : List (List UInt8)} {k : Nat} (h : k < l.length) : l[k]? = some (l.getD k []) := by rw [List.getD_eq_getElem?_getD, List.getElem?_eq_getElem h]; rfl
end Go.Proofs
