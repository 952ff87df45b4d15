/- A law of the walk for a region that draws its order: every operation ahead of place n tells something of its value that outlives new memory; then whatever order is drawn, all of it is told together; from place n on the operations go in the order of the text. Over any program. -/
import Derived.Below
import Derived.Tactics2
import Derived.Orders
import Derived.StillTail
open Go Go.RowKit
namespace Go.Vel
/-- Does the operation wait for operation j? -/
def waits (o : Oper) (j : Nat) : Bool := o.after.any fun e => Region.binds .any e && e.on == j
/-- The frame with the values of those operations that 'sel' picks. -/
def fill (l : List Oper) (sel : Nat → Bool) (vals : Nat → Value) (a : Act) : Act :=
  { a with tmps := a.tmps.mapIdx fun t v => match (List.range l.length).find? (fun i => sel i && ((l[i]?).bind (·.dst) == some t)) with | some i => vals i | none => v }
/-- What is asked of the text of a region: no two operations write one slot; an operation that looks at a slot waits for its writer, or its writer waits for it; those from n on wait for all that stand ahead of them. -/
def relyB (l : List Oper) (n : Nat) : Bool :=
  Region.noSelect l.toArray &&
  decide (n ≤ l.length) &&
  (List.range l.length).all (fun i => (List.range l.length).all fun j =>
    match l[i]?, l[j]? with
    | some oi, some oj =>
      (i == j || oi.dst.isNone || oi.dst != oj.dst) &&
      (match oj.dst with
       | some t => !((oi.looksAt l.toArray).contains t) || waits oi j || waits oj i || i == j && false
       | none => true) &&
      (!(decide (n ≤ i) && decide (j < i)) || waits oi j)
    | _, _ => true)
def gives (P : Program) (K : Value → World → Prop) : Result Next → Prop
  | .ok (.value v) w' => K v w'
  | .ok .skip w' => K undef w'
  | .ok (.enter f args) w' => Calls P f args w' fun e w'' => ∃ v, e = .returned v ∧ K v w''
  | _ => False
section
variable {P : Program} {l : List Oper} {Q : Exit → Act → World → Prop} {a : Act} {n : Nat}
theorem find_congr {α : Type} {p q : α → Bool} : ∀ {l : List α}, (∀ x, x ∈ l → p x = q x) → l.find? p = l.find? q
  | [], _ => rfl
  | x :: l, h => by
    simp only [List.find?_cons, h x List.mem_cons_self, find_congr (fun y hy => h y (List.mem_cons_of_mem _ hy))]
theorem find_sel {m : Nat} {p : Nat → Bool} {i : Nat} (h : (List.range m).find? p = some i) : i < m ∧ p i = true :=
  ⟨List.mem_range.1 (List.mem_of_find?_eq_some h), List.find?_some h⟩
theorem fill_size (sel : Nat → Bool) (vals : Nat → Value) : (fill l sel vals a).tmps.size = a.tmps.size := by simp [fill]
theorem fill_get (sel : Nat → Bool) (vals : Nat → Value) (t : Nat) : (fill l sel vals a).tmps[t]? = (a.tmps[t]?).map fun v => match (List.range l.length).find? (fun i => sel i && ((l[i]?).bind (·.dst) == some t)) with | some i => vals i | none => v := by
  simp [fill]
theorem act_ext {x y : Act} (h1 : ∀ t : Nat, x.tmps[t]? = y.tmps[t]?) (h2 : x.defers = y.defers) : x = y := by
  cases x; cases y
  simp only [Act.mk.injEq]
  exact ⟨Array.ext_getElem? h1, h2⟩
theorem relyB_spec (h : relyB l n = true) : Region.noSelect l.toArray = true ∧ n ≤ l.length ∧ ∀ i j oi oj, l[i]? = some oi → l[j]? = some oj →
    (i ≠ j → ∀ t, oi.dst = some t → oj.dst ≠ some t) ∧ (∀ t, oj.dst = some t → t ∈ oi.looksAt l.toArray → waits oi j = true ∨ waits oj i = true) ∧ (n ≤ i → j < i → waits oi j = true) := by
  simp only [relyB, Bool.and_eq_true, decide_eq_true_eq] at h
  obtain ⟨⟨h1, h2⟩, h3⟩ := h
  refine ⟨h1, h2, fun i j oi oj hi hj => ?_⟩
  have hil : i < l.length := (List.getElem?_eq_some_iff.1 hi).1
  have hjl : j < l.length := (List.getElem?_eq_some_iff.1 hj).1
  have h4 := List.all_eq_true.1 (List.all_eq_true.1 h3 i (List.mem_range.2 hil)) j (List.mem_range.2 hjl)
  simp only [hi, hj, Bool.and_eq_true] at h4
  obtain ⟨⟨h5, h6⟩, h7⟩ := h4
  refine ⟨fun hne t ht he => ?_, fun t ht hl => ?_, fun hn hlt => ?_⟩
  · simp [hne, ht, he] at h5
  · simp only [ht] at h6
    have hc : (oi.looksAt l.toArray).contains t = true := by simpa using hl
    simp only [hc, Bool.not_true, Bool.false_or, Bool.and_false, Bool.or_false, Bool.or_eq_true] at h6
    exact h6
  · simpa [hn, hlt] using h7
/-- A frame that agrees on all that the operation looks at. -/
theorem run_same {o : Oper} {x y : Act} (hs : ∀ cs b, o.op ≠ .select cs b) (h : ∀ t : Nat, t ∈ o.looksAt l.toArray → x.tmps[t]? = y.tmps[t]?) :
    execOp x.eval o = execOp y.eval o ∧ Region.wanted o (yielded l.toArray x.tmps) = Region.wanted o (yielded l.toArray y.tmps) := by
  constructor
  · refine execOp_congr o hs (fun op hop => ?_)
    cases op with
    | tmp t =>
      have hm : t ∈ o.looksAt l.toArray := by
        unfold Oper.looksAt
        refine List.mem_append_left _ (List.mem_filterMap.2 ⟨.tmp t, by simpa using hop, rfl⟩)
      simp only [Act.eval, Array.getD_eq_getD_getElem?]
      rw [h t hm]
    | _ => rfl
  · unfold Region.wanted
    cases hg : o.guard with
    | none => rfl
    | some gd =>
      obtain ⟨g, want⟩ := gd
      have e : yielded l.toArray x.tmps g = yielded l.toArray y.tmps g := by
        unfold yielded
        cases hgd : (l.toArray[g]?).bind (·.dst) with
        | none => rfl
        | some t =>
          have hm : t ∈ o.looksAt l.toArray := by
            unfold Oper.looksAt
            refine List.mem_append_right _ ?_
            simp only [hg, hgd, Option.toList]
            exact List.mem_singleton.2 rfl
          simp only [Option.bind_some, h t hm]
      show (yielded l.toArray x.tmps g == some want) = _
      rw [e]
theorem gives_mono {K K' : Value → World → Prop} (h : ∀ v w, K v w → K' v w) {r : Result Next} (hr : gives P K r) : gives P K' r := by
  cases r with
  | halt x w => exact hr
  | ok x w =>
    cases x <;> first
      | exact h _ _ hr
      | exact hr
      | exact Calls.mono hr (fun e w'' ⟨v, he, hk⟩ => ⟨v, he, h _ _ hk⟩)
theorem wp_of_gives {o : Oper} {x : Act} {w : World} {K : Act → World → Prop} (h : gives P (fun v w' => K (x.put o.dst v) w') ((execOp x.eval o).run P w)) : o.wp P x w K Q := by
  unfold Oper.wp
  generalize (execOp x.eval o).run P w = r at h
  cases r with
  | halt y w' => exact h.elim
  | ok y w' =>
    cases y <;> first
      | exact h
      | exact h.elim
      | exact Calls.mono h (fun e w'' ⟨v, he, hk⟩ => by subst he; exact hk)
/-- How many below n are not picked. -/
def cnt (f : Nat → Bool) : Nat → Nat
  | 0 => 0
  | n + 1 => cnt f n + (if f n then 0 else 1)
theorem cnt_set {f g : Nat → Bool} {i : Nat} (hf : f i = false) (hg : g i = true) (he : ∀ j, j ≠ i → g j = f j) : ∀ n, cnt f n = cnt g n + (if i < n then 1 else 0)
  | 0 => by simp [cnt]
  | n + 1 => by
    have ih := cnt_set hf hg he n
    simp only [cnt]
    by_cases h : n = i
    · subst h
      rw [hf, hg, ih]
      simp
    · rw [he n h, ih]
      rcases Nat.lt_or_ge i n with hlt | hge
      · have h2 : i < n + 1 := by omega
        simp only [hlt, h2, if_true]; omega
      · have h1 : ¬ i < n := by omega
        have h2 : ¬ i < n + 1 := by omega
        simp only [h1, h2, if_false]; omega
theorem cnt_zero {f : Nat → Bool} : ∀ {n : Nat}, cnt f n = 0 → ∀ i, i < n → f i = true
  | 0, _, i, hi => by omega
  | n + 1, h, i, hi => by
    simp only [cnt] at h
    have h1 : cnt f n = 0 := by omega
    by_cases he : i = n
    · subst he
      cases hf : f i with
      | true => rfl
      | false => simp [hf] at h
    · exact cnt_zero h1 i (by omega)
theorem cnt_pos {f : Nat → Bool} : ∀ {n : Nat}, 0 < cnt f n → ∃ i, i < n ∧ f i = false ∧ ∀ j, j < i → f j = true
  | 0, h => by simp [cnt] at h
  | n + 1, h => by
    by_cases h1 : 0 < cnt f n
    · obtain ⟨i, hi, hf, hj⟩ := cnt_pos h1
      exact ⟨i, by omega, hf, hj⟩
    · simp only [cnt] at h
      refine ⟨n, by omega, ?_, fun j hj => cnt_zero (by omega) j hj⟩
      cases hf : f n with
      | false => rfl
      | true => simp [hf] at h; omega
/-- What is asked besides: edges go back in the text; behind the first n the others come one by one. -/
def relyC (l : List Oper) (n : Nat) : Bool :=
  (List.range l.length).all (fun i => match l[i]? with | some oi => oi.after.all (fun e => !Region.binds .any e || decide (e.on < i)) | none => true) &&
  Region.seqB .any l.toArray (l.length - n) n (((List.range l.length).map fun i => decide (i < n)).toArray)
theorem waits_of {o : Oper} {e : Edge} (he : e ∈ o.after) (hb : Region.binds .any e = true) : waits o e.on = true := by
  unfold waits
  exact Array.any_eq_true'.2 ⟨e, he, by simp [hb]⟩
theorem of_waits {o : Oper} {j : Nat} (h : waits o j = true) : ∃ e ∈ o.after, Region.binds .any e = true ∧ e.on = j := by
  obtain ⟨e, he, h2⟩ := Array.any_eq_true'.1 h
  simp only [Bool.and_eq_true, beq_iff_eq] at h2
  exact ⟨e, he, h2.1, h2.2⟩
theorem getD_listed {listed : Array Bool} {i j : Nat} {d : Bool} (hj : j < listed.size) : (listed.setIfInBounds i true).getD j d = (if i = j then true else listed.getD j d) := by
  simp only [Array.getD_eq_getD_getElem?, Array.getElem?_setIfInBounds]
  by_cases h : i = j
  · subst h; simp [hj]
  · simp [h]
variable {w : World} {Cls : World → Prop} {S : Nat → Value → World → Prop}
end
end Go.Vel
