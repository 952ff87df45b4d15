/- A law of the walk for a region that draws its order: every operation ahead of place n tells something of its value that outlives new memory; then whatever order is drawn, all of it is told together; from place n on the operations go in the order of the text. Over any program. -/
import Derived.Below
import Derived.Tactics2
import Derived.Orders
import Derived.StillTail
open Go Go.RowKit
namespace Go.Vel
/-- Does the operation wait for operation j? -/
def waits (o : Oper) (j : Nat) : Bool := o.after.any fun e => Region.binds .any e && e.on == j
/-- The frame with the values of those operations that 'sel' picks. -/
def fill (l : List Oper) (sel : Nat → Bool) (vals : Nat → Value) (a : Act) : Act :=
  { a with tmps := a.tmps.mapIdx fun t v => match (List.range l.length).find? (fun i => sel i && ((l[i]?).bind (·.dst) == some t)) with | some i => vals i | none => v }
/-- What is asked of the text of a region: no two operations write one slot; an operation that looks at a slot waits for its writer, or its writer waits for it; those from n on wait for all that stand ahead of them. -/
def relyB (l : List Oper) (n : Nat) : Bool :=
  Region.noSelect l.toArray &&
  decide (n ≤ l.length) &&
  (List.range l.length).all (fun i => (List.range l.length).all fun j =>
    match l[i]?, l[j]? with
    | some oi, some oj =>
      (i == j || oi.dst.isNone || oi.dst != oj.dst) &&
      (match oj.dst with
       | some t => !((oi.looksAt l.toArray).contains t) || waits oi j || waits oj i || i == j && false
       | none => true) &&
      (!(decide (n ≤ i) && decide (j < i)) || waits oi j)
    | _, _ => true)
def gives (P : Program) (K : Value → World → Prop) : Result Next → Prop
  | .ok (.value v) w' => K v w'
  | .ok .skip w' => K undef w'
  | .ok (.enter f args) w' => Calls P f args w' fun e w'' => ∃ v, e = .returned v ∧ K v w''
  | _ => False
section
variable {P : Program} {l : List Oper} {Q : Exit → Act → World → Prop} {a : Act} {n : Nat}
theorem find_congr {α : Type} {p q : α → Bool} : ∀ {l : List α}, (∀ x, x ∈ l → p x = q x) → l.find? p = l.find? q
  | [], _ => rfl
  | x :: l, h => by
    simp only [List.find?_cons, h x List.mem_cons_self, find_congr (fun y hy => h y (List.mem_cons_of_mem _ hy))]
theorem find_sel {m : Nat} {p : Nat → Bool} {i : Nat} (h : (List.range m).find? p = some i) : i < m ∧ p i = true :=
  ⟨List.mem_range.1 (List.mem_of_find?_eq_some h), List.find?_some h⟩
theorem fill_size (sel : Nat → Bool) (vals : Nat → Value) : (fill l sel vals a).tmps.size = a.tmps.size := by simp [fill]
theorem fill_get (sel : Nat → Bool) (vals : Nat → Value) (t : Nat) : (fill l sel vals a).tmps[t]? = (a.tmps[t]?).map fun v => match (List.range l.length).find? (fun i => sel i && ((l[i]?).bind (·.dst) == some t)) with | some i => vals i | none => v := by
  simp [fill]
theorem act_ext {x y : Act} (h1 : ∀ t : Nat, x.tmps[t]? = y.tmps[t]?) (h2 : x.defers = y.defers) : x = y := by
  cases x; cases y
  simp only [Act.mk.injEq]
  exact ⟨Array.ext_getElem? h1, h2⟩
theorem relyB_spec (h : relyB l n = true) : Region.noSelect l.toArray = true ∧ n ≤ l.length ∧ ∀ i j oi oj, l[i]? = some oi → l[j]? = some oj →
    (i ≠ j → ∀ t, oi.dst = some t → oj.dst ≠ some t) ∧ (∀ t, oj.dst = some t → t ∈ oi.looksAt l.toArray → waits oi j = true ∨ waits oj i = true) ∧ (n ≤ i → j < i → waits oi j = true) := by
  simp only [relyB, Bool.and_eq_true, decide_eq_true_eq] at h
  obtain ⟨⟨h1, h2⟩, h3⟩ := h
  refine ⟨h1, h2, fun i j oi oj hi hj => ?_⟩
  have hil : i < l.length := (List.getElem?_eq_some_iff.1 hi).1
  have hjl : j < l.length := (List.getElem?_eq_some_iff.1 hj).1
  have h4 := List.all_eq_true.1 (List.all_eq_true.1 h3 i (List.mem_range.2 hil)) j (List.mem_range.2 hjl)
  simp only [hi, hj, Bool.and_eq_true] at h4
  obtain ⟨⟨h5, h6⟩, h7⟩ := h4
  refine ⟨fun hne t ht he => ?_, fun t ht hl => ?_, fun hn hlt => ?_⟩
  · simp [hne, ht, he] at h5
  · simp only [ht] at h6
    have hc : (oi.looksAt l.toArray).contains t = true := by simpa using hl
    simp only [hc, Bool.not_true, Bool.false_or, Bool.and_false, Bool.or_false, Bool.or_eq_true] at h6
    exact h6
  · simpa [hn, hlt] using h7
/-- A frame that agrees on all that the operation looks at. -/
theorem run_same {o : Oper} {x y : Act} (hs : ∀ cs b, o.op ≠ .select cs b) (h : ∀ t : Nat, t ∈ o.looksAt l.toArray → x.tmps[t]? = y.tmps[t]?) :
    execOp x.eval o = execOp y.eval o ∧ Region.wanted o (yielded l.toArray x.tmps) = Region.wanted o (yielded l.toArray y.tmps) := by
  constructor
  · refine execOp_congr o hs (fun op hop => ?_)
    cases op with
    | tmp t =>
      have hm : t ∈ o.looksAt l.toArray := by
        unfold Oper.looksAt
        refine List.mem_append_left _ (List.mem_filterMap.2 ⟨.tmp t, by simpa using hop, rfl⟩)
      simp only [Act.eval, Array.getD_eq_getD_getElem?]
      rw [h t hm]
    | _ => rfl
  · unfold Region.wanted
    cases hg : o.guard with
    | none => rfl
    | some gd =>
      obtain ⟨g, want⟩ := gd
      have e : yielded l.toArray x.tmps g = yielded l.toArray y.tmps g := by
        unfold yielded
        cases hgd : (l.toArray[g]?).bind (·.dst) with
        | none => rfl
        | some t =>
          have hm : t ∈ o.looksAt l.toArray := by
            unfold Oper.looksAt
            refine List.mem_append_right _ ?_
            simp only [hg, hgd, Option.toList]
            exact List.mem_singleton.2 rfl
          simp only [Option.bind_some, h t hm]
      show (yielded l.toArray x.tmps g == some want) = _
      rw [e]
theorem gives_mono {K K' : Value → World → Prop} (h : ∀ v w, K v w → K' v w) {r : Result Next} (hr : gives P K r) : gives P K' r := by
  cases r with
  | halt x w => exact hr
  | ok x w =>
    cases x <;> first
      | exact h _ _ hr
      | exact hr
      | exact Calls.mono hr (fun e w'' ⟨v, he, hk⟩ => ⟨v, he, h _ _ hk⟩)
theorem wp_of_gives {o : Oper} {x : Act} {w : World} {K : Act → World → Prop} (h : gives P (fun v w' => K (x.put o.dst v) w') ((execOp x.eval o).run P w)) : o.wp P x w K Q := by
  unfold Oper.wp
  generalize (execOp x.eval o).run P w = r at h
  cases r with
  | halt y w' => exact h.elim
  | ok y w' =>
    cases y <;> first
      | exact h
      | exact h.elim
      | exact Calls.mono h (fun e w'' ⟨v, he, hk⟩ => by subst he; exact hk)
/-- How many below n are not picked. -/
def cnt (f : Nat → Bool) : Nat → Nat
  | 0 => 0
  | n + 1 => cnt f n + (if f n then 0 else 1)
theorem cnt_set {f g : Nat → Bool} {i : Nat} (hf : f i = false) (hg : g i = true) (he : ∀ j, j ≠ i → g j = f j) : ∀ n, cnt f n = cnt g n + (if i < n then 1 else 0)
  | 0 => by simp [cnt]
  | n + 1 => by
    have ih := cnt_set hf hg he n
    simp only [cnt]
    by_cases h : n = i
    · subst h
      rw [hf, hg, ih]
      simp
    · rw [he n h, ih]
      rcases Nat.lt_or_ge i n with hlt | hge
      · have h2 : i < n + 1 := by omega
        simp only [hlt, h2, if_true]; omega
      · have h1 : ¬ i < n := by omega
        have h2 : ¬ i < n + 1 := by omega
        simp only [h1, h2, if_false]; omega
theorem cnt_zero {f : Nat → Bool} : ∀ {n : Nat}, cnt f n = 0 → ∀ i, i < n → f i = true
  | 0, _, i, hi => by omega
  | n + 1, h, i, hi => by
    simp only [cnt] at h
    have h1 : cnt f n = 0 := by omega
    by_cases he : i = n
    · subst he
      cases hf : f i with
      | true => rfl
      | false => simp [hf] at h
    · exact cnt_zero h1 i (by omega)
theorem cnt_pos {f : Nat → Bool} : ∀ {n : Nat}, 0 < cnt f n → ∃ i, i < n ∧ f i = false ∧ ∀ j, j < i → f j = true
  | 0, h => by simp [cnt] at h
  | n + 1, h => by
    by_cases h1 : 0 < cnt f n
    · obtain ⟨i, hi, hf, hj⟩ := cnt_pos h1
      exact ⟨i, by omega, hf, hj⟩
    · simp only [cnt] at h
      refine ⟨n, by omega, ?_, fun j hj => cnt_zero (by omega) j hj⟩
      cases hf : f n with
      | false => rfl
      | true => simp [hf] at h; omega
/-- What is asked besides: edges go back in the text; behind the first n the others come one by one. -/
def relyC (l : List Oper) (n : Nat) : Bool :=
  (List.range l.length).all (fun i => match l[i]? with | some oi => oi.after.all (fun e => !Region.binds .any e || decide (e.on < i)) | none => true) &&
  Region.seqB .any l.toArray (l.length - n) n (((List.range l.length).map fun i => decide (i < n)).toArray)
theorem waits_of {o : Oper} {e : Edge} (he : e ∈ o.after) (hb : Region.binds .any e = true) : waits o e.on = true := by
  unfold waits
  exact Array.any_eq_true'.2 ⟨e, he, by simp [hb]⟩
theorem of_waits {o : Oper} {j : Nat} (h : waits o j = true) : ∃ e ∈ o.after, Region.binds .any e = true ∧ e.on = j := by
  obtain ⟨e, he, h2⟩ := Array.any_eq_true'.1 h
  simp only [Bool.and_eq_true, beq_iff_eq] at h2
  exact ⟨e, he, h2.1, h2.2⟩
theorem getD_listed {listed : Array Bool} {i j : Nat} {d : Bool} (hj : j < listed.size) : (listed.setIfInBounds i true).getD j d = (if i = j then true else listed.getD j d) := by
  simp only [Array.getD_eq_getD_getElem?, Array.getElem?_setIfInBounds]
  by_cases h : i = j
  · subst h; simp [hj]
  · simp [h]
variable {w : World} {Cls : World → Prop} {S : Nat → Value → World → Prop}
structure RInv (l : List Oper) (n : Nat) (a : Act) (Cls : World → Prop) (S : Nat → Value → World → Prop) (vals : Nat → Value) (listed : Array Bool) (x : Act) (w : World) : Prop where
  size : listed.size = l.length
  cls : Cls w
  told : ∀ j, j < n → listed.getD j false = true → S j (vals j) w
  frame : x = fill l (fun i => listed.getD i false) vals a
  tail : ∀ t, n ≤ t → listed.getD t false = false
  closed : ∀ j o k, l[j]? = some o → listed.getD j false = true → waits o k = true → listed.getD k false = true
theorem rely_key (hB : relyB l n = true) (hC : relyC l n = true)
    (hstab : ∀ i v w1 w2, Below w1.heap.size w1 w2 → S i v w1 → S i v w2)
    (hstep : ∀ i o (vals : Nat → Value) w1, i < n → l[i]? = some o → Cls w1 → (∀ j, waits o j = true → S j (vals j) w1) →
      if Region.wanted o (yielded l.toArray (fill l (waits o) vals a).tmps) = true then gives P (fun v w2 => Below w1.heap.size w1 w2 ∧ Cls w2 ∧ S i v w2) ((execOp (fill l (waits o) vals a).eval o).run P w1) else S i undef w1)
    (hend : ∀ vals w1, Cls w1 → (∀ j, j < n → S j (vals j) w1) → wpList P l.toArray Q (l.drop n) (fill l (fun i => decide (i < n)) vals a) w1) :
    ∀ (m : Nat) (vals : Nat → Value) (listed : Array Bool) (x : Act) (w : World), cnt (fun i => listed.getD i false) n = m → RInv l n a Cls S vals listed x w → wpAny P .any l.toArray Q (m + (l.length - n)) listed x w := by
  obtain ⟨hsel, hnl, hB'⟩ := relyB_spec hB
  simp only [relyC, Bool.and_eq_true] at hC
  obtain ⟨hback, hseq⟩ := hC
  have back : ∀ i o k, l[i]? = some o → waits o k = true → k < i := by
    intro i o k hi hw
    obtain ⟨e, he, hb, hon⟩ := of_waits hw
    have h1 := List.all_eq_true.1 hback i (List.mem_range.2 (List.getElem?_eq_some_iff.1 hi).1)
    simp only [hi] at h1
    have h2 := Array.all_eq_true_iff_forall_mem.1 h1 e he
    simp only [hb, Bool.not_true, Bool.false_or, decide_eq_true_eq] at h2
    omega
  intro m
  induction m with
  | zero =>
    intro vals listed x w hc inv
    have hall := cnt_zero hc
    have el : listed = ((List.range l.length).map fun i => decide (i < n)).toArray := by
      apply Array.ext_getElem?
      intro i
      by_cases hi : i < l.length
      · have h1 : listed[i]? = some (listed.getD i false) := by
          simp [inv.size, hi]
        rw [h1]
        simp only [List.getElem?_toArray, List.getElem?_map, List.getElem?_range hi, Option.map_some, Option.some.injEq]
        by_cases hin : i < n
        · rw [hall i hin]; simp [hin]
        · rw [inv.tail i (by omega)]; simp [hin]
      · rw [Array.getElem?_eq_none (by rw [inv.size]; omega), Array.getElem?_eq_none (by simp; omega)]
    have ef : x = fill l (fun i => decide (i < n)) vals a := by
      rw [inv.frame]
      unfold fill
      congr 2
      funext t v
      congr 2
      funext i
      by_cases hin : i < n
      · have := hall i hin
        simp only [this, hin, decide_true]
      · have := inv.tail i (by omega)
        simp only [this, hin, decide_false]
    rw [Nat.zero_add, el, ef]
    have hd : l.length - n = (l.drop n).length := by simp
    rw [hd]
    refine wpAny_of_seq (l.drop n) n _ _ _ (fun j => by simp) ?_ (hend vals w inv.cls (fun j hj => inv.told j hj (hall j hj)))
    rw [← hd]
    exact hseq
  | succ m ih =>
    intro vals listed x w hc inv
    rw [Nat.succ_add]
    obtain ⟨i0, hi0, hf0, hj0⟩ := cnt_pos (f := fun i => listed.getD i false) (n := n) (by omega)
    have hready : i0 ∈ Region.ready .any l.toArray listed := by
      have hil : i0 < l.length := by omega
      refine mem_ready.2 ⟨?_, l[i0], by simp [hil], fun e he hb => ?_⟩
      · have h1 : listed.getD i0 false = false := hf0
        rw [Array.getD_eq_getD_getElem?, Array.getElem?_eq_getElem (by rw [inv.size]; exact hil)] at h1 ⊢
        exact h1
      · exact hj0 e.on (back i0 _ _ (List.getElem?_eq_getElem hil) (waits_of he hb))
    refine ⟨fun h0 => (by rw [h0] at hready; cases hready), fun i hi => ?_⟩
    obtain ⟨hun, o, ho, hdeps⟩ := mem_ready.1 hi
    have ho' : l[i]? = some o := by simpa using ho
    have hil : i < l.length := (List.getElem?_eq_some_iff.1 ho').1
    have hun' : listed.getD i false = false := by
      rw [Array.getD_eq_getD_getElem?, Array.getElem?_eq_getElem (by rw [inv.size]; exact hil)] at hun ⊢
      exact hun
    have hdep : ∀ j, waits o j = true → listed.getD j false = true := fun j hj => by
      obtain ⟨e, he, hb, hon⟩ := of_waits hj
      exact hon ▸ hdeps e he hb
    have hin : i < n := by
      rcases Nat.lt_or_ge i n with h | h
      · exact h
      · have := hdep i0 ((hB' i i0 o _ ho' (List.getElem?_eq_getElem (show i0 < l.length by omega))).2.2 h (by omega))
        have hf0' : listed.getD i0 false = false := hf0
        rw [hf0'] at this
        cases this
    have hdn : ∀ j, waits o j = true → j < n := fun j hj => by have := back i o j ho' hj; omega
    -- the frame at hand and the frame of what it waits for agree on all that it looks at
    have agree : ∀ t : Nat, t ∈ o.looksAt l.toArray → (fill l (waits o) vals a).tmps[t]? = x.tmps[t]? := by
      intro t ht
      rw [inv.frame, fill_get, fill_get]
      congr 1
      funext v
      have e : (List.range l.length).find? (fun i => waits o i && ((l[i]?).bind (·.dst) == some t)) = (List.range l.length).find? (fun i => listed.getD i false && ((l[i]?).bind (·.dst) == some t)) := by
        refine find_congr (fun j hj => ?_)
        have hjl := List.mem_range.1 hj
        by_cases hd : (l[j]?).bind (·.dst) = some t
        · rw [hd]
          simp only [beq_self_eq_true, Bool.and_true]
          have hlj := List.getElem?_eq_getElem hjl
          rw [hlj] at hd
          have hor := (hB' i j o _ ho' hlj).2.1 t (by simpa using hd) ht
          cases hw : waits o j with
          | true => exact (hdep j hw).symm
          | false =>
            rw [hw] at hor
            simp only [Bool.false_eq_true, false_or] at hor
            cases hlj2 : listed.getD j false with
            | false => rfl
            | true =>
              have := inv.closed j _ i hlj hlj2 hor
              rw [hun'] at this
              cases this
        · have : ((l[j]?).bind (·.dst) == some t) = false := by simpa using hd
          rw [this]; simp
      rw [e]
    obtain ⟨hex, hwant⟩ := run_same (Region.noSelect_spec hsel i o · · ho) agree
    have hst := hstep i o vals w hin ho' inv.cls (fun j hj => inv.told j (hdn j hj) (hdep j hj))
    rw [hex, hwant] at hst
    have next : ∀ v w2, Below w.heap.size w w2 → Cls w2 → S i v w2 → wpAny P .any l.toArray Q (m + (l.length - n)) (listed.setIfInBounds i true) (x.put o.dst v) w2 := by
      intro v w2 hbel hcls hS
      have gd : ∀ j, (listed.setIfInBounds i true).getD j false = if i = j then true else listed.getD j false := by
        intro j
        by_cases hj : j < listed.size
        · exact getD_listed hj
        · have hij : i ≠ j := by rw [inv.size] at hj; omega
          rw [if_neg hij]
          simp only [Array.getD_eq_getD_getElem?]
          rw [Array.getElem?_eq_none (by simpa using hj), Array.getElem?_eq_none (by simpa using hj)]
      refine ih (fun j => if j = i then v else vals j) (listed.setIfInBounds i true) (x.put o.dst v) w2 ?_ ⟨by simp [inv.size], hcls, fun j hj hl => ?_, ?_, fun t ht => ?_, fun j o' k hj hl hw => ?_⟩
      · have := cnt_set (f := fun j => listed.getD j false) (g := fun j => (listed.setIfInBounds i true).getD j false) (i := i) hun' (by rw [gd, if_pos rfl]) (fun j hj => by rw [gd, if_neg (fun h => hj h.symm)]) n
        rw [if_pos hin] at this
        omega
      · by_cases hji : j = i
        · subst hji; simp; exact hS
        · rw [gd, if_neg (fun h => hji h.symm)] at hl
          simp only [hji, if_false]
          exact hstab j _ w w2 hbel (inv.told j hj hl)
      · rw [inv.frame]
        refine act_ext (fun t => ?_) ?_
        · rw [fill_get]
          cases hd : o.dst with
          | none =>
            show (fill l _ vals a).tmps[t]? = _
            rw [fill_get]
            congr 1
            funext u
            have e : ∀ j, j ∈ List.range l.length → (listed.getD j false && ((l[j]?).bind (·.dst) == some t)) = ((listed.setIfInBounds i true).getD j false && ((l[j]?).bind (·.dst) == some t)) := by
              intro j _
              by_cases hji : i = j
              · subst hji
                have : ((l[i]?).bind (·.dst) == some t) = false := by rw [ho']; simp [hd]
                rw [this]; simp
              · rw [gd, if_neg hji]
            rw [find_congr e]
            cases hfi : (List.range l.length).find? (fun i_1 => (listed.setIfInBounds i true).getD i_1 false && ((l[i_1]?).bind (·.dst) == some t)) with
            | none => rfl
            | some k =>
              have hk := find_sel hfi
              simp only [Bool.and_eq_true, beq_iff_eq] at hk
              have hki : k ≠ i := by
                rintro rfl
                rw [ho'] at hk
                simp [hd] at hk
              simp [hki]
          | some d =>
            show ((fill l _ vals a).tmps.setIfInBounds d v)[t]? = _
            rw [Array.getElem?_setIfInBounds]
            by_cases hdt : d = t
            · subst hdt
              rw [if_pos rfl]
              have hfi : (List.range l.length).find? (fun i_1 => (listed.setIfInBounds i true).getD i_1 false && ((l[i_1]?).bind (·.dst) == some d)) = some i := by
                rw [List.find?_eq_some_iff_getElem]
                refine ⟨by rw [gd, if_pos rfl, ho']; simp [hd], i, by simp [hil], by simp, fun j hj => ?_⟩
                have hjl : j < l.length := by omega
                have hlj := List.getElem?_eq_getElem hjl
                have hne := (hB' i j o _ ho' hlj).1 (by omega) d hd
                simp only [List.getElem_range, hlj, Option.bind_some]
                have : (l[j].dst == some d) = false := by simpa using hne
                rw [this]; simp
              rw [hfi, fill_size]
              by_cases hsz : d < a.tmps.size
              · simp [hsz]
              · simp [hsz]
            · rw [if_neg hdt, fill_get]
              congr 1
              funext u
              have e : ∀ j, j ∈ List.range l.length → (listed.getD j false && ((l[j]?).bind (·.dst) == some t)) = ((listed.setIfInBounds i true).getD j false && ((l[j]?).bind (·.dst) == some t)) := by
                intro j _
                by_cases hji : i = j
                · subst hji
                  have : ((l[i]?).bind (·.dst) == some t) = false := by rw [ho']; simp [hd, hdt]
                  rw [this]; simp
                · rw [gd, if_neg hji]
              rw [find_congr e]
              cases hfi : (List.range l.length).find? (fun i_1 => (listed.setIfInBounds i true).getD i_1 false && ((l[i_1]?).bind (·.dst) == some t)) with
              | none => rfl
              | some k =>
                have hk := find_sel hfi
                simp only [Bool.and_eq_true, beq_iff_eq] at hk
                have hki : k ≠ i := by
                  rintro rfl
                  rw [ho'] at hk
                  simp [hd, hdt] at hk
                simp [hki]
        · cases o.dst <;> rfl
      · rw [gd, if_neg (by omega)]; exact inv.tail t ht
      · by_cases hji : i = j
        · subst hji
          have hoo : o' = o := Option.some.inj (hj.symm.trans ho')
          subst hoo
          rw [gd]
          split
          · rfl
          · exact hdep k hw
        · rw [gd, if_neg hji] at hl
          rw [gd]
          split
          · rfl
          · exact inv.closed j o' k hj hl hw
    unfold wpOp
    simp only [ho]
    split
    · rename_i hw
      rw [if_pos hw] at hst
      exact .inl (wp_of_gives (gives_mono (fun v w2 h => next v w2 h.1 h.2.1 h.2.2) hst))
    · rename_i hw
      rw [if_neg hw] at hst
      exact next undef w (Below.refl _ _) inv.cls hst
/-- **The law.** -/
theorem wp_region_rely {id : Nat} (n : Nat) (Cls : World → Prop) (S : Nat → Value → World → Prop) (hm : P.follows .mixedOrders = true) (hB : relyB l n = true) (hC : relyC l n = true) (hcls : Cls w.drew)
    (hstab : ∀ i v w1 w2, Below w1.heap.size w1 w2 → S i v w1 → S i v w2)
    (hstep : ∀ i o (vals : Nat → Value) w1, i < n → l[i]? = some o → Cls w1 → (∀ j, waits o j = true → S j (vals j) w1) →
      if Region.wanted o (yielded l.toArray (fill l (waits o) vals a).tmps) = true then gives P (fun v w2 => Below w1.heap.size w1 w2 ∧ Cls w2 ∧ S i v w2) ((execOp (fill l (waits o) vals a).eval o).run P w1) else S i undef w1)
    (hend : ∀ vals w1, Cls w1 → (∀ j, j < n → S j (vals j) w1) → wpList P l.toArray Q (l.drop n) (fill l (fun i => decide (i < n)) vals a) w1) :
    (Code.region id l.toArray true).wp P Q a w := by
  refine wp_region_any hm ?_
  obtain ⟨_, hnl, _⟩ := relyB_spec hB
  have gd : ∀ j, (Array.replicate l.toArray.size false).getD j false = false := fun j => getD_replicate_false _ _
  have hc : cnt (fun i => (Array.replicate l.toArray.size false).getD i false) n = n := by
    have : ∀ m, cnt (fun i => (Array.replicate l.toArray.size false).getD i false) m = m := by
      intro m
      induction m with
      | zero => rfl
      | succ m ih =>
        show cnt _ m + (if (Array.replicate l.toArray.size false).getD m false = true then 0 else 1) = m + 1
        rw [ih, gd, if_neg (by decide)]
    exact this n
  have h := rely_key (Q := Q) hB hC hstab hstep hend n (fun _ => undef) (Array.replicate l.toArray.size false) a w.drew hc
    ⟨by simp, hcls, fun j _ hl => (by rw [gd] at hl; cases hl), ?_, fun t _ => gd t, fun j o k _ hl => (by rw [gd] at hl; cases hl)⟩
  · have e : n + (l.length - n) = l.toArray.size := by simp; omega
    rw [e] at h
    exact h
  · refine act_ext (fun t => ?_) rfl
    rw [fill_get]
    have e : (List.range l.length).find? (fun i => (Array.replicate l.toArray.size false).getD i false && ((l[i]?).bind (·.dst) == some t)) = none := by
      rw [List.find?_eq_none]
      intro j _
      rw [gd]; simp
    rw [e]
    simp
end
end Go.Vel
