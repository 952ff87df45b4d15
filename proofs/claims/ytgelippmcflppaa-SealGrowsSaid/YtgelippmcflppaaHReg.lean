/- A region that draws its order: its operations tell values, those that turn the memory come one behind the other; whatever order is drawn, all is told at the end. Over any program. -/
import Derived.Test.YtgelippmcflppaaHMore
open Go Go.RowKit Go.Proofs.YtgelippmcflppaaW.PrintWords Go.Proofs.YtgelippmcflppaaW.PrintMore
namespace Go.Vel
set_option linter.unusedVariables false
/-- Does operation i wait for operation k, by way of others too? -/
def dep (l : List Oper) : Nat → Nat → Nat → Bool
  | 0, _, _ => false
  | f + 1, i, k => match l[i]? with
    | none => false
    | some o => waits o k || (List.range l.length).any fun j => waits o j && dep l f j k
theorem dep_closed {l : List Oper} {D : Nat → Bool} (hc : ∀ j o k, l[j]? = some o → D j = true → waits o k = true → D k = true) : ∀ (f i k : Nat), dep l f i k = true → D i = true → D k = true
  | 0, _, _, h, _ => by simp [dep] at h
  | f + 1, i, k, h, hi => by
    unfold dep at h
    cases ho : l[i]? with
    | none => simp [ho] at h
    | some o =>
      simp only [ho, Bool.or_eq_true, List.any_eq_true, Bool.and_eq_true] at h
      rcases h with h | ⟨j, _, h1, h2⟩
      · exact hc i o k ho hi h
      · exact dep_closed hc f j k h2 (hc i o j ho hi h1)
section
variable {P : Program} {l : List Oper} {Q : Exit → Act → World → Prop} {a : Act} {n : Nat} {w : World}
structure RJ (l : List Oper) (n : Nat) (a : Act) (J : (Nat → Bool) → (Nat → Value) → World → Prop) (vals : Nat → Value) (listed : Array Bool) (x : Act) (w : World) : Prop where
  size : listed.size = l.length
  inv : J (fun j => listed.getD j false) vals w
  frame : x = fill l (fun i => listed.getD i false) vals a
  tail : ∀ t, n ≤ t → listed.getD t false = false
  closed : ∀ j o k, l[j]? = some o → listed.getD j false = true → waits o k = true → listed.getD k false = true
theorem inv_key {J : (Nat → Bool) → (Nat → Value) → World → Prop} (hB : relyB l n = true) (hC : relyC l n = true)
    (hstep : ∀ i o (D : Nat → Bool) (vals : Nat → Value) w1, i < n → l[i]? = some o → D i = false → (∀ j, waits o j = true → D j = true) → (∀ j o' k, l[j]? = some o' → D j = true → waits o' k = true → D k = true) → J D vals w1 →
      if Region.wanted o (yielded l.toArray (fill l (waits o) vals a).tmps) = true then gives P (fun v w2 => J (fun j => if j = i then true else D j) (fun j => if j = i then v else vals j) w2) ((execOp (fill l (waits o) vals a).eval o).run P w1) else J (fun j => if j = i then true else D j) (fun j => if j = i then undef else vals j) w1)
    (hend : ∀ D vals w1, (∀ j, j < n → D j = true) → J D vals w1 → wpList P l.toArray Q (l.drop n) (fill l (fun i => decide (i < n)) vals a) w1) :
    ∀ (m : Nat) (vals : Nat → Value) (listed : Array Bool) (x : Act) (w : World), cnt (fun i => listed.getD i false) n = m → RJ l n a J vals listed x w → wpAny P .any l.toArray Q (m + (l.length - n)) listed x w := by
  obtain ⟨hsel, hnl, hB'⟩ := relyB_spec hB
  simp only [relyC, Bool.and_eq_true] at hC
  obtain ⟨hback, hseq⟩ := hC
  have back : ∀ i o k, l[i]? = some o → waits o k = true → k < i := by
    intro i o k hi hw
    obtain ⟨e, he, hb, hon⟩ := of_waits hw
    have h1 := List.all_eq_true.1 hback i (List.mem_range.2 (List.getElem?_eq_some_iff.1 hi).1)
    simp only [hi] at h1
    have h2 := Array.all_eq_true_iff_forall_mem.1 h1 e he
    simp only [hb, Bool.not_true, Bool.false_or, decide_eq_true_eq] at h2
    omega
  intro m
  induction m with
  | zero =>
    intro vals listed x w hc inv
    have hall := cnt_zero hc
    have el : listed = ((List.range l.length).map fun i => decide (i < n)).toArray := by
      apply Array.ext_getElem?
      intro i
      by_cases hi : i < l.length
      · have h1 : listed[i]? = some (listed.getD i false) := by
          simp [inv.size, hi]
        rw [h1]
        simp only [List.getElem?_toArray, List.getElem?_map, List.getElem?_range hi, Option.map_some, Option.some.injEq]
        by_cases hin : i < n
        · rw [hall i hin]; simp [hin]
        · rw [inv.tail i (by omega)]; simp [hin]
      · rw [Array.getElem?_eq_none (by rw [inv.size]; omega), Array.getElem?_eq_none (by simp; omega)]
    have ef : x = fill l (fun i => decide (i < n)) vals a := by
      rw [inv.frame]
      unfold fill
      congr 2
      funext t v
      congr 2
      funext i
      by_cases hin : i < n
      · have := hall i hin
        simp only [this, hin, decide_true]
      · have := inv.tail i (by omega)
        simp only [this, hin, decide_false]
    rw [Nat.zero_add, el, ef]
    have hd : l.length - n = (l.drop n).length := by simp
    rw [hd]
    refine wpAny_of_seq (l.drop n) n _ _ _ (fun j => by simp) ?_ (hend _ vals w hall inv.inv)
    rw [← hd]
    exact hseq
  | succ m ih =>
    intro vals listed x w hc inv
    rw [Nat.succ_add]
    obtain ⟨i0, hi0, hf0, hj0⟩ := cnt_pos (f := fun i => listed.getD i false) (n := n) (by omega)
    have hready : i0 ∈ Region.ready .any l.toArray listed := by
      have hil : i0 < l.length := by omega
      refine mem_ready.2 ⟨?_, l[i0], by simp [hil], fun e he hb => ?_⟩
      · have h1 : listed.getD i0 false = false := hf0
        rw [Array.getD_eq_getD_getElem?, Array.getElem?_eq_getElem (by rw [inv.size]; exact hil)] at h1 ⊢
        exact h1
      · exact hj0 e.on (back i0 _ _ (List.getElem?_eq_getElem hil) (waits_of he hb))
    refine ⟨fun h0 => (by rw [h0] at hready; cases hready), fun i hi => ?_⟩
    obtain ⟨hun, o, ho, hdeps⟩ := mem_ready.1 hi
    have ho' : l[i]? = some o := by simpa using ho
    have hil : i < l.length := (List.getElem?_eq_some_iff.1 ho').1
    have hun' : listed.getD i false = false := by
      rw [Array.getD_eq_getD_getElem?, Array.getElem?_eq_getElem (by rw [inv.size]; exact hil)] at hun ⊢
      exact hun
    have hdep : ∀ j, waits o j = true → listed.getD j false = true := fun j hj => by
      obtain ⟨e, he, hb, hon⟩ := of_waits hj
      exact hon ▸ hdeps e he hb
    have hin : i < n := by
      rcases Nat.lt_or_ge i n with h | h
      · exact h
      · have := hdep i0 ((hB' i i0 o _ ho' (List.getElem?_eq_getElem (show i0 < l.length by omega))).2.2 h (by omega))
        have hf0' : listed.getD i0 false = false := hf0
        rw [hf0'] at this
        cases this
    have hdn : ∀ j, waits o j = true → j < n := fun j hj => by have := back i o j ho' hj; omega
    -- the frame at hand and the frame of what it waits for agree on all that it looks at
    have agree : ∀ t : Nat, t ∈ o.looksAt l.toArray → (fill l (waits o) vals a).tmps[t]? = x.tmps[t]? := by
      intro t ht
      rw [inv.frame, fill_get, fill_get]
      congr 1
      funext v
      have e : (List.range l.length).find? (fun i => waits o i && ((l[i]?).bind (·.dst) == some t)) = (List.range l.length).find? (fun i => listed.getD i false && ((l[i]?).bind (·.dst) == some t)) := by
        refine find_congr (fun j hj => ?_)
        have hjl := List.mem_range.1 hj
        by_cases hd : (l[j]?).bind (·.dst) = some t
        · rw [hd]
          simp only [beq_self_eq_true, Bool.and_true]
          have hlj := List.getElem?_eq_getElem hjl
          rw [hlj] at hd
          have hor := (hB' i j o _ ho' hlj).2.1 t (by simpa using hd) ht
          cases hw : waits o j with
          | true => exact (hdep j hw).symm
          | false =>
            rw [hw] at hor
            simp only [Bool.false_eq_true, false_or] at hor
            cases hlj2 : listed.getD j false with
            | false => rfl
            | true =>
              have := inv.closed j _ i hlj hlj2 hor
              rw [hun'] at this
              cases this
        · have : ((l[j]?).bind (·.dst) == some t) = false := by simpa using hd
          rw [this]; simp
      rw [e]
    obtain ⟨hex, hwant⟩ := run_same (Region.noSelect_spec hsel i o · · ho) agree
    have hst := hstep i o (fun j => listed.getD j false) vals w hin ho' hun' hdep inv.closed inv.inv
    rw [hex, hwant] at hst
    have next : ∀ v w2, J (fun j => if j = i then true else listed.getD j false) (fun j => if j = i then v else vals j) w2 → wpAny P .any l.toArray Q (m + (l.length - n)) (listed.setIfInBounds i true) (x.put o.dst v) w2 := by
      intro v w2 hJ
      have gd : ∀ j, (listed.setIfInBounds i true).getD j false = if i = j then true else listed.getD j false := by
        intro j
        by_cases hj : j < listed.size
        · exact getD_listed hj
        · have hij : i ≠ j := by rw [inv.size] at hj; omega
          rw [if_neg hij]
          simp only [Array.getD_eq_getD_getElem?]
          rw [Array.getElem?_eq_none (by simpa using hj), Array.getElem?_eq_none (by simpa using hj)]
      refine ih (fun j => if j = i then v else vals j) (listed.setIfInBounds i true) (x.put o.dst v) w2 ?_ ⟨by simp [inv.size], ?_, ?_, fun t ht => ?_, fun j o' k hj hl hw => ?_⟩
      · have := cnt_set (f := fun j => listed.getD j false) (g := fun j => (listed.setIfInBounds i true).getD j false) (i := i) hun' (by rw [gd, if_pos rfl]) (fun j hj => by rw [gd, if_neg (fun h => hj h.symm)]) n
        rw [if_pos hin] at this
        omega
      · have e : (fun j => (listed.setIfInBounds i true).getD j false) = fun j => if j = i then true else listed.getD j false := by
          funext j
          rw [gd]
          by_cases hji : i = j
          · subst hji; simp
          · have : ¬ j = i := fun h => hji h.symm
            simp only [hji, this, if_false]
        rw [e]; exact hJ
      · rw [inv.frame]
        refine act_ext (fun t => ?_) ?_
        · rw [fill_get]
          cases hd : o.dst with
          | none =>
            show (fill l _ vals a).tmps[t]? = _
            rw [fill_get]
            congr 1
            funext u
            have e : ∀ j, j ∈ List.range l.length → (listed.getD j false && ((l[j]?).bind (·.dst) == some t)) = ((listed.setIfInBounds i true).getD j false && ((l[j]?).bind (·.dst) == some t)) := by
              intro j _
              by_cases hji : i = j
              · subst hji
                have : ((l[i]?).bind (·.dst) == some t) = false := by rw [ho']; simp [hd]
                rw [this]; simp
              · rw [gd, if_neg hji]
            rw [find_congr e]
            cases hfi : (List.range l.length).find? (fun i_1 => (listed.setIfInBounds i true).getD i_1 false && ((l[i_1]?).bind (·.dst) == some t)) with
            | none => rfl
            | some k =>
              have hk := find_sel hfi
              simp only [Bool.and_eq_true, beq_iff_eq] at hk
              have hki : k ≠ i := by
                rintro rfl
                rw [ho'] at hk
                simp [hd] at hk
              simp [hki]
          | some d =>
            show ((fill l _ vals a).tmps.setIfInBounds d v)[t]? = _
            rw [Array.getElem?_setIfInBounds]
            by_cases hdt : d = t
            · subst hdt
              rw [if_pos rfl]
              have hfi : (List.range l.length).find? (fun i_1 => (listed.setIfInBounds i true).getD i_1 false && ((l[i_1]?).bind (·.dst) == some d)) = some i := by
                rw [List.find?_eq_some_iff_getElem]
                refine ⟨by rw [gd, if_pos rfl, ho']; simp [hd], i, by simp [hil], by simp, fun j hj => ?_⟩
                have hjl : j < l.length := by omega
                have hlj := List.getElem?_eq_getElem hjl
                have hne := (hB' i j o _ ho' hlj).1 (by omega) d hd
                simp only [List.getElem_range, hlj, Option.bind_some]
                have : (l[j].dst == some d) = false := by simpa using hne
                rw [this]; simp
              rw [hfi, fill_size]
              by_cases hsz : d < a.tmps.size
              · simp [hsz]
              · simp [hsz]
            · rw [if_neg hdt, fill_get]
              congr 1
              funext u
              have e : ∀ j, j ∈ List.range l.length → (listed.getD j false && ((l[j]?).bind (·.dst) == some t)) = ((listed.setIfInBounds i true).getD j false && ((l[j]?).bind (·.dst) == some t)) := by
                intro j _
                by_cases hji : i = j
                · subst hji
                  have : ((l[i]?).bind (·.dst) == some t) = false := by rw [ho']; simp [hd, hdt]
                  rw [this]; simp
                · rw [gd, if_neg hji]
              rw [find_congr e]
              cases hfi : (List.range l.length).find? (fun i_1 => (listed.setIfInBounds i true).getD i_1 false && ((l[i_1]?).bind (·.dst) == some t)) with
              | none => rfl
              | some k =>
                have hk := find_sel hfi
                simp only [Bool.and_eq_true, beq_iff_eq] at hk
                have hki : k ≠ i := by
                  rintro rfl
                  rw [ho'] at hk
                  simp [hd, hdt] at hk
                simp [hki]
        · cases o.dst <;> rfl
      · rw [gd, if_neg (by omega)]; exact inv.tail t ht
      · by_cases hji : i = j
        · subst hji
          have hoo : o' = o := Option.some.inj (hj.symm.trans ho')
          subst hoo
          rw [gd]
          split
          · rfl
          · exact hdep k hw
        · rw [gd, if_neg hji] at hl
          rw [gd]
          split
          · rfl
          · exact inv.closed j o' k hj hl hw
    unfold wpOp
    simp only [ho]
    split
    · rename_i hw
      rw [if_pos hw] at hst
      exact .inl (wp_of_gives (gives_mono (fun v w2 h => next v w2 h) hst))
    · rename_i hw
      rw [if_neg hw] at hst
      exact next undef w hst
/-- The law, of any invariant of what is done, what was told, and the world. -/
theorem wp_region_inv {id : Nat} (n : Nat) (J : (Nat → Bool) → (Nat → Value) → World → Prop) (hm : P.follows .mixedOrders = true) (hB : relyB l n = true) (hC : relyC l n = true)
    (h0 : J (fun _ => false) (fun _ => undef) w.drew)
    (hstep : ∀ i o (D : Nat → Bool) (vals : Nat → Value) w1, i < n → l[i]? = some o → D i = false → (∀ j, waits o j = true → D j = true) → (∀ j o' k, l[j]? = some o' → D j = true → waits o' k = true → D k = true) → J D vals w1 →
      if Region.wanted o (yielded l.toArray (fill l (waits o) vals a).tmps) = true then gives P (fun v w2 => J (fun j => if j = i then true else D j) (fun j => if j = i then v else vals j) w2) ((execOp (fill l (waits o) vals a).eval o).run P w1) else J (fun j => if j = i then true else D j) (fun j => if j = i then undef else vals j) w1)
    (hend : ∀ D vals w1, (∀ j, j < n → D j = true) → J D vals w1 → wpList P l.toArray Q (l.drop n) (fill l (fun i => decide (i < n)) vals a) w1) :
    (Code.region id l.toArray true).wp P Q a w := by
  refine wp_region_any hm ?_
  obtain ⟨_, hnl, _⟩ := relyB_spec hB
  have gd : ∀ j, (Array.replicate l.toArray.size false).getD j false = false := fun j => getD_replicate_false _ _
  have hc : cnt (fun i => (Array.replicate l.toArray.size false).getD i false) n = n := by
    have : ∀ m, cnt (fun i => (Array.replicate l.toArray.size false).getD i false) m = m := by
      intro m
      induction m with
      | zero => rfl
      | succ m ih =>
        show cnt _ m + (if (Array.replicate l.toArray.size false).getD m false = true then 0 else 1) = m + 1
        rw [ih, gd, if_neg (by decide)]
    exact this n
  have h := inv_key (Q := Q) hB hC hstep hend n (fun _ => undef) (Array.replicate l.toArray.size false) a w.drew hc
    ⟨by simp, ?_, ?_, fun t _ => gd t, fun j o k _ hl => (by rw [gd] at hl; cases hl)⟩
  · have e : n + (l.length - n) = l.toArray.size := by simp; omega
    rw [e] at h
    exact h
  · have e : (fun j => (Array.replicate l.toArray.size false).getD j false) = fun _ => false := funext gd
    rw [e]; exact h0
  · refine act_ext (fun t => ?_) rfl
    rw [fill_get]
    have e : (List.range l.length).find? (fun i => (Array.replicate l.toArray.size false).getD i false && ((l[i]?).bind (·.dst) == some t)) = none := by
      rw [List.find?_eq_none]
      intro j _
      rw [gd]; simp
    rw [e]
    simp
/-- What operation i waits for has told; then it gives this. -/
structure Told (P : Program) (l : List Oper) (a : Act) (i : Nat) (vals : Nat → Value) (K : Value → World → Prop) (w : World) : Prop where
  out : ∀ o, l[i]? = some o → if Region.wanted o (yielded l.toArray (fill l (waits o) vals a).tmps) = true then gives P K ((execOp (fill l (waits o) vals a).eval o).run P w) else K undef w
theorem fill_congr {sel : Nat → Bool} {vals vals' : Nat → Value} (h : ∀ i, i < l.length → sel i = true → vals i = vals' i) : fill l sel vals a = fill l sel vals' a := by
  refine act_ext (fun t => ?_) rfl
  rw [fill_get, fill_get]
  congr 1
  funext v
  cases hf : (List.range l.length).find? (fun i => sel i && ((l[i]?).bind (·.dst) == some t)) with
  | none => rfl
  | some k =>
    have hk := find_sel hf
    simp only [Bool.and_eq_true] at hk
    exact h k hk.1 hk.2.1
/-- **The law.** The operations E turn the memory, one behind the other (each waits for the one ahead); behind p of them the memory is as Ph c p says; all others only tell values: V c i. -/
theorem wp_region_phu {γ : Type} {id : Nat} (n : Nat) (E : List Nat) (V : γ → Nat → Value) (Ph : γ → Nat → World → Prop) (c0 : γ) (hm : P.follows .mixedOrders = true) (hB : relyB l n = true) (hC : relyC l n = true)
    (hE : (List.range E.length).all (fun k => decide (E.getD k 0 < n) && (List.range k).all fun m => dep l n (E.getD k 0) (E.getD m 0)) = true)
    (h0 : Ph c0 0 w.drew)
    (hpure : ∀ i c p vals w1, i < n → E.contains i = false → p ≤ E.length → (∀ k, k < E.length → dep l n i (E.getD k 0) = true → k < p) → (∀ k, k < E.length → dep l n (E.getD k 0) i = true → p ≤ k) → Ph c p w1 → (∀ j, waitsAt l i j = true → vals j = V c j) → Told P l a i vals (fun v w2 => v = V c i ∧ w2 = w1) w1)
    (heff : ∀ k c vals w1, k < E.length → Ph c k w1 → (∀ j, waitsAt l (E.getD k 0) j = true → vals j = V c j) → Told P l a (E.getD k 0) vals (fun v w2 => ∃ c', v = V c' (E.getD k 0) ∧ (∀ i, i < n → i ≠ E.getD k 0 → dep l n i (E.getD k 0) = false → V c' i = V c i) ∧ Ph c' (k + 1) w2) w1)
    (hend : ∀ c w1, Ph c E.length w1 → wpList P l.toArray Q (l.drop n) (fill l (fun i => decide (i < n)) (V c) a) w1) :
    (Code.region id l.toArray true).wp P Q a w := by
  have hE1 : ∀ k, k < E.length → E.getD k 0 < n := fun k hk => by
    have := List.all_eq_true.1 hE k (List.mem_range.2 hk)
    rw [Bool.and_eq_true] at this
    exact of_decide_eq_true this.1
  have hE2 : ∀ k m, k < E.length → m < k → dep l n (E.getD k 0) (E.getD m 0) = true := fun k m hk hm => by
    have := List.all_eq_true.1 hE k (List.mem_range.2 hk)
    rw [Bool.and_eq_true] at this
    exact List.all_eq_true.1 this.2 m (List.mem_range.2 hm)
  have hln : n ≤ l.length := (relyB_spec hB).2.1
  refine wp_region_inv n (fun D vals w => ∃ c p, p ≤ E.length ∧ (∀ k, k < E.length → (D (E.getD k 0) = true ↔ k < p)) ∧ (∀ i, i < n → D i = true → vals i = V c i) ∧ Ph c p w) hm hB hC ⟨c0, 0, Nat.zero_le _, fun k _ => ⟨(fun h => by cases h), fun h => absurd h (Nat.not_lt_zero _)⟩, (fun i _ h => by cases h), h0⟩ ?_ ?_
  · rintro i o D vals w1 hi ho hDi hdeps hcl ⟨c, p, hp, hDE, hV, hPh⟩
    have hdj : ∀ j, waitsAt l i j = true → vals j = V c j := fun j hj => by
      unfold waitsAt at hj
      rw [ho] at hj
      have hjn : j < n := by
        simp only [relyC, Bool.and_eq_true] at hC
        obtain ⟨e, he, hb, hon⟩ := of_waits hj
        have h1 := List.all_eq_true.1 hC.1 i (List.mem_range.2 (List.getElem?_eq_some_iff.1 ho).1)
        simp only [ho] at h1
        have h2 := Array.all_eq_true_iff_forall_mem.1 h1 e he
        simp only [hb, Bool.not_true, Bool.false_or, decide_eq_true_eq] at h2
        omega
      exact hV j hjn (hdeps j hj)
    have hreach : ∀ f k, dep l f i k = true → D k = true := fun f k h => by
      cases f with
      | zero => simp [dep] at h
      | succ f =>
        unfold dep at h
        rw [ho] at h
        simp only [Bool.or_eq_true, List.any_eq_true, Bool.and_eq_true] at h
        rcases h with h | ⟨j, _, h1, h2⟩
        · exact hdeps k h
        · exact dep_closed hcl f j k h2 (hdeps j h1)
    by_cases hiE : E.contains i = true
    · obtain ⟨k, hk⟩ := List.getElem?_of_mem (List.contains_iff_mem.1 hiE)
      have hkl := (List.getElem?_eq_some_iff.1 hk).1
      have hek : E.getD k 0 = i := by rw [List.getD_eq_getElem?_getD, hk]; rfl
      have hkp : k = p := by
        rcases Nat.lt_trichotomy k p with h | h | h
        · have := (hDE k hkl).2 h
          rw [hek, hDi] at this; cases this
        · exact h
        · have h1 := hreach n (E.getD p 0) (hek ▸ hE2 k p hkl h)
          have := (hDE p (by omega)).1 h1
          omega
      subst hkp
      have ht := (heff k c vals w1 hkl hPh (fun j hj => hdj j (hek ▸ hj))).out o (by rw [hek]; exact ho)
      rw [hek] at ht
      have fin : ∀ v w2, (∃ c', v = V c' i ∧ (∀ i', i' < n → i' ≠ i → dep l n i' i = false → V c' i' = V c i') ∧ Ph c' (k + 1) w2) → ∃ c p, p ≤ E.length ∧ (∀ k, k < E.length → ((if E.getD k 0 = i then true else D (E.getD k 0)) = true ↔ k < p)) ∧ (∀ j, j < n → (if j = i then true else D j) = true → (if j = i then v else vals j) = V c j) ∧ Ph c p w2 := by
        rintro v w2 ⟨c', h1, h2, h3⟩
        refine ⟨c', k + 1, by omega, fun m hm => ?_, fun j hj hd => ?_, h3⟩
        · by_cases hmi : E.getD m 0 = i
          · rw [if_pos hmi]
            refine ⟨fun _ => ?_, fun _ => rfl⟩
            rcases Nat.lt_trichotomy m k with h | h | h
            · omega
            · omega
            · have h4 := hE2 m k hm h
              rw [hmi, hek] at h4
              have h5 := hreach n i h4
              rw [hDi] at h5; cases h5
          · rw [if_neg hmi, hDE m hm]
            have : m ≠ k := fun h => hmi (h ▸ hek)
            omega
        · by_cases hji : j = i
          · subst hji; rw [if_pos rfl]; exact h1
          · rw [if_neg hji] at hd ⊢
            have hdi : dep l n j i = false := by
              cases hq : dep l n j i with
              | false => rfl
              | true =>
                have := dep_closed hcl n j i hq hd
                rw [hDi] at this; cases this
            rw [hV j hj hd, h2 j hj hji hdi]
      split at ht
      · rename_i hw; rw [if_pos hw]; exact gives_mono fin ht
      · rename_i hw; rw [if_neg hw]; exact fin _ _ ht
    · have hiE' : E.contains i = false := by simpa using hiE
      have ht := (hpure i c p vals w1 hi hiE' hp (fun k hk hd => (hDE k hk).1 (hreach n _ hd)) (fun k hk hd => Nat.le_of_not_lt fun hkp => by have h1 := (hDE k hk).2 hkp; have h2 := dep_closed hcl n (E.getD k 0) i hd h1; rw [hDi] at h2; cases h2) hPh hdj).out o ho
      have fin : ∀ v w2, (v = V c i ∧ w2 = w1) → ∃ c p, p ≤ E.length ∧ (∀ k, k < E.length → ((if E.getD k 0 = i then true else D (E.getD k 0)) = true ↔ k < p)) ∧ (∀ j, j < n → (if j = i then true else D j) = true → (if j = i then v else vals j) = V c j) ∧ Ph c p w2 := by
        rintro v w2 ⟨h1, rfl⟩
        refine ⟨c, p, hp, fun m hm => ?_, fun j hj hd => ?_, hPh⟩
        · have : ¬ E.getD m 0 = i := fun h => hiE (List.contains_iff_mem.2 (by rw [← h, List.getD_eq_getElem?_getD, List.getElem?_eq_getElem hm]; exact List.getElem_mem hm))
          rw [if_neg this]; exact hDE m hm
        · by_cases hji : j = i
          · subst hji; rw [if_pos rfl]; exact h1
          · rw [if_neg hji] at hd ⊢; exact hV j hj hd
      split at ht
      · rename_i hw; rw [if_pos hw]; exact gives_mono fin ht
      · rename_i hw; rw [if_neg hw]; exact fin _ _ ht
  · rintro D vals w1 hD ⟨c, p, hp, hDE, hV, hPh⟩
    have hpe : p = E.length := by
      rcases Nat.lt_or_ge p E.length with h | h
      · have := (hDE p h).1 (hD _ (hE1 p h)); omega
      · omega
    subst hpe
    have e : fill l (fun i => decide (i < n)) vals a = fill l (fun i => decide (i < n)) (V c) a := fill_congr fun i _ hi => hV i (of_decide_eq_true hi) (hD i (of_decide_eq_true hi))
    rw [e]
    exact hend c w1 hPh
/-! ### The steps -/
variable {i : Nat} {vals : Nat → Value} {K : Value → World → Prop} {o o0 : Oper} {x : Act}
theorem told_free (h0 : l[i]? = some o0) (hg : o0.guard = none) (h : gives P K ((execOp (fill l (waits o0) vals a).eval o0).run P w)) : Told P l a i vals K w := ⟨fun o ho => by
  rw [h0] at ho; cases ho
  have : Region.wanted o0 (yielded l.toArray (fill l (waits o0) vals a).tmps) = true := by unfold Region.wanted; rw [hg]
  rw [if_pos this]; exact h⟩
/-- Another frame that reads alike. -/
def alike (ρ ρ' : Operand → Value) : List Operand → Prop
  | [] => True
  | x :: r => ρ x = ρ' x ∧ alike ρ ρ' r
theorem alike_nil {ρ ρ' : Operand → Value} : alike ρ ρ' [] := trivial
theorem alike_cons {ρ ρ' : Operand → Value} {x : Operand} {r : List Operand} (h : ρ x = ρ' x) (h2 : alike ρ ρ' r) : alike ρ ρ' (x :: r) := ⟨h, h2⟩
theorem eval_fn {a b : Act} {f : FuncId} : a.eval (.func f) = b.eval (.func f) := rfl
theorem eval_c {a b : Act} {v : Value} : a.eval (.const v) = b.eval (.const v) := rfl
theorem dep_no {b : Bool} (h : b = false) (h2 : b = true) : False := by rw [h] at h2; cases h2
theorem alike_mem {ρ ρ' : Operand → Value} : ∀ {xs : List Operand}, alike ρ ρ' xs → ∀ x ∈ xs, ρ x = ρ' x
  | [], _, x, h => by cases h
  | y :: r, h, x, hx => (List.mem_cons.1 hx).elim (fun e => e ▸ h.1) (fun hx => alike_mem h.2 x hx)
def isSel (o : Oper) : Bool := match o.op with | .select _ _ => true | _ => false
theorem gv_env {x : Act} (b : Act) (hs : isSel o = false) {xs : List Operand} (hx : o.op.operands.toList = xs) (h : alike x.eval b.eval xs) (k : gives P K ((execOp b.eval o).run P w)) : gives P K ((execOp x.eval o).run P w) := by
  have e := execOp_congr o (ρ := x.eval) (ρ' := b.eval) (fun cs bl he => by unfold isSel at hs; rw [he] at hs; cases hs) (fun op hop => alike_mem h op (by rw [← hx]; simpa using hop))
  rw [e]; exact k
theorem fill_at {t k : Nat} {v : Value} {sel : Nat → Bool} (h : (List.range l.length).find? (fun i => sel i && ((l[i]?).bind (·.dst) == some t)) = some k) (ht : Nat.blt t a.tmps.size = true) (hv : vals k = v) : (fill l sel vals a).eval (.tmp t) = v := (fill_hit h (Nat.le_of_ble_eq_true ht)).trans hv
theorem fill_past {t : Nat} {v : Value} {sel : Nat → Bool} (h : (List.range l.length).find? (fun i => sel i && ((l[i]?).bind (·.dst) == some t)) = none) (hv : a.eval (.tmp t) = v) : (fill l sel vals a).eval (.tmp t) = v := (fill_miss h).trans hv
end
end Go.Vel
