/- What a cut leaves of each sector is a splice of two of its contents; lists of lists of slices that hold the contents that a sector may have; how far two lists agree. -/
import Derived.Test.YtefmefimhiedfaaHDskM
open Go Go.RowKit Go.Proofs.YtefmefimhiedfaaW.PrintWords Go.Proofs.YtefmefimhiedfaaW.PrintMore
namespace Go.Proofs
open Go.Vel
set_option linter.unusedVariables false
theorem crash_at {s : Dsk} {k : Nat} (hk : k < s.last.length) (ps : List Pick) : (pendOf s k = [] ∧ (s.crashR ps).last.getD k [] = s.last.getD k []) ∨ (pendOf s k ≠ [] ∧ ∃ i, (s.crashR ps).last.getD k [] = tornS (candS s k) (pickAt ps i)) := by
  show (pendOf s k = [] ∧ (applyP s.last (crashOuts s ps)).getD k [] = _) ∨ (_ ∧ ∃ i, (applyP s.last (crashOuts s ps)).getD k [] = _)
  have hmem : ∀ x ∈ crashOuts s ps, ∃ i, x.2 = tornS (candS s x.1) (pickAt ps i) ∧ pendOf s x.1 ≠ [] := fun x hx => by
    unfold crashOuts at hx
    obtain ⟨i, hi, rfl⟩ := List.mem_mapIdx.1 hx
    have hm : (crashKeys s)[i] ∈ crashKeys s := List.getElem_mem hi
    exact ⟨i, rfl, (keysTo_mem.1 hm).2⟩
  rw [List.getD_eq_getElem?_getD, get_applyP]
  by_cases hp : pendOf s k = []
  · refine .inl ⟨hp, ?_⟩
    have hn : newest (crashOuts s ps) k = none := by
      unfold newest
      rw [List.getLast?_eq_none_iff, List.map_eq_nil_iff, List.filter_eq_nil_iff]
      intro x hx hb
      obtain ⟨i, _, h2⟩ := hmem x hx
      have : x.1 = k := by simpa using hb
      subst this; exact h2 hp
    rw [hn, List.getD_eq_getElem?_getD]
  · refine .inr ⟨hp, ?_⟩
    have hkm : k ∈ crashKeys s := keysTo_mem.2 ⟨hk, hp⟩
    have hne : newest (crashOuts s ps) k ≠ none := by
      unfold newest
      rw [ne_eq, List.getLast?_eq_none_iff, List.map_eq_nil_iff, List.filter_eq_nil_iff]
      intro h
      obtain ⟨j, hj⟩ := List.getElem?_of_mem hkm
      have hx : outOf s ps j k ∈ crashOuts s ps := by
        unfold crashOuts
        have hl := (List.getElem?_eq_some_iff.1 hj).1
        exact List.mem_mapIdx.2 ⟨j, hl, by rw [(List.getElem?_eq_some_iff.1 hj).2]⟩
      exact h _ hx (by simp [outOf])
    cases hq : newest (crashOuts s ps) k with
    | none => exact absurd hq hne
    | some d =>
      unfold newest at hq
      have hm := List.mem_of_getLast? hq
      obtain ⟨x, hx, rfl⟩ := List.mem_map.1 hm
      obtain ⟨hx1, hx2⟩ := List.mem_filter.1 hx
      obtain ⟨i, h1, _⟩ := hmem x hx1
      have h3 : x.1 = k := by simpa using hx2
      simp only []
      rw [if_pos hk, h1, h3]
      exact ⟨i, rfl⟩
/-- The first bytes of one and the rest of one of these. -/
def Splices (C : List (List UInt8)) (b : List UInt8) : Prop := ∃ x ∈ C, ∃ y ∈ C, ∃ c, c ≤ 512 ∧ b = x.take c ++ y.drop c
theorem getD_mem {C : List (List UInt8)} (h0 : C ≠ []) (m : Nat) : C.getD (m % C.length) [] ∈ C := by
  have hm : m % C.length < C.length := Nat.mod_lt _ (List.length_pos_iff.2 h0)
  rw [List.getD_eq_getElem?_getD, List.getElem?_eq_getElem hm]
  exact List.getElem_mem hm
theorem torn_spl {C : List (List UInt8)} (h0 : C ≠ []) (p : Pick) : Splices C (tornS C p) :=
  ⟨_, getD_mem h0 _, _, getD_mem h0 _, p.2.2.toNat % 513, by have := Nat.mod_lt p.2.2.toNat (show 513 > 0 by decide); omega, rfl⟩
theorem crash_spl {s : Dsk} {k : Nat} (hk : k < s.last.length) (ps : List Pick) : Splices (candS s k) ((s.crashR ps).last.getD k []) := by
  rcases crash_at hk ps with ⟨_, e⟩ | ⟨_, i, e⟩
  · rw [e]; exact ⟨_, List.mem_cons_self, _, List.mem_cons_self, 0, by decide, by simp⟩
  · rw [e]; exact torn_spl (fun h => by cases h) _
/-- Behind a cut a right write, torn as whole, is read again. -/
theorem end_tears {s : Dsk} {d : List UInt8} (ps : List Pick) (hd : d.length = 512) (h1 : 1 ≤ s.last.length) : ((s.crashR ps).writeR 0 d).2 = 0 ∧ ((((s.crashR ps).writeR 0 d).1.crashR [(1, 1, 0)]).readR 0).2.2 = 0 ∧ ((((s.crashR ps).writeR 0 d).1.crashR [(1, 1, 0)]).readR 0).2.1 = d := by
  have hl := crashR_len s ps
  have e0 : ((s.crashR ps).writeR 0 d).2 = 0 := writeR_yes (by show (-1 : Int) ≠ 0; decide) (by decide) (by omega) hd
  obtain ⟨_, _, _, _, e1⟩ := writeR_ok e0
  generalize hs1 : ((s.crashR ps).writeR 0 d).1 = s1 at e1
  have hlast : s1.last = (s.crashR ps).last := by rw [e1]
  have hpend : s1.pend = [(0, d)] := by rw [e1]; rfl
  have hk : 0 < s1.last.length := by rw [hlast]; omega
  have hpo : pendOf s1 0 = [d] := by unfold pendOf; rw [hpend]; rfl
  have hcl := crashR_len s1 [(1, 1, 0)]
  obtain ⟨q1, q2⟩ := readR_yes (s := s1.crashR [(1, 1, 0)]) (a := 0) (by show (-1 : Int) ≠ 0; decide) (by decide) (by omega)
  refine ⟨e0, q1, q2.trans ?_⟩
  show (s1.crashR [(1, 1, 0)]).now 0 = d
  rw [now_nil rfl]
  rcases crash_at hk [(1, 1, 0)] with ⟨e, _⟩ | ⟨_, i, e⟩
  · rw [hpo] at e; cases e
  · rw [e]
    have hp : pickAt [(1, 1, 0)] i = (1, 1, 0) := by
      unfold pickAt
      rw [if_neg (by decide), show i % [((1, 1, 0) : Pick)].length = 0 from Nat.mod_one i]; rfl
    rw [hp]
    unfold tornS candS
    rw [hpo]; rfl
/-- A list of slices that somebody keeps of a sector. -/
structure ME where
  v : Value
  C : List Hd
def ME.ast (m : ME) : Ast := vec 31 1 m.v m.C.length (m.C.map Hd.val)
structure TF (w : World) (s : Dsk) (M : List ME) (gi : Nat) (im : List UInt8) : Prop where
  len : M.length = s.last.length
  eq : ∀ k m, M[k]? = some m → m.C.map (·.l) = candS s k
  ro : ∀ m ∈ M, ∀ x ∈ m.C, RoT none' w [row gi (bvs im) 5] x.A x.l
  n1 : 1 ≤ s.last.length
  n2 : s.last.length ≤ 2048
theorem candS_nil {s : Dsk} (h : s.pend = []) (k : Nat) : candS s k = [s.last.getD k []] := by unfold candS pendOf; rw [h]; rfl
theorem TF.of_begin {w : World} {s : Dsk} {M : List ME} {gi : Nat} {im : List UInt8} (hM : M.map (fun m => m.C.map (·.l)) = (secs s.last.flatten s.last.length).map (fun l => [l])) (h5 : ∀ l ∈ s.last, l.length = 512) (hp : s.pend = []) (hr : ∀ m ∈ M, ∀ x ∈ m.C, RoT none' w [row gi (bvs im) 5] x.A x.l) (n1 : 1 ≤ s.last.length) (n2 : s.last.length ≤ 2048) : TF w s M gi im := by
  rw [secs_of_flat h5] at hM
  have hl : M.length = s.last.length := by have := congrArg List.length hM; simpa using this
  refine ⟨hl, fun k m hm => ?_, hr, n1, n2⟩
  have h1 := congrArg (fun l => l[k]?) hM
  simp only [List.getElem?_map, hm, Option.map_some] at h1
  rw [candS_nil hp, List.getD_eq_getElem?_getD]
  cases hq : s.last[k]? with
  | none => rw [hq] at h1; cases h1
  | some y => rw [hq] at h1; simpa using h1
theorem TF.congr {w : World} {s s' : Dsk} {M : List ME} {gi : Nat} {im : List UInt8} (h : TF w s M gi im) (h1 : s'.last = s.last) (h2 : s'.pend = s.pend) : TF w s' M gi im :=
  ⟨by rw [h1]; exact h.len, fun k m hm => by rw [h.eq k m hm]; unfold candS pendOf; rw [h1, h2], h.ro, by rw [h1]; exact h.n1, by rw [h1]; exact h.n2⟩
theorem TF.write {w : World} {s s' : Dsk} {M : List ME} {gi k : Nat} {im : List UInt8} {v : Value} {m : ME} {x : Hd} (h : TF w s M gi im) (h1 : s'.last = s.last) (h2 : s'.pend = s.pend ++ [(k, x.l)]) (hm : M[k]? = some m) (hr : RoT none' w [row gi (bvs im) 5] x.A x.l) : TF w s' (M.set k ⟨v, m.C ++ [x]⟩) gi im := by
  have hcand : ∀ j, candS s' j = candS s j ++ if k = j then [x.l] else [] := fun j => by
    unfold candS
    rw [pendOf_snoc s k j x.l s' h2, h1]; rfl
  refine ⟨by rw [List.length_set, h1]; exact h.len, fun j m' hm' => ?_, fun m' hm' y hy => ?_, by rw [h1]; exact h.n1, by rw [h1]; exact h.n2⟩
  · rw [hcand j]
    rw [List.getElem?_set] at hm'
    by_cases hk : k = j
    · subst hk
      rw [if_pos rfl] at hm' ⊢
      split at hm'
      · cases hm'
        rw [List.map_append, h.eq k m hm]; rfl
      · cases hm'
    · rw [if_neg hk] at hm' ⊢
      rw [List.append_nil]; exact h.eq j m' hm'
  · rcases List.mem_or_eq_of_mem_set hm' with hm' | rfl
    · exact h.ro m' hm' y hy
    · rcases List.mem_append.1 hy with hy | hy
      · exact h.ro m (List.mem_of_getElem? hm) y hy
      · rw [List.mem_singleton] at hy; subst hy; exact hr
/-- The lists, each with its last alone, up to j. -/
structure LF (s : Dsk) (M M1 : List ME) (j : Nat) : Prop where
  len : M1.length = M.length
  old : ∀ k m, j ≤ k → M[k]? = some m → M1[k]? = some m
  new : ∀ k m, k < j → M1[k]? = some m → ∃ x, m.C = [x] ∧ (∃ q, M[k]? = some q ∧ q.C.getLast? = some x)
theorem LF.zero (s : Dsk) (M : List ME) : LF s M M 0 := ⟨rfl, fun _ _ _ h => h, fun _ _ h => absurd h (Nat.not_lt_zero _)⟩
theorem LF.step {s : Dsk} {M M1 : List ME} {j : Nat} {m : ME} {x : Hd} {v : Value} (h : LF s M M1 j) (hm : M[j]? = some m) (hx : m.C.getLast? = some x) : LF s M (M1.set j ⟨v, [x]⟩) (j + 1) := by
  refine ⟨by rw [List.length_set]; exact h.len, fun k q hk hq => ?_, fun k q hk hq => ?_⟩
  · rw [List.getElem?_set, if_neg (by omega)]; exact h.old k q (by omega) hq
  · rw [List.getElem?_set] at hq
    by_cases hkj : j = k
    · subst hkj
      rw [if_pos rfl] at hq
      split at hq
      · cases hq; exact ⟨x, rfl, m, hm, hx⟩
      · cases hq
    · rw [if_neg hkj] at hq; exact h.new k q (by omega) hq
theorem now_cand (s : Dsk) (k : Nat) : (candS s k).getLast? = some (s.now k) := by
  unfold candS Dsk.now
  cases hq : (pendOf s k).getLast? with
  | none => rw [List.getLast?_eq_none_iff.1 hq]; rfl
  | some d => simp only []; rw [List.getLast?_cons, hq]; rfl
theorem TF.flush {w : World} {s s' : Dsk} {M M1 : List ME} {gi : Nat} {im : List UInt8} (h : TF w s M gi im) (h1 : s'.last = applyP s.last s.pend) (h2 : s'.pend = []) (hL : LF s M M1 s.last.length) : TF w s' M1 gi im := by
  have hl : s'.last.length = s.last.length := by rw [h1]; exact length_applyP _ _
  refine ⟨by rw [hL.len, hl]; exact h.len, fun k m hm => ?_, fun m hm x hx => ?_, by rw [hl]; exact h.n1, by rw [hl]; exact h.n2⟩
  · have hk : k < s.last.length := by rw [← h.len, ← hL.len]; exact (List.getElem?_eq_some_iff.1 hm).1
    obtain ⟨x, hC, q, hq, hx⟩ := hL.new k m hk hm
    have h3 := h.eq k q hq
    have h4 : (candS s k).getLast? = some x.l := by rw [← h3, List.getLast?_map, hx]; rfl
    rw [now_cand] at h4
    rw [hC, candS_nil h2, ← now_nil h2, now_flush h1 h2 hk]
    simpa using h4.symm
  · obtain ⟨k, hk⟩ := List.getElem?_of_mem hm
    have hkl : k < s.last.length := by rw [← h.len, ← hL.len]; exact (List.getElem?_eq_some_iff.1 hk).1
    obtain ⟨y, hC, q, hq, hy⟩ := hL.new k m hkl hk
    rw [hC, List.mem_singleton] at hx
    subst hx
    exact h.ro q (List.mem_of_getElem? hq) _ (List.mem_of_getLast? hy)
/-- The first of each list, one behind the other. -/
def heads (M : List ME) : List UInt8 := (M.map fun m => ((m.C.map (·.l)).headD [])).flatten
theorem TF.heads {w : World} {s : Dsk} {M : List ME} {gi : Nat} {im : List UInt8} (h : TF w s M gi im) (hp : s.pend = []) : Go.Proofs.heads M = s.last.flatten := by
  unfold Go.Proofs.heads
  congr 1
  apply List.ext_getElem?
  intro k
  rw [List.getElem?_map]
  cases hm : M[k]? with
  | none =>
    have : M.length ≤ k := List.getElem?_eq_none_iff.1 hm
    rw [h.len] at this
    rw [List.getElem?_eq_none this]; rfl
  | some m =>
    have hk : k < s.last.length := by rw [← h.len]; exact (List.getElem?_eq_some_iff.1 hm).1
    rw [Option.map_some, h.eq k m hm, candS_nil hp, mem_getD hk]; rfl
theorem TF.ne {w : World} {s : Dsk} {M : List ME} {gi k : Nat} {im : List UInt8} {m : ME} (h : TF w s M gi im) (hm : M[k]? = some m) : m.C ≠ [] := fun e => by
  have := h.eq k m hm
  rw [e] at this; cases this
theorem pendOf_le (s : Dsk) (k : Nat) : (pendOf s k).length ≤ s.pend.length := by unfold pendOf; rw [List.length_map]; exact List.length_filter_le _ _
theorem TF.small {w : World} {s : Dsk} {M : List ME} {gi k : Nat} {im : List UInt8} {m : ME} (h : TF w s M gi im) (hm : M[k]? = some m) : m.C.length ≤ s.pend.length + 1 := by
  have h1 := congrArg List.length (h.eq k m hm)
  rw [List.length_map] at h1
  have h2 := pendOf_le s k
  have h3 : (candS s k).length = (pendOf s k).length + 1 := rfl
  omega
theorem act_same {s : Dsk} {kind a : Int} {d : List UInt8} {ps : List Pick} (h2 : kind ≠ 2) (h3 : kind ≠ 3) (h6 : kind ≠ 6) : (s.actR kind a d ps).last = s.last ∧ (s.actR kind a d ps).pend = s.pend := by
  unfold Dsk.actR
  by_cases k1 : kind = 1
  · rw [if_pos k1]; obtain ⟨q1, q2, q3⟩ := readR_same s a; exact ⟨q1, q2⟩
  · rw [if_neg k1, if_neg h2, if_neg h3]
    by_cases k4 : kind = 4
    · rw [if_pos k4]; exact fuseR_same s a
    · rw [if_neg k4, if_neg h6]
      split <;> exact ⟨rfl, rfl⟩
section
variable {M : List ME} {junk : List Value} {k : Nat} {m : ME}
theorem me_at (h : M[k]? = some m) : ((M.map ME.v ++ junk).toArray)[k]? = some m.v := by
  rw [List.getElem?_toArray, List.getElem?_append_left (by rw [List.length_map]; exact (List.getElem?_eq_some_iff.1 h).1), List.getElem?_map, h]; rfl
theorem me_set (h : k < M.length) : (M.map ME.v ++ junk).toArray.setIfInBounds k m.v = ((M.set k m).map ME.v ++ junk).toArray := by
  rw [List.setIfInBounds_toArray, List.set_append_left _ _ (by rw [List.length_map]; exact h), List.map_set]
theorem me_blt (h : k < M.length) : Nat.blt k ((M.map ME.v ++ junk).toArray).size = true := Nat.ble_eq_true_of_le (by simp; omega)
end
theorem St.may_add {F : Nat → Prop} {w0 w : World} {L : List Ast} {M : List ME} {m : ME} (S : St F w0 w (m.ast :: stars (M.map ME.ast) :: L)) : St F w0 w (stars ((M ++ [m]).map ME.ast) :: L) := by
  have h1 := St.star_join (St.swap (St.one_star S))
  rw [List.map_append]; exact h1
/-! How far two lists agree. -/
theorem take_grow {b c : List UInt8} {i : Nat} (h : b.take i = c.take i) (hb : i < b.length) (hc : i < c.length) (he : b.getD i 0 = c.getD i 0) : b.take (i + 1) = c.take (i + 1) := by
  rw [List.take_add_one, List.take_add_one, h, List.getElem?_eq_getElem hb, List.getElem?_eq_getElem hc]
  rw [List.getD_eq_getElem?_getD, List.getD_eq_getElem?_getD, List.getElem?_eq_getElem hb, List.getElem?_eq_getElem hc] at he
  simp only [Option.getD_some] at he
  rw [he]
theorem take_stop {b c : List UInt8} {i m : Nat} (hb : i < b.length) (hc : i < c.length) (he : b.getD i 0 ≠ c.getD i 0) (h : b.take m = c.take m) : m ≤ i := by
  refine Nat.not_lt.1 fun hm => he ?_
  have h1 := congrArg (fun l => l.getD i 0) h
  simp only [List.getD_eq_getElem?_getD, List.getElem?_take, if_pos hm] at h1
  rw [List.getD_eq_getElem?_getD, List.getD_eq_getElem?_getD]; exact h1
theorem drop_grow {b c : List UInt8} {i : Nat} (h : b.drop (i + 1) = c.drop (i + 1)) (hb : i < b.length) (hc : i < c.length) (he : b.getD i 0 = c.getD i 0) : b.drop i = c.drop i := by
  rw [List.drop_eq_getElem_cons hb, List.drop_eq_getElem_cons hc, h]
  rw [List.getD_eq_getElem?_getD, List.getD_eq_getElem?_getD, List.getElem?_eq_getElem hb, List.getElem?_eq_getElem hc] at he
  simp only [Option.getD_some] at he
  rw [he]
theorem drop_stop {b c : List UInt8} {i m : Nat} (hb : i < b.length) (hc : i < c.length) (he : b.getD i 0 ≠ c.getD i 0) (h : b.drop m = c.drop m) : i < m := by
  refine Nat.not_le.1 fun hm => he ?_
  have h1 := congrArg (fun l => l.getD (i - m) 0) h
  simp only [List.getD_eq_getElem?_getD, List.getElem?_drop, show m + (i - m) = i from by omega] at h1
  rw [List.getD_eq_getElem?_getD, List.getD_eq_getElem?_getD]; exact h1
/-- The longest front and the longest back that b shares with one of the first j. -/
structure FB (b : List UInt8) (C : List (List UInt8)) (j f k : Nat) : Prop where
  front : ∀ i c, i < j → C[i]? = some c → ∀ m, m ≤ b.length → b.take m = c.take m → m ≤ f
  back : ∀ i c, i < j → C[i]? = some c → ∀ m, m ≤ b.length → b.drop m = c.drop m → b.length ≤ m + k
  f5 : f ≤ b.length
  k5 : k ≤ b.length
theorem FB.end' {b : List UInt8} {C : List (List UInt8)} {f k : Nat} (h : FB b C C.length f k) (hb : b.length = 512) (hs : Splices C b) (h5 : ∀ c ∈ C, c.length = 512) : b.length ≤ f + k := by
  obtain ⟨x, hx, y, hy, c, hc, e⟩ := hs
  obtain ⟨i, hi⟩ := List.getElem?_of_mem hx
  obtain ⟨j, hj⟩ := List.getElem?_of_mem hy
  have hx5 := h5 x hx
  have hy5 := h5 y hy
  have h1 : b.take c = x.take c := by
    rw [e, List.take_append_of_le_length (by rw [List.length_take]; omega), List.take_take, Nat.min_self]
  have h2 : b.drop c = y.drop c := by
    rw [e, List.drop_append, List.drop_of_length_le (by rw [List.length_take]; omega), List.nil_append, List.length_take, show c - min c x.length = 0 from by omega, List.drop_zero]
  have q1 := h.front i x (List.getElem?_eq_some_iff.1 hi).1 hi c (by omega) h1
  have q2 := h.back j y (List.getElem?_eq_some_iff.1 hj).1 hj c (by omega) h2
  omega
theorem FB.step {b c : List UInt8} {C : List (List UInt8)} {j f k i l : Nat} (h : FB b C j f k) (hc : C[j]? = some c) (h1 : ∀ m, m ≤ b.length → b.take m = c.take m → m ≤ i) (h2 : ∀ m, m ≤ b.length → b.drop m = c.drop m → b.length ≤ m + l) (hi : i ≤ b.length) (hl : l ≤ b.length) : FB b C (j + 1) (max f i) (max k l) := by
  refine ⟨fun q d hq hd m hm e => ?_, fun q d hq hd m hm e => ?_, Nat.max_le.2 ⟨h.f5, hi⟩, Nat.max_le.2 ⟨h.k5, hl⟩⟩
  · by_cases hqj : q = j
    · subst hqj; rw [hc] at hd; cases hd; exact Nat.le_trans (h1 m hm e) (Nat.le_max_right _ _)
    · exact Nat.le_trans (h.front q d (by omega) hd m hm e) (Nat.le_max_left _ _)
  · by_cases hqj : q = j
    · subst hqj; rw [hc] at hd; cases hd; have := h2 m hm e; have := Nat.le_max_right k l; omega
    · have := h.back q d (by omega) hd m hm e; have := Nat.le_max_left k l; omega
end Go.Proofs
