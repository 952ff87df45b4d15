/- The document's anchor and Newest (printed), in plain Lean: they are readF and newestF. -/
import Derived.Test.YtdimpgfegdnhaaaVPureB
import Derived.Test.YtdimpgfegdnhaaaVPureW
import Derived.Test.YtdimpgfegdnhaaaVExtB
open Go Go.RowKit Go.Proofs.Ytdimpgfegdnhaaa.P Go.Proofs.Ytdimpgfegdnhaaa.Ext Go.Proofs.YtdimpgfegdnhaaaW.PrintWords Go.Proofs.YtdimpgfegdnhaaaW.PrintLast
namespace Go.Proofs.Ytdimpgfegdnhaaa.PureA
open Go.Vel
theorem wrap_pred {i : Nat} (h : i < 4611686018427387904) : wrap64 ((i : Int) - 1) = (i : Int) - 1 := by
  unfold wrap64; omega
theorem anchor_l1 (b : List UInt8) (hb : b.length < 140737488355328) (n : Int) : ∀ m i, i + m = b.length → 8 ≤ i → Ev (fun k => vellumref3_anchor.l1 k (ofB b) n (ofB ((b.drop 8).take (i - 8))) (i : Int)) (n, ofB (b.drop 8))
  | 0, i, h, h8 => by
    refine Ev.step (f := fun _ => some _) (fun k => ?_) (Ev.now _)
    simp only [vellumref3_anchor.l1]
    rw [if_neg (by rw [len_ofB]; omega), List.take_of_length_le (by rw [List.length_drop]; omega)]
  | m + 1, i, h, h8 => by
    refine Ev.step (fun k => ?_) (anchor_l1 b hb n m (i + 1) (by omega) (by omega))
    have hi : i - 8 < (b.drop 8).length := by rw [List.length_drop]; omega
    have e : ofB ((b.drop 8).take (i - 8)) ++ [rd (ofB b) (i : Int)] = ofB ((b.drop 8).take (i + 1 - 8)) := by
      rw [rd_ofB, ofB_snoc, show i + 1 - 8 = (i - 8) + 1 by omega, List.take_succ_eq_append_getElem hi, List.getD_eq_getElem?_getD, List.getElem?_eq_getElem (by omega), List.getElem_drop]
      simp only [show 8 + (i - 8) = i by omega]; rfl
    simp only [vellumref3_anchor.l1]
    rw [if_pos (by rw [len_ofB]; omega), if_pos (by omega), if_pos (by rw [len_ofB, List.length_take]; omega), e, wrap_succ (by omega)]
theorem leN_drop_le : ∀ (l : List UInt8) (j : Nat), leN (l.drop j) ≤ leN l
  | l, 0 => by simp
  | [], j + 1 => by simp
  | x :: l, j + 1 => by
    have := leN_drop_le l j
    simp only [List.drop_succ_cons, leN]
    omega
theorem leN_split : ∀ (l : List UInt8) (k : Nat), leN l = leN (l.take k) + 256 ^ k * leN (l.drop k)
  | l, 0 => by simp [leN]
  | [], k + 1 => by simp [leN]
  | x :: l, k + 1 => by
    have := leN_split l k
    simp only [List.take_succ_cons, List.drop_succ_cons, leN]
    rw [this, Nat.pow_succ, Nat.mul_add, ← Nat.mul_assoc, Nat.mul_comm 256 (256 ^ k)]
    omega
theorem leN_top (b : List UInt8) (h : 8 ≤ b.length) : (9223372036854775807 < leN (b.take 8)) ↔ 127 < (b.getD 7 0).toNat := by
  have hl : (b.take 8).length = 8 := by rw [List.length_take]; omega
  have h1 := leN_split (b.take 8) 7
  have h2 := leN_drop (b.take 8) 7 (by omega)
  have h3 := leN_lt ((b.take 8).take 7)
  have hg : (b.take 8).getD 7 0 = b.getD 7 0 := by
    rw [List.getD_eq_getElem?_getD, List.getD_eq_getElem?_getD, List.getElem?_take_of_lt (by omega)]
  have h4 : (b.take 8).drop (7 + 1) = [] := List.drop_of_length_le (by omega)
  have h7 : (256 : Nat) ^ 7 = 72057594037927936 := by decide
  have hl7 : ((b.take 8).take 7).length = 7 := by rw [List.length_take]; omega
  rw [hg, h4] at h2
  rw [hl7, h7] at h3
  rw [h7] at h1
  simp only [leN] at h2
  have hx := (b.getD 7 0).toNat_lt
  omega
theorem anchor_l0 (b : List UInt8) (hb : b.length < 140737488355328) (h8 : 8 ≤ b.length) (hN : leN (b.take 8) ≤ 9223372036854775807) : ∀ j, j ≤ 8 → Ev (fun k => vellumref3_anchor.l0 k (ofB b) ((leN ((b.take 8).drop j) : Nat) : Int) ((j : Int) - 1)) (((leN (b.take 8) : Nat) : Int), ofB (b.drop 8))
  | 0, _ => by
    refine Ev.step (fun k => ?_) (anchor_l1 b hb _ (b.length - 8) 8 (by omega) (by omega))
    simp only [vellumref3_anchor.l0]
    rw [if_neg (by omega)]
    rfl
  | j + 1, hj => by
    have hl : (b.take 8).length = 8 := by rw [List.length_take]; omega
    have hd := leN_drop (b.take 8) j (by omega)
    have hg : (b.take 8).getD j 0 = b.getD j 0 := by
      rw [List.getD_eq_getElem?_getD, List.getD_eq_getElem?_getD, List.getElem?_take_of_lt (by omega)]
    rw [hg] at hd
    have hx := (b.getD j 0).toNat_lt
    have hle : leN ((b.take 8).drop j) ≤ leN (b.take 8) := leN_drop_le _ _
    refine Ev.step (fun k => ?_) (anchor_l0 b hb h8 hN j (by omega))
    simp only [vellumref3_anchor.l0]
    have ej : (((j + 1 : Nat) : Int) - 1) = (j : Int) := by omega
    rw [ej, if_pos (by omega), if_pos (by omega), if_pos (by rw [len_ofB]; omega), rd_ofB, wrap_pred (by omega), hd]
    congr 1
    unfold wrap64
    omega
theorem openF_len (s : List UInt8) : (openF s).1.length < 140737488355328 := by
  have := small_open s
  unfold openF
  split
  · decide
  · split
    · decide
    · split
      · simp only [List.length_take, List.length_drop]; omega
      · decide
theorem anchor_ev (s : List UInt8) : ∃ d, Ev (fun k => vellumref3_anchor.f k (ofB s)) (((readF s).1 : Int), d) ∧ ((readF s).1 ≠ 0 → d = ofB (readF s).2) := by
  have hb := openF_len s
  have hO := openR_ev s
  have no : ∀ b : List UInt8, Ev (fun k => vellumref3_anchor.j0 k (ofB b) true) ((0 : Int), ([] : List Int)) := fun b => Ev.step (fun k => vellumref3_anchor.j0.eq_2 ..) (Ev_yes rfl (Ev.now _))
  unfold readF
  generalize openF s = O at *
  obtain ⟨b, e⟩ := O
  simp only at *
  by_cases he : e = 0
  · by_cases hl : b.length < 8
    · rw [if_pos (Or.inr hl)]
      refine ⟨[], ?_, fun h => absurd rfl h⟩
      unfold vellumref3_anchor.f
      exact Ev.bind hO (Ev_yes (by simp [he]) (Ev_yes (by simp only []; rw [len_ofB]; omega) (no b)))
    · rw [if_neg (fun h => h.elim (fun h => h he) hl)]
      have hr7 : rd (ofB b) 7 = ((b.getD 7 0).toNat : Int) := rd_ofB b 7
      by_cases ht : 9223372036854775807 < leN (b.take 8)
      · rw [if_pos (Or.inr ht)]
        refine ⟨[], ?_, fun h => absurd rfl h⟩
        have h7 := (leN_top b (by omega)).1 ht
        unfold vellumref3_anchor.f
        refine Ev.bind hO (Ev_yes (by simp [he]) (Ev_no (by simp only []; rw [len_ofB]; omega) (Ev_yes (by simp only []; rw [len_ofB]; omega) ?_)))
        simp only []
        rw [hr7, decide_eq_true (show ((b.getD 7 0).toNat : Int) > 127 by omega)]
        exact no b
      · have h7 : ¬ 127 < (b.getD 7 0).toNat := fun h => ht ((leN_top b (by omega)).2 h)
        have ev : Ev (fun k => vellumref3_anchor.f k (ofB s)) (((leN (b.take 8) : Nat) : Int), ofB (b.drop 8)) := by
          unfold vellumref3_anchor.f
          refine Ev.bind hO (Ev_yes (by simp [he]) (Ev_no (by simp only []; rw [len_ofB]; omega) (Ev_yes (by simp only []; rw [len_ofB]; omega) ?_)))
          simp only []
          rw [hr7, decide_eq_false (show ¬ ((b.getD 7 0).toNat : Int) > 127 by omega)]
          refine Ev.step (fun k => vellumref3_anchor.j0.eq_2 ..) (Ev_no (by decide) ?_)
          have h8 := anchor_l0 b hb (by omega) (by omega) 8 (Nat.le_refl _)
          rw [List.drop_of_length_le (by rw [List.length_take]; omega)] at h8
          exact h8
        by_cases hz : leN (b.take 8) = 0
        · rw [if_pos (Or.inl hz)]
          rw [hz] at ev
          exact ⟨_, ev, fun h => absurd rfl h⟩
        · rw [if_neg (fun h => h.elim hz ht)]
          exact ⟨_, ev, fun _ => rfl⟩
  · rw [if_pos (Or.inl he)]
    refine ⟨[], ?_, fun h => absurd rfl h⟩
    unfold vellumref3_anchor.f
    exact Ev.bind hO (Ev_no (by simp only []; omega) (no b))
theorem newestR_ev (l r : List UInt8) : Ev (fun k => vellumref3_Newest.f k (ofB l) (ofB r)) (((newestF l r).1 : Int), ((newestF l r).2.1 : Int), ofB (newestF l r).2.2.1, ((newestF l r).2.2.2 : Int)) := by
  have no : Ev (fun k => vellumref3_Newest.j0 k (ofB l) (ofB r) true) ((0 : Int), (0 : Int), ([] : List Int), (2 : Int)) := Ev.step (fun k => vellumref3_Newest.j0.eq_2 ..) (Ev_yes rfl (Ev.now _))
  unfold vellumref3_Newest.f newestF
  by_cases h : l.length = 512 ∧ r.length = 512
  · rw [if_pos h]
    refine Ev_yes (by rw [len_ofB]; omega) ?_
    have : (((ofB r).length : Int) != 512) = false := by rw [len_ofB, h.2]; rfl
    rw [this]
    obtain ⟨d0, a0, q0⟩ := anchor_ev l
    obtain ⟨d1, a1, q1⟩ := anchor_ev r
    generalize readF l = x at *
    generalize readF r = y at *
    obtain ⟨m, dm⟩ := x
    obtain ⟨n, dn⟩ := y
    simp only at *
    refine Ev.step (fun k => vellumref3_Newest.j0.eq_2 ..) (Ev_no (by decide) (Ev.bind a0 (Ev.bind a1 ?_)))
    have j1 : ∀ bo : Bool, bo = decide (m = 0 ∧ n = 0) → Ev (fun k => vellumref3_Newest.j1 k (m : Int) d0 (n : Int) d1 bo) (((if m = 0 ∧ n = 0 then (0, 0, [], 30) else if m < n then (1, n, dn, 0) else (0, m, dm, 0) : Nat × Nat × List UInt8 × Nat).1 : Int), ((if m = 0 ∧ n = 0 then (0, 0, [], 30) else if m < n then (1, n, dn, 0) else (0, m, dm, 0) : Nat × Nat × List UInt8 × Nat).2.1 : Int), ofB (if m = 0 ∧ n = 0 then (0, 0, [], 30) else if m < n then (1, n, dn, 0) else (0, m, dm, 0) : Nat × Nat × List UInt8 × Nat).2.2.1, ((if m = 0 ∧ n = 0 then (0, 0, [], 30) else if m < n then (1, n, dn, 0) else (0, m, dm, 0) : Nat × Nat × List UInt8 × Nat).2.2.2 : Int)) := by
      intro bo hbo
      refine Ev.step (fun k => vellumref3_Newest.j1.eq_2 ..) ?_
      by_cases hz : m = 0 ∧ n = 0
      · rw [if_pos hz]
        exact Ev_yes (by rw [hbo]; exact decide_eq_true hz) (Ev.now _)
      · rw [if_neg hz]
        refine Ev_no (by rw [hbo, decide_eq_false hz]; decide) ?_
        by_cases hlt : m < n
        · rw [if_pos hlt, q1 (by omega)]
          exact Ev_yes (by omega) (Ev.now _)
        · rw [if_neg hlt, q0 (by omega)]
          exact Ev_no (by omega) (Ev.now _)
    by_cases hm : m = 0
    · refine Ev_yes (by simp only []; omega) (j1 _ ?_)
      simp only []
      rw [Bool.eq_iff_iff]; simp [hm]
    · refine Ev_no (by simp only []; omega) (j1 _ ?_)
      rw [decide_eq_false (fun h => hm h.1)]
  · rw [if_neg h]
    by_cases hl : l.length = 512
    · refine Ev_yes (by rw [len_ofB]; omega) ?_
      have : (((ofB r).length : Int) != 512) = true := by rw [len_ofB, bne_iff_ne]; omega
      rw [this]; exact no
    · exact Ev_no (by rw [len_ofB]; omega) no
end Go.Proofs.Ytdimpgfegdnhaaa.PureA
