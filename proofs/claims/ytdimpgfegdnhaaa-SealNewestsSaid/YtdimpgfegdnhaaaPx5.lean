/- The machine side of laws (their functions as Lean functions, each call answers what they answer), printed by a program for this claim. No condition of its own. -/
import Derived.Test.YtdimpgfegdnhaaaPx0
import Derived.Test.YtdimpgfegdnhaaaPx4
namespace Go.Proofs.Ytdimpgfegdnhaaa.P
set_option maxRecDepth 100000
open Go.RowKit Go.Proofs.YtdimpgfegdnhaaaW.PrintWords Go.Proofs.YtdimpgfegdnhaaaW.PrintLast Go.Proofs.YtdimpgfegdnhaaaW.PrintMore Go.Proofs.Ytdimpgfegdnhaaa.Ext
attribute [local go_sem] max2_int min2_int max_two min_two max_three min_three max_four min_four   -- for this text's walks alone
set_option linter.unusedVariables false
set_option linter.unusedSimpArgs false

/-! ### vellumref3_anchor: function 42 -/
mutual
def vellumref3_anchor.j0 : Nat → List Int → Bool → Option (Int × List Int)
  | 0, _, _ => none
  | k + 1, x4, x27 => if x27 = true then (some (0, ([] : List Int))) else (vellumref3_anchor.l0 k x4 0 7)
def vellumref3_anchor.l0 : Nat → List Int → Int → Int → Option (Int × List Int)
  | 0, _, _, _ => none
  | k + 1, x4, x6, x7 => if x7 ≥ 0 then (if 0 ≤ x7 then (if x7 < (x4.length : Int) then (vellumref3_anchor.l0 k x4 (wrap64 ((wrap64 (x6 * 256)) + (wrap64 (rd x4 x7)))) (wrap64 (x7 - 1))) else (none)) else (none)) else (vellumref3_anchor.l1 k x4 x6 ([] : List Int) 8)
def vellumref3_anchor.l1 : Nat → List Int → Int → List Int → Int → Option (Int × List Int)
  | 0, _, _, _, _ => none
  | k + 1, x4, x6, x8, x9 => if x9 < (x4.length : Int) then (if 0 ≤ x9 then (if x8.length < 140737488355328 then (vellumref3_anchor.l1 k x4 x6 (x8 ++ [rd x4 x9]) (wrap64 (x9 + 1))) else (none)) else (none)) else (some (x6, x8))
end
def vellumref3_anchor.f (k : Nat) (l0 : List Int) : Option (Int × List Int) := (vellumref3_Open.f k l0).bind fun bt199 => (if bt199.2 = 0 then (if (bt199.1.length : Int) < 8 then (vellumref3_anchor.j0 k bt199.1 true) else (if 7 < (bt199.1.length : Int) then (vellumref3_anchor.j0 k bt199.1 (decide ((rd bt199.1 7) > 127))) else (none))) else (vellumref3_anchor.j0 k bt199.1 true))
theorem vellumref3_anchor.mono_l : ∀ k, (∀ y0 y1, LeO (vellumref3_anchor.j0 k y0 y1) (vellumref3_anchor.j0 (k + 1) y0 y1)) ∧ (∀ y0 y1 y2, LeO (vellumref3_anchor.l0 k y0 y1 y2) (vellumref3_anchor.l0 (k + 1) y0 y1 y2)) ∧ (∀ y0 y1 y2 y3, LeO (vellumref3_anchor.l1 k y0 y1 y2 y3) (vellumref3_anchor.l1 (k + 1) y0 y1 y2 y3))
  | 0 => ⟨fun _ _ r h => by simp [vellumref3_anchor.j0] at h, fun _ _ _ r h => by simp [vellumref3_anchor.l0] at h, fun _ _ _ _ r h => by simp [vellumref3_anchor.l1] at h⟩
  | k + 1 => by
    obtain ⟨ih0, ih1, ih2⟩ := vellumref3_anchor.mono_l k
    refine ⟨?_, ?_, ?_⟩
    · intro y0 y1
      unfold vellumref3_anchor.j0
      repeat' first
      | (with_reducible exact ih0 _ _)
      | (with_reducible exact ih1 _ _ _)
      | (with_reducible exact ih2 _ _ _ _)
      | (with_reducible exact vellumref3_Open.mono _ _)
      | (with_reducible exact LeO.refl _)
      | (with_reducible exact LeO.none _)
      | (with_reducible refine LeO.ite ?_ ?_)
      | (with_reducible refine LeO.bind ?_ (fun _ => ?_))
      | exact ih0 _ _
      | exact ih1 _ _ _
      | exact ih2 _ _ _ _
      | exact vellumref3_Open.mono _ _
      | exact LeO.none _
      | refine LeO.ite ?_ ?_
      | refine LeO.bind ?_ (fun _ => ?_)
    · intro y0 y1 y2
      unfold vellumref3_anchor.l0
      repeat' first
      | (with_reducible exact ih0 _ _)
      | (with_reducible exact ih1 _ _ _)
      | (with_reducible exact ih2 _ _ _ _)
      | (with_reducible exact vellumref3_Open.mono _ _)
      | (with_reducible exact LeO.refl _)
      | (with_reducible exact LeO.none _)
      | (with_reducible refine LeO.ite ?_ ?_)
      | (with_reducible refine LeO.bind ?_ (fun _ => ?_))
      | exact ih0 _ _
      | exact ih1 _ _ _
      | exact ih2 _ _ _ _
      | exact vellumref3_Open.mono _ _
      | exact LeO.none _
      | refine LeO.ite ?_ ?_
      | refine LeO.bind ?_ (fun _ => ?_)
    · intro y0 y1 y2 y3
      unfold vellumref3_anchor.l1
      repeat' first
      | (with_reducible exact ih0 _ _)
      | (with_reducible exact ih1 _ _ _)
      | (with_reducible exact ih2 _ _ _ _)
      | (with_reducible exact vellumref3_Open.mono _ _)
      | (with_reducible exact LeO.refl _)
      | (with_reducible exact LeO.none _)
      | (with_reducible refine LeO.ite ?_ ?_)
      | (with_reducible refine LeO.bind ?_ (fun _ => ?_))
      | exact ih0 _ _
      | exact ih1 _ _ _
      | exact ih2 _ _ _ _
      | exact vellumref3_Open.mono _ _
      | exact LeO.none _
      | refine LeO.ite ?_ ?_
      | refine LeO.bind ?_ (fun _ => ?_)
theorem vellumref3_anchor.mono : ∀ a0 k, LeO (vellumref3_anchor.f k a0) (vellumref3_anchor.f (k + 1) a0) := by
  intro a0 k
  obtain ⟨ih0, ih1, ih2⟩ := vellumref3_anchor.mono_l k
  unfold vellumref3_anchor.f
  repeat' first
      | (with_reducible exact ih0 _ _)
      | (with_reducible exact ih1 _ _ _)
      | (with_reducible exact ih2 _ _ _ _)
      | (with_reducible exact vellumref3_Open.mono _ _)
      | (with_reducible exact LeO.refl _)
      | (with_reducible exact LeO.none _)
      | (with_reducible refine LeO.ite ?_ ?_)
      | (with_reducible refine LeO.bind ?_ (fun _ => ?_))
      | exact ih0 _ _
      | exact ih1 _ _ _
      | exact ih2 _ _ _ _
      | exact vellumref3_Open.mono _ _
      | exact LeO.none _
      | refine LeO.ite ?_ ?_
      | refine LeO.bind ?_ (fun _ => ?_)
set_option maxHeartbeats 8000000 in
set_option maxRecDepth 100000 in
theorem vellumref3_anchor.calls (k : Nat) (A0 : Option Addr) (c0 : Nat) (l0 : List Int) (r1 : Int) (r2 : List Int) (w : World) (hr0 : Kd.C (Kd.int .u8) w A0 l0.length l0) (hc0 : l0.length ≤ c0) (h : vellumref3_anchor.f k l0 = some (r1, r2)) :
    Calls Try.prog 42 #[.slice A0 l0.length c0] w fun e w' => ∃ v1_ : Value, e = .returned (.tuple #[.int .i64 r1, v1_]) ∧ Kd.R (Kd.int .u8) 5 w' w.heap.size (fun _ => True) v1_ r2 ∧ Below w.heap.size w w' := by
  have HR0 := Aside0.mk hr0
  have HC0 := Aside0.mk hc0
  clear hr0 hc0
  have HB := Aside0.mk (Below.refl w.heap.size w)
  have H : ((vellumref3_Open.f k l0).bind fun bt199 => (if bt199.2 = 0 then (if (bt199.1.length : Int) < 8 then (vellumref3_anchor.j0 k bt199.1 true) else (if 7 < (bt199.1.length : Int) then (vellumref3_anchor.j0 k bt199.1 (decide ((rd bt199.1 7) > 127))) else (none))) else (vellumref3_anchor.j0 k bt199.1 true))) = some (r1, r2) := h
  clear h
  replace H := Option.bind_eq_some_iff.mp H
  obtain ⟨⟨t199, t200⟩, A20, H⟩ := H
  replace H : (if t200 = 0 then (if (t199.length : Int) < 8 then (vellumref3_anchor.j0 k t199 true) else (if 7 < (t199.length : Int) then (vellumref3_anchor.j0 k t199 (decide ((rd t199 7) > 127))) else (none))) else (vellumref3_anchor.j0 k t199 true)) = some (r1, r2) := H
  have A2 := Aside0.mk A20
  clear A20
  have HC3 := Aside0.mk H
  clear H
  go_enter Try.func42, Try.ntmps42
  go_upto_region 2 with (first | ((with_reducible refine gate_callee (f := 52) rfl ?_); refine goesL_ (some 12) rfl rfl Try.func52 (by kernel_rfl) rfl #[.slice A0 l0.length c0] rfl (by (try simp only [List.map_toArray, List.map_cons, List.map_nil]); first | done | rfl | (simp only [List.length_drop, List.length_take]; rfl)) ?_; (with_reducible refine (vellumref3_Open.calls k _ _ l0 t199 t200 _ ?side1 ?side2 A2.out).mono ?_); (case side1 => repeat (first | exact HR0.out | (with_reducible refine Kd.C_alloc ?_ _) | (with_reducible refine Kd.C_drewN ?_ _) | (with_reducible refine Kd.C_drew ?_))); (case side2 => exact HC0.out); rintro e w4 ⟨v201, rfl, ho0, hb⟩; refine ⟨_, rfl, ?_⟩; have n0_ := Aside0.mk (Kd.R_lower ho0 (below_size (by repeat (first | (with_reducible first | exact HB.out | apply below_alloc | apply pw_below_drewN | apply below_drew1) | exact HB.out)))); have n1_ := Aside0.mk (below_step (by repeat (first | (with_reducible first | exact HB.out | apply below_alloc | apply pw_below_drewN | apply below_drew1) | exact HB.out)) hb); clear HB; have HO202 := n0_; have HB := n1_; clear n0_ n1_; (try clear hb); (try clear hb2); (try clear hk); (try clear hi); (try clear ho0)))
  (try simp only [Act.put, List.setIfInBounds_toArray, List.set_cons_zero, List.set_cons_succ])
  go_cut [27] (fun v27 wc => ∃ (kq : Nat) (x27_2 : Bool), v27 = .bool x27_2 ∧ Aside0 (vellumref3_anchor.j0 kq t199 x27_2 = some (r1, r2)) ∧ Aside0 (kq ≤ k) ∧ Aside0 (Kd.R (Kd.int .u8) 5 wc w.heap.size (fun _ => True) v201 t199) ∧ Aside0 (Below w.heap.size w wc))
  case first =>
    have H := HC3.out
    clear HC3
    by_cases c5 : t200 = 0
    · rw [if_pos c5] at H
      have c5b0 : (t200 == 0) = true := beq_iff_eq.mpr c5
      have c5b1 : (t200 != 0) = false := bne_eq_false_iff_eq.mpr c5
      clear c5
      (first | rw [c5b0] | (simp only [i64_w, i32_w]; rw [c5b0]) | skip)
      by_cases c6 : (t199.length : Int) < 8
      · rw [if_pos c6] at H
        have c6b0 : decide ((t199.length : Int) < 8) = true := decide_eq_true c6
        have c6b1 : decide (t199.length < 8) = true := decide_eq_true (by omega)
        clear c6
        have H' := Aside0.mk H
        clear H
        obtain ⟨Ao7, co7, eo7⟩ := Kd.R_slice HO202.out
        subst eo7
        go_wp2
        go_meet
        case rel => exact ⟨_, (true), (by first | rfl | (simp; done) | (simp [*]; done)), H', ⟨by first | omega | exact Nat.le_refl _⟩, ⟨by (with_reducible repeat (first | apply Kd.R_alloc | apply Kd.R_drewN | apply Kd.R_drew)); exact HO202.out⟩, ⟨by repeat (first | (with_reducible first | exact HB.out | apply below_alloc | apply pw_below_drewN | apply below_drew1) | exact HB.out)⟩⟩
      · rw [if_neg c6] at H
        have c6b0 : decide ((t199.length : Int) < 8) = false := decide_eq_false c6
        have c6b1 : decide (t199.length < 8) = false := decide_eq_false (by omega)
        clear c6
        by_cases c8 : 7 < (t199.length : Int)
        · rw [if_pos c8] at H
          have c8b0 : decide (7 < (t199.length : Int)) = true := decide_eq_true c8
          have c8b1 : decide (7 < t199.length) = true := decide_eq_true (by omega)
          clear c8
          have H' := Aside0.mk H
          clear H
          obtain ⟨Ao9, co9, eo9⟩ := Kd.R_slice HO202.out
          subst eo9
          have p203 : 0 ≤ (7 : Int) := (by omega)
          have q203 : 7 < (t199.length : Int) := of_decide_eq_true (by first | (with_reducible assumption) | assumption)
          obtain ⟨ad203, e203, hx203_0⟩ := Kd.at_int (Kd.R_reads' HO202.out).2.2 7 p203 q203
          cases e203
          (try simp only [show (7 : Int).toNat = 7 from rfl, Nat.reduceMul, Nat.reduceEqDiff, Go.Addr.add, ↓reduceIte] at hx203_0)
          have qi203 : (7 < t199.length) = True := eq_true (by omega)
          (try rw [show ((7 : Int)).toNat = 7 from rfl] at hx203_0)
          replace p203 := eq_true p203
          replace q203 := eq_true q203
          go_wp2
          go_meet
          case rel => exact ⟨_, (decide ((rd t199 7) > 127)), (by first | rfl | (simp; done) | (simp [*]; done)), H', ⟨by first | omega | exact Nat.le_refl _⟩, ⟨by (with_reducible repeat (first | apply Kd.R_alloc | apply Kd.R_drewN | apply Kd.R_drew)); exact HO202.out⟩, ⟨by repeat (first | (with_reducible first | exact HB.out | apply below_alloc | apply pw_below_drewN | apply below_drew1) | exact HB.out)⟩⟩
        · rw [if_neg c8] at H
          exact absurd H (by simp)
    · rw [if_neg c5] at H
      have c5b0 : (t200 == 0) = false := beq_eq_false_iff_ne.mpr c5
      have c5b1 : (t200 != 0) = true := bne_iff_ne.mpr c5
      (first | rw [c5b0] | (simp only [i64_w, i32_w]; rw [c5b0]) | skip)
      have H' := Aside0.mk H
      clear H
      go_wp2
      go_meet
      case rel => exact ⟨_, (true), (by first | rfl | (simp; done) | (simp [*]; done)), H', ⟨by first | omega | exact Nat.le_refl _⟩, ⟨by (with_reducible repeat (first | apply Kd.R_alloc | apply Kd.R_drewN | apply Kd.R_drew)); exact HO202.out⟩, ⟨by repeat (first | (with_reducible first | exact HB.out | apply below_alloc | apply pw_below_drewN | apply below_drew1) | exact HB.out)⟩⟩
  case rest =>
    clear HC3
    try clear p2
    try clear q2
    try clear hx2
    try clear qi2
    try clear c4
    try clear c5
    try clear c5b0
    try clear c5b1
    try clear c6
    try clear c6b0
    try clear c6b1
    try clear c8
    try clear c8b0
    try clear c8b1
    try clear hx203_0
    try clear p203
    try clear q203
    obtain ⟨kq, x27_2, rfl, HA, HJ2, HO_4, HB⟩ := hcut
    cases kq with
    | zero => exact absurd HA.out (by simp [vellumref3_anchor.j0])
    | succ kj2 =>
      have H := HA.out
      clear HA
      simp only [vellumref3_anchor.j0] at H
      by_cases c10 : x27_2 = true
      · subst c10
        have H1 : (some (0, ([] : List Int))) = some (r1, r2) := by rw [if_pos rfl] at H; exact H
        clear H
        have H := H1
        clear H1
        simp only [Option.some.injEq, Prod.mk.injEq] at H
        obtain ⟨rfl, rfl⟩ := H
        go_wp2
        go_ret2
        exact ⟨_, by first | rfl | (simp [errW_none, errW_some] <;> rfl) | (simp [*, errW_none, errW_some] <;> rfl), by first | exact Kd.R_nil _ _ _ _ _ | exact Kd.N_nil _ _ _ _ _ | exact Kd.V_nil _ _ _ _ _ | exact Kd.Q_nil _ _ _ _ _ | exact Kd.S_nil _ _ _ _ _, by repeat (first | (with_reducible first | exact HB.out | apply below_alloc | apply pw_below_drewN | apply below_drew1) | exact HB.out)⟩
      · replace c10 := Bool.eq_false_iff.mpr c10
        subst c10
        have H1 : (vellumref3_anchor.l0 kj2 t199 0 7) = some (r1, r2) := by rw [if_neg (show ¬ (false = true) by decide)] at H; exact H
        clear H
        have H := H1
        clear H1
        have H' := Aside0.mk H
        clear H
        go_wp2
        go_loopg [6, 7] kj2 (fun kq v6 v7 w' => ∃ (x6_2 : Int) (x7_2 : Int), v6 = .int .i64 x6_2 ∧ v7 = .int .i64 x7_2 ∧ Aside0 (vellumref3_anchor.l0 kq t199 x6_2 x7_2 = some (r1, r2)) ∧ Aside0 (kq ≤ kj2) ∧ Aside0 (Kd.R (Kd.int .u8) 5 w' w.heap.size (fun _ => True) v201 t199) ∧ Aside0 (Below w.heap.size w w'))
        case atStart => exact ⟨(0), (7), (by first | rfl | (simp; done) | (simp [*]; done)), (by first | rfl | (simp; done) | (simp [*]; done)), H', ⟨Nat.le_refl _⟩, ⟨by (with_reducible repeat (first | apply Kd.R_alloc | apply Kd.R_drewN | apply Kd.R_drew)); exact HO_4.out⟩, ⟨by repeat (first | (with_reducible first | exact HB.out | apply below_alloc | apply pw_below_drewN | apply below_drew1) | exact HB.out)⟩⟩
        case round =>
          clear H'
          try clear c1
          try clear p2
          try clear q2
          try clear hx2
          try clear qi2
          try clear c4
          try clear c5
          try clear c5b0
          try clear c5b1
          try clear c6
          try clear c6b0
          try clear c6b1
          try clear c8
          try clear c8b0
          try clear c8b1
          try clear c10
          try clear hx203_0
          try clear p2
          try clear p203
          try clear q2
          try clear q203
          obtain ⟨x6_2, x7_2, rfl, rfl, HA, HK2, HO_4, HB⟩ := hrel
          cases gk with
          | zero => exact absurd HA.out (by simp [vellumref3_anchor.l0])
          | succ k2 =>
            have H := HA.out
            clear HA
            simp only [vellumref3_anchor.l0] at H
            by_cases c11 : x7_2 ≥ 0
            · rw [if_pos c11] at H
              have c11b0 : decide (0 ≤ x7_2) = true := decide_eq_true c11
              clear c11
              by_cases c12 : 0 ≤ x7_2
              · rw [if_pos c12] at H
                have c12b0 : decide (0 ≤ x7_2) = true := decide_eq_true c12
                clear c12
                by_cases c13 : x7_2 < (t199.length : Int)
                · rw [if_pos c13] at H
                  have c13b0 : decide (x7_2 < (t199.length : Int)) = true := decide_eq_true c13
                  clear c13
                  have H' := Aside0.mk H
                  clear H
                  obtain ⟨Ao14, co14, eo14⟩ := Kd.R_slice HO_4.out
                  subst eo14
                  have p204 : 0 ≤ (x7_2 : Int) := of_decide_eq_true (by first | (with_reducible assumption) | assumption)
                  have q204 : x7_2 < (t199.length : Int) := of_decide_eq_true (by first | (with_reducible assumption) | assumption)
                  obtain ⟨ad204, e204, hx204_0⟩ := Kd.at_int (Kd.R_reads' HO_4.out).2.2 x7_2 p204 q204
                  cases e204
                  replace p204 := eq_true p204
                  replace q204 := eq_true q204
                  go_wp2
                  go_roundg k2
                  case measure => have := HJ2.out; have := HK2.out; omega
                  case rel => exact ⟨(wrap64 ((wrap64 (x6_2 * 256)) + (wrap64 (rd t199 x7_2)))), (wrap64 (x7_2 - 1)), (by first | rfl | (simp; done) | (simp [*]; done)), (by first | rfl | (simp; done) | (simp [*]; done)), H', ⟨by have := HJ2.out; have := HK2.out; omega⟩, ⟨by (with_reducible repeat (first | apply Kd.R_alloc | apply Kd.R_drewN | apply Kd.R_drew)); exact HO_4.out⟩, ⟨by repeat (first | (with_reducible first | exact HB.out | apply below_alloc | apply pw_below_drewN | apply below_drew1) | exact HB.out)⟩⟩
                · rw [if_neg c13] at H
                  exact absurd H (by simp)
              · rw [if_neg c12] at H
                exact absurd H (by simp)
            · rw [if_neg c11] at H
              have c11b0 : decide (0 ≤ x7_2) = false := decide_eq_false c11
              clear c11
              have H' := Aside0.mk H
              clear H
              go_wp2
              go_loopg [8, 9] k2 (fun kq v8 v9 w' => ∃ (x8_3 : List Int) (x9_3 : Int), v9 = .int .i64 x9_3 ∧ Aside0 (vellumref3_anchor.l1 kq t199 x6_2 x8_3 x9_3 = some (r1, r2)) ∧ Aside0 (kq ≤ k2) ∧ Aside0 (Kd.R (Kd.int .u8) 5 w' w.heap.size (fun k_ => some k_ ≠ (v8 : Value).ownBlock) v201 t199) ∧ Aside0 (Kd.R (Kd.int .u8) 5 w' w.heap.size (fun k_ => some k_ ≠ (v201 : Value).ownBlock) v8 x8_3) ∧ Aside0 (Below w.heap.size w w'))
              case atStart => exact ⟨(([] : List Int)), (8), (by first | rfl | (simp; done) | (simp [*]; done)), H', ⟨Nat.le_refl _⟩, ⟨by (with_reducible repeat (first | apply Kd.R_alloc | apply Kd.R_drewN | apply Kd.R_drew)); exact Kd.R_mono HO_4.out (fun _ hk => (by simp [Value.ownBlock]))⟩, ⟨by first | exact Kd.R_nil _ _ _ _ _ | exact Kd.N_nil _ _ _ _ _ | exact Kd.V_nil _ _ _ _ _ | exact Kd.Q_nil _ _ _ _ _ | exact Kd.S_nil _ _ _ _ _⟩, ⟨by repeat (first | (with_reducible first | exact HB.out | apply below_alloc | apply pw_below_drewN | apply below_drew1) | exact HB.out)⟩⟩
              case round =>
                clear H'
                try clear c1
                try clear p2
                try clear q2
                try clear hx2
                try clear qi2
                try clear c4
                try clear c5
                try clear c5b0
                try clear c5b1
                try clear c6
                try clear c6b0
                try clear c6b1
                try clear p6
                try clear c8
                try clear c8b0
                try clear c8b1
                try clear c10
                try clear c11
                try clear c11b0
                try clear c12
                try clear c12b0
                try clear c13
                try clear c13b0
                try clear hx203_0
                try clear hx204_0
                try clear p2
                try clear p203
                try clear p204
                try clear q2
                try clear q203
                try clear q204
                obtain ⟨x8_3, x9_3, rfl, HA, HK3, HO_4, HO_8, HB⟩ := hrel
                cases gk with
                | zero => exact absurd HA.out (by simp [vellumref3_anchor.l1])
                | succ k3 =>
                  have H := HA.out
                  clear HA
                  simp only [vellumref3_anchor.l1] at H
                  by_cases c15 : x9_3 < (t199.length : Int)
                  · rw [if_pos c15] at H
                    have c15b0 : decide (x9_3 < (t199.length : Int)) = true := decide_eq_true c15
                    clear c15
                    by_cases c16 : 0 ≤ x9_3
                    · rw [if_pos c16] at H
                      have c16b0 : decide (0 ≤ x9_3) = true := decide_eq_true c16
                      clear c16
                      by_cases c17 : x8_3.length < 140737488355328
                      · rw [if_pos c17] at H
                        have LMc17 := Aside0.mk c17
                        clear c17
                        obtain ⟨y206, hy206⟩ : ∃ y_ : List Int, y_ = (x8_3 ++ [rd t199 x9_3]) := ⟨_, rfl⟩
                        replace H : (vellumref3_anchor.l1 k3 t199 x6_2 y206 (wrap64 (x9_3 + 1))) = some (r1, r2) := by first | (rw [hy206]; with_reducible exact H) | (have H2_ := (Option.bind_some _ _).symm.trans H; rw [hy206]; with_reducible exact H2_) | (have H2_ := (Option.bind_some _ _).symm.trans H; with_reducible exact H2_) | with_reducible exact H | (rw [hy206]; exact H) | exact H
                        have Ny206 := Aside0.mk hy206
                        clear hy206
                        have H' := Aside0.mk H
                        clear H
                        obtain ⟨Ao18, co18, eo18⟩ := Kd.R_slice HO_4.out
                        subst eo18
                        have p205 : 0 ≤ (x9_3 : Int) := of_decide_eq_true (by first | (with_reducible assumption) | assumption)
                        have q205 : x9_3 < (t199.length : Int) := of_decide_eq_true (by first | (with_reducible assumption) | assumption)
                        obtain ⟨ad205, e205, hx205_0⟩ := Kd.at_int (Kd.R_reads' HO_4.out).2.2 x9_3 p205 q205
                        cases e205
                        replace p205 := eq_true p205
                        replace q205 := eq_true q205
                        go_wp2_with (first | ((with_reducible refine gate_builtin (b := .append) (xs := #[.tmp 46, .tmp 51]) rfl ?_); (try (refine gate_guard (by rfl) ?_; dsimp only)); at_builtin; refine Kd.R_append (Kd.int .u8) (w0 := w) w.heap.size rfl (.tmp 46) (.tmp 51) 22 5 (.int .u8 0) 1 rfl Try.underlying22 info5 rfl (by decide) (by omega) u8 x8_3 (rd t199 x9_3) [.int .u8 (rd t199 x9_3)] (fun k_ => some k_ ≠ (.slice (some ad205) t199.length co18 : Value).ownBlock) (fun _ => False) rfl rfl ?aP (fun _ hk => hk.elim) ?aF ?aO ?aB ?aS ?aL ?_; (case aP => exact rfl); (case aB => exact (by repeat (first | (with_reducible first | exact HB.out | apply below_alloc | apply pw_below_drewN | apply below_drew1) | exact HB.out))); (case aF => exact (fun k_ hk => Kd.fresh' (Kd.R_lt (by (with_reducible repeat (first | apply Kd.R_alloc | apply Kd.R_drewN | apply Kd.R_drew)); exact HO_4.out)) k_ hk)); (case aO => exact (by (with_reducible repeat (first | apply Kd.R_alloc | apply Kd.R_drewN | apply Kd.R_drew)); exact HO_8.out)); (case aS => exact (below_size (by repeat (first | (with_reducible first | exact HB.out | apply below_alloc | apply pw_below_drewN | apply below_drew1) | exact HB.out)))); (case aL => have := LMc17.out; omega); intro v207 w19 ho hb hg hat; rw [← Ny206.out] at ho; have n0_ := Aside0.mk (Kd.R_after (ok := (fun _ => True)) (by (with_reducible repeat (first | apply Kd.R_alloc | apply Kd.R_drewN | apply Kd.R_drew)); exact Kd.R_mono HO_4.out (fun _ hk => ⟨trivial, hk⟩)) hg hat); have n1_ := Aside0.mk (hb); have n2_ := Aside0.mk (ho); clear HO_4; clear HB; clear HO_8; have HO_4 := n0_; have HB := n1_; have HO208 := n2_; clear n0_ n1_ n2_; clear ho hb hg hat))
                        go_roundg k3
                        case measure => have := HJ2.out; have := HK2.out; have := HK3.out; omega
                        case rel => exact ⟨(y206), (wrap64 (x9_3 + 1)), (by first | rfl | (simp; done) | (simp [*]; done)), H', ⟨by have := HJ2.out; have := HK2.out; have := HK3.out; omega⟩, ⟨by (with_reducible repeat (first | apply Kd.R_alloc | apply Kd.R_drewN | apply Kd.R_drew)); exact Kd.R_mono HO_4.out (fun _ hk => hk.2)⟩, ⟨by (with_reducible repeat (first | apply Kd.R_alloc | apply Kd.R_drewN | apply Kd.R_drew)); exact HO208.out⟩, ⟨by repeat (first | (with_reducible first | exact HB.out | apply below_alloc | apply pw_below_drewN | apply below_drew1) | exact HB.out)⟩⟩
                      · rw [if_neg c17] at H
                        exact absurd H (by simp)
                    · rw [if_neg c16] at H
                      exact absurd H (by simp)
                  · rw [if_neg c15] at H
                    have c15b0 : decide (x9_3 < (t199.length : Int)) = false := decide_eq_false c15
                    clear c15
                    simp only [Option.some.injEq, Prod.mk.injEq] at H
                    obtain ⟨rfl, rfl⟩ := H
                    obtain ⟨Ao20, co20, eo20⟩ := Kd.R_slice HO_4.out
                    subst eo20
                    go_wp2
                    go_ret2
                    exact ⟨_, by first | rfl | (simp [errW_none, errW_some] <;> rfl) | (simp [*, errW_none, errW_some] <;> rfl), by (with_reducible repeat (first | apply Kd.R_alloc | apply Kd.R_drewN | apply Kd.R_drew)); exact Kd.R_mono HO_8.out (fun _ hk => trivial), by repeat (first | (with_reducible first | exact HB.out | apply below_alloc | apply pw_below_drewN | apply below_drew1) | exact HB.out)⟩

/-! ### vellumref3_Newest: function 27 -/
mutual
def vellumref3_Newest.j0 : Nat → List Int → List Int → Bool → Option (Int × Int × List Int × Int)
  | 0, _, _, _ => none
  | k + 1, x0, x1, x19 => if x19 = true then (some (0, 0, ([] : List Int), 2)) else ((vellumref3_anchor.f k x0).bind fun bt209 => ((vellumref3_anchor.f k x1).bind fun bt213 => (if bt209.1 = 0 then (vellumref3_Newest.j1 k bt209.1 bt209.2 bt213.1 bt213.2 (bt213.1 == 0)) else (vellumref3_Newest.j1 k bt209.1 bt209.2 bt213.1 bt213.2 false))))
def vellumref3_Newest.j1 : Nat → Int → List Int → Int → List Int → Bool → Option (Int × Int × List Int × Int)
  | 0, _, _, _, _, _ => none
  | k + 1, x8, x9, x10, x11, x35 => if x35 = true then (some (0, 0, ([] : List Int), 30)) else (if x10 > x8 then (some (1, x10, x11, 0)) else (some (0, x8, x9, 0)))
end
def vellumref3_Newest.f (k : Nat) (l0 : List Int) (l1 : List Int) : Option (Int × Int × List Int × Int) := if (l0.length : Int) = 512 then (vellumref3_Newest.j0 k l0 l1 ((l1.length : Int) != 512)) else (vellumref3_Newest.j0 k l0 l1 true)
theorem vellumref3_Newest.mono_l : ∀ k, (∀ y0 y1 y2, LeO (vellumref3_Newest.j0 k y0 y1 y2) (vellumref3_Newest.j0 (k + 1) y0 y1 y2)) ∧ (∀ y0 y1 y2 y3 y4, LeO (vellumref3_Newest.j1 k y0 y1 y2 y3 y4) (vellumref3_Newest.j1 (k + 1) y0 y1 y2 y3 y4))
  | 0 => ⟨fun _ _ _ r h => by simp [vellumref3_Newest.j0] at h, fun _ _ _ _ _ r h => by simp [vellumref3_Newest.j1] at h⟩
  | k + 1 => by
    obtain ⟨ih0, ih1⟩ := vellumref3_Newest.mono_l k
    refine ⟨?_, ?_⟩
    · intro y0 y1 y2
      unfold vellumref3_Newest.j0
      repeat' first
      | (with_reducible exact ih0 _ _ _)
      | (with_reducible exact ih1 _ _ _ _ _)
      | (with_reducible exact vellumref3_anchor.mono _ _)
      | (with_reducible exact LeO.refl _)
      | (with_reducible exact LeO.none _)
      | (with_reducible refine LeO.ite ?_ ?_)
      | (with_reducible refine LeO.bind ?_ (fun _ => ?_))
      | exact ih0 _ _ _
      | exact ih1 _ _ _ _ _
      | exact vellumref3_anchor.mono _ _
      | exact LeO.none _
      | refine LeO.ite ?_ ?_
      | refine LeO.bind ?_ (fun _ => ?_)
    · intro y0 y1 y2 y3 y4
      unfold vellumref3_Newest.j1
      repeat' first
      | (with_reducible exact ih0 _ _ _)
      | (with_reducible exact ih1 _ _ _ _ _)
      | (with_reducible exact vellumref3_anchor.mono _ _)
      | (with_reducible exact LeO.refl _)
      | (with_reducible exact LeO.none _)
      | (with_reducible refine LeO.ite ?_ ?_)
      | (with_reducible refine LeO.bind ?_ (fun _ => ?_))
      | exact ih0 _ _ _
      | exact ih1 _ _ _ _ _
      | exact vellumref3_anchor.mono _ _
      | exact LeO.none _
      | refine LeO.ite ?_ ?_
      | refine LeO.bind ?_ (fun _ => ?_)
theorem vellumref3_Newest.mono : ∀ a0 a1 k, LeO (vellumref3_Newest.f k a0 a1) (vellumref3_Newest.f (k + 1) a0 a1) := by
  intro a0 a1 k
  obtain ⟨ih0, ih1⟩ := vellumref3_Newest.mono_l k
  unfold vellumref3_Newest.f
  repeat' first
      | (with_reducible exact ih0 _ _ _)
      | (with_reducible exact ih1 _ _ _ _ _)
      | (with_reducible exact vellumref3_anchor.mono _ _)
      | (with_reducible exact LeO.refl _)
      | (with_reducible exact LeO.none _)
      | (with_reducible refine LeO.ite ?_ ?_)
      | (with_reducible refine LeO.bind ?_ (fun _ => ?_))
      | exact ih0 _ _ _
      | exact ih1 _ _ _ _ _
      | exact vellumref3_anchor.mono _ _
      | exact LeO.none _
      | refine LeO.ite ?_ ?_
      | refine LeO.bind ?_ (fun _ => ?_)
set_option maxHeartbeats 8000000 in
set_option maxRecDepth 100000 in
theorem vellumref3_Newest.calls (k : Nat) (A0 : Option Addr) (c0 : Nat) (l0 : List Int) (A1 : Option Addr) (c1 : Nat) (l1 : List Int) (r1 : Int) (r2 : Int) (r3 : List Int) (r4 : Int) (w : World) (hr0 : Kd.C (Kd.int .u8) w A0 l0.length l0) (hc0 : l0.length ≤ c0) (hr1 : Kd.C (Kd.int .u8) w A1 l1.length l1) (hc1 : l1.length ≤ c1) (h : vellumref3_Newest.f k l0 l1 = some (r1, r2, r3, r4)) :
    Calls Try.prog 27 #[.slice A0 l0.length c0, .slice A1 l1.length c1] w fun e w' => ∃ v2_ : Value, e = .returned (.tuple #[.int .i64 r1, .int .i64 r2, v2_, .int .i64 r4]) ∧ Kd.R (Kd.int .u8) 5 w' w.heap.size (fun _ => True) v2_ r3 ∧ Below w.heap.size w w' := by
  have HR0 := Aside0.mk hr0
  have HC0 := Aside0.mk hc0
  clear hr0 hc0
  have HR1 := Aside0.mk hr1
  have HC1 := Aside0.mk hc1
  clear hr1 hc1
  have HB := Aside0.mk (Below.refl w.heap.size w)
  have H : (if (l0.length : Int) = 512 then (vellumref3_Newest.j0 k l0 l1 ((l1.length : Int) != 512)) else (vellumref3_Newest.j0 k l0 l1 true)) = some (r1, r2, r3, r4) := h
  clear h
  have HC3 := Aside0.mk H
  clear H
  go_enter Try.func27, Try.ntmps27
  go_upto_region 1 with (fail)
  go_cut [19] (fun v19 wc => ∃ (kq : Nat) (x19_2 : Bool), v19 = .bool x19_2 ∧ Aside0 (vellumref3_Newest.j0 kq l0 l1 x19_2 = some (r1, r2, r3, r4)) ∧ Aside0 (kq ≤ k) ∧ Aside0 (Below w.heap.size w wc))
  case first =>
    have H := HC3.out
    clear HC3
    by_cases c4 : (l0.length : Int) = 512
    · rw [if_pos c4] at H
      have c4b0 : ((l0.length : Int) == 512) = true := beq_iff_eq.mpr c4
      have c4b1 : ((l0.length : Int) != 512) = false := bne_eq_false_iff_eq.mpr c4
      clear c4
      (first | rw [c4b0] | (simp only [i64_w, i32_w]; rw [c4b0]) | skip)
      have H' := Aside0.mk H
      clear H
      go_wp2
      go_meet
      case rel => exact ⟨_, (((l1.length : Int) != 512)), (by first | rfl | (simp; done) | (simp [*]; done)), H', ⟨by first | omega | exact Nat.le_refl _⟩, ⟨by repeat (first | (with_reducible first | exact HB.out | apply below_alloc | apply pw_below_drewN | apply below_drew1) | exact HB.out)⟩⟩
    · rw [if_neg c4] at H
      have c4b0 : ((l0.length : Int) == 512) = false := beq_eq_false_iff_ne.mpr c4
      have c4b1 : ((l0.length : Int) != 512) = true := bne_iff_ne.mpr c4
      (first | rw [c4b0] | (simp only [i64_w, i32_w]; rw [c4b0]) | skip)
      have H' := Aside0.mk H
      clear H
      go_wp2
      go_meet
      case rel => exact ⟨_, (true), (by first | rfl | (simp; done) | (simp [*]; done)), H', ⟨by first | omega | exact Nat.le_refl _⟩, ⟨by repeat (first | (with_reducible first | exact HB.out | apply below_alloc | apply pw_below_drewN | apply below_drew1) | exact HB.out)⟩⟩
  case rest =>
    clear HC3
    try clear c1
    try clear c2
    try clear p2
    try clear c4
    try clear c4b0
    try clear c4b1
    obtain ⟨kq, x19_2, rfl, HA, HJ2, HB⟩ := hcut
    cases kq with
    | zero => exact absurd HA.out (by simp [vellumref3_Newest.j0])
    | succ kj2 =>
      have H := HA.out
      clear HA
      simp only [vellumref3_Newest.j0] at H
      by_cases c5 : x19_2 = true
      · subst c5
        have H1 : (some (0, 0, ([] : List Int), 2)) = some (r1, r2, r3, r4) := by rw [if_pos rfl] at H; exact H
        clear H
        have H := H1
        clear H1
        simp only [Option.some.injEq, Prod.mk.injEq] at H
        obtain ⟨rfl, rfl, rfl, rfl⟩ := H
        go_wp2
        refine bodyPost_ret (results_list (rs := [.tmp 4, .tmp 5, .tmp 6, .tmp 7]) rfl (by simp) (.tmp (.tmp (.tmp (.tmp .nil))))) rfl ?_
        exact ⟨_, by first | rfl | (simp [errW_none, errW_some] <;> rfl) | (simp [*, errW_none, errW_some] <;> rfl), by first | exact Kd.R_nil _ _ _ _ _ | exact Kd.N_nil _ _ _ _ _ | exact Kd.V_nil _ _ _ _ _ | exact Kd.Q_nil _ _ _ _ _ | exact Kd.S_nil _ _ _ _ _, by repeat (first | (with_reducible first | exact HB.out | apply below_alloc | apply pw_below_drewN | apply below_drew1) | exact HB.out)⟩
      · replace c5 := Bool.eq_false_iff.mpr c5
        subst c5
        have H1 : ((vellumref3_anchor.f kj2 l0).bind fun bt209 => ((vellumref3_anchor.f kj2 l1).bind fun bt213 => (if bt209.1 = 0 then (vellumref3_Newest.j1 kj2 bt209.1 bt209.2 bt213.1 bt213.2 (bt213.1 == 0)) else (vellumref3_Newest.j1 kj2 bt209.1 bt209.2 bt213.1 bt213.2 false)))) = some (r1, r2, r3, r4) := by rw [if_neg (show ¬ (false = true) by decide)] at H; exact H
        clear H
        have H := H1
        clear H1
        replace H := Option.bind_eq_some_iff.mp H
        obtain ⟨⟨t209, t210⟩, A60, H⟩ := H
        replace H : ((vellumref3_anchor.f kj2 l1).bind fun bt213 => (if t209 = 0 then (vellumref3_Newest.j1 kj2 t209 t210 bt213.1 bt213.2 (bt213.1 == 0)) else (vellumref3_Newest.j1 kj2 t209 t210 bt213.1 bt213.2 false))) = some (r1, r2, r3, r4) := H
        have A6 := Aside0.mk A60
        clear A60
        replace H := Option.bind_eq_some_iff.mp H
        obtain ⟨⟨t213, t214⟩, A70, H⟩ := H
        replace H : (if t209 = 0 then (vellumref3_Newest.j1 kj2 t209 t210 t213 t214 (t213 == 0)) else (vellumref3_Newest.j1 kj2 t209 t210 t213 t214 false)) = some (r1, r2, r3, r4) := H
        have A7 := Aside0.mk A70
        clear A70
        have HC8 := Aside0.mk H
        clear H
        go_upto_region 5 with (first | ((with_reducible refine gate_callee (f := 42) rfl ?_); refine goesL_ (some 22) rfl rfl Try.func42 (by kernel_rfl) rfl #[.slice A0 l0.length c0] rfl (by (try simp only [List.map_toArray, List.map_cons, List.map_nil]); first | done | rfl | (simp only [List.length_drop, List.length_take]; rfl)) ?_; (with_reducible refine (vellumref3_anchor.calls kj2 _ _ l0 t209 t210 _ ?side1 ?side2 A6.out).mono ?_); (case side1 => repeat (first | exact (Kd.C_below HR0.out HB.out) | (with_reducible refine Kd.C_alloc ?_ _) | (with_reducible refine Kd.C_drewN ?_ _) | (with_reducible refine Kd.C_drew ?_))); (case side2 => exact HC0.out); rintro e w9 ⟨v211, rfl, ho0, hb⟩; refine ⟨_, rfl, ?_⟩; have n0_ := Aside0.mk (Kd.R_lower ho0 (below_size (by repeat (first | (with_reducible first | exact HB.out | apply below_alloc | apply pw_below_drewN | apply below_drew1) | exact HB.out)))); have n1_ := Aside0.mk (below_step (by repeat (first | (with_reducible first | exact HB.out | apply below_alloc | apply pw_below_drewN | apply below_drew1) | exact HB.out)) hb); clear HB; have HO212 := n0_; have HB := n1_; clear n0_ n1_; (try clear hb); (try clear hb2); (try clear hk); (try clear hi); (try clear ho0)) | ((with_reducible refine gate_callee (f := 42) rfl ?_); refine goesL_ (some 27) rfl rfl Try.func42 (by kernel_rfl) rfl #[.slice A1 l1.length c1] rfl (by (try simp only [List.map_toArray, List.map_cons, List.map_nil]); first | done | rfl | (simp only [List.length_drop, List.length_take]; rfl)) ?_; (with_reducible refine (vellumref3_anchor.calls kj2 _ _ l1 t213 t214 _ ?side1 ?side2 A7.out).mono ?_); (case side1 => repeat (first | exact (Kd.C_below HR1.out HB.out) | (with_reducible refine Kd.C_alloc ?_ _) | (with_reducible refine Kd.C_drewN ?_ _) | (with_reducible refine Kd.C_drew ?_))); (case side2 => exact HC1.out); rintro e w10 ⟨v215, rfl, ho0, hb⟩; refine ⟨_, rfl, ?_⟩; have n0_ := Aside0.mk (Kd.R_elder' (by (with_reducible repeat (first | apply Kd.R_alloc | apply Kd.R_drewN | apply Kd.R_drew)); exact HO212.out) (Kd.R_base ho0) hb); have n1_ := Aside0.mk (Kd.R_lower (Kd.R_new' ho0 (Kd.R_lt (by (with_reducible repeat (first | apply Kd.R_alloc | apply Kd.R_drewN | apply Kd.R_drew)); exact HO212.out))) (below_size (by repeat (first | (with_reducible first | exact HB.out | apply below_alloc | apply pw_below_drewN | apply below_drew1) | exact HB.out)))); have n2_ := Aside0.mk (below_step (by repeat (first | (with_reducible first | exact HB.out | apply below_alloc | apply pw_below_drewN | apply below_drew1) | exact HB.out)) hb); clear HO212; clear HB; have HO212 := n0_; have HO216 := n1_; have HB := n2_; clear n0_ n1_ n2_; (try clear hb); (try clear hb2); (try clear hk); (try clear hi); (try clear ho0)))
        (try simp only [Act.put, List.setIfInBounds_toArray, List.set_cons_zero, List.set_cons_succ])
        go_cut [35] (fun v35 wc => ∃ (kq : Nat) (x35_7 : Bool), v35 = .bool x35_7 ∧ Aside0 (vellumref3_Newest.j1 kq t209 t210 t213 t214 x35_7 = some (r1, r2, r3, r4)) ∧ Aside0 (kq ≤ kj2) ∧ Aside0 (Kd.R (Kd.int .u8) 5 wc w.heap.size (fun k_ => some k_ ≠ (v215 : Value).ownBlock) v211 t210) ∧ Aside0 (Kd.R (Kd.int .u8) 5 wc w.heap.size (fun k_ => some k_ ≠ (v211 : Value).ownBlock) v215 t214) ∧ Aside0 (Below w.heap.size w wc))
        case first =>
          have H := HC8.out
          clear HC8
          by_cases c11 : t209 = 0
          · rw [if_pos c11] at H
            have c11b0 : (t209 == 0) = true := beq_iff_eq.mpr c11
            have c11b1 : (t209 != 0) = false := bne_eq_false_iff_eq.mpr c11
            clear c11
            (first | rw [c11b0] | (simp only [i64_w, i32_w]; rw [c11b0]) | skip)
            have H' := Aside0.mk H
            clear H
            go_wp2
            go_meet
            case rel => exact ⟨_, ((t213 == 0)), (by first | rfl | (simp; done) | (simp [*]; done)), H', ⟨by have := HJ2.out; first | omega | exact Nat.le_refl _⟩, ⟨by (with_reducible repeat (first | apply Kd.R_alloc | apply Kd.R_drewN | apply Kd.R_drew)); exact Kd.R_mono HO212.out (fun _ hk => hk.2)⟩, ⟨by (with_reducible repeat (first | apply Kd.R_alloc | apply Kd.R_drewN | apply Kd.R_drew)); exact Kd.R_mono HO216.out (fun _ hk => hk.2)⟩, ⟨by repeat (first | (with_reducible first | exact HB.out | apply below_alloc | apply pw_below_drewN | apply below_drew1) | exact HB.out)⟩⟩
          · rw [if_neg c11] at H
            have c11b0 : (t209 == 0) = false := beq_eq_false_iff_ne.mpr c11
            have c11b1 : (t209 != 0) = true := bne_iff_ne.mpr c11
            (first | rw [c11b0] | (simp only [i64_w, i32_w]; rw [c11b0]) | skip)
            have H' := Aside0.mk H
            clear H
            go_wp2
            go_meet
            case rel => exact ⟨_, (false), (by first | rfl | (simp; done) | (simp [*]; done)), H', ⟨by have := HJ2.out; first | omega | exact Nat.le_refl _⟩, ⟨by (with_reducible repeat (first | apply Kd.R_alloc | apply Kd.R_drewN | apply Kd.R_drew)); exact Kd.R_mono HO212.out (fun _ hk => hk.2)⟩, ⟨by (with_reducible repeat (first | apply Kd.R_alloc | apply Kd.R_drewN | apply Kd.R_drew)); exact Kd.R_mono HO216.out (fun _ hk => hk.2)⟩, ⟨by repeat (first | (with_reducible first | exact HB.out | apply below_alloc | apply pw_below_drewN | apply below_drew1) | exact HB.out)⟩⟩
        case rest =>
          clear HC8
          try clear c1
          try clear c2
          try clear p2
          try clear c4
          try clear c4b0
          try clear c4b1
          try clear c5
          try clear c11
          try clear c11b0
          try clear c11b1
          try clear p2
          obtain ⟨kq, x35_7, rfl, HA, HJ7, HO_9, HO_11, HB⟩ := hcut
          cases kq with
          | zero => exact absurd HA.out (by simp [vellumref3_Newest.j1])
          | succ kj7 =>
            have H := HA.out
            clear HA
            simp only [vellumref3_Newest.j1] at H
            by_cases c12 : x35_7 = true
            · subst c12
              have H1 : (some (0, 0, ([] : List Int), 30)) = some (r1, r2, r3, r4) := by rw [if_pos rfl] at H; exact H
              clear H
              have H := H1
              clear H1
              simp only [Option.some.injEq, Prod.mk.injEq] at H
              obtain ⟨rfl, rfl, rfl, rfl⟩ := H
              go_wp2
              refine bodyPost_ret (results_list (rs := [.tmp 4, .tmp 5, .tmp 6, .tmp 7]) rfl (by simp) (.tmp (.tmp (.tmp (.tmp .nil))))) rfl ?_
              exact ⟨_, by first | rfl | (simp [errW_none, errW_some] <;> rfl) | (simp [*, errW_none, errW_some] <;> rfl), by first | exact Kd.R_nil _ _ _ _ _ | exact Kd.N_nil _ _ _ _ _ | exact Kd.V_nil _ _ _ _ _ | exact Kd.Q_nil _ _ _ _ _ | exact Kd.S_nil _ _ _ _ _, by repeat (first | (with_reducible first | exact HB.out | apply below_alloc | apply pw_below_drewN | apply below_drew1) | exact HB.out)⟩
            · replace c12 := Bool.eq_false_iff.mpr c12
              subst c12
              have H1 : (if t213 > t209 then (some (1, t213, t214, 0)) else (some (0, t209, t210, 0))) = some (r1, r2, r3, r4) := by rw [if_neg (show ¬ (false = true) by decide)] at H; exact H
              clear H
              have H := H1
              clear H1
              by_cases c13 : t213 > t209
              · rw [if_pos c13] at H
                have c13b0 : decide (t209 < t213) = true := decide_eq_true c13
                clear c13
                simp only [Option.some.injEq, Prod.mk.injEq] at H
                obtain ⟨rfl, rfl, rfl, rfl⟩ := H
                go_wp2
                refine bodyPost_ret (results_list (rs := [.tmp 4, .tmp 5, .tmp 6, .tmp 7]) rfl (by simp) (.tmp (.tmp (.tmp (.tmp .nil))))) rfl ?_
                exact ⟨_, by first | rfl | (simp [errW_none, errW_some] <;> rfl) | (simp [*, errW_none, errW_some] <;> rfl), by (with_reducible repeat (first | apply Kd.R_alloc | apply Kd.R_drewN | apply Kd.R_drew)); exact Kd.R_mono HO_11.out (fun _ hk => trivial), by repeat (first | (with_reducible first | exact HB.out | apply below_alloc | apply pw_below_drewN | apply below_drew1) | exact HB.out)⟩
              · rw [if_neg c13] at H
                have c13b0 : decide (t209 < t213) = false := decide_eq_false c13
                clear c13
                simp only [Option.some.injEq, Prod.mk.injEq] at H
                obtain ⟨rfl, rfl, rfl, rfl⟩ := H
                go_wp2
                refine bodyPost_ret (results_list (rs := [.tmp 4, .tmp 5, .tmp 6, .tmp 7]) rfl (by simp) (.tmp (.tmp (.tmp (.tmp .nil))))) rfl ?_
                exact ⟨_, by first | rfl | (simp [errW_none, errW_some] <;> rfl) | (simp [*, errW_none, errW_some] <;> rfl), by (with_reducible repeat (first | apply Kd.R_alloc | apply Kd.R_drewN | apply Kd.R_drew)); exact Kd.R_mono HO_9.out (fun _ hk => trivial), by repeat (first | (with_reducible first | exact HB.out | apply below_alloc | apply pw_below_drewN | apply below_drew1) | exact HB.out)⟩

-- NOT PRINTED: function 56 (codec_halves)

-- NOT PRINTED: function 49 (codec_Sum)

-- NOT PRINTED: function 37 (seal_lay)

-- seal_Open: told by hand

/-! ### seal_read: function 58 -/
mutual
def seal_read.j0 : Nat → List Int → Bool → Option (Int × List Int)
  | 0, _, _ => none
  | k + 1, x3, x18 => if x18 = true then (some (0, ([] : List Int))) else (seal_read.l0 k x3 0 7)
def seal_read.l0 : Nat → List Int → Int → Int → Option (Int × List Int)
  | 0, _, _, _ => none
  | k + 1, x3, x5, x6 => if x6 ≥ 0 then (if 0 ≤ x6 then (if x6 < (x3.length : Int) then (seal_read.l0 k x3 (Go.bits .or .u64 (IntKind.u64.wrap (x5 * 256)) (IntKind.u64.wrap (rd x3 x6))) (wrap64 (x6 - 1))) else (none)) else (none)) else (if x5 = 0 then (some (0, ([] : List Int))) else (if x5 > 9223372036854775807 then (some (0, ([] : List Int))) else (if 8 ≤ (x3.length : Int) then (some (wrap64 (x5), (x3.drop 8))) else (none))))
end
def seal_read.f (k : Nat) (l0 : List Int) : Option (Int × List Int) := (seal_Open.f l0).bind fun bt218 => (if bt218.2 = 0 then (seal_read.j0 k bt218.1 (decide ((bt218.1.length : Int) < 8))) else (seal_read.j0 k bt218.1 true))
theorem seal_read.mono_l : ∀ k, (∀ y0 y1, LeO (seal_read.j0 k y0 y1) (seal_read.j0 (k + 1) y0 y1)) ∧ (∀ y0 y1 y2, LeO (seal_read.l0 k y0 y1 y2) (seal_read.l0 (k + 1) y0 y1 y2))
  | 0 => ⟨fun _ _ r h => by simp [seal_read.j0] at h, fun _ _ _ r h => by simp [seal_read.l0] at h⟩
  | k + 1 => by
    obtain ⟨ih0, ih1⟩ := seal_read.mono_l k
    refine ⟨?_, ?_⟩
    · intro y0 y1
      unfold seal_read.j0
      repeat' first
      | (with_reducible exact ih0 _ _)
      | (with_reducible exact ih1 _ _ _)
      | (with_reducible exact LeO.refl _)
      | (with_reducible exact LeO.none _)
      | (with_reducible refine LeO.ite ?_ ?_)
      | (with_reducible refine LeO.bind ?_ (fun _ => ?_))
      | exact ih0 _ _
      | exact ih1 _ _ _
      | exact LeO.none _
      | refine LeO.ite ?_ ?_
      | refine LeO.bind ?_ (fun _ => ?_)
    · intro y0 y1 y2
      unfold seal_read.l0
      repeat' first
      | (with_reducible exact ih0 _ _)
      | (with_reducible exact ih1 _ _ _)
      | (with_reducible exact LeO.refl _)
      | (with_reducible exact LeO.none _)
      | (with_reducible refine LeO.ite ?_ ?_)
      | (with_reducible refine LeO.bind ?_ (fun _ => ?_))
      | exact ih0 _ _
      | exact ih1 _ _ _
      | exact LeO.none _
      | refine LeO.ite ?_ ?_
      | refine LeO.bind ?_ (fun _ => ?_)
theorem seal_read.mono : ∀ a0 k, LeO (seal_read.f k a0) (seal_read.f (k + 1) a0) := by
  intro a0 k
  obtain ⟨ih0, ih1⟩ := seal_read.mono_l k
  unfold seal_read.f
  repeat' first
      | (with_reducible exact ih0 _ _)
      | (with_reducible exact ih1 _ _ _)
      | (with_reducible exact LeO.refl _)
      | (with_reducible exact LeO.none _)
      | (with_reducible refine LeO.ite ?_ ?_)
      | (with_reducible refine LeO.bind ?_ (fun _ => ?_))
      | exact ih0 _ _
      | exact ih1 _ _ _
      | exact LeO.none _
      | refine LeO.ite ?_ ?_
      | refine LeO.bind ?_ (fun _ => ?_)
set_option maxHeartbeats 8000000 in
set_option maxRecDepth 100000 in
theorem seal_read.calls (k : Nat) (A0 : Option Addr) (c0 : Nat) (l0 : List Int) (r1 : Int) (r2 : List Int) (w : World) (hr0 : Kd.C (Kd.int .u8) w A0 l0.length l0) (hc0 : l0.length ≤ c0) (h : seal_read.f k l0 = some (r1, r2)) :
    Calls Try.prog 58 #[.slice A0 l0.length c0] w fun e w' => ∃ v1_ : Value, e = .returned (.agg #[.int .i64 r1, v1_]) ∧ Kd.V (Kd.int .u8) 5 w' w.heap.size (fun k_ => (w.heap.size ≤ k_)) v1_ r2 ∧ Below w.heap.size w w' := by
  have hu98 := Try.underlying98
  have HR0 := Aside0.mk hr0
  have HC0 := Aside0.mk hc0
  clear hr0 hc0
  have HB := Aside0.mk (Below.refl w.heap.size w)
  have H : ((seal_Open.f l0).bind fun bt218 => (if bt218.2 = 0 then (seal_read.j0 k bt218.1 (decide ((bt218.1.length : Int) < 8))) else (seal_read.j0 k bt218.1 true))) = some (r1, r2) := h
  clear h
  replace H := Option.bind_eq_some_iff.mp H
  obtain ⟨⟨t218, t221⟩, A20, H⟩ := H
  replace H : (if t221 = 0 then (seal_read.j0 k t218 (decide ((t218.length : Int) < 8))) else (seal_read.j0 k t218 true)) = some (r1, r2) := H
  have A2 := Aside0.mk A20
  clear A20
  have HC3 := Aside0.mk H
  clear H
  go_enter Try.func58, Try.ntmps58
  go_upto_region 2 with (first | ((with_reducible refine gate_dst (N := 2) rfl ?_); (try (refine gate_guard (by rfl) ?_; dsimp only)); refine box_event ?hg (N := 2) ?hd (cs := #[.int .i64 0, .slice none 0 0]) (t := 98) ?hr ?_; (case hd => rfl); (case hg => rfl); (case hr => first | (go_simp; done) | (go_simp; rfl)); intro gb217 hg w4 hbox hb; have n0_ := Aside0.mk (below_step (by repeat (first | (with_reducible first | exact HB.out | apply below_alloc | apply pw_below_drewN | apply below_drew1) | exact HB.out)) hb); have n1_ := Aside0.mk (hbox); have n2_ := Aside0.mk ((by rw [hg]; exact (below_size (by repeat (first | (with_reducible first | exact HB.out | apply below_alloc | apply pw_below_drewN | apply below_drew1) | exact HB.out))) : w.heap.size ≤ gb217)); have n3_ := Aside0.mk ((by rw [hg]; exact (below_size (by repeat (first | (with_reducible first | exact HB.out | apply below_alloc | apply pw_below_drewN | apply below_drew1) | exact HB.out))) : w.heap.size ≤ gb217)); clear HB; have HB := n0_; have BK217 := n1_; have GW217 := n2_; have GE217 := n3_; clear n0_ n1_ n2_ n3_; clear hb hbox hg) | ((with_reducible refine gate_callee (f := 19) rfl ?_); refine goesL_ (some 9) rfl rfl Try.func19 (by kernel_rfl) rfl #[.slice A0 l0.length c0] rfl (by (try simp only [List.map_toArray, List.map_cons, List.map_nil]); first | done | rfl | (simp only [List.length_drop, List.length_take]; rfl)) ?_; (with_reducible refine (seal_Open.calls _ _ l0 t218 t221 _ ?side1 ?side2 A2.out).mono ?_); (case side1 => repeat (first | exact (Kd.C_below HR0.out HB.out) | (with_reducible refine Kd.C_alloc ?_ _) | (with_reducible refine Kd.C_drewN ?_ _) | (with_reducible refine Kd.C_drew ?_))); (case side2 => exact HC0.out); rintro e w5 ⟨v219, rfl, ho0, hb⟩; refine ⟨_, rfl, ?_⟩; have n0_ := Aside0.mk (Kd.V_lower (Kd.V_mono (ok' := fun k_ => (w.heap.size ≤ k_) ∧ k_ ≠ gb217) ho0 (fun k_ hk_ => ⟨(Nat.le_trans (below_size (by repeat (first | (with_reducible first | exact HB.out | apply below_alloc | apply pw_below_drewN | apply below_drew1 | refine below_set ?_ GE217.out) | exact HB.out))) hk_), (Kd.freshB (g := gb217) (o := .cells #[.int .i64 0, .slice none 0 0] 98 (0, 0)) (by (with_reducible repeat (first | refine blk_drewN ?_ _ | refine blk_drew ?_ | refine blk_alloc ?_ _)); exact BK217.out) k_ hk_)⟩)) (below_size (by repeat (first | (with_reducible first | exact HB.out | apply below_alloc | apply pw_below_drewN | apply below_drew1 | refine below_set ?_ GE217.out) | exact HB.out)))); have n1_ := Aside0.mk (blk_below (g := gb217) (o := .cells #[.int .i64 0, .slice none 0 0] 98 (0, 0)) (by (with_reducible repeat (first | refine blk_drewN ?_ _ | refine blk_drew ?_ | refine blk_alloc ?_ _)); exact BK217.out) hb); have n2_ := Aside0.mk (below_step (by repeat (first | (with_reducible first | exact HB.out | apply below_alloc | apply pw_below_drewN | apply below_drew1 | refine below_set ?_ GE217.out) | exact HB.out)) hb); clear BK217; clear HB; have HO220 := n0_; have BK217 := n1_; have HB := n2_; clear n0_ n1_ n2_; (try clear hb); (try clear hb2); (try clear hk); (try clear hi); (try clear ho0)))
  (try simp only [Act.put, List.setIfInBounds_toArray, List.set_cons_zero, List.set_cons_succ])
  go_cut [18] (fun v18 wc => ∃ (kq : Nat) (x18_2 : Bool), v18 = .bool x18_2 ∧ Aside0 (seal_read.j0 kq t218 x18_2 = some (r1, r2)) ∧ Aside0 (kq ≤ k) ∧ Aside0 (Kd.V (Kd.int .u8) 5 wc w.heap.size (fun k_ => (w.heap.size ≤ k_) ∧ k_ ≠ gb217) v219 t218) ∧ Aside0 (wc.heap[gb217]? = some (.cells #[.int .i64 0, (.slice none 0 0)] 98 (0, 0))) ∧ Aside0 (Below w.heap.size w wc))
  case first =>
    have H := HC3.out
    clear HC3
    by_cases c6 : t221 = 0
    · rw [if_pos c6] at H
      have c6b0 : (t221 == 0) = true := beq_iff_eq.mpr c6
      have c6b1 : (t221 != 0) = false := bne_eq_false_iff_eq.mpr c6
      clear c6
      (first | rw [c6b0] | (simp only [i64_w, i32_w]; rw [c6b0]) | skip)
      have H' := Aside0.mk H
      clear H
      obtain ⟨Ao7, co7, eo7⟩ := Kd.V_slice HO220.out
      subst eo7
      go_wp2
      go_meet
      case rel => exact ⟨_, (decide ((t218.length : Int) < 8)), (by first | rfl | (simp; done) | (simp [*]; done)), H', ⟨by first | omega | exact Nat.le_refl _⟩, ⟨by (with_reducible repeat (first | apply Kd.V_alloc | apply Kd.V_drewN | apply Kd.V_drew)); exact HO220.out⟩, ⟨by (with_reducible repeat (first | refine blk_drewN ?_ _ | refine blk_drew ?_ | refine blk_alloc ?_ _)); exact BK217.out⟩, ⟨by repeat (first | (with_reducible first | exact HB.out | apply below_alloc | apply pw_below_drewN | apply below_drew1 | refine below_set ?_ GE217.out) | exact HB.out)⟩⟩
    · rw [if_neg c6] at H
      have c6b0 : (t221 == 0) = false := beq_eq_false_iff_ne.mpr c6
      have c6b1 : (t221 != 0) = true := bne_iff_ne.mpr c6
      (first | rw [c6b0] | (simp only [i64_w, i32_w]; rw [c6b0]) | skip)
      have H' := Aside0.mk H
      clear H
      go_wp2
      go_meet
      case rel => exact ⟨_, (true), (by first | rfl | (simp; done) | (simp [*]; done)), H', ⟨by first | omega | exact Nat.le_refl _⟩, ⟨by (with_reducible repeat (first | apply Kd.V_alloc | apply Kd.V_drewN | apply Kd.V_drew)); exact HO220.out⟩, ⟨by (with_reducible repeat (first | refine blk_drewN ?_ _ | refine blk_drew ?_ | refine blk_alloc ?_ _)); exact BK217.out⟩, ⟨by repeat (first | (with_reducible first | exact HB.out | apply below_alloc | apply pw_below_drewN | apply below_drew1 | refine below_set ?_ GE217.out) | exact HB.out)⟩⟩
  case rest =>
    clear HC3
    try clear c1
    try clear p2
    try clear c5
    try clear c6
    try clear c6b0
    try clear c6b1
    obtain ⟨kq, x18_2, rfl, HA, HJ2, HO_3, BK217, HB⟩ := hcut
    cases kq with
    | zero => exact absurd HA.out (by simp [seal_read.j0])
    | succ kj2 =>
      have H := HA.out
      clear HA
      simp only [seal_read.j0] at H
      by_cases c8 : x18_2 = true
      · subst c8
        have H1 : (some (0, ([] : List Int))) = some (r1, r2) := by rw [if_pos rfl] at H; exact H
        clear H
        have H := H1
        clear H1
        simp only [Option.some.injEq, Prod.mk.injEq] at H
        obtain ⟨rfl, rfl⟩ := H
        have hcz9_0 : wc.cell? ⟨gb217, 0, none⟩ = some (.int .i64 0) := (blk_cell BK217.out 0).trans rfl
        have hcz9_1 : wc.cell? ⟨gb217, 1, none⟩ = some (.slice none 0 0) := (blk_cell BK217.out 1).trans rfl
        have hfz9_0 := blk_frozen BK217.out 0
        have hfz9_1 := blk_frozen BK217.out 1
        go_wp2
        refine bodyPost_ret (results_cell_row rfl _ _ gb217 98 #[.int .i64 0, .slice none 0 0] (0, 0) _ rfl (by (with_reducible repeat (first | refine blk_drewN ?_ _ | refine blk_drew ?_ | refine blk_alloc ?_ _)); refine blk_put (cs := #[.int .i64 0, .slice none 0 0]) ?_ 1 _ rfl; (with_reducible repeat (first | refine blk_drewN ?_ _ | refine blk_drew ?_ | refine blk_alloc ?_ _)); refine blk_put (cs := #[.int .i64 0, .slice none 0 0]) ?_ 0 _ rfl; (with_reducible repeat (first | refine blk_drewN ?_ _ | refine blk_drew ?_ | refine blk_alloc ?_ _)); exact BK217.out) Try.underlying98 rfl (by kernel_rfl)) rfl ?_
        exact ⟨_, by first | rfl | (simp [errW_none, errW_some] <;> rfl) | (simp [*, errW_none, errW_some] <;> rfl), (Kd.V_nil _ _ _ _ _), by repeat (first | (with_reducible first | exact HB.out | apply below_alloc | apply pw_below_drewN | apply below_drew1 | refine below_set ?_ GE217.out) | exact HB.out)⟩
      · replace c8 := Bool.eq_false_iff.mpr c8
        subst c8
        have H1 : (seal_read.l0 kj2 t218 0 7) = some (r1, r2) := by rw [if_neg (show ¬ (false = true) by decide)] at H; exact H
        clear H
        have H := H1
        clear H1
        have H' := Aside0.mk H
        clear H
        go_wp2
        go_loopg [5, 6] kj2 (fun kq v5 v6 w' => ∃ (x5_2 : Int) (x6_2 : Int), v5 = .int .u64 x5_2 ∧ v6 = .int .i64 x6_2 ∧ Aside0 (seal_read.l0 kq t218 x5_2 x6_2 = some (r1, r2)) ∧ Aside0 (kq ≤ kj2) ∧ Aside0 (Kd.V (Kd.int .u8) 5 w' w.heap.size (fun k_ => (w.heap.size ≤ k_) ∧ k_ ≠ gb217) v219 t218) ∧ Aside0 (w'.heap[gb217]? = some (.cells #[.int .i64 0, (.slice none 0 0)] 98 (0, 0))) ∧ Aside0 (Below w.heap.size w w'))
        case atStart => exact ⟨(0), (7), (by first | rfl | (simp; done) | (simp [*]; done)), (by first | rfl | (simp; done) | (simp [*]; done)), H', ⟨Nat.le_refl _⟩, ⟨by (with_reducible repeat (first | apply Kd.V_alloc | apply Kd.V_drewN | apply Kd.V_drew)); exact HO_3.out⟩, ⟨by (with_reducible repeat (first | refine blk_drewN ?_ _ | refine blk_drew ?_ | refine blk_alloc ?_ _)); exact BK217.out⟩, ⟨by repeat (first | (with_reducible first | exact HB.out | apply below_alloc | apply pw_below_drewN | apply below_drew1 | refine below_set ?_ GE217.out) | exact HB.out)⟩⟩
        case round =>
          clear H'
          try clear c1
          try clear p2
          try clear c5
          try clear c6
          try clear c6b0
          try clear c6b1
          try clear c8
          try clear hcz9_0
          try clear hcz9_1
          try clear hfz9_0
          try clear hfz9_1
          try clear p2
          obtain ⟨x5_2, x6_2, rfl, rfl, HA, HK2, HO_3, BK217, HB⟩ := hrel
          cases gk with
          | zero => exact absurd HA.out (by simp [seal_read.l0])
          | succ k2 =>
            have H := HA.out
            clear HA
            simp only [seal_read.l0] at H
            by_cases c10 : x6_2 ≥ 0
            · rw [if_pos c10] at H
              have c10b0 : decide (0 ≤ x6_2) = true := decide_eq_true c10
              clear c10
              by_cases c11 : 0 ≤ x6_2
              · rw [if_pos c11] at H
                have c11b0 : decide (0 ≤ x6_2) = true := decide_eq_true c11
                clear c11
                by_cases c12 : x6_2 < (t218.length : Int)
                · rw [if_pos c12] at H
                  have c12b0 : decide (x6_2 < (t218.length : Int)) = true := decide_eq_true c12
                  clear c12
                  have H' := Aside0.mk H
                  clear H
                  obtain ⟨Ao13, co13, eo13⟩ := Kd.V_slice HO_3.out
                  subst eo13
                  have p222 : 0 ≤ (x6_2 : Int) := of_decide_eq_true (by first | (with_reducible assumption) | assumption)
                  have q222 : x6_2 < (t218.length : Int) := of_decide_eq_true (by first | (with_reducible assumption) | assumption)
                  obtain ⟨ad222, e222, hx222_0⟩ := Kd.at_int (Kd.V_reads' HO_3.out).2.2 x6_2 p222 q222
                  cases e222
                  replace p222 := eq_true p222
                  replace q222 := eq_true q222
                  go_wp2
                  go_roundg k2
                  case measure => have := HJ2.out; have := HK2.out; omega
                  case rel => exact ⟨(Go.bits .or .u64 (IntKind.u64.wrap (x5_2 * 256)) (IntKind.u64.wrap (rd t218 x6_2))), (wrap64 (x6_2 - 1)), (by first | rfl | (simp; done) | (simp [*]; done)), (by first | rfl | (simp; done) | (simp [*]; done)), H', ⟨by have := HJ2.out; have := HK2.out; omega⟩, ⟨by (with_reducible repeat (first | apply Kd.V_alloc | apply Kd.V_drewN | apply Kd.V_drew)); exact HO_3.out⟩, ⟨by (with_reducible repeat (first | refine blk_drewN ?_ _ | refine blk_drew ?_ | refine blk_alloc ?_ _)); exact BK217.out⟩, ⟨by repeat (first | (with_reducible first | exact HB.out | apply below_alloc | apply pw_below_drewN | apply below_drew1 | refine below_set ?_ GE217.out) | exact HB.out)⟩⟩
                · rw [if_neg c12] at H
                  exact absurd H (by simp)
              · rw [if_neg c11] at H
                exact absurd H (by simp)
            · rw [if_neg c10] at H
              have c10b0 : decide (0 ≤ x6_2) = false := decide_eq_false c10
              clear c10
              by_cases c14 : x5_2 = 0
              · rw [if_pos c14] at H
                have c14b0 : (x5_2 == 0) = true := beq_iff_eq.mpr c14
                have c14b1 : (x5_2 != 0) = false := bne_eq_false_iff_eq.mpr c14
                clear c14
                simp only [Option.some.injEq, Prod.mk.injEq] at H
                obtain ⟨rfl, rfl⟩ := H
                have hcz15_0 : wr.cell? ⟨gb217, 0, none⟩ = some (.int .i64 0) := (blk_cell BK217.out 0).trans rfl
                have hcz15_1 : wr.cell? ⟨gb217, 1, none⟩ = some (.slice none 0 0) := (blk_cell BK217.out 1).trans rfl
                have hfz15_0 := blk_frozen BK217.out 0
                have hfz15_1 := blk_frozen BK217.out 1
                go_wp2
                refine bodyPost_ret (results_cell_row rfl _ _ gb217 98 #[.int .i64 0, .slice none 0 0] (0, 0) _ rfl (by (with_reducible repeat (first | refine blk_drewN ?_ _ | refine blk_drew ?_ | refine blk_alloc ?_ _)); refine blk_put (cs := #[.int .i64 0, .slice none 0 0]) ?_ 1 _ rfl; (with_reducible repeat (first | refine blk_drewN ?_ _ | refine blk_drew ?_ | refine blk_alloc ?_ _)); refine blk_put (cs := #[.int .i64 0, .slice none 0 0]) ?_ 0 _ rfl; (with_reducible repeat (first | refine blk_drewN ?_ _ | refine blk_drew ?_ | refine blk_alloc ?_ _)); exact BK217.out) Try.underlying98 rfl (by kernel_rfl)) rfl ?_
                exact ⟨_, by first | rfl | (simp [errW_none, errW_some] <;> rfl) | (simp [*, errW_none, errW_some] <;> rfl), (Kd.V_nil _ _ _ _ _), by repeat (first | (with_reducible first | exact HB.out | apply below_alloc | apply pw_below_drewN | apply below_drew1 | refine below_set ?_ GE217.out) | exact HB.out)⟩
              · rw [if_neg c14] at H
                have c14b0 : (x5_2 == 0) = false := beq_eq_false_iff_ne.mpr c14
                have c14b1 : (x5_2 != 0) = true := bne_iff_ne.mpr c14
                by_cases c16 : x5_2 > 9223372036854775807
                · rw [if_pos c16] at H
                  have c16b0 : decide (9223372036854775807 < x5_2) = true := decide_eq_true c16
                  clear c16
                  simp only [Option.some.injEq, Prod.mk.injEq] at H
                  obtain ⟨rfl, rfl⟩ := H
                  have hcz17_0 : wr.cell? ⟨gb217, 0, none⟩ = some (.int .i64 0) := (blk_cell BK217.out 0).trans rfl
                  have hcz17_1 : wr.cell? ⟨gb217, 1, none⟩ = some (.slice none 0 0) := (blk_cell BK217.out 1).trans rfl
                  have hfz17_0 := blk_frozen BK217.out 0
                  have hfz17_1 := blk_frozen BK217.out 1
                  go_wp2
                  refine bodyPost_ret (results_cell_row rfl _ _ gb217 98 #[.int .i64 0, .slice none 0 0] (0, 0) _ rfl (by (with_reducible repeat (first | refine blk_drewN ?_ _ | refine blk_drew ?_ | refine blk_alloc ?_ _)); refine blk_put (cs := #[.int .i64 0, .slice none 0 0]) ?_ 1 _ rfl; (with_reducible repeat (first | refine blk_drewN ?_ _ | refine blk_drew ?_ | refine blk_alloc ?_ _)); refine blk_put (cs := #[.int .i64 0, .slice none 0 0]) ?_ 0 _ rfl; (with_reducible repeat (first | refine blk_drewN ?_ _ | refine blk_drew ?_ | refine blk_alloc ?_ _)); exact BK217.out) Try.underlying98 rfl (by kernel_rfl)) rfl ?_
                  exact ⟨_, by first | rfl | (simp [errW_none, errW_some] <;> rfl) | (simp [*, errW_none, errW_some] <;> rfl), (Kd.V_nil _ _ _ _ _), by repeat (first | (with_reducible first | exact HB.out | apply below_alloc | apply pw_below_drewN | apply below_drew1 | refine below_set ?_ GE217.out) | exact HB.out)⟩
                · rw [if_neg c16] at H
                  have c16b0 : decide (9223372036854775807 < x5_2) = false := decide_eq_false c16
                  clear c16
                  by_cases c18 : 8 ≤ (t218.length : Int)
                  · rw [if_pos c18] at H
                    have c18b0 := eq_true c18
                    have c18b1 : decide (8 ≤ (t218.length : Int)) = true := decide_eq_true c18
                    clear c18
                    obtain ⟨y223, hy223⟩ : ∃ y_ : List Int, y_ = (t218.drop 8) := ⟨_, rfl⟩
                    replace H : (some (wrap64 (x5_2), y223)) = some (r1, r2) := by first | (rw [hy223]; with_reducible exact H) | (have H2_ := (Option.bind_some _ _).symm.trans H; rw [hy223]; with_reducible exact H2_) | (have H2_ := (Option.bind_some _ _).symm.trans H; with_reducible exact H2_) | with_reducible exact H | (rw [hy223]; exact H) | exact H
                    have Ny223 := Aside0.mk hy223
                    clear hy223
                    simp only [Option.some.injEq, Prod.mk.injEq] at H
                    obtain ⟨rfl, rfl⟩ := H
                    obtain ⟨Ao20, co20, eo20⟩ := Kd.V_slice HO_3.out
                    subst eo20
                    have q19 : (8 : Int) ≤ ((t218.length : Int) : Int) := of_decide_eq_true (by first | (with_reducible assumption) | assumption)
                    obtain ⟨i019, hi019, _, hsz19, _⟩ := info_parts info5
                    have hroom19 : t218.length ≤ co20 := (Kd.V_reads' HO_3.out).2.1
                    have hC19 : Kd.F (Kd.int .u8) _ _ Ao20 t218.length t218 := (Kd.V_at (base := w.heap.size) HO_3.out).2.2
                    have hcut19 := cut_from (P := Try.prog) 22 5 .i64 Try.underlying22 hi019 1 hsz19 Ao20 t218.length co20 8 (by omega) q19
                    have hr19 := Kd.F_cut (m := (8 : Int).toNat) (c := co20) hC19 (by omega) hroom19
                    obtain ⟨A19, hA19⟩ : ∃ A1, A1 = (if co20 = (8 : Int).toNat then Ao20 else (Ao20 : Option Addr).map (·.add ((8 : Int).toNat * 1))) := ⟨_, rfl⟩
                    obtain ⟨c19, hc19⟩ : ∃ c1, c1 = co20 - (8 : Int).toNat := ⟨_, rfl⟩
                    have hy19 : y223.length = t218.length - (8 : Int).toNat := (by rw [Ny223.out, List.length_drop] <;> omega)
                    rw [show (t218).drop (8 : Int).toNat = y223 from Ny223.out.symm] at hr19
                    replace hr19 : Kd.F (Kd.int .u8) _ _ A19 y223.length y223 := (by rw [hA19]; exact hr19)
                    rw [← hy19, ← hA19, ← hc19] at hcut19
                    have HO227 := Aside0.mk (show Kd.V (Kd.int .u8) 5 _ w.heap.size _ (.slice A19 y223.length c19) y223 from Kd.V_mk (by rw [hy19, hc19]; exact Nat.sub_le_sub_right hroom19 _) hr19)
                    have HC227 := Aside0.mk (show y223.length ≤ c19 from by rw [hy19, hc19]; exact Nat.sub_le_sub_right hroom19 _)
                    clear hr19 hC19 hroom19 hi019 hsz19 hc19
                    have KY19 := Aside0.mk hy19
                    have KA19 := Aside0.mk hA19
                    clear hy19 hA19
                    replace q19 := eq_true q19
                    have hcz21_0 : wr.cell? ⟨gb217, 0, none⟩ = some (.int .i64 0) := (blk_cell BK217.out 0).trans rfl
                    have hcz21_1 : wr.cell? ⟨gb217, 1, none⟩ = some (.slice none 0 0) := (blk_cell BK217.out 1).trans rfl
                    have hfz21_0 := blk_frozen BK217.out 0
                    have hfz21_1 := blk_frozen BK217.out 1
                    go_wp2
                    refine bodyPost_ret (results_cell_row rfl _ _ gb217 98 #[.int .i64 (wrap64 (x5_2)), .slice A19 y223.length c19] (0, 0) _ rfl (by (with_reducible repeat (first | refine blk_drewN ?_ _ | refine blk_drew ?_ | refine blk_alloc ?_ _)); refine blk_put (cs := #[.int .i64 (wrap64 (x5_2)), .slice none 0 0]) ?_ 1 _ rfl; (with_reducible repeat (first | refine blk_drewN ?_ _ | refine blk_drew ?_ | refine blk_alloc ?_ _)); refine blk_put (cs := #[.int .i64 0, .slice none 0 0]) ?_ 0 _ rfl; (with_reducible repeat (first | refine blk_drewN ?_ _ | refine blk_drew ?_ | refine blk_alloc ?_ _)); exact BK217.out) Try.underlying98 rfl (by kernel_rfl)) rfl ?_
                    exact ⟨_, by first | rfl | (simp [errW_none, errW_some] <;> rfl) | (simp [*, errW_none, errW_some] <;> rfl), by (with_reducible repeat (first | apply Kd.V_alloc | apply Kd.V_drewN | apply Kd.V_drew)); exact Kd.V_mono (Kd.V_far (p := ⟨gb217, 1, none⟩) (Kd.V_far (p := ⟨gb217, 0, none⟩) (Kd.V_mono HO227.out (fun k_ hk => (⟨hk, hk.2⟩ : _ ∧ k_ ≠ gb217))) (fun _ hk => hk.2) (.int .i64 (wrap64 (x5_2)))) (fun _ hk => hk.2) (.slice A19 y223.length c19)) (fun _ hk => hk.1.1), by repeat (first | (with_reducible first | exact HB.out | apply below_alloc | apply pw_below_drewN | apply below_drew1 | refine below_set ?_ GE217.out) | exact HB.out)⟩
                  · rw [if_neg c18] at H
                    exact absurd H (by simp)

-- NOT PRINTED: function 51 (seal_pair)

-- seal_Newest: told by hand

end Go.Proofs.Ytdimpgfegdnhaaa.P
