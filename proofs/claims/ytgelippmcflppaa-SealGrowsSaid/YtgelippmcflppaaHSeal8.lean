/- The law SealGrows answers true. -/
import Derived.Test.YtgelippmcflppaaHGrow
import Derived.Test.YtgelippmcflppaaHRdv
open Go Go.RowKit Go.Proofs.YtgelippmcflppaaW.PrintWords Go.Proofs.YtgelippmcflppaaW.PrintMore
namespace Go.Proofs
open Go.Vel
set_option linter.unusedVariables false
set_option maxRecDepth 100000
set_option maxHeartbeats 4000000
attribute [local irreducible] gives wpList Code.wp

theorem cutOf_is {w : World} {n : Int} : Calls Try.prog 21 #[.int .i64 n] w fun e w' => e = .returned (.int .i64 ((cutF n : Nat) : Int)) ∧ w = w' := by
  have h12 := tmod_bd n
  refine wp_enter (fr [iv n] 9) Try.func21 rfl (by kernel_rfl) ?_
  refine wp_seq ?_
  refine wp_region_lit ?_
  refine pv (iv 0) ?_
  refine wl_end _ rfl ?_
  refine then_n ?_
  refine wp_seq ?_
  refine wp_region_lit ?_
  refine pv (iv n) ?_
  refine wl_gv rfl (gv_int (k := .i64) (z := Int.tmod n 513) (z' := Int.tmod n 513) (by kernel_rfl) rfl ?_)
  refine pv (iv (Int.tmod n 513)) ?_
  refine wl_end _ rfl ?_
  refine then_n ?_
  refine wp_seq ?_
  refine wp_seq ?_
  refine wp_region_lit ?_
  refine pv (iv (Int.tmod n 513)) ?_
  refine wl_gv rfl (gv_dec (p := (Int.tmod n 513 : Int) < 0) (by kernel_rfl) (fun hb1 => ?_) (fun hb1 => ?_))
  · skip
    refine wl_end _ rfl ?_
    refine then_n ?_
    refine wp_cond_true (by kernel_rfl) ?_
    refine wp_region_lit ?_
    refine pv (iv (Int.tmod n 513)) ?_
    refine wl_gv rfl (gv_int (k := .i64) (z := IntKind.i64.wrap ((Int.tmod n 513) + 513)) (z' := (Int.tmod n 513) + 513) (by kernel_rfl) (wr_ok (by omega) (by omega)) ?_)
    refine pv (iv ((Int.tmod n 513) + 513)) ?_
    refine wl_end _ rfl ?_
    refine then_n ?_
    refine wp_seq ?_
    refine wp_region_lit ?_
    refine pv (iv ((Int.tmod n 513) + 513)) ?_
    refine pv (iv ((Int.tmod n 513) + 513)) ?_
    refine wl_end _ rfl ?_
    refine then_n ?_
    refine wp_ret ?_
    refine bodyPost_ret (v := .int .i64 ((Int.tmod n 513) + 513)) (results_t1 rfl (by kernel_rfl)) rfl ?_
    have e : ((cutF n : Nat) : Int) = (Int.tmod n 513) + 513 := by unfold cutF; split <;> omega
    rw [e]; exact ⟨rfl, rfl⟩
  · skip
    refine wl_end _ rfl ?_
    refine then_n ?_
    refine wp_cond_false (by kernel_rfl) ?_
    refine wp_skip ?_
    refine then_n ?_
    refine wp_seq ?_
    refine wp_region_lit ?_
    refine pv (iv (Int.tmod n 513)) ?_
    refine pv (iv (Int.tmod n 513)) ?_
    refine wl_end _ rfl ?_
    refine then_n ?_
    refine wp_ret ?_
    refine bodyPost_ret (v := .int .i64 (Int.tmod n 513)) (results_t1 rfl (by kernel_rfl)) rfl ?_
    have e : ((cutF n : Nat) : Int) = Int.tmod n 513 := by unfold cutF; split <;> omega
    rw [e]; exact ⟨rfl, rfl⟩
/-- A step of the law as it lies in memory. -/
structure StepD where
  no : Int
  cut : Int
  A : Option Addr
  d : List UInt8
  cd : Nat
  torn : Bool
  back : Bool
def StepD.cells (o : StepD) : List Value := [.int .i64 o.no, .int .i64 o.cut, .slice o.A o.d.length o.cd, .bool o.torn, .bool o.back]
def stepsV (l : List StepD) : List Value := l.flatMap StepD.cells
theorem length_stepsV (l : List StepD) : (stepsV l).length = l.length * 5 := by
  induction l with
  | nil => rfl
  | cons p r ih => simp [stepsV, StepD.cells] at ih ⊢; omega
theorem stepsV_at : ∀ (l : List StepD) (i : Nat) (p : StepD), l[i]? = some p → ∀ j u, p.cells[j]? = some u → (stepsV l)[i * 5 + j]? = some u
  | [], i, p, h, _, _, _ => by simp at h
  | q :: r, 0, p, h, j, u, hu => by
    simp at h; subst h
    have := (List.getElem?_eq_some_iff.1 hu).1
    show ((q.cells ++ stepsV r))[0 * 5 + j]? = some u
    rw [List.getElem?_append_left (by omega)]; simpa using hu
  | q :: r, i + 1, p, h, j, u, hu => by
    have ih := stepsV_at r i p (by simpa using h) j u hu
    show ((q.cells ++ stepsV r))[(i + 1) * 5 + j]? = some u
    rw [List.getElem?_append_right (by simp [StepD.cells]; omega)]
    simpa [StepD.cells, show (i + 1) * 5 + j - 5 = i * 5 + j from by omega] using ih
structure StepD.Ok (w : World) (o : StepD) : Prop where
  d : RdB w o.A o.d
  dm : o.d.length ≤ 140737488351232
  no : o.no ≤ 9223372036854775807
theorem step_cell {w : World} {A : Option Addr} {l : List StepD} {ad : Addr} {i j : Nat} {p : StepD} {u : Value} (h : RdV w A (stepsV l)) (hA : A = some ad) (hp : l[i]? = some p) (hu : p.cells[j]? = some u) : w.cell? ((ad.add (i * 5)).add j) = some u := by
  have hat := stepsV_at l i p hp j u hu
  obtain ⟨ad', e, hc⟩ := h (by have := (List.getElem?_eq_some_iff.1 hat).1; omega)
  rw [hA] at e
  cases e
  rw [addr_add_add]
  exact hc _ _ hat
theorem grow_next {a b a' b' : List UInt8} {lst : Nat} (h1 : lst ≤ (newestF a b).2.1) (h2 : 0 < lst → (newestF a b).2.2.2 = 0) (h : newestF a' b' = newestF a b ∨ ((newestF a' b').2.2.2 = 0 ∧ ((newestF a b).2.2.2 = 0 → (newestF a b).2.1 < (newestF a' b').2.1))) : lst ≤ (newestF a' b').2.1 ∧ (0 < lst → (newestF a' b').2.2.2 = 0) := by
  rcases h with h | ⟨h3, h4⟩
  · rw [h]; exact ⟨h1, h2⟩
  · refine ⟨?_, fun _ => h3⟩
    by_cases h0 : 0 < lst
    · have := h4 (h2 h0); omega
    · omega
theorem grow_pos {a b : List UInt8} (h : 0 < (newestF a b).2.1) : (newestF a b).2.2.2 = 0 := by
  refine Classical.byContradiction fun h0 => ?_
  have := newest_zero h0
  omega
theorem sealGrows_all (w : World) {A : Option Addr} {c : Nat} {steps : List StepD} (hs : RdV w A (stepsV steps)) (hsm : steps.length ≤ 9007199254740992) (hok : ∀ o ∈ steps, o.Ok w) : Calls Try.prog 6 #[.slice A steps.length c] w fun e w' => e = .returned (.bool true) ∧ Below w.heap.size w w' := by
  obtain ⟨z, hz⟩ : ∃ z, z = sec3 [] := ⟨_, rfl⟩
  have f4 : z.length = 512 := by rw [hz]; exact sec3_len []
  have S0 : St none' w w [] := St.init none' w
  refine wp_enter (fr [.slice A steps.length c] 88) Try.func6 rfl (by kernel_rfl) ?_
  refine wp_seq ?_
  refine wp_region_lit ?_
  refine pv fv ?_
  refine wl_end _ rfl ?_
  refine then_n ?_
  refine wp_seq ?_
  refine wp_region_lit ?_
  refine wl_gv rfl (gv_call (args := #[.slice none 0 0]) rfl Try.func18 (by kernel_rfl) rfl rfl (by kernel_rfl) ?_)
  refine Calls.mono (se3 (l := []) (A := none) (ca := 0) S0 RoT.nil (Nat.zero_le _)) ?_
  rintro _ w1 ⟨Al, cl, e3, S2⟩
  rw [← hz] at S2
  rw [← f4] at e3
  subst e3
  have S2x := St.vec_X (n := z.length) rfl (by rw [← f4] at S2; exact S2)
  refine ⟨_, rfl, ?_⟩
  refine pv (.slice Al z.length cl) ?_
  refine wl_end _ rfl ?_
  refine then_n ?_
  refine wp_seq ?_
  refine wp_region_lit ?_
  refine wl_gv rfl (gv_call (args := #[.slice none 0 0]) rfl Try.func18 (by kernel_rfl) rfl rfl (by kernel_rfl) ?_)
  refine Calls.mono (se3 (l := []) (A := none) (ca := 0) S2x RoT.nil (Nat.zero_le _)) ?_
  rintro _ w4 ⟨Ar, cr, e6, S5⟩
  rw [← hz] at S5
  rw [← f4] at e6
  subst e6
  have S5x := St.vec_X (n := z.length) rfl (by rw [← f4] at S5; exact S5)
  refine ⟨_, rfl, ?_⟩
  refine pv (.slice Ar z.length cr) ?_
  refine wl_end _ rfl ?_
  refine then_n ?_
  refine wp_seq ?_
  refine wp_seq ?_
  refine wp_region_lit ?_
  refine wl_gv rfl (gv_call (args := #[]) rfl Try.func19 (by kernel_rfl) rfl rfl (by kernel_rfl) ?_)
  refine Calls.mono (first_all S5x) ?_
  rintro _ w7 ⟨rfl, S8⟩
  refine ⟨_, rfl, ?_⟩
  refine pv fv ?_
  refine wl_end _ rfl ?_
  refine then_n ?_
  refine wp_cond_false (by kernel_rfl) ?_
  refine wp_skip ?_
  refine then_n ?_
  refine wp_seq ?_
  refine wp_region_lit ?_
  refine pv (iv 0) ?_
  refine wl_end _ rfl ?_
  refine then_n ?_
  refine wp_seq ?_
  refine wp_seq ?_
  refine wp_region_lit ?_
  refine pv (iv 0) ?_
  refine wl_end _ rfl ?_
  refine then_n ?_
  refine wp_block ?_
  have S9 : St none' w w7 [bytesX (.slice Al z.length cl) z, bytesX (.slice Ar z.length cr) z] := St.permT [bytesX (.slice Ar z.length cr) z, bytesX (.slice Al z.length cl) z] [1, 0] (by decide) rfl S8
  refine wp_loop_g (G := Nat × List UInt8 × List UInt8 × Option Addr × Nat × Option Addr × Nat × Nat) (fun (g_ : Nat × List UInt8 × List UInt8 × Option Addr × Nat × Option Addr × Nat × Nat) (a_ : Act) (w_ : World) => ∃ J : Nat → Value, a_ = (fr [.slice A steps.length c, ud, J 2, .slice g_.2.2.2.1 g_.2.1.length g_.2.2.2.2.1, .slice g_.2.2.2.2.2.1 g_.2.2.1.length g_.2.2.2.2.2.2.1, iv ((g_.2.2.2.2.2.2.2 : Nat) : Int), iv ((g_.1 : Nat) : Int), J 7, J 8, J 9, J 10, J 11, .slice Al z.length cl, .slice Ar z.length cr, tv, fv, J 16, J 17, J 18, J 19, J 20, J 21, J 22, J 23, J 24, J 25, J 26, J 27, J 28, J 29, J 30, J 31, J 32, J 33, J 34, J 35, J 36, J 37, J 38, J 39, J 40, J 41, J 42, J 43, J 44, J 45, J 46, J 47, J 48, J 49, J 50, J 51, J 52, J 53, J 54, J 55, J 56, J 57, J 58, J 59, J 60, J 61, J 62, J 63, J 64, J 65, J 66, J 67, J 68, J 69, J 70, J 71, J 72, J 73, J 74, J 75, J 76, J 77, J 78, J 79, J 80, J 81, J 82, J 83, J 84, J 85, J 86, J 87, J 88] 0) ∧ St none' w w_ [bytesX (.slice g_.2.2.2.1 g_.2.1.length g_.2.2.2.2.1) g_.2.1, bytesX (.slice g_.2.2.2.2.2.1 g_.2.2.1.length g_.2.2.2.2.2.2.1) g_.2.2.1] ∧ (g_.1 ≤ steps.length ∧ g_.2.1.length = 512 ∧ g_.2.2.1.length = 512 ∧ g_.2.2.2.2.2.2.2 ≤ (newestF g_.2.1 g_.2.2.1).2.1 ∧ (0 < g_.2.2.2.2.2.2.2 → (newestF g_.2.1 g_.2.2.1).2.2.2 = 0))) (fun g_ => steps.length - g_.1) (0, z, z, Al, cl, Ar, cr, 0) ⟨(jl [ud, ud, fv]), by kernel_rfl, S9, ⟨Nat.zero_le _, f4, f4, Nat.zero_le _, fun h => absurd h (Nat.lt_irrefl 0)⟩⟩ ?_
  rintro ⟨i, a, b, A1, c1, A2, c2, lst⟩ a_ w10 ⟨J, rfl, S11, hI12⟩
  skip
  have S11 : St none' w w10 [bytesX (.slice A1 a.length c1) a, bytesX (.slice A2 b.length c2) b] := S11
  have hI12 : (i ≤ steps.length ∧ a.length = 512 ∧ b.length = 512 ∧ lst ≤ (newestF a b).2.1 ∧ (0 < lst → (newestF a b).2.2.2 = 0)) := hI12
  refine wp_seq ?_
  refine wp_seq ?_
  refine wp_region_lit ?_
  refine pv (iv ((i : Nat) : Int)) ?_
  refine pv (.slice A steps.length c) ?_
  refine pv (iv (steps.length : Nat)) ?_
  refine wl_gv rfl (gv_dec (p := (((i : Nat) : Int) : Int) < (steps.length : Nat)) (by kernel_rfl) (fun hb13 => ?_) (fun hb13 => ?_))
  · skip
    obtain ⟨hiI, ha5, hb5, hl1, hl2⟩ := hI12
    have hi : i < steps.length := by omega
    obtain ⟨o, ho⟩ : ∃ o, steps[i]? = some o := ⟨_, List.getElem?_eq_getElem hi⟩
    have hk := hok o (List.mem_of_getElem? ho)
    obtain ⟨ad, had, _⟩ := hs (by rw [length_stepsV]; omega)
    have hdt : (o.d.take (496 : Int).toNat).length ≤ 496 := by rw [List.length_take]; exact Nat.min_le_left _ _
    have hdm := hk.dm
    have hno := hk.no
    refine wl_end _ rfl ?_
    refine then_n ?_
    refine wp_cond_true (by kernel_rfl) ?_
    refine wp_skip ?_
    refine then_n ?_
    refine wp_seq ?_
    refine wp_block ?_
    refine wp_seq ?_
    refine wp_region_phu (γ := Option Addr × Nat × RG) 33 [12, 24] (fun (c_ : Option Addr × Nat × RG) (i_ : Nat) => (match i_ with | 0 => .slice A1 a.length c1 | 1 => .slice A2 b.length c2 | 2 => .slice A steps.length c | 3 => .int .i64 ((i : Nat) : Int) | 4 => .pointer (some (ad.add (i * 5))) | 5 => .pointer (some (ad.add (i * 5))) | 6 => .int .i64 o.no | 7 => .slice A steps.length c | 8 => .int .i64 ((i : Nat) : Int) | 9 => .pointer (some (ad.add (i * 5))) | 10 => .pointer (some ((ad.add (i * 5)).add 2)) | 11 => .slice o.A o.d.length o.cd | 12 => .slice c_.1 ((o.d.take (496 : Int).toNat).length) c_.2.1 | 13 => .slice A steps.length c | 14 => .int .i64 ((i : Nat) : Int) | 15 => .pointer (some (ad.add (i * 5))) | 16 => .pointer (some ((ad.add (i * 5)).add 1)) | 17 => .int .i64 o.cut | 18 => .int .i64 ((cutF o.cut : Nat) : Int) | 19 => .slice A steps.length c | 20 => .int .i64 ((i : Nat) : Int) | 21 => .pointer (some (ad.add (i * 5))) | 22 => .pointer (some ((ad.add (i * 5)).add 4)) | 23 => .bool o.back | 24 => .tuple #[.bool true, .int .i64 (RG.slot c_.2.2), .slice (RG.A1 c_.2.2) ((RG.s c_.2.2).length) (RG.c1 c_.2.2), .slice (RG.A2 c_.2.2) ((RG.m c_.2.2).length) (RG.c2 c_.2.2)] | 25 => .tuple #[.bool true, .int .i64 (RG.slot c_.2.2), .slice (RG.A1 c_.2.2) ((RG.s c_.2.2).length) (RG.c1 c_.2.2), .slice (RG.A2 c_.2.2) ((RG.m c_.2.2).length) (RG.c2 c_.2.2)] | 26 => .bool true | 27 => .int .i64 (RG.slot c_.2.2) | 28 => .slice (RG.A1 c_.2.2) ((RG.s c_.2.2).length) (RG.c1 c_.2.2) | 29 => .slice (RG.A2 c_.2.2) ((RG.m c_.2.2).length) (RG.c2 c_.2.2) | 30 => .bool true | 31 => .int .i64 (RG.slot c_.2.2) | 32 => .slice (RG.A1 c_.2.2) ((RG.s c_.2.2).length) (RG.c1 c_.2.2) | _ => undef : Value)) (fun (c_ : Option Addr × Nat × RG) (p_ : Nat) (w_ : World) => (match p_ with | 0 => St none' w w_ [bytesX (.slice A1 a.length c1) a, bytesX (.slice A2 b.length c2) b] | 1 => St none' w w_ [vec 5 1 (.slice c_.1 ((o.d.take (496 : Int).toNat).length) c_.2.1) ((o.d.take (496 : Int).toNat).length) ((o.d.take (496 : Int).toNat).map bv), bytesX (.slice A1 a.length c1) a, bytesX (.slice A2 b.length c2) b] | _ => St none' w w_ [pureA (RG.Told c_.2.2 a b), bytesX (.slice (RG.A1 c_.2.2) (RG.s c_.2.2).length (RG.c1 c_.2.2)) (RG.s c_.2.2), bytesX (.slice (RG.A2 c_.2.2) (RG.m c_.2.2).length (RG.c2 c_.2.2)) (RG.m c_.2.2), vec 5 1 (.slice c_.1 ((o.d.take (496 : Int).toNat).length) c_.2.1) ((o.d.take (496 : Int).toNat).length) ((o.d.take (496 : Int).toNat).map bv), bytesX (.slice A1 a.length c1) a, bytesX (.slice A2 b.length c2) b] : Prop)) (none, 0, RG.zero) (by kernel_rfl) (by kernel_rfl) (by kernel_rfl) (by kernel_rfl) (S11.drew) ?_ ?_ ?_
    · intro i_ c_ p_ vals_ w1 hi_ hiE_ hp_ hk_ hu_ hPh_ hd_
      rcases i_ with _ | _ | _ | _ | _ | _ | _ | _ | _ | _ | _ | _ | _ | _ | _ | _ | _ | _ | _ | _ | _ | _ | _ | _ | _ | _ | _ | _ | _ | _ | _ | _ | _ | i_
      · skip
        refine told_free rfl rfl (gv_env ((⟨Array.replicate 89 undef, []⟩ : Act).put (some 3) (.slice A1 a.length c1)) (by kernel_rfl) (xs := [.tmp 3]) (by kernel_rfl) (alike_cons (fill_past (by kernel_rfl) (by kernel_rfl)) alike_nil) (gv_val (v := .slice A1 a.length c1) (w' := w1) (by kernel_rfl) ?_))
        exact ⟨rfl, rfl⟩
      · skip
        refine told_free rfl rfl (gv_env ((⟨Array.replicate 89 undef, []⟩ : Act).put (some 4) (.slice A2 b.length c2)) (by kernel_rfl) (xs := [.tmp 4]) (by kernel_rfl) (alike_cons (fill_past (by kernel_rfl) (by kernel_rfl)) alike_nil) (gv_val (v := .slice A2 b.length c2) (w' := w1) (by kernel_rfl) ?_))
        exact ⟨rfl, rfl⟩
      · skip
        refine told_free rfl rfl (gv_env ((⟨Array.replicate 89 undef, []⟩ : Act).put (some 0) (.slice A steps.length c)) (by kernel_rfl) (xs := [.tmp 0]) (by kernel_rfl) (alike_cons (fill_past (by kernel_rfl) (by kernel_rfl)) alike_nil) (gv_val (v := .slice A steps.length c) (w' := w1) (by kernel_rfl) ?_))
        exact ⟨rfl, rfl⟩
      · skip
        refine told_free rfl rfl (gv_env ((⟨Array.replicate 89 undef, []⟩ : Act).put (some 6) (.int .i64 ((i : Nat) : Int))) (by kernel_rfl) (xs := [.tmp 6]) (by kernel_rfl) (alike_cons (fill_past (by kernel_rfl) (by kernel_rfl)) alike_nil) (gv_val (v := .int .i64 ((i : Nat) : Int)) (w' := w1) (by kernel_rfl) ?_))
        exact ⟨rfl, rfl⟩
      · skip
        refine told_free rfl rfl (gv_env (((⟨Array.replicate 89 undef, []⟩ : Act).put (some 25) (.slice A steps.length c)).put (some 26) (.int .i64 ((i : Nat) : Int))) (by kernel_rfl) (xs := [.tmp 25, .tmp 26]) (by kernel_rfl) (alike_cons (fill_at (k := 2) (by kernel_rfl) (by kernel_rfl) ((hd_ 2 (by kernel_rfl)).trans (by kernel_rfl))) (alike_cons (fill_at (k := 3) (by kernel_rfl) (by kernel_rfl) ((hd_ 3 (by kernel_rfl)).trans (by kernel_rfl))) alike_nil)) (gv_ixB (e := 49) (sz := 5) (n := steps.length) (c := c) (i := ((i : Nat) : Int)) (k := .i64) (ad := ad) (ad' := (ad.add (i * 5))) (j := i) rfl (by kernel_rfl) (by kernel_rfl) (by rw [← had]; kernel_rfl) (by kernel_rfl) rfl (by omega) rfl ?_))
        exact ⟨rfl, rfl⟩
      · skip
        refine told_free rfl rfl (gv_env ((⟨Array.replicate 89 undef, []⟩ : Act).put (some 27) (.pointer (some (ad.add (i * 5))))) (by kernel_rfl) (xs := [.tmp 27]) (by kernel_rfl) (alike_cons (fill_at (k := 4) (by kernel_rfl) (by kernel_rfl) ((hd_ 4 (by kernel_rfl)).trans (by kernel_rfl))) alike_nil) (gv_val (v := .pointer (some (ad.add (i * 5)))) (w' := w1) (by kernel_rfl) ?_))
        exact ⟨rfl, rfl⟩
      · skip
        rcases p_ with _ | _ | _ | p_
        · skip
          have S20 : St none' w w1 [bytesX (.slice A1 a.length c1) a, bytesX (.slice A2 b.length c2) b] := hPh_
          refine told_free rfl rfl (gv_env ((⟨Array.replicate 89 undef, []⟩ : Act).put (some 28) (.pointer (some (ad.add (i * 5))))) (by kernel_rfl) (xs := [.tmp 28]) (by kernel_rfl) (alike_cons (fill_at (k := 5) (by kernel_rfl) (by kernel_rfl) ((hd_ 5 (by kernel_rfl)).trans (by kernel_rfl))) alike_nil) (gv_ldR (v := .int .i64 o.no) rfl (by kernel_rfl) (by kernel_rfl) (step_cell (hs.fr S20.fr (fun _ h => h)) had ho (j := 0) rfl) ?_))
          exact ⟨rfl, rfl⟩
        · skip
          have S21 : St none' w w1 [vec 5 1 (.slice c_.1 ((o.d.take (496 : Int).toNat).length) c_.2.1) ((o.d.take (496 : Int).toNat).length) ((o.d.take (496 : Int).toNat).map bv), bytesX (.slice A1 a.length c1) a, bytesX (.slice A2 b.length c2) b] := hPh_
          refine told_free rfl rfl (gv_env ((⟨Array.replicate 89 undef, []⟩ : Act).put (some 28) (.pointer (some (ad.add (i * 5))))) (by kernel_rfl) (xs := [.tmp 28]) (by kernel_rfl) (alike_cons (fill_at (k := 5) (by kernel_rfl) (by kernel_rfl) ((hd_ 5 (by kernel_rfl)).trans (by kernel_rfl))) alike_nil) (gv_ldR (v := .int .i64 o.no) rfl (by kernel_rfl) (by kernel_rfl) (step_cell (hs.fr S21.fr (fun _ h => h)) had ho (j := 0) rfl) ?_))
          exact ⟨rfl, rfl⟩
        · skip
          exact absurd (hu_ 1 (by decide) (by kernel_rfl)) (by decide)
        · exact absurd hp_ (by simp)
      · skip
        refine told_free rfl rfl (gv_env ((⟨Array.replicate 89 undef, []⟩ : Act).put (some 0) (.slice A steps.length c)) (by kernel_rfl) (xs := [.tmp 0]) (by kernel_rfl) (alike_cons (fill_past (by kernel_rfl) (by kernel_rfl)) alike_nil) (gv_val (v := .slice A steps.length c) (w' := w1) (by kernel_rfl) ?_))
        exact ⟨rfl, rfl⟩
      · skip
        refine told_free rfl rfl (gv_env ((⟨Array.replicate 89 undef, []⟩ : Act).put (some 6) (.int .i64 ((i : Nat) : Int))) (by kernel_rfl) (xs := [.tmp 6]) (by kernel_rfl) (alike_cons (fill_past (by kernel_rfl) (by kernel_rfl)) alike_nil) (gv_val (v := .int .i64 ((i : Nat) : Int)) (w' := w1) (by kernel_rfl) ?_))
        exact ⟨rfl, rfl⟩
      · skip
        refine told_free rfl rfl (gv_env (((⟨Array.replicate 89 undef, []⟩ : Act).put (some 30) (.slice A steps.length c)).put (some 31) (.int .i64 ((i : Nat) : Int))) (by kernel_rfl) (xs := [.tmp 30, .tmp 31]) (by kernel_rfl) (alike_cons (fill_at (k := 7) (by kernel_rfl) (by kernel_rfl) ((hd_ 7 (by kernel_rfl)).trans (by kernel_rfl))) (alike_cons (fill_at (k := 8) (by kernel_rfl) (by kernel_rfl) ((hd_ 8 (by kernel_rfl)).trans (by kernel_rfl))) alike_nil)) (gv_ixB (e := 49) (sz := 5) (n := steps.length) (c := c) (i := ((i : Nat) : Int)) (k := .i64) (ad := ad) (ad' := (ad.add (i * 5))) (j := i) rfl (by kernel_rfl) (by kernel_rfl) (by rw [← had]; kernel_rfl) (by kernel_rfl) rfl (by omega) rfl ?_))
        exact ⟨rfl, rfl⟩
      · skip
        refine told_free rfl rfl (gv_env ((⟨Array.replicate 89 undef, []⟩ : Act).put (some 32) (.pointer (some (ad.add (i * 5))))) (by kernel_rfl) (xs := [.tmp 32]) (by kernel_rfl) (alike_cons (fill_at (k := 9) (by kernel_rfl) (by kernel_rfl) ((hd_ 9 (by kernel_rfl)).trans (by kernel_rfl))) alike_nil) (gv_val (v := .pointer (some ((ad.add (i * 5)).add 2))) (w' := w1) (by kernel_rfl) ?_))
        exact ⟨rfl, rfl⟩
      · skip
        rcases p_ with _ | _ | _ | p_
        · skip
          have S26 : St none' w w1 [bytesX (.slice A1 a.length c1) a, bytesX (.slice A2 b.length c2) b] := hPh_
          refine told_free rfl rfl (gv_env ((⟨Array.replicate 89 undef, []⟩ : Act).put (some 33) (.pointer (some ((ad.add (i * 5)).add 2)))) (by kernel_rfl) (xs := [.tmp 33]) (by kernel_rfl) (alike_cons (fill_at (k := 10) (by kernel_rfl) (by kernel_rfl) ((hd_ 10 (by kernel_rfl)).trans (by kernel_rfl))) alike_nil) (gv_ldR (v := .slice o.A o.d.length o.cd) rfl (by kernel_rfl) (by kernel_rfl) (step_cell (hs.fr S26.fr (fun _ h => h)) had ho (j := 2) rfl) ?_))
          exact ⟨rfl, rfl⟩
        · skip
          exact absurd (hu_ 0 (by decide) (by kernel_rfl)) (by decide)
        · skip
          exact absurd (hu_ 0 (by decide) (by kernel_rfl)) (by decide)
        · exact absurd hp_ (by simp)
      · skip
        exact absurd hiE_ (by decide)
      · skip
        refine told_free rfl rfl (gv_env ((⟨Array.replicate 89 undef, []⟩ : Act).put (some 0) (.slice A steps.length c)) (by kernel_rfl) (xs := [.tmp 0]) (by kernel_rfl) (alike_cons (fill_past (by kernel_rfl) (by kernel_rfl)) alike_nil) (gv_val (v := .slice A steps.length c) (w' := w1) (by kernel_rfl) ?_))
        exact ⟨rfl, rfl⟩
      · skip
        refine told_free rfl rfl (gv_env ((⟨Array.replicate 89 undef, []⟩ : Act).put (some 6) (.int .i64 ((i : Nat) : Int))) (by kernel_rfl) (xs := [.tmp 6]) (by kernel_rfl) (alike_cons (fill_past (by kernel_rfl) (by kernel_rfl)) alike_nil) (gv_val (v := .int .i64 ((i : Nat) : Int)) (w' := w1) (by kernel_rfl) ?_))
        exact ⟨rfl, rfl⟩
      · skip
        refine told_free rfl rfl (gv_env (((⟨Array.replicate 89 undef, []⟩ : Act).put (some 36) (.slice A steps.length c)).put (some 37) (.int .i64 ((i : Nat) : Int))) (by kernel_rfl) (xs := [.tmp 36, .tmp 37]) (by kernel_rfl) (alike_cons (fill_at (k := 13) (by kernel_rfl) (by kernel_rfl) ((hd_ 13 (by kernel_rfl)).trans (by kernel_rfl))) (alike_cons (fill_at (k := 14) (by kernel_rfl) (by kernel_rfl) ((hd_ 14 (by kernel_rfl)).trans (by kernel_rfl))) alike_nil)) (gv_ixB (e := 49) (sz := 5) (n := steps.length) (c := c) (i := ((i : Nat) : Int)) (k := .i64) (ad := ad) (ad' := (ad.add (i * 5))) (j := i) rfl (by kernel_rfl) (by kernel_rfl) (by rw [← had]; kernel_rfl) (by kernel_rfl) rfl (by omega) rfl ?_))
        exact ⟨rfl, rfl⟩
      · skip
        refine told_free rfl rfl (gv_env ((⟨Array.replicate 89 undef, []⟩ : Act).put (some 38) (.pointer (some (ad.add (i * 5))))) (by kernel_rfl) (xs := [.tmp 38]) (by kernel_rfl) (alike_cons (fill_at (k := 15) (by kernel_rfl) (by kernel_rfl) ((hd_ 15 (by kernel_rfl)).trans (by kernel_rfl))) alike_nil) (gv_val (v := .pointer (some ((ad.add (i * 5)).add 1))) (w' := w1) (by kernel_rfl) ?_))
        exact ⟨rfl, rfl⟩
      · skip
        rcases p_ with _ | _ | _ | p_
        · skip
          have S31 : St none' w w1 [bytesX (.slice A1 a.length c1) a, bytesX (.slice A2 b.length c2) b] := hPh_
          refine told_free rfl rfl (gv_env ((⟨Array.replicate 89 undef, []⟩ : Act).put (some 39) (.pointer (some ((ad.add (i * 5)).add 1)))) (by kernel_rfl) (xs := [.tmp 39]) (by kernel_rfl) (alike_cons (fill_at (k := 16) (by kernel_rfl) (by kernel_rfl) ((hd_ 16 (by kernel_rfl)).trans (by kernel_rfl))) alike_nil) (gv_ldR (v := .int .i64 o.cut) rfl (by kernel_rfl) (by kernel_rfl) (step_cell (hs.fr S31.fr (fun _ h => h)) had ho (j := 1) rfl) ?_))
          exact ⟨rfl, rfl⟩
        · skip
          have S32 : St none' w w1 [vec 5 1 (.slice c_.1 ((o.d.take (496 : Int).toNat).length) c_.2.1) ((o.d.take (496 : Int).toNat).length) ((o.d.take (496 : Int).toNat).map bv), bytesX (.slice A1 a.length c1) a, bytesX (.slice A2 b.length c2) b] := hPh_
          refine told_free rfl rfl (gv_env ((⟨Array.replicate 89 undef, []⟩ : Act).put (some 39) (.pointer (some ((ad.add (i * 5)).add 1)))) (by kernel_rfl) (xs := [.tmp 39]) (by kernel_rfl) (alike_cons (fill_at (k := 16) (by kernel_rfl) (by kernel_rfl) ((hd_ 16 (by kernel_rfl)).trans (by kernel_rfl))) alike_nil) (gv_ldR (v := .int .i64 o.cut) rfl (by kernel_rfl) (by kernel_rfl) (step_cell (hs.fr S32.fr (fun _ h => h)) had ho (j := 1) rfl) ?_))
          exact ⟨rfl, rfl⟩
        · skip
          exact absurd (hu_ 1 (by decide) (by kernel_rfl)) (by decide)
        · exact absurd hp_ (by simp)
      · skip
        rcases p_ with _ | _ | _ | p_
        · skip
          exact absurd (hk_ 0 (by decide) (by kernel_rfl)) (by decide)
        · skip
          have S33 : St none' w w1 [vec 5 1 (.slice c_.1 ((o.d.take (496 : Int).toNat).length) c_.2.1) ((o.d.take (496 : Int).toNat).length) ((o.d.take (496 : Int).toNat).map bv), bytesX (.slice A1 a.length c1) a, bytesX (.slice A2 b.length c2) b] := hPh_
          refine told_free rfl rfl (gv_env ((⟨Array.replicate 89 undef, []⟩ : Act).put (some 40) (.int .i64 o.cut)) (by kernel_rfl) (xs := [.func 21, .tmp 40]) (by kernel_rfl) (alike_cons eval_fn (alike_cons (fill_at (k := 17) (by kernel_rfl) (by kernel_rfl) ((hd_ 17 (by kernel_rfl)).trans (by kernel_rfl))) alike_nil)) (gv_call (args := #[.int .i64 o.cut]) rfl Try.func21 (by kernel_rfl) rfl rfl (by kernel_rfl) ?_))
          refine Calls.mono cutOf_is ?_
          rintro _ _ ⟨rfl, rfl⟩
          refine ⟨_, rfl, ?_⟩
          exact ⟨rfl, rfl⟩
        · skip
          exact absurd (hu_ 1 (by decide) (by kernel_rfl)) (by decide)
        · exact absurd hp_ (by simp)
      · skip
        refine told_free rfl rfl (gv_env ((⟨Array.replicate 89 undef, []⟩ : Act).put (some 0) (.slice A steps.length c)) (by kernel_rfl) (xs := [.tmp 0]) (by kernel_rfl) (alike_cons (fill_past (by kernel_rfl) (by kernel_rfl)) alike_nil) (gv_val (v := .slice A steps.length c) (w' := w1) (by kernel_rfl) ?_))
        exact ⟨rfl, rfl⟩
      · skip
        refine told_free rfl rfl (gv_env ((⟨Array.replicate 89 undef, []⟩ : Act).put (some 6) (.int .i64 ((i : Nat) : Int))) (by kernel_rfl) (xs := [.tmp 6]) (by kernel_rfl) (alike_cons (fill_past (by kernel_rfl) (by kernel_rfl)) alike_nil) (gv_val (v := .int .i64 ((i : Nat) : Int)) (w' := w1) (by kernel_rfl) ?_))
        exact ⟨rfl, rfl⟩
      · skip
        refine told_free rfl rfl (gv_env (((⟨Array.replicate 89 undef, []⟩ : Act).put (some 42) (.slice A steps.length c)).put (some 43) (.int .i64 ((i : Nat) : Int))) (by kernel_rfl) (xs := [.tmp 42, .tmp 43]) (by kernel_rfl) (alike_cons (fill_at (k := 19) (by kernel_rfl) (by kernel_rfl) ((hd_ 19 (by kernel_rfl)).trans (by kernel_rfl))) (alike_cons (fill_at (k := 20) (by kernel_rfl) (by kernel_rfl) ((hd_ 20 (by kernel_rfl)).trans (by kernel_rfl))) alike_nil)) (gv_ixB (e := 49) (sz := 5) (n := steps.length) (c := c) (i := ((i : Nat) : Int)) (k := .i64) (ad := ad) (ad' := (ad.add (i * 5))) (j := i) rfl (by kernel_rfl) (by kernel_rfl) (by rw [← had]; kernel_rfl) (by kernel_rfl) rfl (by omega) rfl ?_))
        exact ⟨rfl, rfl⟩
      · skip
        refine told_free rfl rfl (gv_env ((⟨Array.replicate 89 undef, []⟩ : Act).put (some 44) (.pointer (some (ad.add (i * 5))))) (by kernel_rfl) (xs := [.tmp 44]) (by kernel_rfl) (alike_cons (fill_at (k := 21) (by kernel_rfl) (by kernel_rfl) ((hd_ 21 (by kernel_rfl)).trans (by kernel_rfl))) alike_nil) (gv_val (v := .pointer (some ((ad.add (i * 5)).add 4))) (w' := w1) (by kernel_rfl) ?_))
        exact ⟨rfl, rfl⟩
      · skip
        rcases p_ with _ | _ | _ | p_
        · skip
          have S38 : St none' w w1 [bytesX (.slice A1 a.length c1) a, bytesX (.slice A2 b.length c2) b] := hPh_
          refine told_free rfl rfl (gv_env ((⟨Array.replicate 89 undef, []⟩ : Act).put (some 45) (.pointer (some ((ad.add (i * 5)).add 4)))) (by kernel_rfl) (xs := [.tmp 45]) (by kernel_rfl) (alike_cons (fill_at (k := 22) (by kernel_rfl) (by kernel_rfl) ((hd_ 22 (by kernel_rfl)).trans (by kernel_rfl))) alike_nil) (gv_ldR (v := .bool o.back) rfl (by kernel_rfl) (by kernel_rfl) (step_cell (hs.fr S38.fr (fun _ h => h)) had ho (j := 4) rfl) ?_))
          exact ⟨rfl, rfl⟩
        · skip
          have S39 : St none' w w1 [vec 5 1 (.slice c_.1 ((o.d.take (496 : Int).toNat).length) c_.2.1) ((o.d.take (496 : Int).toNat).length) ((o.d.take (496 : Int).toNat).map bv), bytesX (.slice A1 a.length c1) a, bytesX (.slice A2 b.length c2) b] := hPh_
          refine told_free rfl rfl (gv_env ((⟨Array.replicate 89 undef, []⟩ : Act).put (some 45) (.pointer (some ((ad.add (i * 5)).add 4)))) (by kernel_rfl) (xs := [.tmp 45]) (by kernel_rfl) (alike_cons (fill_at (k := 22) (by kernel_rfl) (by kernel_rfl) ((hd_ 22 (by kernel_rfl)).trans (by kernel_rfl))) alike_nil) (gv_ldR (v := .bool o.back) rfl (by kernel_rfl) (by kernel_rfl) (step_cell (hs.fr S39.fr (fun _ h => h)) had ho (j := 4) rfl) ?_))
          exact ⟨rfl, rfl⟩
        · skip
          exact absurd (hu_ 1 (by decide) (by kernel_rfl)) (by decide)
        · exact absurd hp_ (by simp)
      · skip
        exact absurd hiE_ (by decide)
      · skip
        refine told_free rfl rfl (gv_env ((⟨Array.replicate 89 undef, []⟩ : Act).put (some 47) (.tuple #[.bool true, .int .i64 (RG.slot c_.2.2), .slice (RG.A1 c_.2.2) ((RG.s c_.2.2).length) (RG.c1 c_.2.2), .slice (RG.A2 c_.2.2) ((RG.m c_.2.2).length) (RG.c2 c_.2.2)])) (by kernel_rfl) (xs := [.tmp 47]) (by kernel_rfl) (alike_cons (fill_at (k := 24) (by kernel_rfl) (by kernel_rfl) ((hd_ 24 (by kernel_rfl)).trans (by kernel_rfl))) alike_nil) (gv_val (v := .tuple #[.bool true, .int .i64 (RG.slot c_.2.2), .slice (RG.A1 c_.2.2) ((RG.s c_.2.2).length) (RG.c1 c_.2.2), .slice (RG.A2 c_.2.2) ((RG.m c_.2.2).length) (RG.c2 c_.2.2)]) (w' := w1) (by kernel_rfl) ?_))
        exact ⟨rfl, rfl⟩
      · skip
        refine told_free rfl rfl (gv_env ((⟨Array.replicate 89 undef, []⟩ : Act).put (some 22) (.tuple #[.bool true, .int .i64 (RG.slot c_.2.2), .slice (RG.A1 c_.2.2) ((RG.s c_.2.2).length) (RG.c1 c_.2.2), .slice (RG.A2 c_.2.2) ((RG.m c_.2.2).length) (RG.c2 c_.2.2)])) (by kernel_rfl) (xs := [.tmp 22]) (by kernel_rfl) (alike_cons (fill_at (k := 25) (by kernel_rfl) (by kernel_rfl) ((hd_ 25 (by kernel_rfl)).trans (by kernel_rfl))) alike_nil) (gv_val (v := .bool true) (w' := w1) (by kernel_rfl) ?_))
        exact ⟨rfl, rfl⟩
      · skip
        refine told_free rfl rfl (gv_env ((⟨Array.replicate 89 undef, []⟩ : Act).put (some 22) (.tuple #[.bool true, .int .i64 (RG.slot c_.2.2), .slice (RG.A1 c_.2.2) ((RG.s c_.2.2).length) (RG.c1 c_.2.2), .slice (RG.A2 c_.2.2) ((RG.m c_.2.2).length) (RG.c2 c_.2.2)])) (by kernel_rfl) (xs := [.tmp 22]) (by kernel_rfl) (alike_cons (fill_at (k := 25) (by kernel_rfl) (by kernel_rfl) ((hd_ 25 (by kernel_rfl)).trans (by kernel_rfl))) alike_nil) (gv_val (v := .int .i64 (RG.slot c_.2.2)) (w' := w1) (by kernel_rfl) ?_))
        exact ⟨rfl, rfl⟩
      · skip
        refine told_free rfl rfl (gv_env ((⟨Array.replicate 89 undef, []⟩ : Act).put (some 22) (.tuple #[.bool true, .int .i64 (RG.slot c_.2.2), .slice (RG.A1 c_.2.2) ((RG.s c_.2.2).length) (RG.c1 c_.2.2), .slice (RG.A2 c_.2.2) ((RG.m c_.2.2).length) (RG.c2 c_.2.2)])) (by kernel_rfl) (xs := [.tmp 22]) (by kernel_rfl) (alike_cons (fill_at (k := 25) (by kernel_rfl) (by kernel_rfl) ((hd_ 25 (by kernel_rfl)).trans (by kernel_rfl))) alike_nil) (gv_val (v := .slice (RG.A1 c_.2.2) ((RG.s c_.2.2).length) (RG.c1 c_.2.2)) (w' := w1) (by kernel_rfl) ?_))
        exact ⟨rfl, rfl⟩
      · skip
        refine told_free rfl rfl (gv_env ((⟨Array.replicate 89 undef, []⟩ : Act).put (some 22) (.tuple #[.bool true, .int .i64 (RG.slot c_.2.2), .slice (RG.A1 c_.2.2) ((RG.s c_.2.2).length) (RG.c1 c_.2.2), .slice (RG.A2 c_.2.2) ((RG.m c_.2.2).length) (RG.c2 c_.2.2)])) (by kernel_rfl) (xs := [.tmp 22]) (by kernel_rfl) (alike_cons (fill_at (k := 25) (by kernel_rfl) (by kernel_rfl) ((hd_ 25 (by kernel_rfl)).trans (by kernel_rfl))) alike_nil) (gv_val (v := .slice (RG.A2 c_.2.2) ((RG.m c_.2.2).length) (RG.c2 c_.2.2)) (w' := w1) (by kernel_rfl) ?_))
        exact ⟨rfl, rfl⟩
      · skip
        refine told_free rfl rfl (gv_env ((⟨Array.replicate 89 undef, []⟩ : Act).put (some 48) (.bool true)) (by kernel_rfl) (xs := [.tmp 48]) (by kernel_rfl) (alike_cons (fill_at (k := 26) (by kernel_rfl) (by kernel_rfl) ((hd_ 26 (by kernel_rfl)).trans (by kernel_rfl))) alike_nil) (gv_val (v := .bool true) (w' := w1) (by kernel_rfl) ?_))
        exact ⟨rfl, rfl⟩
      · skip
        refine told_free rfl rfl (gv_env ((⟨Array.replicate 89 undef, []⟩ : Act).put (some 49) (.int .i64 (RG.slot c_.2.2))) (by kernel_rfl) (xs := [.tmp 49]) (by kernel_rfl) (alike_cons (fill_at (k := 27) (by kernel_rfl) (by kernel_rfl) ((hd_ 27 (by kernel_rfl)).trans (by kernel_rfl))) alike_nil) (gv_val (v := .int .i64 (RG.slot c_.2.2)) (w' := w1) (by kernel_rfl) ?_))
        exact ⟨rfl, rfl⟩
      · skip
        refine told_free rfl rfl (gv_env ((⟨Array.replicate 89 undef, []⟩ : Act).put (some 50) (.slice (RG.A1 c_.2.2) ((RG.s c_.2.2).length) (RG.c1 c_.2.2))) (by kernel_rfl) (xs := [.tmp 50]) (by kernel_rfl) (alike_cons (fill_at (k := 28) (by kernel_rfl) (by kernel_rfl) ((hd_ 28 (by kernel_rfl)).trans (by kernel_rfl))) alike_nil) (gv_val (v := .slice (RG.A1 c_.2.2) ((RG.s c_.2.2).length) (RG.c1 c_.2.2)) (w' := w1) (by kernel_rfl) ?_))
        exact ⟨rfl, rfl⟩
      · exact absurd hi_ (by omega)
    · intro k_ c_ vals_ w1 hk_ hPh_ hd_
      rcases k_ with _ | _ | k_
      · skip
        have S48 : St none' w w1 [bytesX (.slice A1 a.length c1) a, bytesX (.slice A2 b.length c2) b] := hPh_
        refine told_free rfl rfl (gv_env ((⟨Array.replicate 89 undef, []⟩ : Act).put (some 34) (.slice o.A o.d.length o.cd)) (by kernel_rfl) (xs := [.func 16, .tmp 34, .const (.int .i64 496)]) (by kernel_rfl) (alike_cons eval_fn (alike_cons (fill_at (k := 11) (by kernel_rfl) (by kernel_rfl) ((hd_ 11 (by kernel_rfl)).trans (by kernel_rfl))) (alike_cons eval_c alike_nil))) (gv_call (args := #[.slice o.A o.d.length o.cd, .int .i64 496]) rfl Try.func16 (by kernel_rfl) rfl rfl (by kernel_rfl) ?_))
        refine Calls.mono (up3 (n := 496) (l := o.d) S48 (Ro.of_C hk.d (fun _ h => h)).T (by omega)) ?_
        rintro _ w51 ⟨v50, g49, rfl, S52⟩
        refine ⟨_, rfl, ?_⟩
        refine ⟨(v50, g49, c_.2.2), rfl, ?_, S52⟩
        intro i_ hi_ hne_ hdp_
        rcases i_ with _ | _ | _ | _ | _ | _ | _ | _ | _ | _ | _ | _ | _ | _ | _ | _ | _ | _ | _ | _ | _ | _ | _ | _ | _ | _ | _ | _ | _ | _ | _ | _ | _ | i_
        · rfl
        · rfl
        · rfl
        · rfl
        · rfl
        · rfl
        · rfl
        · rfl
        · rfl
        · rfl
        · rfl
        · rfl
        · exact absurd rfl hne_
        · rfl
        · rfl
        · rfl
        · rfl
        · rfl
        · exact (dep_no hdp_ (by kernel_rfl)).elim
        · rfl
        · rfl
        · rfl
        · rfl
        · rfl
        · exact (dep_no hdp_ (by kernel_rfl)).elim
        · exact (dep_no hdp_ (by kernel_rfl)).elim
        · exact (dep_no hdp_ (by kernel_rfl)).elim
        · exact (dep_no hdp_ (by kernel_rfl)).elim
        · exact (dep_no hdp_ (by kernel_rfl)).elim
        · exact (dep_no hdp_ (by kernel_rfl)).elim
        · exact (dep_no hdp_ (by kernel_rfl)).elim
        · exact (dep_no hdp_ (by kernel_rfl)).elim
        · exact (dep_no hdp_ (by kernel_rfl)).elim
        · exact absurd hi_ (by omega)
      · skip
        have S53 : St none' w w1 [vec 5 1 (.slice c_.1 ((o.d.take (496 : Int).toNat).length) c_.2.1) ((o.d.take (496 : Int).toNat).length) ((o.d.take (496 : Int).toNat).map bv), bytesX (.slice A1 a.length c1) a, bytesX (.slice A2 b.length c2) b] := hPh_
        refine told_free rfl rfl (gv_env (((((((⟨Array.replicate 89 undef, []⟩ : Act).put (some 23) (.slice A1 a.length c1)).put (some 24) (.slice A2 b.length c2)).put (some 29) (.int .i64 o.no)).put (some 35) (.slice c_.1 ((o.d.take (496 : Int).toNat).length) c_.2.1)).put (some 41) (.int .i64 ((cutF o.cut : Nat) : Int))).put (some 46) (.bool o.back)) (by kernel_rfl) (xs := [.func 20, .tmp 23, .tmp 24, .tmp 29, .tmp 35, .tmp 41, .tmp 46]) (by kernel_rfl) (alike_cons eval_fn (alike_cons (fill_at (k := 0) (by kernel_rfl) (by kernel_rfl) ((hd_ 0 (by kernel_rfl)).trans (by kernel_rfl))) (alike_cons (fill_at (k := 1) (by kernel_rfl) (by kernel_rfl) ((hd_ 1 (by kernel_rfl)).trans (by kernel_rfl))) (alike_cons (fill_at (k := 6) (by kernel_rfl) (by kernel_rfl) ((hd_ 6 (by kernel_rfl)).trans (by kernel_rfl))) (alike_cons (fill_at (k := 12) (by kernel_rfl) (by kernel_rfl) ((hd_ 12 (by kernel_rfl)).trans (by kernel_rfl))) (alike_cons (fill_at (k := 18) (by kernel_rfl) (by kernel_rfl) ((hd_ 18 (by kernel_rfl)).trans (by kernel_rfl))) (alike_cons (fill_at (k := 23) (by kernel_rfl) (by kernel_rfl) ((hd_ 23 (by kernel_rfl)).trans (by kernel_rfl))) alike_nil))))))) (gv_call (args := #[.slice A1 a.length c1, .slice A2 b.length c2, .int .i64 o.no, .slice c_.1 ((o.d.take (496 : Int).toNat).length) c_.2.1, .int .i64 ((cutF o.cut : Nat) : Int), .bool o.back]) rfl Try.func20 (by kernel_rfl) rfl rfl (by kernel_rfl) ?_))
        refine Calls.mono (renews_rg (a := a) (b := b) (d := (o.d.take (496 : Int).toNat)) S53 rfl rfl rfl (RoT.bytesX 1 rfl rfl) (RoT.bytesX 2 rfl rfl) (RoT.ofVec 0 rfl) ha5 hb5 hdt (cutF_le _) hno) ?_
        rintro _ w55 ⟨v54, rfl, S56⟩
        refine ⟨_, rfl, ?_⟩
        refine ⟨(c_.1, c_.2.1, v54), rfl, ?_, S56⟩
        intro i_ hi_ hne_ hdp_
        rcases i_ with _ | _ | _ | _ | _ | _ | _ | _ | _ | _ | _ | _ | _ | _ | _ | _ | _ | _ | _ | _ | _ | _ | _ | _ | _ | _ | _ | _ | _ | _ | _ | _ | _ | i_
        · rfl
        · rfl
        · rfl
        · rfl
        · rfl
        · rfl
        · rfl
        · rfl
        · rfl
        · rfl
        · rfl
        · rfl
        · rfl
        · rfl
        · rfl
        · rfl
        · rfl
        · rfl
        · rfl
        · rfl
        · rfl
        · rfl
        · rfl
        · rfl
        · exact absurd rfl hne_
        · exact (dep_no hdp_ (by kernel_rfl)).elim
        · exact (dep_no hdp_ (by kernel_rfl)).elim
        · exact (dep_no hdp_ (by kernel_rfl)).elim
        · exact (dep_no hdp_ (by kernel_rfl)).elim
        · exact (dep_no hdp_ (by kernel_rfl)).elim
        · exact (dep_no hdp_ (by kernel_rfl)).elim
        · exact (dep_no hdp_ (by kernel_rfl)).elim
        · exact (dep_no hdp_ (by kernel_rfl)).elim
        · exact absurd hi_ (by omega)
      · exact absurd hk_ (by simp)
    · intro c_ w1 hPh_
      have S57 : St none' w w1 [pureA (RG.Told c_.2.2 a b), bytesX (.slice (RG.A1 c_.2.2) (RG.s c_.2.2).length (RG.c1 c_.2.2)) (RG.s c_.2.2), bytesX (.slice (RG.A2 c_.2.2) (RG.m c_.2.2).length (RG.c2 c_.2.2)) (RG.m c_.2.2), vec 5 1 (.slice c_.1 ((o.d.take (496 : Int).toNat).length) c_.2.1) ((o.d.take (496 : Int).toNat).length) ((o.d.take (496 : Int).toNat).map bv), bytesX (.slice A1 a.length c1) a, bytesX (.slice A2 b.length c2) b] := hPh_
      refine wl_frame (fr [.slice A steps.length c, ud, J 2, .slice A1 a.length c1, .slice A2 b.length c2, iv ((lst : Nat) : Int), iv ((i : Nat) : Int), tv, iv (RG.slot c_.2.2), .slice (RG.A1 c_.2.2) ((RG.s c_.2.2).length) (RG.c1 c_.2.2), J 10, J 11, .slice Al z.length cl, .slice Ar z.length cr, tv, fv, iv ((i : Nat) : Int), .slice A steps.length c, iv (steps.length : Nat), tv, J 20, J 21, .tuple #[tv, iv (RG.slot c_.2.2), .slice (RG.A1 c_.2.2) ((RG.s c_.2.2).length) (RG.c1 c_.2.2), .slice (RG.A2 c_.2.2) ((RG.m c_.2.2).length) (RG.c2 c_.2.2)], .slice A1 a.length c1, .slice A2 b.length c2, .slice A steps.length c, iv ((i : Nat) : Int), .pointer (some (ad.add (i * 5))), .pointer (some (ad.add (i * 5))), iv o.no, .slice A steps.length c, iv ((i : Nat) : Int), .pointer (some (ad.add (i * 5))), .pointer (some ((ad.add (i * 5)).add 2)), .slice o.A o.d.length o.cd, .slice c_.1 ((o.d.take (496 : Int).toNat).length) c_.2.1, .slice A steps.length c, iv ((i : Nat) : Int), .pointer (some (ad.add (i * 5))), .pointer (some ((ad.add (i * 5)).add 1)), iv o.cut, iv ((cutF o.cut : Nat) : Int), .slice A steps.length c, iv ((i : Nat) : Int), .pointer (some (ad.add (i * 5))), .pointer (some ((ad.add (i * 5)).add 4)), .bool o.back, .tuple #[tv, iv (RG.slot c_.2.2), .slice (RG.A1 c_.2.2) ((RG.s c_.2.2).length) (RG.c1 c_.2.2), .slice (RG.A2 c_.2.2) ((RG.m c_.2.2).length) (RG.c2 c_.2.2)], tv, iv (RG.slot c_.2.2), .slice (RG.A1 c_.2.2) ((RG.s c_.2.2).length) (RG.c1 c_.2.2), .slice (RG.A2 c_.2.2) ((RG.m c_.2.2).length) (RG.c2 c_.2.2), J 52, J 53, J 54, J 55, J 56, J 57, J 58, J 59, J 60, J 61, J 62, J 63, J 64, J 65, J 66, J 67, J 68, J 69, J 70, J 71, J 72, J 73, J 74, J 75, J 76, J 77, J 78, J 79, J 80, J 81, J 82, J 83, J 84, J 85, J 86, J 87, J 88] 0) (by kernel_rfl) ?_
      refine pv (.slice (RG.A2 c_.2.2) ((RG.m c_.2.2).length) (RG.c2 c_.2.2)) ?_
      refine wl_end (fr [.slice A steps.length c, ud, J 2, .slice A1 a.length c1, .slice A2 b.length c2, iv ((lst : Nat) : Int), iv ((i : Nat) : Int), tv, iv (RG.slot c_.2.2), .slice (RG.A1 c_.2.2) ((RG.s c_.2.2).length) (RG.c1 c_.2.2), .slice (RG.A2 c_.2.2) ((RG.m c_.2.2).length) (RG.c2 c_.2.2), J 11, .slice Al z.length cl, .slice Ar z.length cr, tv, fv, iv ((i : Nat) : Int), .slice A steps.length c, iv (steps.length : Nat), tv, J 20, J 21, .tuple #[tv, iv (RG.slot c_.2.2), .slice (RG.A1 c_.2.2) ((RG.s c_.2.2).length) (RG.c1 c_.2.2), .slice (RG.A2 c_.2.2) ((RG.m c_.2.2).length) (RG.c2 c_.2.2)], .slice A1 a.length c1, .slice A2 b.length c2, .slice A steps.length c, iv ((i : Nat) : Int), .pointer (some (ad.add (i * 5))), .pointer (some (ad.add (i * 5))), iv o.no, .slice A steps.length c, iv ((i : Nat) : Int), .pointer (some (ad.add (i * 5))), .pointer (some ((ad.add (i * 5)).add 2)), .slice o.A o.d.length o.cd, .slice c_.1 ((o.d.take (496 : Int).toNat).length) c_.2.1, .slice A steps.length c, iv ((i : Nat) : Int), .pointer (some (ad.add (i * 5))), .pointer (some ((ad.add (i * 5)).add 1)), iv o.cut, iv ((cutF o.cut : Nat) : Int), .slice A steps.length c, iv ((i : Nat) : Int), .pointer (some (ad.add (i * 5))), .pointer (some ((ad.add (i * 5)).add 4)), .bool o.back, .tuple #[tv, iv (RG.slot c_.2.2), .slice (RG.A1 c_.2.2) ((RG.s c_.2.2).length) (RG.c1 c_.2.2), .slice (RG.A2 c_.2.2) ((RG.m c_.2.2).length) (RG.c2 c_.2.2)], tv, iv (RG.slot c_.2.2), .slice (RG.A1 c_.2.2) ((RG.s c_.2.2).length) (RG.c1 c_.2.2), .slice (RG.A2 c_.2.2) ((RG.m c_.2.2).length) (RG.c2 c_.2.2), J 52, J 53, J 54, J 55, J 56, J 57, J 58, J 59, J 60, J 61, J 62, J 63, J 64, J 65, J 66, J 67, J 68, J 69, J 70, J 71, J 72, J 73, J 74, J 75, J 76, J 77, J 78, J 79, J 80, J 81, J 82, J 83, J 84, J 85, J 86, J 87, J 88] 0) (by kernel_rfl) ?_
      obtain ⟨hT, S58⟩ := St.pure_out S57
      refine then_n ?_
      refine wp_seq ?_
      refine wp_seq ?_
      refine wp_region_lit ?_
      refine pv tv ?_
      refine pv fv ?_
      refine wl_end _ rfl ?_
      refine then_n ?_
      refine wp_cond_false (by kernel_rfl) ?_
      refine wp_skip ?_
      refine then_n ?_
      refine wp_seq ?_
      refine wp_seq ?_
      refine wp_region_lit ?_
      refine pv (.slice (RG.A1 c_.2.2) ((RG.s c_.2.2).length) (RG.c1 c_.2.2)) ?_
      refine pv (iv ((RG.s c_.2.2).length : Nat)) ?_
      refine wl_gv rfl (gv_eq (x := ((RG.s c_.2.2).length : Nat)) (y := 512) (by kernel_rfl) (fun hb59 => ?_) (fun hb59 => ?_))
      · skip
        obtain ⟨hs5, hm5, hsl, hTt⟩ := hT.resolve_left (fun h => by rw [h.1] at hb59; exact absurd hb59 (by decide))
        refine wl_end _ rfl ?_
        refine then_n ?_
        refine wp_cond_true (by kernel_rfl) ?_
        refine wp_seq ?_
        refine wp_seq ?_
        refine wp_region_lit ?_
        refine pv (.slice A steps.length c) ?_
        refine pv (iv ((i : Nat) : Int)) ?_
        refine wl_gv rfl (gv_ixB (e := 49) (sz := 5) (n := steps.length) (c := c) (i := ((i : Nat) : Int)) (k := .i64) (ad := ad) (ad' := (ad.add (i * 5))) (j := i) rfl (by kernel_rfl) (by kernel_rfl) (by rw [← had]; kernel_rfl) (by kernel_rfl) rfl (by omega) rfl ?_)
        refine pv (.pointer (some ((ad.add (i * 5)).add 3))) ?_
        refine wl_gv rfl (gv_ldR (v := .bool o.torn) rfl (by kernel_rfl) (by kernel_rfl) (step_cell (hs.fr S58.fr (fun _ h => h)) had ho (j := 3) rfl) ?_)
        refine wl_end _ rfl ?_
        refine then_n ?_
        refine wp_cond_split (t := o.torn) (by kernel_rfl) (fun hc60 => ?_) (fun hc60 => ?_)
        · skip
          refine wp_region_lit ?_
          refine pv (.slice (RG.A2 c_.2.2) ((RG.m c_.2.2).length) (RG.c2 c_.2.2)) ?_
          refine pv (.slice (RG.A2 c_.2.2) ((RG.m c_.2.2).length) (RG.c2 c_.2.2)) ?_
          refine wl_end _ rfl ?_
          refine then_n ?_
          refine wp_region_lit ?_
          rcases hsl with hs0 | hs0
          · skip
            have hq := grow_next hl1 hl2 (hTt (RG.m c_.2.2) (.inr rfl))
            rw [show putIn a b (RG.slot c_.2.2).toNat (RG.m c_.2.2) = ((RG.m c_.2.2), b) from by unfold putIn; rw [hs0]; rfl] at hq
            dsimp only at hq
            have ht5 : (RG.m c_.2.2).length = 512 := hm5
            refine pv (.slice A1 a.length c1) ?_
            refine pv (.slice A2 b.length c2) ?_
            refine pv (iv (RG.slot c_.2.2)) ?_
            refine pv (.slice (RG.A2 c_.2.2) ((RG.m c_.2.2).length) (RG.c2 c_.2.2)) ?_
            refine wl_gv rfl (gv_call (args := #[.slice A1 a.length c1, .slice A2 b.length c2, .int .i64 (RG.slot c_.2.2), .slice (RG.A2 c_.2.2) ((RG.m c_.2.2).length) (RG.c2 c_.2.2)]) rfl Try.func22 (by kernel_rfl) rfl rfl (by kernel_rfl) ?_)
            refine Calls.mono (pairOf0 (by omega)) ?_
            rintro _ _ ⟨rfl, rfl⟩
            refine ⟨_, rfl, ?_⟩
            refine pv (.tuple #[.slice (RG.A2 c_.2.2) ((RG.m c_.2.2).length) (RG.c2 c_.2.2), .slice A2 b.length c2]) ?_
            refine pv (.slice (RG.A2 c_.2.2) ((RG.m c_.2.2).length) (RG.c2 c_.2.2)) ?_
            refine pv (.slice A2 b.length c2) ?_
            refine pv (.slice (RG.A2 c_.2.2) ((RG.m c_.2.2).length) (RG.c2 c_.2.2)) ?_
            refine pv (.slice A2 b.length c2) ?_
            refine wl_end _ rfl ?_
            refine then_n ?_
            refine wp_seq ?_
            refine wp_region_lit ?_
            refine pv (.slice (RG.A2 c_.2.2) ((RG.m c_.2.2).length) (RG.c2 c_.2.2)) ?_
            refine pv (.slice A2 b.length c2) ?_
            refine wl_gv rfl (gv_call (args := #[.slice (RG.A2 c_.2.2) ((RG.m c_.2.2).length) (RG.c2 c_.2.2), .slice A2 b.length c2]) rfl Try.func23 (by kernel_rfl) rfl rfl (by kernel_rfl) ?_)
            refine Calls.mono (ask_all (a := (RG.m c_.2.2)) (b := b) S58 rfl rfl (RoT.bytesX 1 rfl rfl) (RoT.bytesX 4 rfl rfl) (by omega) (by omega)) ?_
            rintro _ w61 ⟨A63, c64, rfl, S62⟩
            refine ⟨_, rfl, ?_⟩
            refine wl_gv rfl (gv_new (z := .agg #[.int .i64 0, .int .i64 0, .slice none 0 0, .int .i64 0]) S62 rfl (by kernel_rfl) (fun g65 w66 hg67 S68 => ?_))
            refine wl_gv rfl (gv_stA (k := 0) (vs := [.int .i64 ((newestF (RG.m c_.2.2) b).1 : Int), .int .i64 ((newestF (RG.m c_.2.2) b).2.1 : Int), .slice A63 ((newestF (RG.m c_.2.2) b).2.2.1.length) c64, .int .i64 ((newestF (RG.m c_.2.2) b).2.2.2 : Int)]) S68 0 rfl rfl (by kernel_rfl) (by kernel_rfl) (by kernel_rfl) rfl (by simp [Value.oneCell']) (Nat.le_of_ble_eq_true (by kernel_rfl)) (L' := [row g65 #[.int .i64 ((newestF (RG.m c_.2.2) b).1 : Int), .int .i64 ((newestF (RG.m c_.2.2) b).2.1 : Int), .slice A63 ((newestF (RG.m c_.2.2) b).2.2.1.length) c64, .int .i64 ((newestF (RG.m c_.2.2) b).2.2.2 : Int)] 53, bytesX (.slice A63 (newestF (RG.m c_.2.2) b).2.2.1.length c64) (newestF (RG.m c_.2.2) b).2.2.1, bytesX (.slice (RG.A1 c_.2.2) (RG.s c_.2.2).length (RG.c1 c_.2.2)) (RG.s c_.2.2), bytesX (.slice (RG.A2 c_.2.2) (RG.m c_.2.2).length (RG.c2 c_.2.2)) (RG.m c_.2.2), vec 5 1 (.slice c_.1 ((o.d.take (496 : Int).toNat).length) c_.2.1) ((o.d.take (496 : Int).toNat).length) ((o.d.take (496 : Int).toNat).map bv), bytesX (.slice A1 a.length c1) a, bytesX (.slice A2 b.length c2) b]) rfl (fun w69 S70 => ?_))
            refine wl_end _ rfl ?_
            refine then_n ?_
            refine wp_seq ?_
            refine wp_seq ?_
            refine wp_region_lit ?_
            refine pv (po g65 1) ?_
            refine wl_gv rfl (gv_ldR (v := .int .i64 ((newestF (RG.m c_.2.2) b).2.1 : Int)) rfl (by kernel_rfl) (by kernel_rfl) (((S70.blk 0 rfl).cell 1).trans rfl) ?_)
            refine pv (iv ((lst : Nat) : Int)) ?_
            refine wl_gv rfl (gv_dec (p := (((newestF (RG.m c_.2.2) b).2.1 : Int) : Int) < ((lst : Nat) : Int)) (by kernel_rfl) (fun hd71 => False.elim (by have := hq.1; omega)) (fun _ => ?_))
            refine pv fv ?_
            refine wl_when (by kernel_rfl) (gv_val (v := .int .i64 ((lst : Nat) : Int)) (w' := w69) (by kernel_rfl) ?_)
            refine wl_when (by kernel_rfl) (gv_dec (p := (((lst : Nat) : Int) : Int) > 0) (by kernel_rfl) (fun hb72 => ?_) (fun hb72 => ?_))
            · skip
              refine wl_when (by kernel_rfl) (gv_val (v := .bool true) (w' := w69) (by kernel_rfl) ?_)
              refine wl_when (by kernel_rfl) (gv_val (v := .pointer (some ⟨g65, 3, none⟩)) (w' := w69) (by kernel_rfl) ?_)
              refine wl_when (by kernel_rfl) (gv_ldR (v := .int .i64 ((newestF (RG.m c_.2.2) b).2.2.2 : Int)) rfl (by kernel_rfl) (by kernel_rfl) (((S70.blk 0 rfl).cell 3).trans rfl) ?_)
              refine wl_when (by kernel_rfl) (gv_ne (x := ((newestF (RG.m c_.2.2) b).2.2.2 : Int)) (y := 0) (by kernel_rfl) (fun hd73 => False.elim (by have := hq.2 (by omega); omega)) (fun _ => ?_))
              refine wl_when (by kernel_rfl) (gv_val (v := .bool false) (w' := w69) (by kernel_rfl) ?_)
              refine pv fv ?_
              refine wl_end (fr [.slice A steps.length c, ud, J 2, .slice (RG.A2 c_.2.2) ((RG.m c_.2.2).length) (RG.c2 c_.2.2), .slice A2 b.length c2, iv ((lst : Nat) : Int), iv ((i : Nat) : Int), tv, iv (RG.slot c_.2.2), .slice (RG.A2 c_.2.2) ((RG.m c_.2.2).length) (RG.c2 c_.2.2), .slice (RG.A2 c_.2.2) ((RG.m c_.2.2).length) (RG.c2 c_.2.2), pq g65, .slice Al z.length cl, .slice Ar z.length cr, tv, fv, iv ((i : Nat) : Int), .slice A steps.length c, iv (steps.length : Nat), tv, J 20, J 21, .tuple #[tv, iv (RG.slot c_.2.2), .slice (RG.A1 c_.2.2) ((RG.s c_.2.2).length) (RG.c1 c_.2.2), .slice (RG.A2 c_.2.2) ((RG.m c_.2.2).length) (RG.c2 c_.2.2)], .slice A1 a.length c1, .slice A2 b.length c2, .slice A steps.length c, iv ((i : Nat) : Int), .pointer (some (ad.add (i * 5))), .pointer (some (ad.add (i * 5))), iv o.no, .slice A steps.length c, iv ((i : Nat) : Int), .pointer (some (ad.add (i * 5))), .pointer (some ((ad.add (i * 5)).add 2)), .slice o.A o.d.length o.cd, .slice c_.1 ((o.d.take (496 : Int).toNat).length) c_.2.1, .slice A steps.length c, iv ((i : Nat) : Int), .pointer (some (ad.add (i * 5))), .pointer (some ((ad.add (i * 5)).add 1)), iv o.cut, iv ((cutF o.cut : Nat) : Int), .slice A steps.length c, iv ((i : Nat) : Int), .pointer (some (ad.add (i * 5))), .pointer (some ((ad.add (i * 5)).add 4)), .bool o.back, .tuple #[tv, iv (RG.slot c_.2.2), .slice (RG.A1 c_.2.2) ((RG.s c_.2.2).length) (RG.c1 c_.2.2), .slice (RG.A2 c_.2.2) ((RG.m c_.2.2).length) (RG.c2 c_.2.2)], tv, iv (RG.slot c_.2.2), .slice (RG.A1 c_.2.2) ((RG.s c_.2.2).length) (RG.c1 c_.2.2), .slice (RG.A2 c_.2.2) ((RG.m c_.2.2).length) (RG.c2 c_.2.2), tv, fv, .slice (RG.A1 c_.2.2) ((RG.s c_.2.2).length) (RG.c1 c_.2.2), iv ((RG.s c_.2.2).length : Nat), tv, .slice A steps.length c, iv ((i : Nat) : Int), .pointer (some (ad.add (i * 5))), .pointer (some ((ad.add (i * 5)).add 3)), .bool o.torn, .slice (RG.A2 c_.2.2) ((RG.m c_.2.2).length) (RG.c2 c_.2.2), .tuple #[.slice (RG.A2 c_.2.2) ((RG.m c_.2.2).length) (RG.c2 c_.2.2), .slice A2 b.length c2], .slice A1 a.length c1, .slice A2 b.length c2, iv (RG.slot c_.2.2), .slice (RG.A2 c_.2.2) ((RG.m c_.2.2).length) (RG.c2 c_.2.2), .tuple #[.slice (RG.A2 c_.2.2) ((RG.m c_.2.2).length) (RG.c2 c_.2.2), .slice A2 b.length c2], .slice (RG.A2 c_.2.2) ((RG.m c_.2.2).length) (RG.c2 c_.2.2), .slice A2 b.length c2, .slice (RG.A2 c_.2.2) ((RG.m c_.2.2).length) (RG.c2 c_.2.2), .slice A2 b.length c2, .agg #[iv ((newestF (RG.m c_.2.2) b).1 : Int), iv ((newestF (RG.m c_.2.2) b).2.1 : Int), .slice A63 ((newestF (RG.m c_.2.2) b).2.2.1.length) c64, iv ((newestF (RG.m c_.2.2) b).2.2.2 : Int)], po g65 1, iv ((newestF (RG.m c_.2.2) b).2.1 : Int), iv ((lst : Nat) : Int), fv, fv, iv ((lst : Nat) : Int), tv, tv, po g65 3, iv ((newestF (RG.m c_.2.2) b).2.2.2 : Int), fv, fv, fv, J 87, J 88] 0) (by kernel_rfl) ?_
              refine then_n ?_
              refine wp_cond_false (by kernel_rfl) ?_
              refine wp_skip ?_
              refine then_n ?_
              refine wp_region_lit ?_
              refine pv (po g65 1) ?_
              refine wl_gv rfl (gv_ldR (v := .int .i64 ((newestF (RG.m c_.2.2) b).2.1 : Int)) rfl (by kernel_rfl) (by kernel_rfl) (((S70.blk 0 rfl).cell 1).trans rfl) ?_)
              refine pv (iv ((newestF (RG.m c_.2.2) b).2.1 : Int)) ?_
              refine wl_end _ rfl ?_
              refine inb_n ?_
              refine then_n ?_
              refine wp_region_lit ?_
              refine pv (iv ((i : Nat) : Int)) ?_
              refine wl_gv rfl (gv_int (k := .i64) (z := IntKind.i64.wrap (((i : Nat) : Int) + 1)) (z' := ((i + 1 : Nat) : Int)) (by kernel_rfl) (wr_eq (by omega) (by omega) (by omega)) ?_)
              refine pv (iv ((i + 1 : Nat) : Int)) ?_
              have S74 : St none' w w69 [bytesX (.slice (RG.A2 c_.2.2) (RG.m c_.2.2).length (RG.c2 c_.2.2)) (RG.m c_.2.2), bytesX (.slice A2 b.length c2) b] := St.permT [row g65 #[.int .i64 ((newestF (RG.m c_.2.2) b).1 : Int), .int .i64 ((newestF (RG.m c_.2.2) b).2.1 : Int), .slice A63 ((newestF (RG.m c_.2.2) b).2.2.1.length) c64, .int .i64 ((newestF (RG.m c_.2.2) b).2.2.2 : Int)] 53, bytesX (.slice A63 (newestF (RG.m c_.2.2) b).2.2.1.length c64) (newestF (RG.m c_.2.2) b).2.2.1, bytesX (.slice (RG.A1 c_.2.2) (RG.s c_.2.2).length (RG.c1 c_.2.2)) (RG.s c_.2.2), bytesX (.slice (RG.A2 c_.2.2) (RG.m c_.2.2).length (RG.c2 c_.2.2)) (RG.m c_.2.2), vec 5 1 (.slice c_.1 ((o.d.take (496 : Int).toNat).length) c_.2.1) ((o.d.take (496 : Int).toNat).length) ((o.d.take (496 : Int).toNat).map bv), bytesX (.slice A1 a.length c1) a, bytesX (.slice A2 b.length c2) b] [3, 6] (by decide) rfl S70
              have hla : (RG.m c_.2.2).length = 512 := by omega
              have hlb : b.length = 512 := by omega
              refine wl_end _ rfl ?_
              refine then_n ?_
              exact ⟨(i + 1, (RG.m c_.2.2), b, (RG.A2 c_.2.2), (RG.c2 c_.2.2), A2, c2, (newestF (RG.m c_.2.2) b).2.1), ⟨(jl [ud, ud, J 2, ud, ud, ud, ud, tv, iv (RG.slot c_.2.2), .slice (RG.A2 c_.2.2) ((RG.m c_.2.2).length) (RG.c2 c_.2.2), .slice (RG.A2 c_.2.2) ((RG.m c_.2.2).length) (RG.c2 c_.2.2), pq g65, ud, ud, ud, ud, iv ((i : Nat) : Int), .slice A steps.length c, iv (steps.length : Nat), tv, iv ((i : Nat) : Int), iv ((i + 1 : Nat) : Int), .tuple #[tv, iv (RG.slot c_.2.2), .slice (RG.A1 c_.2.2) ((RG.s c_.2.2).length) (RG.c1 c_.2.2), .slice (RG.A2 c_.2.2) ((RG.m c_.2.2).length) (RG.c2 c_.2.2)], .slice A1 a.length c1, .slice A2 b.length c2, .slice A steps.length c, iv ((i : Nat) : Int), .pointer (some (ad.add (i * 5))), .pointer (some (ad.add (i * 5))), iv o.no, .slice A steps.length c, iv ((i : Nat) : Int), .pointer (some (ad.add (i * 5))), .pointer (some ((ad.add (i * 5)).add 2)), .slice o.A o.d.length o.cd, .slice c_.1 ((o.d.take (496 : Int).toNat).length) c_.2.1, .slice A steps.length c, iv ((i : Nat) : Int), .pointer (some (ad.add (i * 5))), .pointer (some ((ad.add (i * 5)).add 1)), iv o.cut, iv ((cutF o.cut : Nat) : Int), .slice A steps.length c, iv ((i : Nat) : Int), .pointer (some (ad.add (i * 5))), .pointer (some ((ad.add (i * 5)).add 4)), .bool o.back, .tuple #[tv, iv (RG.slot c_.2.2), .slice (RG.A1 c_.2.2) ((RG.s c_.2.2).length) (RG.c1 c_.2.2), .slice (RG.A2 c_.2.2) ((RG.m c_.2.2).length) (RG.c2 c_.2.2)], tv, iv (RG.slot c_.2.2), .slice (RG.A1 c_.2.2) ((RG.s c_.2.2).length) (RG.c1 c_.2.2), .slice (RG.A2 c_.2.2) ((RG.m c_.2.2).length) (RG.c2 c_.2.2), tv, fv, .slice (RG.A1 c_.2.2) ((RG.s c_.2.2).length) (RG.c1 c_.2.2), iv ((RG.s c_.2.2).length : Nat), tv, .slice A steps.length c, iv ((i : Nat) : Int), .pointer (some (ad.add (i * 5))), .pointer (some ((ad.add (i * 5)).add 3)), .bool o.torn, .slice (RG.A2 c_.2.2) ((RG.m c_.2.2).length) (RG.c2 c_.2.2), .tuple #[.slice (RG.A2 c_.2.2) ((RG.m c_.2.2).length) (RG.c2 c_.2.2), .slice A2 b.length c2], .slice A1 a.length c1, .slice A2 b.length c2, iv (RG.slot c_.2.2), .slice (RG.A2 c_.2.2) ((RG.m c_.2.2).length) (RG.c2 c_.2.2), .tuple #[.slice (RG.A2 c_.2.2) ((RG.m c_.2.2).length) (RG.c2 c_.2.2), .slice A2 b.length c2], .slice (RG.A2 c_.2.2) ((RG.m c_.2.2).length) (RG.c2 c_.2.2), .slice A2 b.length c2, .slice (RG.A2 c_.2.2) ((RG.m c_.2.2).length) (RG.c2 c_.2.2), .slice A2 b.length c2, .agg #[iv ((newestF (RG.m c_.2.2) b).1 : Int), iv ((newestF (RG.m c_.2.2) b).2.1 : Int), .slice A63 ((newestF (RG.m c_.2.2) b).2.2.1.length) c64, iv ((newestF (RG.m c_.2.2) b).2.2.2 : Int)], po g65 1, iv ((newestF (RG.m c_.2.2) b).2.1 : Int), iv ((lst : Nat) : Int), fv, fv, iv ((lst : Nat) : Int), tv, tv, po g65 3, iv ((newestF (RG.m c_.2.2) b).2.2.2 : Int), fv, fv, fv, po g65 1, iv ((newestF (RG.m c_.2.2) b).2.1 : Int)]), by kernel_rfl, S74, ⟨by omega, hla, hlb, Nat.le_refl _, grow_pos⟩⟩, (by show steps.length - (i + 1) < steps.length - i; omega)⟩
            · skip
              refine wl_when (by kernel_rfl) (gv_val (v := .bool false) (w' := w69) (by kernel_rfl) ?_)
              refine wl_not (by kernel_rfl) ?_
              refine wl_not (by kernel_rfl) ?_
              refine wl_not (by kernel_rfl) ?_
              refine wl_when (by kernel_rfl) (gv_val (v := .bool false) (w' := w69) (by kernel_rfl) ?_)
              refine pv fv ?_
              refine wl_end (fr [.slice A steps.length c, ud, J 2, .slice (RG.A2 c_.2.2) ((RG.m c_.2.2).length) (RG.c2 c_.2.2), .slice A2 b.length c2, iv ((lst : Nat) : Int), iv ((i : Nat) : Int), tv, iv (RG.slot c_.2.2), .slice (RG.A2 c_.2.2) ((RG.m c_.2.2).length) (RG.c2 c_.2.2), .slice (RG.A2 c_.2.2) ((RG.m c_.2.2).length) (RG.c2 c_.2.2), pq g65, .slice Al z.length cl, .slice Ar z.length cr, tv, fv, iv ((i : Nat) : Int), .slice A steps.length c, iv (steps.length : Nat), tv, J 20, J 21, .tuple #[tv, iv (RG.slot c_.2.2), .slice (RG.A1 c_.2.2) ((RG.s c_.2.2).length) (RG.c1 c_.2.2), .slice (RG.A2 c_.2.2) ((RG.m c_.2.2).length) (RG.c2 c_.2.2)], .slice A1 a.length c1, .slice A2 b.length c2, .slice A steps.length c, iv ((i : Nat) : Int), .pointer (some (ad.add (i * 5))), .pointer (some (ad.add (i * 5))), iv o.no, .slice A steps.length c, iv ((i : Nat) : Int), .pointer (some (ad.add (i * 5))), .pointer (some ((ad.add (i * 5)).add 2)), .slice o.A o.d.length o.cd, .slice c_.1 ((o.d.take (496 : Int).toNat).length) c_.2.1, .slice A steps.length c, iv ((i : Nat) : Int), .pointer (some (ad.add (i * 5))), .pointer (some ((ad.add (i * 5)).add 1)), iv o.cut, iv ((cutF o.cut : Nat) : Int), .slice A steps.length c, iv ((i : Nat) : Int), .pointer (some (ad.add (i * 5))), .pointer (some ((ad.add (i * 5)).add 4)), .bool o.back, .tuple #[tv, iv (RG.slot c_.2.2), .slice (RG.A1 c_.2.2) ((RG.s c_.2.2).length) (RG.c1 c_.2.2), .slice (RG.A2 c_.2.2) ((RG.m c_.2.2).length) (RG.c2 c_.2.2)], tv, iv (RG.slot c_.2.2), .slice (RG.A1 c_.2.2) ((RG.s c_.2.2).length) (RG.c1 c_.2.2), .slice (RG.A2 c_.2.2) ((RG.m c_.2.2).length) (RG.c2 c_.2.2), tv, fv, .slice (RG.A1 c_.2.2) ((RG.s c_.2.2).length) (RG.c1 c_.2.2), iv ((RG.s c_.2.2).length : Nat), tv, .slice A steps.length c, iv ((i : Nat) : Int), .pointer (some (ad.add (i * 5))), .pointer (some ((ad.add (i * 5)).add 3)), .bool o.torn, .slice (RG.A2 c_.2.2) ((RG.m c_.2.2).length) (RG.c2 c_.2.2), .tuple #[.slice (RG.A2 c_.2.2) ((RG.m c_.2.2).length) (RG.c2 c_.2.2), .slice A2 b.length c2], .slice A1 a.length c1, .slice A2 b.length c2, iv (RG.slot c_.2.2), .slice (RG.A2 c_.2.2) ((RG.m c_.2.2).length) (RG.c2 c_.2.2), .tuple #[.slice (RG.A2 c_.2.2) ((RG.m c_.2.2).length) (RG.c2 c_.2.2), .slice A2 b.length c2], .slice (RG.A2 c_.2.2) ((RG.m c_.2.2).length) (RG.c2 c_.2.2), .slice A2 b.length c2, .slice (RG.A2 c_.2.2) ((RG.m c_.2.2).length) (RG.c2 c_.2.2), .slice A2 b.length c2, .agg #[iv ((newestF (RG.m c_.2.2) b).1 : Int), iv ((newestF (RG.m c_.2.2) b).2.1 : Int), .slice A63 ((newestF (RG.m c_.2.2) b).2.2.1.length) c64, iv ((newestF (RG.m c_.2.2) b).2.2.2 : Int)], po g65 1, iv ((newestF (RG.m c_.2.2) b).2.1 : Int), iv ((lst : Nat) : Int), fv, fv, iv ((lst : Nat) : Int), fv, fv, ud, ud, ud, fv, fv, J 87, J 88] 0) (by kernel_rfl) ?_
              refine then_n ?_
              refine wp_cond_false (by kernel_rfl) ?_
              refine wp_skip ?_
              refine then_n ?_
              refine wp_region_lit ?_
              refine pv (po g65 1) ?_
              refine wl_gv rfl (gv_ldR (v := .int .i64 ((newestF (RG.m c_.2.2) b).2.1 : Int)) rfl (by kernel_rfl) (by kernel_rfl) (((S70.blk 0 rfl).cell 1).trans rfl) ?_)
              refine pv (iv ((newestF (RG.m c_.2.2) b).2.1 : Int)) ?_
              refine wl_end _ rfl ?_
              refine inb_n ?_
              refine then_n ?_
              refine wp_region_lit ?_
              refine pv (iv ((i : Nat) : Int)) ?_
              refine wl_gv rfl (gv_int (k := .i64) (z := IntKind.i64.wrap (((i : Nat) : Int) + 1)) (z' := ((i + 1 : Nat) : Int)) (by kernel_rfl) (wr_eq (by omega) (by omega) (by omega)) ?_)
              refine pv (iv ((i + 1 : Nat) : Int)) ?_
              have S75 : St none' w w69 [bytesX (.slice (RG.A2 c_.2.2) (RG.m c_.2.2).length (RG.c2 c_.2.2)) (RG.m c_.2.2), bytesX (.slice A2 b.length c2) b] := St.permT [row g65 #[.int .i64 ((newestF (RG.m c_.2.2) b).1 : Int), .int .i64 ((newestF (RG.m c_.2.2) b).2.1 : Int), .slice A63 ((newestF (RG.m c_.2.2) b).2.2.1.length) c64, .int .i64 ((newestF (RG.m c_.2.2) b).2.2.2 : Int)] 53, bytesX (.slice A63 (newestF (RG.m c_.2.2) b).2.2.1.length c64) (newestF (RG.m c_.2.2) b).2.2.1, bytesX (.slice (RG.A1 c_.2.2) (RG.s c_.2.2).length (RG.c1 c_.2.2)) (RG.s c_.2.2), bytesX (.slice (RG.A2 c_.2.2) (RG.m c_.2.2).length (RG.c2 c_.2.2)) (RG.m c_.2.2), vec 5 1 (.slice c_.1 ((o.d.take (496 : Int).toNat).length) c_.2.1) ((o.d.take (496 : Int).toNat).length) ((o.d.take (496 : Int).toNat).map bv), bytesX (.slice A1 a.length c1) a, bytesX (.slice A2 b.length c2) b] [3, 6] (by decide) rfl S70
              have hla : (RG.m c_.2.2).length = 512 := by omega
              have hlb : b.length = 512 := by omega
              refine wl_end _ rfl ?_
              refine then_n ?_
              exact ⟨(i + 1, (RG.m c_.2.2), b, (RG.A2 c_.2.2), (RG.c2 c_.2.2), A2, c2, (newestF (RG.m c_.2.2) b).2.1), ⟨(jl [ud, ud, J 2, ud, ud, ud, ud, tv, iv (RG.slot c_.2.2), .slice (RG.A2 c_.2.2) ((RG.m c_.2.2).length) (RG.c2 c_.2.2), .slice (RG.A2 c_.2.2) ((RG.m c_.2.2).length) (RG.c2 c_.2.2), pq g65, ud, ud, ud, ud, iv ((i : Nat) : Int), .slice A steps.length c, iv (steps.length : Nat), tv, iv ((i : Nat) : Int), iv ((i + 1 : Nat) : Int), .tuple #[tv, iv (RG.slot c_.2.2), .slice (RG.A1 c_.2.2) ((RG.s c_.2.2).length) (RG.c1 c_.2.2), .slice (RG.A2 c_.2.2) ((RG.m c_.2.2).length) (RG.c2 c_.2.2)], .slice A1 a.length c1, .slice A2 b.length c2, .slice A steps.length c, iv ((i : Nat) : Int), .pointer (some (ad.add (i * 5))), .pointer (some (ad.add (i * 5))), iv o.no, .slice A steps.length c, iv ((i : Nat) : Int), .pointer (some (ad.add (i * 5))), .pointer (some ((ad.add (i * 5)).add 2)), .slice o.A o.d.length o.cd, .slice c_.1 ((o.d.take (496 : Int).toNat).length) c_.2.1, .slice A steps.length c, iv ((i : Nat) : Int), .pointer (some (ad.add (i * 5))), .pointer (some ((ad.add (i * 5)).add 1)), iv o.cut, iv ((cutF o.cut : Nat) : Int), .slice A steps.length c, iv ((i : Nat) : Int), .pointer (some (ad.add (i * 5))), .pointer (some ((ad.add (i * 5)).add 4)), .bool o.back, .tuple #[tv, iv (RG.slot c_.2.2), .slice (RG.A1 c_.2.2) ((RG.s c_.2.2).length) (RG.c1 c_.2.2), .slice (RG.A2 c_.2.2) ((RG.m c_.2.2).length) (RG.c2 c_.2.2)], tv, iv (RG.slot c_.2.2), .slice (RG.A1 c_.2.2) ((RG.s c_.2.2).length) (RG.c1 c_.2.2), .slice (RG.A2 c_.2.2) ((RG.m c_.2.2).length) (RG.c2 c_.2.2), tv, fv, .slice (RG.A1 c_.2.2) ((RG.s c_.2.2).length) (RG.c1 c_.2.2), iv ((RG.s c_.2.2).length : Nat), tv, .slice A steps.length c, iv ((i : Nat) : Int), .pointer (some (ad.add (i * 5))), .pointer (some ((ad.add (i * 5)).add 3)), .bool o.torn, .slice (RG.A2 c_.2.2) ((RG.m c_.2.2).length) (RG.c2 c_.2.2), .tuple #[.slice (RG.A2 c_.2.2) ((RG.m c_.2.2).length) (RG.c2 c_.2.2), .slice A2 b.length c2], .slice A1 a.length c1, .slice A2 b.length c2, iv (RG.slot c_.2.2), .slice (RG.A2 c_.2.2) ((RG.m c_.2.2).length) (RG.c2 c_.2.2), .tuple #[.slice (RG.A2 c_.2.2) ((RG.m c_.2.2).length) (RG.c2 c_.2.2), .slice A2 b.length c2], .slice (RG.A2 c_.2.2) ((RG.m c_.2.2).length) (RG.c2 c_.2.2), .slice A2 b.length c2, .slice (RG.A2 c_.2.2) ((RG.m c_.2.2).length) (RG.c2 c_.2.2), .slice A2 b.length c2, .agg #[iv ((newestF (RG.m c_.2.2) b).1 : Int), iv ((newestF (RG.m c_.2.2) b).2.1 : Int), .slice A63 ((newestF (RG.m c_.2.2) b).2.2.1.length) c64, iv ((newestF (RG.m c_.2.2) b).2.2.2 : Int)], po g65 1, iv ((newestF (RG.m c_.2.2) b).2.1 : Int), iv ((lst : Nat) : Int), fv, fv, iv ((lst : Nat) : Int), fv, fv, ud, ud, ud, fv, fv, po g65 1, iv ((newestF (RG.m c_.2.2) b).2.1 : Int)]), by kernel_rfl, S75, ⟨by omega, hla, hlb, Nat.le_refl _, grow_pos⟩⟩, (by show steps.length - (i + 1) < steps.length - i; omega)⟩
          · skip
            have hq := grow_next hl1 hl2 (hTt (RG.m c_.2.2) (.inr rfl))
            rw [show putIn a b (RG.slot c_.2.2).toNat (RG.m c_.2.2) = (a, (RG.m c_.2.2)) from by unfold putIn; rw [hs0]; rfl] at hq
            dsimp only at hq
            have ht5 : (RG.m c_.2.2).length = 512 := hm5
            refine pv (.slice A1 a.length c1) ?_
            refine pv (.slice A2 b.length c2) ?_
            refine pv (iv (RG.slot c_.2.2)) ?_
            refine pv (.slice (RG.A2 c_.2.2) ((RG.m c_.2.2).length) (RG.c2 c_.2.2)) ?_
            refine wl_gv rfl (gv_call (args := #[.slice A1 a.length c1, .slice A2 b.length c2, .int .i64 (RG.slot c_.2.2), .slice (RG.A2 c_.2.2) ((RG.m c_.2.2).length) (RG.c2 c_.2.2)]) rfl Try.func22 (by kernel_rfl) rfl rfl (by kernel_rfl) ?_)
            refine Calls.mono (pairOf1 (by omega)) ?_
            rintro _ _ ⟨rfl, rfl⟩
            refine ⟨_, rfl, ?_⟩
            refine pv (.tuple #[.slice A1 a.length c1, .slice (RG.A2 c_.2.2) ((RG.m c_.2.2).length) (RG.c2 c_.2.2)]) ?_
            refine pv (.slice A1 a.length c1) ?_
            refine pv (.slice (RG.A2 c_.2.2) ((RG.m c_.2.2).length) (RG.c2 c_.2.2)) ?_
            refine pv (.slice A1 a.length c1) ?_
            refine pv (.slice (RG.A2 c_.2.2) ((RG.m c_.2.2).length) (RG.c2 c_.2.2)) ?_
            refine wl_end _ rfl ?_
            refine then_n ?_
            refine wp_seq ?_
            refine wp_region_lit ?_
            refine pv (.slice A1 a.length c1) ?_
            refine pv (.slice (RG.A2 c_.2.2) ((RG.m c_.2.2).length) (RG.c2 c_.2.2)) ?_
            refine wl_gv rfl (gv_call (args := #[.slice A1 a.length c1, .slice (RG.A2 c_.2.2) ((RG.m c_.2.2).length) (RG.c2 c_.2.2)]) rfl Try.func23 (by kernel_rfl) rfl rfl (by kernel_rfl) ?_)
            refine Calls.mono (ask_all (a := a) (b := (RG.m c_.2.2)) S58 rfl rfl (RoT.bytesX 3 rfl rfl) (RoT.bytesX 1 rfl rfl) (by omega) (by omega)) ?_
            rintro _ w76 ⟨A78, c79, rfl, S77⟩
            refine ⟨_, rfl, ?_⟩
            refine wl_gv rfl (gv_new (z := .agg #[.int .i64 0, .int .i64 0, .slice none 0 0, .int .i64 0]) S77 rfl (by kernel_rfl) (fun g80 w81 hg82 S83 => ?_))
            refine wl_gv rfl (gv_stA (k := 0) (vs := [.int .i64 ((newestF a (RG.m c_.2.2)).1 : Int), .int .i64 ((newestF a (RG.m c_.2.2)).2.1 : Int), .slice A78 ((newestF a (RG.m c_.2.2)).2.2.1.length) c79, .int .i64 ((newestF a (RG.m c_.2.2)).2.2.2 : Int)]) S83 0 rfl rfl (by kernel_rfl) (by kernel_rfl) (by kernel_rfl) rfl (by simp [Value.oneCell']) (Nat.le_of_ble_eq_true (by kernel_rfl)) (L' := [row g80 #[.int .i64 ((newestF a (RG.m c_.2.2)).1 : Int), .int .i64 ((newestF a (RG.m c_.2.2)).2.1 : Int), .slice A78 ((newestF a (RG.m c_.2.2)).2.2.1.length) c79, .int .i64 ((newestF a (RG.m c_.2.2)).2.2.2 : Int)] 53, bytesX (.slice A78 (newestF a (RG.m c_.2.2)).2.2.1.length c79) (newestF a (RG.m c_.2.2)).2.2.1, bytesX (.slice (RG.A1 c_.2.2) (RG.s c_.2.2).length (RG.c1 c_.2.2)) (RG.s c_.2.2), bytesX (.slice (RG.A2 c_.2.2) (RG.m c_.2.2).length (RG.c2 c_.2.2)) (RG.m c_.2.2), vec 5 1 (.slice c_.1 ((o.d.take (496 : Int).toNat).length) c_.2.1) ((o.d.take (496 : Int).toNat).length) ((o.d.take (496 : Int).toNat).map bv), bytesX (.slice A1 a.length c1) a, bytesX (.slice A2 b.length c2) b]) rfl (fun w84 S85 => ?_))
            refine wl_end _ rfl ?_
            refine then_n ?_
            refine wp_seq ?_
            refine wp_seq ?_
            refine wp_region_lit ?_
            refine pv (po g80 1) ?_
            refine wl_gv rfl (gv_ldR (v := .int .i64 ((newestF a (RG.m c_.2.2)).2.1 : Int)) rfl (by kernel_rfl) (by kernel_rfl) (((S85.blk 0 rfl).cell 1).trans rfl) ?_)
            refine pv (iv ((lst : Nat) : Int)) ?_
            refine wl_gv rfl (gv_dec (p := (((newestF a (RG.m c_.2.2)).2.1 : Int) : Int) < ((lst : Nat) : Int)) (by kernel_rfl) (fun hd86 => False.elim (by have := hq.1; omega)) (fun _ => ?_))
            refine pv fv ?_
            refine wl_when (by kernel_rfl) (gv_val (v := .int .i64 ((lst : Nat) : Int)) (w' := w84) (by kernel_rfl) ?_)
            refine wl_when (by kernel_rfl) (gv_dec (p := (((lst : Nat) : Int) : Int) > 0) (by kernel_rfl) (fun hb87 => ?_) (fun hb87 => ?_))
            · skip
              refine wl_when (by kernel_rfl) (gv_val (v := .bool true) (w' := w84) (by kernel_rfl) ?_)
              refine wl_when (by kernel_rfl) (gv_val (v := .pointer (some ⟨g80, 3, none⟩)) (w' := w84) (by kernel_rfl) ?_)
              refine wl_when (by kernel_rfl) (gv_ldR (v := .int .i64 ((newestF a (RG.m c_.2.2)).2.2.2 : Int)) rfl (by kernel_rfl) (by kernel_rfl) (((S85.blk 0 rfl).cell 3).trans rfl) ?_)
              refine wl_when (by kernel_rfl) (gv_ne (x := ((newestF a (RG.m c_.2.2)).2.2.2 : Int)) (y := 0) (by kernel_rfl) (fun hd88 => False.elim (by have := hq.2 (by omega); omega)) (fun _ => ?_))
              refine wl_when (by kernel_rfl) (gv_val (v := .bool false) (w' := w84) (by kernel_rfl) ?_)
              refine pv fv ?_
              refine wl_end (fr [.slice A steps.length c, ud, J 2, .slice A1 a.length c1, .slice (RG.A2 c_.2.2) ((RG.m c_.2.2).length) (RG.c2 c_.2.2), iv ((lst : Nat) : Int), iv ((i : Nat) : Int), tv, iv (RG.slot c_.2.2), .slice (RG.A2 c_.2.2) ((RG.m c_.2.2).length) (RG.c2 c_.2.2), .slice (RG.A2 c_.2.2) ((RG.m c_.2.2).length) (RG.c2 c_.2.2), pq g80, .slice Al z.length cl, .slice Ar z.length cr, tv, fv, iv ((i : Nat) : Int), .slice A steps.length c, iv (steps.length : Nat), tv, J 20, J 21, .tuple #[tv, iv (RG.slot c_.2.2), .slice (RG.A1 c_.2.2) ((RG.s c_.2.2).length) (RG.c1 c_.2.2), .slice (RG.A2 c_.2.2) ((RG.m c_.2.2).length) (RG.c2 c_.2.2)], .slice A1 a.length c1, .slice A2 b.length c2, .slice A steps.length c, iv ((i : Nat) : Int), .pointer (some (ad.add (i * 5))), .pointer (some (ad.add (i * 5))), iv o.no, .slice A steps.length c, iv ((i : Nat) : Int), .pointer (some (ad.add (i * 5))), .pointer (some ((ad.add (i * 5)).add 2)), .slice o.A o.d.length o.cd, .slice c_.1 ((o.d.take (496 : Int).toNat).length) c_.2.1, .slice A steps.length c, iv ((i : Nat) : Int), .pointer (some (ad.add (i * 5))), .pointer (some ((ad.add (i * 5)).add 1)), iv o.cut, iv ((cutF o.cut : Nat) : Int), .slice A steps.length c, iv ((i : Nat) : Int), .pointer (some (ad.add (i * 5))), .pointer (some ((ad.add (i * 5)).add 4)), .bool o.back, .tuple #[tv, iv (RG.slot c_.2.2), .slice (RG.A1 c_.2.2) ((RG.s c_.2.2).length) (RG.c1 c_.2.2), .slice (RG.A2 c_.2.2) ((RG.m c_.2.2).length) (RG.c2 c_.2.2)], tv, iv (RG.slot c_.2.2), .slice (RG.A1 c_.2.2) ((RG.s c_.2.2).length) (RG.c1 c_.2.2), .slice (RG.A2 c_.2.2) ((RG.m c_.2.2).length) (RG.c2 c_.2.2), tv, fv, .slice (RG.A1 c_.2.2) ((RG.s c_.2.2).length) (RG.c1 c_.2.2), iv ((RG.s c_.2.2).length : Nat), tv, .slice A steps.length c, iv ((i : Nat) : Int), .pointer (some (ad.add (i * 5))), .pointer (some ((ad.add (i * 5)).add 3)), .bool o.torn, .slice (RG.A2 c_.2.2) ((RG.m c_.2.2).length) (RG.c2 c_.2.2), .tuple #[.slice A1 a.length c1, .slice (RG.A2 c_.2.2) ((RG.m c_.2.2).length) (RG.c2 c_.2.2)], .slice A1 a.length c1, .slice A2 b.length c2, iv (RG.slot c_.2.2), .slice (RG.A2 c_.2.2) ((RG.m c_.2.2).length) (RG.c2 c_.2.2), .tuple #[.slice A1 a.length c1, .slice (RG.A2 c_.2.2) ((RG.m c_.2.2).length) (RG.c2 c_.2.2)], .slice A1 a.length c1, .slice (RG.A2 c_.2.2) ((RG.m c_.2.2).length) (RG.c2 c_.2.2), .slice A1 a.length c1, .slice (RG.A2 c_.2.2) ((RG.m c_.2.2).length) (RG.c2 c_.2.2), .agg #[iv ((newestF a (RG.m c_.2.2)).1 : Int), iv ((newestF a (RG.m c_.2.2)).2.1 : Int), .slice A78 ((newestF a (RG.m c_.2.2)).2.2.1.length) c79, iv ((newestF a (RG.m c_.2.2)).2.2.2 : Int)], po g80 1, iv ((newestF a (RG.m c_.2.2)).2.1 : Int), iv ((lst : Nat) : Int), fv, fv, iv ((lst : Nat) : Int), tv, tv, po g80 3, iv ((newestF a (RG.m c_.2.2)).2.2.2 : Int), fv, fv, fv, J 87, J 88] 0) (by kernel_rfl) ?_
              refine then_n ?_
              refine wp_cond_false (by kernel_rfl) ?_
              refine wp_skip ?_
              refine then_n ?_
              refine wp_region_lit ?_
              refine pv (po g80 1) ?_
              refine wl_gv rfl (gv_ldR (v := .int .i64 ((newestF a (RG.m c_.2.2)).2.1 : Int)) rfl (by kernel_rfl) (by kernel_rfl) (((S85.blk 0 rfl).cell 1).trans rfl) ?_)
              refine pv (iv ((newestF a (RG.m c_.2.2)).2.1 : Int)) ?_
              refine wl_end _ rfl ?_
              refine inb_n ?_
              refine then_n ?_
              refine wp_region_lit ?_
              refine pv (iv ((i : Nat) : Int)) ?_
              refine wl_gv rfl (gv_int (k := .i64) (z := IntKind.i64.wrap (((i : Nat) : Int) + 1)) (z' := ((i + 1 : Nat) : Int)) (by kernel_rfl) (wr_eq (by omega) (by omega) (by omega)) ?_)
              refine pv (iv ((i + 1 : Nat) : Int)) ?_
              have S89 : St none' w w84 [bytesX (.slice A1 a.length c1) a, bytesX (.slice (RG.A2 c_.2.2) (RG.m c_.2.2).length (RG.c2 c_.2.2)) (RG.m c_.2.2)] := St.permT [row g80 #[.int .i64 ((newestF a (RG.m c_.2.2)).1 : Int), .int .i64 ((newestF a (RG.m c_.2.2)).2.1 : Int), .slice A78 ((newestF a (RG.m c_.2.2)).2.2.1.length) c79, .int .i64 ((newestF a (RG.m c_.2.2)).2.2.2 : Int)] 53, bytesX (.slice A78 (newestF a (RG.m c_.2.2)).2.2.1.length c79) (newestF a (RG.m c_.2.2)).2.2.1, bytesX (.slice (RG.A1 c_.2.2) (RG.s c_.2.2).length (RG.c1 c_.2.2)) (RG.s c_.2.2), bytesX (.slice (RG.A2 c_.2.2) (RG.m c_.2.2).length (RG.c2 c_.2.2)) (RG.m c_.2.2), vec 5 1 (.slice c_.1 ((o.d.take (496 : Int).toNat).length) c_.2.1) ((o.d.take (496 : Int).toNat).length) ((o.d.take (496 : Int).toNat).map bv), bytesX (.slice A1 a.length c1) a, bytesX (.slice A2 b.length c2) b] [5, 3] (by decide) rfl S85
              have hla : a.length = 512 := by omega
              have hlb : (RG.m c_.2.2).length = 512 := by omega
              refine wl_end _ rfl ?_
              refine then_n ?_
              exact ⟨(i + 1, a, (RG.m c_.2.2), A1, c1, (RG.A2 c_.2.2), (RG.c2 c_.2.2), (newestF a (RG.m c_.2.2)).2.1), ⟨(jl [ud, ud, J 2, ud, ud, ud, ud, tv, iv (RG.slot c_.2.2), .slice (RG.A2 c_.2.2) ((RG.m c_.2.2).length) (RG.c2 c_.2.2), .slice (RG.A2 c_.2.2) ((RG.m c_.2.2).length) (RG.c2 c_.2.2), pq g80, ud, ud, ud, ud, iv ((i : Nat) : Int), .slice A steps.length c, iv (steps.length : Nat), tv, iv ((i : Nat) : Int), iv ((i + 1 : Nat) : Int), .tuple #[tv, iv (RG.slot c_.2.2), .slice (RG.A1 c_.2.2) ((RG.s c_.2.2).length) (RG.c1 c_.2.2), .slice (RG.A2 c_.2.2) ((RG.m c_.2.2).length) (RG.c2 c_.2.2)], .slice A1 a.length c1, .slice A2 b.length c2, .slice A steps.length c, iv ((i : Nat) : Int), .pointer (some (ad.add (i * 5))), .pointer (some (ad.add (i * 5))), iv o.no, .slice A steps.length c, iv ((i : Nat) : Int), .pointer (some (ad.add (i * 5))), .pointer (some ((ad.add (i * 5)).add 2)), .slice o.A o.d.length o.cd, .slice c_.1 ((o.d.take (496 : Int).toNat).length) c_.2.1, .slice A steps.length c, iv ((i : Nat) : Int), .pointer (some (ad.add (i * 5))), .pointer (some ((ad.add (i * 5)).add 1)), iv o.cut, iv ((cutF o.cut : Nat) : Int), .slice A steps.length c, iv ((i : Nat) : Int), .pointer (some (ad.add (i * 5))), .pointer (some ((ad.add (i * 5)).add 4)), .bool o.back, .tuple #[tv, iv (RG.slot c_.2.2), .slice (RG.A1 c_.2.2) ((RG.s c_.2.2).length) (RG.c1 c_.2.2), .slice (RG.A2 c_.2.2) ((RG.m c_.2.2).length) (RG.c2 c_.2.2)], tv, iv (RG.slot c_.2.2), .slice (RG.A1 c_.2.2) ((RG.s c_.2.2).length) (RG.c1 c_.2.2), .slice (RG.A2 c_.2.2) ((RG.m c_.2.2).length) (RG.c2 c_.2.2), tv, fv, .slice (RG.A1 c_.2.2) ((RG.s c_.2.2).length) (RG.c1 c_.2.2), iv ((RG.s c_.2.2).length : Nat), tv, .slice A steps.length c, iv ((i : Nat) : Int), .pointer (some (ad.add (i * 5))), .pointer (some ((ad.add (i * 5)).add 3)), .bool o.torn, .slice (RG.A2 c_.2.2) ((RG.m c_.2.2).length) (RG.c2 c_.2.2), .tuple #[.slice A1 a.length c1, .slice (RG.A2 c_.2.2) ((RG.m c_.2.2).length) (RG.c2 c_.2.2)], .slice A1 a.length c1, .slice A2 b.length c2, iv (RG.slot c_.2.2), .slice (RG.A2 c_.2.2) ((RG.m c_.2.2).length) (RG.c2 c_.2.2), .tuple #[.slice A1 a.length c1, .slice (RG.A2 c_.2.2) ((RG.m c_.2.2).length) (RG.c2 c_.2.2)], .slice A1 a.length c1, .slice (RG.A2 c_.2.2) ((RG.m c_.2.2).length) (RG.c2 c_.2.2), .slice A1 a.length c1, .slice (RG.A2 c_.2.2) ((RG.m c_.2.2).length) (RG.c2 c_.2.2), .agg #[iv ((newestF a (RG.m c_.2.2)).1 : Int), iv ((newestF a (RG.m c_.2.2)).2.1 : Int), .slice A78 ((newestF a (RG.m c_.2.2)).2.2.1.length) c79, iv ((newestF a (RG.m c_.2.2)).2.2.2 : Int)], po g80 1, iv ((newestF a (RG.m c_.2.2)).2.1 : Int), iv ((lst : Nat) : Int), fv, fv, iv ((lst : Nat) : Int), tv, tv, po g80 3, iv ((newestF a (RG.m c_.2.2)).2.2.2 : Int), fv, fv, fv, po g80 1, iv ((newestF a (RG.m c_.2.2)).2.1 : Int)]), by kernel_rfl, S89, ⟨by omega, hla, hlb, Nat.le_refl _, grow_pos⟩⟩, (by show steps.length - (i + 1) < steps.length - i; omega)⟩
            · skip
              refine wl_when (by kernel_rfl) (gv_val (v := .bool false) (w' := w84) (by kernel_rfl) ?_)
              refine wl_not (by kernel_rfl) ?_
              refine wl_not (by kernel_rfl) ?_
              refine wl_not (by kernel_rfl) ?_
              refine wl_when (by kernel_rfl) (gv_val (v := .bool false) (w' := w84) (by kernel_rfl) ?_)
              refine pv fv ?_
              refine wl_end (fr [.slice A steps.length c, ud, J 2, .slice A1 a.length c1, .slice (RG.A2 c_.2.2) ((RG.m c_.2.2).length) (RG.c2 c_.2.2), iv ((lst : Nat) : Int), iv ((i : Nat) : Int), tv, iv (RG.slot c_.2.2), .slice (RG.A2 c_.2.2) ((RG.m c_.2.2).length) (RG.c2 c_.2.2), .slice (RG.A2 c_.2.2) ((RG.m c_.2.2).length) (RG.c2 c_.2.2), pq g80, .slice Al z.length cl, .slice Ar z.length cr, tv, fv, iv ((i : Nat) : Int), .slice A steps.length c, iv (steps.length : Nat), tv, J 20, J 21, .tuple #[tv, iv (RG.slot c_.2.2), .slice (RG.A1 c_.2.2) ((RG.s c_.2.2).length) (RG.c1 c_.2.2), .slice (RG.A2 c_.2.2) ((RG.m c_.2.2).length) (RG.c2 c_.2.2)], .slice A1 a.length c1, .slice A2 b.length c2, .slice A steps.length c, iv ((i : Nat) : Int), .pointer (some (ad.add (i * 5))), .pointer (some (ad.add (i * 5))), iv o.no, .slice A steps.length c, iv ((i : Nat) : Int), .pointer (some (ad.add (i * 5))), .pointer (some ((ad.add (i * 5)).add 2)), .slice o.A o.d.length o.cd, .slice c_.1 ((o.d.take (496 : Int).toNat).length) c_.2.1, .slice A steps.length c, iv ((i : Nat) : Int), .pointer (some (ad.add (i * 5))), .pointer (some ((ad.add (i * 5)).add 1)), iv o.cut, iv ((cutF o.cut : Nat) : Int), .slice A steps.length c, iv ((i : Nat) : Int), .pointer (some (ad.add (i * 5))), .pointer (some ((ad.add (i * 5)).add 4)), .bool o.back, .tuple #[tv, iv (RG.slot c_.2.2), .slice (RG.A1 c_.2.2) ((RG.s c_.2.2).length) (RG.c1 c_.2.2), .slice (RG.A2 c_.2.2) ((RG.m c_.2.2).length) (RG.c2 c_.2.2)], tv, iv (RG.slot c_.2.2), .slice (RG.A1 c_.2.2) ((RG.s c_.2.2).length) (RG.c1 c_.2.2), .slice (RG.A2 c_.2.2) ((RG.m c_.2.2).length) (RG.c2 c_.2.2), tv, fv, .slice (RG.A1 c_.2.2) ((RG.s c_.2.2).length) (RG.c1 c_.2.2), iv ((RG.s c_.2.2).length : Nat), tv, .slice A steps.length c, iv ((i : Nat) : Int), .pointer (some (ad.add (i * 5))), .pointer (some ((ad.add (i * 5)).add 3)), .bool o.torn, .slice (RG.A2 c_.2.2) ((RG.m c_.2.2).length) (RG.c2 c_.2.2), .tuple #[.slice A1 a.length c1, .slice (RG.A2 c_.2.2) ((RG.m c_.2.2).length) (RG.c2 c_.2.2)], .slice A1 a.length c1, .slice A2 b.length c2, iv (RG.slot c_.2.2), .slice (RG.A2 c_.2.2) ((RG.m c_.2.2).length) (RG.c2 c_.2.2), .tuple #[.slice A1 a.length c1, .slice (RG.A2 c_.2.2) ((RG.m c_.2.2).length) (RG.c2 c_.2.2)], .slice A1 a.length c1, .slice (RG.A2 c_.2.2) ((RG.m c_.2.2).length) (RG.c2 c_.2.2), .slice A1 a.length c1, .slice (RG.A2 c_.2.2) ((RG.m c_.2.2).length) (RG.c2 c_.2.2), .agg #[iv ((newestF a (RG.m c_.2.2)).1 : Int), iv ((newestF a (RG.m c_.2.2)).2.1 : Int), .slice A78 ((newestF a (RG.m c_.2.2)).2.2.1.length) c79, iv ((newestF a (RG.m c_.2.2)).2.2.2 : Int)], po g80 1, iv ((newestF a (RG.m c_.2.2)).2.1 : Int), iv ((lst : Nat) : Int), fv, fv, iv ((lst : Nat) : Int), fv, fv, ud, ud, ud, fv, fv, J 87, J 88] 0) (by kernel_rfl) ?_
              refine then_n ?_
              refine wp_cond_false (by kernel_rfl) ?_
              refine wp_skip ?_
              refine then_n ?_
              refine wp_region_lit ?_
              refine pv (po g80 1) ?_
              refine wl_gv rfl (gv_ldR (v := .int .i64 ((newestF a (RG.m c_.2.2)).2.1 : Int)) rfl (by kernel_rfl) (by kernel_rfl) (((S85.blk 0 rfl).cell 1).trans rfl) ?_)
              refine pv (iv ((newestF a (RG.m c_.2.2)).2.1 : Int)) ?_
              refine wl_end _ rfl ?_
              refine inb_n ?_
              refine then_n ?_
              refine wp_region_lit ?_
              refine pv (iv ((i : Nat) : Int)) ?_
              refine wl_gv rfl (gv_int (k := .i64) (z := IntKind.i64.wrap (((i : Nat) : Int) + 1)) (z' := ((i + 1 : Nat) : Int)) (by kernel_rfl) (wr_eq (by omega) (by omega) (by omega)) ?_)
              refine pv (iv ((i + 1 : Nat) : Int)) ?_
              have S90 : St none' w w84 [bytesX (.slice A1 a.length c1) a, bytesX (.slice (RG.A2 c_.2.2) (RG.m c_.2.2).length (RG.c2 c_.2.2)) (RG.m c_.2.2)] := St.permT [row g80 #[.int .i64 ((newestF a (RG.m c_.2.2)).1 : Int), .int .i64 ((newestF a (RG.m c_.2.2)).2.1 : Int), .slice A78 ((newestF a (RG.m c_.2.2)).2.2.1.length) c79, .int .i64 ((newestF a (RG.m c_.2.2)).2.2.2 : Int)] 53, bytesX (.slice A78 (newestF a (RG.m c_.2.2)).2.2.1.length c79) (newestF a (RG.m c_.2.2)).2.2.1, bytesX (.slice (RG.A1 c_.2.2) (RG.s c_.2.2).length (RG.c1 c_.2.2)) (RG.s c_.2.2), bytesX (.slice (RG.A2 c_.2.2) (RG.m c_.2.2).length (RG.c2 c_.2.2)) (RG.m c_.2.2), vec 5 1 (.slice c_.1 ((o.d.take (496 : Int).toNat).length) c_.2.1) ((o.d.take (496 : Int).toNat).length) ((o.d.take (496 : Int).toNat).map bv), bytesX (.slice A1 a.length c1) a, bytesX (.slice A2 b.length c2) b] [5, 3] (by decide) rfl S85
              have hla : a.length = 512 := by omega
              have hlb : (RG.m c_.2.2).length = 512 := by omega
              refine wl_end _ rfl ?_
              refine then_n ?_
              exact ⟨(i + 1, a, (RG.m c_.2.2), A1, c1, (RG.A2 c_.2.2), (RG.c2 c_.2.2), (newestF a (RG.m c_.2.2)).2.1), ⟨(jl [ud, ud, J 2, ud, ud, ud, ud, tv, iv (RG.slot c_.2.2), .slice (RG.A2 c_.2.2) ((RG.m c_.2.2).length) (RG.c2 c_.2.2), .slice (RG.A2 c_.2.2) ((RG.m c_.2.2).length) (RG.c2 c_.2.2), pq g80, ud, ud, ud, ud, iv ((i : Nat) : Int), .slice A steps.length c, iv (steps.length : Nat), tv, iv ((i : Nat) : Int), iv ((i + 1 : Nat) : Int), .tuple #[tv, iv (RG.slot c_.2.2), .slice (RG.A1 c_.2.2) ((RG.s c_.2.2).length) (RG.c1 c_.2.2), .slice (RG.A2 c_.2.2) ((RG.m c_.2.2).length) (RG.c2 c_.2.2)], .slice A1 a.length c1, .slice A2 b.length c2, .slice A steps.length c, iv ((i : Nat) : Int), .pointer (some (ad.add (i * 5))), .pointer (some (ad.add (i * 5))), iv o.no, .slice A steps.length c, iv ((i : Nat) : Int), .pointer (some (ad.add (i * 5))), .pointer (some ((ad.add (i * 5)).add 2)), .slice o.A o.d.length o.cd, .slice c_.1 ((o.d.take (496 : Int).toNat).length) c_.2.1, .slice A steps.length c, iv ((i : Nat) : Int), .pointer (some (ad.add (i * 5))), .pointer (some ((ad.add (i * 5)).add 1)), iv o.cut, iv ((cutF o.cut : Nat) : Int), .slice A steps.length c, iv ((i : Nat) : Int), .pointer (some (ad.add (i * 5))), .pointer (some ((ad.add (i * 5)).add 4)), .bool o.back, .tuple #[tv, iv (RG.slot c_.2.2), .slice (RG.A1 c_.2.2) ((RG.s c_.2.2).length) (RG.c1 c_.2.2), .slice (RG.A2 c_.2.2) ((RG.m c_.2.2).length) (RG.c2 c_.2.2)], tv, iv (RG.slot c_.2.2), .slice (RG.A1 c_.2.2) ((RG.s c_.2.2).length) (RG.c1 c_.2.2), .slice (RG.A2 c_.2.2) ((RG.m c_.2.2).length) (RG.c2 c_.2.2), tv, fv, .slice (RG.A1 c_.2.2) ((RG.s c_.2.2).length) (RG.c1 c_.2.2), iv ((RG.s c_.2.2).length : Nat), tv, .slice A steps.length c, iv ((i : Nat) : Int), .pointer (some (ad.add (i * 5))), .pointer (some ((ad.add (i * 5)).add 3)), .bool o.torn, .slice (RG.A2 c_.2.2) ((RG.m c_.2.2).length) (RG.c2 c_.2.2), .tuple #[.slice A1 a.length c1, .slice (RG.A2 c_.2.2) ((RG.m c_.2.2).length) (RG.c2 c_.2.2)], .slice A1 a.length c1, .slice A2 b.length c2, iv (RG.slot c_.2.2), .slice (RG.A2 c_.2.2) ((RG.m c_.2.2).length) (RG.c2 c_.2.2), .tuple #[.slice A1 a.length c1, .slice (RG.A2 c_.2.2) ((RG.m c_.2.2).length) (RG.c2 c_.2.2)], .slice A1 a.length c1, .slice (RG.A2 c_.2.2) ((RG.m c_.2.2).length) (RG.c2 c_.2.2), .slice A1 a.length c1, .slice (RG.A2 c_.2.2) ((RG.m c_.2.2).length) (RG.c2 c_.2.2), .agg #[iv ((newestF a (RG.m c_.2.2)).1 : Int), iv ((newestF a (RG.m c_.2.2)).2.1 : Int), .slice A78 ((newestF a (RG.m c_.2.2)).2.2.1.length) c79, iv ((newestF a (RG.m c_.2.2)).2.2.2 : Int)], po g80 1, iv ((newestF a (RG.m c_.2.2)).2.1 : Int), iv ((lst : Nat) : Int), fv, fv, iv ((lst : Nat) : Int), fv, fv, ud, ud, ud, fv, fv, po g80 1, iv ((newestF a (RG.m c_.2.2)).2.1 : Int)]), by kernel_rfl, S90, ⟨by omega, hla, hlb, Nat.le_refl _, grow_pos⟩⟩, (by show steps.length - (i + 1) < steps.length - i; omega)⟩
        · skip
          refine wp_skip ?_
          refine then_n ?_
          refine wp_region_lit ?_
          rcases hsl with hs0 | hs0
          · skip
            have hq := grow_next hl1 hl2 (hTt (RG.s c_.2.2) (.inl rfl))
            rw [show putIn a b (RG.slot c_.2.2).toNat (RG.s c_.2.2) = ((RG.s c_.2.2), b) from by unfold putIn; rw [hs0]; rfl] at hq
            dsimp only at hq
            have ht5 : (RG.s c_.2.2).length = 512 := hs5
            refine pv (.slice A1 a.length c1) ?_
            refine pv (.slice A2 b.length c2) ?_
            refine pv (iv (RG.slot c_.2.2)) ?_
            refine pv (.slice (RG.A1 c_.2.2) ((RG.s c_.2.2).length) (RG.c1 c_.2.2)) ?_
            refine wl_gv rfl (gv_call (args := #[.slice A1 a.length c1, .slice A2 b.length c2, .int .i64 (RG.slot c_.2.2), .slice (RG.A1 c_.2.2) ((RG.s c_.2.2).length) (RG.c1 c_.2.2)]) rfl Try.func22 (by kernel_rfl) rfl rfl (by kernel_rfl) ?_)
            refine Calls.mono (pairOf0 (by omega)) ?_
            rintro _ _ ⟨rfl, rfl⟩
            refine ⟨_, rfl, ?_⟩
            refine pv (.tuple #[.slice (RG.A1 c_.2.2) ((RG.s c_.2.2).length) (RG.c1 c_.2.2), .slice A2 b.length c2]) ?_
            refine pv (.slice (RG.A1 c_.2.2) ((RG.s c_.2.2).length) (RG.c1 c_.2.2)) ?_
            refine pv (.slice A2 b.length c2) ?_
            refine pv (.slice (RG.A1 c_.2.2) ((RG.s c_.2.2).length) (RG.c1 c_.2.2)) ?_
            refine pv (.slice A2 b.length c2) ?_
            refine wl_end _ rfl ?_
            refine then_n ?_
            refine wp_seq ?_
            refine wp_region_lit ?_
            refine pv (.slice (RG.A1 c_.2.2) ((RG.s c_.2.2).length) (RG.c1 c_.2.2)) ?_
            refine pv (.slice A2 b.length c2) ?_
            refine wl_gv rfl (gv_call (args := #[.slice (RG.A1 c_.2.2) ((RG.s c_.2.2).length) (RG.c1 c_.2.2), .slice A2 b.length c2]) rfl Try.func23 (by kernel_rfl) rfl rfl (by kernel_rfl) ?_)
            refine Calls.mono (ask_all (a := (RG.s c_.2.2)) (b := b) S58 rfl rfl (RoT.bytesX 0 rfl rfl) (RoT.bytesX 4 rfl rfl) (by omega) (by omega)) ?_
            rintro _ w91 ⟨A93, c94, rfl, S92⟩
            refine ⟨_, rfl, ?_⟩
            refine wl_gv rfl (gv_new (z := .agg #[.int .i64 0, .int .i64 0, .slice none 0 0, .int .i64 0]) S92 rfl (by kernel_rfl) (fun g95 w96 hg97 S98 => ?_))
            refine wl_gv rfl (gv_stA (k := 0) (vs := [.int .i64 ((newestF (RG.s c_.2.2) b).1 : Int), .int .i64 ((newestF (RG.s c_.2.2) b).2.1 : Int), .slice A93 ((newestF (RG.s c_.2.2) b).2.2.1.length) c94, .int .i64 ((newestF (RG.s c_.2.2) b).2.2.2 : Int)]) S98 0 rfl rfl (by kernel_rfl) (by kernel_rfl) (by kernel_rfl) rfl (by simp [Value.oneCell']) (Nat.le_of_ble_eq_true (by kernel_rfl)) (L' := [row g95 #[.int .i64 ((newestF (RG.s c_.2.2) b).1 : Int), .int .i64 ((newestF (RG.s c_.2.2) b).2.1 : Int), .slice A93 ((newestF (RG.s c_.2.2) b).2.2.1.length) c94, .int .i64 ((newestF (RG.s c_.2.2) b).2.2.2 : Int)] 53, bytesX (.slice A93 (newestF (RG.s c_.2.2) b).2.2.1.length c94) (newestF (RG.s c_.2.2) b).2.2.1, bytesX (.slice (RG.A1 c_.2.2) (RG.s c_.2.2).length (RG.c1 c_.2.2)) (RG.s c_.2.2), bytesX (.slice (RG.A2 c_.2.2) (RG.m c_.2.2).length (RG.c2 c_.2.2)) (RG.m c_.2.2), vec 5 1 (.slice c_.1 ((o.d.take (496 : Int).toNat).length) c_.2.1) ((o.d.take (496 : Int).toNat).length) ((o.d.take (496 : Int).toNat).map bv), bytesX (.slice A1 a.length c1) a, bytesX (.slice A2 b.length c2) b]) rfl (fun w99 S100 => ?_))
            refine wl_end _ rfl ?_
            refine then_n ?_
            refine wp_seq ?_
            refine wp_seq ?_
            refine wp_region_lit ?_
            refine pv (po g95 1) ?_
            refine wl_gv rfl (gv_ldR (v := .int .i64 ((newestF (RG.s c_.2.2) b).2.1 : Int)) rfl (by kernel_rfl) (by kernel_rfl) (((S100.blk 0 rfl).cell 1).trans rfl) ?_)
            refine pv (iv ((lst : Nat) : Int)) ?_
            refine wl_gv rfl (gv_dec (p := (((newestF (RG.s c_.2.2) b).2.1 : Int) : Int) < ((lst : Nat) : Int)) (by kernel_rfl) (fun hd101 => False.elim (by have := hq.1; omega)) (fun _ => ?_))
            refine pv fv ?_
            refine wl_when (by kernel_rfl) (gv_val (v := .int .i64 ((lst : Nat) : Int)) (w' := w99) (by kernel_rfl) ?_)
            refine wl_when (by kernel_rfl) (gv_dec (p := (((lst : Nat) : Int) : Int) > 0) (by kernel_rfl) (fun hb102 => ?_) (fun hb102 => ?_))
            · skip
              refine wl_when (by kernel_rfl) (gv_val (v := .bool true) (w' := w99) (by kernel_rfl) ?_)
              refine wl_when (by kernel_rfl) (gv_val (v := .pointer (some ⟨g95, 3, none⟩)) (w' := w99) (by kernel_rfl) ?_)
              refine wl_when (by kernel_rfl) (gv_ldR (v := .int .i64 ((newestF (RG.s c_.2.2) b).2.2.2 : Int)) rfl (by kernel_rfl) (by kernel_rfl) (((S100.blk 0 rfl).cell 3).trans rfl) ?_)
              refine wl_when (by kernel_rfl) (gv_ne (x := ((newestF (RG.s c_.2.2) b).2.2.2 : Int)) (y := 0) (by kernel_rfl) (fun hd103 => False.elim (by have := hq.2 (by omega); omega)) (fun _ => ?_))
              refine wl_when (by kernel_rfl) (gv_val (v := .bool false) (w' := w99) (by kernel_rfl) ?_)
              refine pv fv ?_
              refine wl_end (fr [.slice A steps.length c, ud, J 2, .slice (RG.A1 c_.2.2) ((RG.s c_.2.2).length) (RG.c1 c_.2.2), .slice A2 b.length c2, iv ((lst : Nat) : Int), iv ((i : Nat) : Int), tv, iv (RG.slot c_.2.2), .slice (RG.A1 c_.2.2) ((RG.s c_.2.2).length) (RG.c1 c_.2.2), .slice (RG.A2 c_.2.2) ((RG.m c_.2.2).length) (RG.c2 c_.2.2), pq g95, .slice Al z.length cl, .slice Ar z.length cr, tv, fv, iv ((i : Nat) : Int), .slice A steps.length c, iv (steps.length : Nat), tv, J 20, J 21, .tuple #[tv, iv (RG.slot c_.2.2), .slice (RG.A1 c_.2.2) ((RG.s c_.2.2).length) (RG.c1 c_.2.2), .slice (RG.A2 c_.2.2) ((RG.m c_.2.2).length) (RG.c2 c_.2.2)], .slice A1 a.length c1, .slice A2 b.length c2, .slice A steps.length c, iv ((i : Nat) : Int), .pointer (some (ad.add (i * 5))), .pointer (some (ad.add (i * 5))), iv o.no, .slice A steps.length c, iv ((i : Nat) : Int), .pointer (some (ad.add (i * 5))), .pointer (some ((ad.add (i * 5)).add 2)), .slice o.A o.d.length o.cd, .slice c_.1 ((o.d.take (496 : Int).toNat).length) c_.2.1, .slice A steps.length c, iv ((i : Nat) : Int), .pointer (some (ad.add (i * 5))), .pointer (some ((ad.add (i * 5)).add 1)), iv o.cut, iv ((cutF o.cut : Nat) : Int), .slice A steps.length c, iv ((i : Nat) : Int), .pointer (some (ad.add (i * 5))), .pointer (some ((ad.add (i * 5)).add 4)), .bool o.back, .tuple #[tv, iv (RG.slot c_.2.2), .slice (RG.A1 c_.2.2) ((RG.s c_.2.2).length) (RG.c1 c_.2.2), .slice (RG.A2 c_.2.2) ((RG.m c_.2.2).length) (RG.c2 c_.2.2)], tv, iv (RG.slot c_.2.2), .slice (RG.A1 c_.2.2) ((RG.s c_.2.2).length) (RG.c1 c_.2.2), .slice (RG.A2 c_.2.2) ((RG.m c_.2.2).length) (RG.c2 c_.2.2), tv, fv, .slice (RG.A1 c_.2.2) ((RG.s c_.2.2).length) (RG.c1 c_.2.2), iv ((RG.s c_.2.2).length : Nat), tv, .slice A steps.length c, iv ((i : Nat) : Int), .pointer (some (ad.add (i * 5))), .pointer (some ((ad.add (i * 5)).add 3)), .bool o.torn, J 62, .tuple #[.slice (RG.A1 c_.2.2) ((RG.s c_.2.2).length) (RG.c1 c_.2.2), .slice A2 b.length c2], .slice A1 a.length c1, .slice A2 b.length c2, iv (RG.slot c_.2.2), .slice (RG.A1 c_.2.2) ((RG.s c_.2.2).length) (RG.c1 c_.2.2), .tuple #[.slice (RG.A1 c_.2.2) ((RG.s c_.2.2).length) (RG.c1 c_.2.2), .slice A2 b.length c2], .slice (RG.A1 c_.2.2) ((RG.s c_.2.2).length) (RG.c1 c_.2.2), .slice A2 b.length c2, .slice (RG.A1 c_.2.2) ((RG.s c_.2.2).length) (RG.c1 c_.2.2), .slice A2 b.length c2, .agg #[iv ((newestF (RG.s c_.2.2) b).1 : Int), iv ((newestF (RG.s c_.2.2) b).2.1 : Int), .slice A93 ((newestF (RG.s c_.2.2) b).2.2.1.length) c94, iv ((newestF (RG.s c_.2.2) b).2.2.2 : Int)], po g95 1, iv ((newestF (RG.s c_.2.2) b).2.1 : Int), iv ((lst : Nat) : Int), fv, fv, iv ((lst : Nat) : Int), tv, tv, po g95 3, iv ((newestF (RG.s c_.2.2) b).2.2.2 : Int), fv, fv, fv, J 87, J 88] 0) (by kernel_rfl) ?_
              refine then_n ?_
              refine wp_cond_false (by kernel_rfl) ?_
              refine wp_skip ?_
              refine then_n ?_
              refine wp_region_lit ?_
              refine pv (po g95 1) ?_
              refine wl_gv rfl (gv_ldR (v := .int .i64 ((newestF (RG.s c_.2.2) b).2.1 : Int)) rfl (by kernel_rfl) (by kernel_rfl) (((S100.blk 0 rfl).cell 1).trans rfl) ?_)
              refine pv (iv ((newestF (RG.s c_.2.2) b).2.1 : Int)) ?_
              refine wl_end _ rfl ?_
              refine inb_n ?_
              refine then_n ?_
              refine wp_region_lit ?_
              refine pv (iv ((i : Nat) : Int)) ?_
              refine wl_gv rfl (gv_int (k := .i64) (z := IntKind.i64.wrap (((i : Nat) : Int) + 1)) (z' := ((i + 1 : Nat) : Int)) (by kernel_rfl) (wr_eq (by omega) (by omega) (by omega)) ?_)
              refine pv (iv ((i + 1 : Nat) : Int)) ?_
              have S104 : St none' w w99 [bytesX (.slice (RG.A1 c_.2.2) (RG.s c_.2.2).length (RG.c1 c_.2.2)) (RG.s c_.2.2), bytesX (.slice A2 b.length c2) b] := St.permT [row g95 #[.int .i64 ((newestF (RG.s c_.2.2) b).1 : Int), .int .i64 ((newestF (RG.s c_.2.2) b).2.1 : Int), .slice A93 ((newestF (RG.s c_.2.2) b).2.2.1.length) c94, .int .i64 ((newestF (RG.s c_.2.2) b).2.2.2 : Int)] 53, bytesX (.slice A93 (newestF (RG.s c_.2.2) b).2.2.1.length c94) (newestF (RG.s c_.2.2) b).2.2.1, bytesX (.slice (RG.A1 c_.2.2) (RG.s c_.2.2).length (RG.c1 c_.2.2)) (RG.s c_.2.2), bytesX (.slice (RG.A2 c_.2.2) (RG.m c_.2.2).length (RG.c2 c_.2.2)) (RG.m c_.2.2), vec 5 1 (.slice c_.1 ((o.d.take (496 : Int).toNat).length) c_.2.1) ((o.d.take (496 : Int).toNat).length) ((o.d.take (496 : Int).toNat).map bv), bytesX (.slice A1 a.length c1) a, bytesX (.slice A2 b.length c2) b] [2, 6] (by decide) rfl S100
              have hla : (RG.s c_.2.2).length = 512 := by omega
              have hlb : b.length = 512 := by omega
              refine wl_end _ rfl ?_
              refine then_n ?_
              exact ⟨(i + 1, (RG.s c_.2.2), b, (RG.A1 c_.2.2), (RG.c1 c_.2.2), A2, c2, (newestF (RG.s c_.2.2) b).2.1), ⟨(jl [ud, ud, J 2, ud, ud, ud, ud, tv, iv (RG.slot c_.2.2), .slice (RG.A1 c_.2.2) ((RG.s c_.2.2).length) (RG.c1 c_.2.2), .slice (RG.A2 c_.2.2) ((RG.m c_.2.2).length) (RG.c2 c_.2.2), pq g95, ud, ud, ud, ud, iv ((i : Nat) : Int), .slice A steps.length c, iv (steps.length : Nat), tv, iv ((i : Nat) : Int), iv ((i + 1 : Nat) : Int), .tuple #[tv, iv (RG.slot c_.2.2), .slice (RG.A1 c_.2.2) ((RG.s c_.2.2).length) (RG.c1 c_.2.2), .slice (RG.A2 c_.2.2) ((RG.m c_.2.2).length) (RG.c2 c_.2.2)], .slice A1 a.length c1, .slice A2 b.length c2, .slice A steps.length c, iv ((i : Nat) : Int), .pointer (some (ad.add (i * 5))), .pointer (some (ad.add (i * 5))), iv o.no, .slice A steps.length c, iv ((i : Nat) : Int), .pointer (some (ad.add (i * 5))), .pointer (some ((ad.add (i * 5)).add 2)), .slice o.A o.d.length o.cd, .slice c_.1 ((o.d.take (496 : Int).toNat).length) c_.2.1, .slice A steps.length c, iv ((i : Nat) : Int), .pointer (some (ad.add (i * 5))), .pointer (some ((ad.add (i * 5)).add 1)), iv o.cut, iv ((cutF o.cut : Nat) : Int), .slice A steps.length c, iv ((i : Nat) : Int), .pointer (some (ad.add (i * 5))), .pointer (some ((ad.add (i * 5)).add 4)), .bool o.back, .tuple #[tv, iv (RG.slot c_.2.2), .slice (RG.A1 c_.2.2) ((RG.s c_.2.2).length) (RG.c1 c_.2.2), .slice (RG.A2 c_.2.2) ((RG.m c_.2.2).length) (RG.c2 c_.2.2)], tv, iv (RG.slot c_.2.2), .slice (RG.A1 c_.2.2) ((RG.s c_.2.2).length) (RG.c1 c_.2.2), .slice (RG.A2 c_.2.2) ((RG.m c_.2.2).length) (RG.c2 c_.2.2), tv, fv, .slice (RG.A1 c_.2.2) ((RG.s c_.2.2).length) (RG.c1 c_.2.2), iv ((RG.s c_.2.2).length : Nat), tv, .slice A steps.length c, iv ((i : Nat) : Int), .pointer (some (ad.add (i * 5))), .pointer (some ((ad.add (i * 5)).add 3)), .bool o.torn, J 62, .tuple #[.slice (RG.A1 c_.2.2) ((RG.s c_.2.2).length) (RG.c1 c_.2.2), .slice A2 b.length c2], .slice A1 a.length c1, .slice A2 b.length c2, iv (RG.slot c_.2.2), .slice (RG.A1 c_.2.2) ((RG.s c_.2.2).length) (RG.c1 c_.2.2), .tuple #[.slice (RG.A1 c_.2.2) ((RG.s c_.2.2).length) (RG.c1 c_.2.2), .slice A2 b.length c2], .slice (RG.A1 c_.2.2) ((RG.s c_.2.2).length) (RG.c1 c_.2.2), .slice A2 b.length c2, .slice (RG.A1 c_.2.2) ((RG.s c_.2.2).length) (RG.c1 c_.2.2), .slice A2 b.length c2, .agg #[iv ((newestF (RG.s c_.2.2) b).1 : Int), iv ((newestF (RG.s c_.2.2) b).2.1 : Int), .slice A93 ((newestF (RG.s c_.2.2) b).2.2.1.length) c94, iv ((newestF (RG.s c_.2.2) b).2.2.2 : Int)], po g95 1, iv ((newestF (RG.s c_.2.2) b).2.1 : Int), iv ((lst : Nat) : Int), fv, fv, iv ((lst : Nat) : Int), tv, tv, po g95 3, iv ((newestF (RG.s c_.2.2) b).2.2.2 : Int), fv, fv, fv, po g95 1, iv ((newestF (RG.s c_.2.2) b).2.1 : Int)]), by kernel_rfl, S104, ⟨by omega, hla, hlb, Nat.le_refl _, grow_pos⟩⟩, (by show steps.length - (i + 1) < steps.length - i; omega)⟩
            · skip
              refine wl_when (by kernel_rfl) (gv_val (v := .bool false) (w' := w99) (by kernel_rfl) ?_)
              refine wl_not (by kernel_rfl) ?_
              refine wl_not (by kernel_rfl) ?_
              refine wl_not (by kernel_rfl) ?_
              refine wl_when (by kernel_rfl) (gv_val (v := .bool false) (w' := w99) (by kernel_rfl) ?_)
              refine pv fv ?_
              refine wl_end (fr [.slice A steps.length c, ud, J 2, .slice (RG.A1 c_.2.2) ((RG.s c_.2.2).length) (RG.c1 c_.2.2), .slice A2 b.length c2, iv ((lst : Nat) : Int), iv ((i : Nat) : Int), tv, iv (RG.slot c_.2.2), .slice (RG.A1 c_.2.2) ((RG.s c_.2.2).length) (RG.c1 c_.2.2), .slice (RG.A2 c_.2.2) ((RG.m c_.2.2).length) (RG.c2 c_.2.2), pq g95, .slice Al z.length cl, .slice Ar z.length cr, tv, fv, iv ((i : Nat) : Int), .slice A steps.length c, iv (steps.length : Nat), tv, J 20, J 21, .tuple #[tv, iv (RG.slot c_.2.2), .slice (RG.A1 c_.2.2) ((RG.s c_.2.2).length) (RG.c1 c_.2.2), .slice (RG.A2 c_.2.2) ((RG.m c_.2.2).length) (RG.c2 c_.2.2)], .slice A1 a.length c1, .slice A2 b.length c2, .slice A steps.length c, iv ((i : Nat) : Int), .pointer (some (ad.add (i * 5))), .pointer (some (ad.add (i * 5))), iv o.no, .slice A steps.length c, iv ((i : Nat) : Int), .pointer (some (ad.add (i * 5))), .pointer (some ((ad.add (i * 5)).add 2)), .slice o.A o.d.length o.cd, .slice c_.1 ((o.d.take (496 : Int).toNat).length) c_.2.1, .slice A steps.length c, iv ((i : Nat) : Int), .pointer (some (ad.add (i * 5))), .pointer (some ((ad.add (i * 5)).add 1)), iv o.cut, iv ((cutF o.cut : Nat) : Int), .slice A steps.length c, iv ((i : Nat) : Int), .pointer (some (ad.add (i * 5))), .pointer (some ((ad.add (i * 5)).add 4)), .bool o.back, .tuple #[tv, iv (RG.slot c_.2.2), .slice (RG.A1 c_.2.2) ((RG.s c_.2.2).length) (RG.c1 c_.2.2), .slice (RG.A2 c_.2.2) ((RG.m c_.2.2).length) (RG.c2 c_.2.2)], tv, iv (RG.slot c_.2.2), .slice (RG.A1 c_.2.2) ((RG.s c_.2.2).length) (RG.c1 c_.2.2), .slice (RG.A2 c_.2.2) ((RG.m c_.2.2).length) (RG.c2 c_.2.2), tv, fv, .slice (RG.A1 c_.2.2) ((RG.s c_.2.2).length) (RG.c1 c_.2.2), iv ((RG.s c_.2.2).length : Nat), tv, .slice A steps.length c, iv ((i : Nat) : Int), .pointer (some (ad.add (i * 5))), .pointer (some ((ad.add (i * 5)).add 3)), .bool o.torn, J 62, .tuple #[.slice (RG.A1 c_.2.2) ((RG.s c_.2.2).length) (RG.c1 c_.2.2), .slice A2 b.length c2], .slice A1 a.length c1, .slice A2 b.length c2, iv (RG.slot c_.2.2), .slice (RG.A1 c_.2.2) ((RG.s c_.2.2).length) (RG.c1 c_.2.2), .tuple #[.slice (RG.A1 c_.2.2) ((RG.s c_.2.2).length) (RG.c1 c_.2.2), .slice A2 b.length c2], .slice (RG.A1 c_.2.2) ((RG.s c_.2.2).length) (RG.c1 c_.2.2), .slice A2 b.length c2, .slice (RG.A1 c_.2.2) ((RG.s c_.2.2).length) (RG.c1 c_.2.2), .slice A2 b.length c2, .agg #[iv ((newestF (RG.s c_.2.2) b).1 : Int), iv ((newestF (RG.s c_.2.2) b).2.1 : Int), .slice A93 ((newestF (RG.s c_.2.2) b).2.2.1.length) c94, iv ((newestF (RG.s c_.2.2) b).2.2.2 : Int)], po g95 1, iv ((newestF (RG.s c_.2.2) b).2.1 : Int), iv ((lst : Nat) : Int), fv, fv, iv ((lst : Nat) : Int), fv, fv, ud, ud, ud, fv, fv, J 87, J 88] 0) (by kernel_rfl) ?_
              refine then_n ?_
              refine wp_cond_false (by kernel_rfl) ?_
              refine wp_skip ?_
              refine then_n ?_
              refine wp_region_lit ?_
              refine pv (po g95 1) ?_
              refine wl_gv rfl (gv_ldR (v := .int .i64 ((newestF (RG.s c_.2.2) b).2.1 : Int)) rfl (by kernel_rfl) (by kernel_rfl) (((S100.blk 0 rfl).cell 1).trans rfl) ?_)
              refine pv (iv ((newestF (RG.s c_.2.2) b).2.1 : Int)) ?_
              refine wl_end _ rfl ?_
              refine inb_n ?_
              refine then_n ?_
              refine wp_region_lit ?_
              refine pv (iv ((i : Nat) : Int)) ?_
              refine wl_gv rfl (gv_int (k := .i64) (z := IntKind.i64.wrap (((i : Nat) : Int) + 1)) (z' := ((i + 1 : Nat) : Int)) (by kernel_rfl) (wr_eq (by omega) (by omega) (by omega)) ?_)
              refine pv (iv ((i + 1 : Nat) : Int)) ?_
              have S105 : St none' w w99 [bytesX (.slice (RG.A1 c_.2.2) (RG.s c_.2.2).length (RG.c1 c_.2.2)) (RG.s c_.2.2), bytesX (.slice A2 b.length c2) b] := St.permT [row g95 #[.int .i64 ((newestF (RG.s c_.2.2) b).1 : Int), .int .i64 ((newestF (RG.s c_.2.2) b).2.1 : Int), .slice A93 ((newestF (RG.s c_.2.2) b).2.2.1.length) c94, .int .i64 ((newestF (RG.s c_.2.2) b).2.2.2 : Int)] 53, bytesX (.slice A93 (newestF (RG.s c_.2.2) b).2.2.1.length c94) (newestF (RG.s c_.2.2) b).2.2.1, bytesX (.slice (RG.A1 c_.2.2) (RG.s c_.2.2).length (RG.c1 c_.2.2)) (RG.s c_.2.2), bytesX (.slice (RG.A2 c_.2.2) (RG.m c_.2.2).length (RG.c2 c_.2.2)) (RG.m c_.2.2), vec 5 1 (.slice c_.1 ((o.d.take (496 : Int).toNat).length) c_.2.1) ((o.d.take (496 : Int).toNat).length) ((o.d.take (496 : Int).toNat).map bv), bytesX (.slice A1 a.length c1) a, bytesX (.slice A2 b.length c2) b] [2, 6] (by decide) rfl S100
              have hla : (RG.s c_.2.2).length = 512 := by omega
              have hlb : b.length = 512 := by omega
              refine wl_end _ rfl ?_
              refine then_n ?_
              exact ⟨(i + 1, (RG.s c_.2.2), b, (RG.A1 c_.2.2), (RG.c1 c_.2.2), A2, c2, (newestF (RG.s c_.2.2) b).2.1), ⟨(jl [ud, ud, J 2, ud, ud, ud, ud, tv, iv (RG.slot c_.2.2), .slice (RG.A1 c_.2.2) ((RG.s c_.2.2).length) (RG.c1 c_.2.2), .slice (RG.A2 c_.2.2) ((RG.m c_.2.2).length) (RG.c2 c_.2.2), pq g95, ud, ud, ud, ud, iv ((i : Nat) : Int), .slice A steps.length c, iv (steps.length : Nat), tv, iv ((i : Nat) : Int), iv ((i + 1 : Nat) : Int), .tuple #[tv, iv (RG.slot c_.2.2), .slice (RG.A1 c_.2.2) ((RG.s c_.2.2).length) (RG.c1 c_.2.2), .slice (RG.A2 c_.2.2) ((RG.m c_.2.2).length) (RG.c2 c_.2.2)], .slice A1 a.length c1, .slice A2 b.length c2, .slice A steps.length c, iv ((i : Nat) : Int), .pointer (some (ad.add (i * 5))), .pointer (some (ad.add (i * 5))), iv o.no, .slice A steps.length c, iv ((i : Nat) : Int), .pointer (some (ad.add (i * 5))), .pointer (some ((ad.add (i * 5)).add 2)), .slice o.A o.d.length o.cd, .slice c_.1 ((o.d.take (496 : Int).toNat).length) c_.2.1, .slice A steps.length c, iv ((i : Nat) : Int), .pointer (some (ad.add (i * 5))), .pointer (some ((ad.add (i * 5)).add 1)), iv o.cut, iv ((cutF o.cut : Nat) : Int), .slice A steps.length c, iv ((i : Nat) : Int), .pointer (some (ad.add (i * 5))), .pointer (some ((ad.add (i * 5)).add 4)), .bool o.back, .tuple #[tv, iv (RG.slot c_.2.2), .slice (RG.A1 c_.2.2) ((RG.s c_.2.2).length) (RG.c1 c_.2.2), .slice (RG.A2 c_.2.2) ((RG.m c_.2.2).length) (RG.c2 c_.2.2)], tv, iv (RG.slot c_.2.2), .slice (RG.A1 c_.2.2) ((RG.s c_.2.2).length) (RG.c1 c_.2.2), .slice (RG.A2 c_.2.2) ((RG.m c_.2.2).length) (RG.c2 c_.2.2), tv, fv, .slice (RG.A1 c_.2.2) ((RG.s c_.2.2).length) (RG.c1 c_.2.2), iv ((RG.s c_.2.2).length : Nat), tv, .slice A steps.length c, iv ((i : Nat) : Int), .pointer (some (ad.add (i * 5))), .pointer (some ((ad.add (i * 5)).add 3)), .bool o.torn, J 62, .tuple #[.slice (RG.A1 c_.2.2) ((RG.s c_.2.2).length) (RG.c1 c_.2.2), .slice A2 b.length c2], .slice A1 a.length c1, .slice A2 b.length c2, iv (RG.slot c_.2.2), .slice (RG.A1 c_.2.2) ((RG.s c_.2.2).length) (RG.c1 c_.2.2), .tuple #[.slice (RG.A1 c_.2.2) ((RG.s c_.2.2).length) (RG.c1 c_.2.2), .slice A2 b.length c2], .slice (RG.A1 c_.2.2) ((RG.s c_.2.2).length) (RG.c1 c_.2.2), .slice A2 b.length c2, .slice (RG.A1 c_.2.2) ((RG.s c_.2.2).length) (RG.c1 c_.2.2), .slice A2 b.length c2, .agg #[iv ((newestF (RG.s c_.2.2) b).1 : Int), iv ((newestF (RG.s c_.2.2) b).2.1 : Int), .slice A93 ((newestF (RG.s c_.2.2) b).2.2.1.length) c94, iv ((newestF (RG.s c_.2.2) b).2.2.2 : Int)], po g95 1, iv ((newestF (RG.s c_.2.2) b).2.1 : Int), iv ((lst : Nat) : Int), fv, fv, iv ((lst : Nat) : Int), fv, fv, ud, ud, ud, fv, fv, po g95 1, iv ((newestF (RG.s c_.2.2) b).2.1 : Int)]), by kernel_rfl, S105, ⟨by omega, hla, hlb, Nat.le_refl _, grow_pos⟩⟩, (by show steps.length - (i + 1) < steps.length - i; omega)⟩
          · skip
            have hq := grow_next hl1 hl2 (hTt (RG.s c_.2.2) (.inl rfl))
            rw [show putIn a b (RG.slot c_.2.2).toNat (RG.s c_.2.2) = (a, (RG.s c_.2.2)) from by unfold putIn; rw [hs0]; rfl] at hq
            dsimp only at hq
            have ht5 : (RG.s c_.2.2).length = 512 := hs5
            refine pv (.slice A1 a.length c1) ?_
            refine pv (.slice A2 b.length c2) ?_
            refine pv (iv (RG.slot c_.2.2)) ?_
            refine pv (.slice (RG.A1 c_.2.2) ((RG.s c_.2.2).length) (RG.c1 c_.2.2)) ?_
            refine wl_gv rfl (gv_call (args := #[.slice A1 a.length c1, .slice A2 b.length c2, .int .i64 (RG.slot c_.2.2), .slice (RG.A1 c_.2.2) ((RG.s c_.2.2).length) (RG.c1 c_.2.2)]) rfl Try.func22 (by kernel_rfl) rfl rfl (by kernel_rfl) ?_)
            refine Calls.mono (pairOf1 (by omega)) ?_
            rintro _ _ ⟨rfl, rfl⟩
            refine ⟨_, rfl, ?_⟩
            refine pv (.tuple #[.slice A1 a.length c1, .slice (RG.A1 c_.2.2) ((RG.s c_.2.2).length) (RG.c1 c_.2.2)]) ?_
            refine pv (.slice A1 a.length c1) ?_
            refine pv (.slice (RG.A1 c_.2.2) ((RG.s c_.2.2).length) (RG.c1 c_.2.2)) ?_
            refine pv (.slice A1 a.length c1) ?_
            refine pv (.slice (RG.A1 c_.2.2) ((RG.s c_.2.2).length) (RG.c1 c_.2.2)) ?_
            refine wl_end _ rfl ?_
            refine then_n ?_
            refine wp_seq ?_
            refine wp_region_lit ?_
            refine pv (.slice A1 a.length c1) ?_
            refine pv (.slice (RG.A1 c_.2.2) ((RG.s c_.2.2).length) (RG.c1 c_.2.2)) ?_
            refine wl_gv rfl (gv_call (args := #[.slice A1 a.length c1, .slice (RG.A1 c_.2.2) ((RG.s c_.2.2).length) (RG.c1 c_.2.2)]) rfl Try.func23 (by kernel_rfl) rfl rfl (by kernel_rfl) ?_)
            refine Calls.mono (ask_all (a := a) (b := (RG.s c_.2.2)) S58 rfl rfl (RoT.bytesX 3 rfl rfl) (RoT.bytesX 0 rfl rfl) (by omega) (by omega)) ?_
            rintro _ w106 ⟨A108, c109, rfl, S107⟩
            refine ⟨_, rfl, ?_⟩
            refine wl_gv rfl (gv_new (z := .agg #[.int .i64 0, .int .i64 0, .slice none 0 0, .int .i64 0]) S107 rfl (by kernel_rfl) (fun g110 w111 hg112 S113 => ?_))
            refine wl_gv rfl (gv_stA (k := 0) (vs := [.int .i64 ((newestF a (RG.s c_.2.2)).1 : Int), .int .i64 ((newestF a (RG.s c_.2.2)).2.1 : Int), .slice A108 ((newestF a (RG.s c_.2.2)).2.2.1.length) c109, .int .i64 ((newestF a (RG.s c_.2.2)).2.2.2 : Int)]) S113 0 rfl rfl (by kernel_rfl) (by kernel_rfl) (by kernel_rfl) rfl (by simp [Value.oneCell']) (Nat.le_of_ble_eq_true (by kernel_rfl)) (L' := [row g110 #[.int .i64 ((newestF a (RG.s c_.2.2)).1 : Int), .int .i64 ((newestF a (RG.s c_.2.2)).2.1 : Int), .slice A108 ((newestF a (RG.s c_.2.2)).2.2.1.length) c109, .int .i64 ((newestF a (RG.s c_.2.2)).2.2.2 : Int)] 53, bytesX (.slice A108 (newestF a (RG.s c_.2.2)).2.2.1.length c109) (newestF a (RG.s c_.2.2)).2.2.1, bytesX (.slice (RG.A1 c_.2.2) (RG.s c_.2.2).length (RG.c1 c_.2.2)) (RG.s c_.2.2), bytesX (.slice (RG.A2 c_.2.2) (RG.m c_.2.2).length (RG.c2 c_.2.2)) (RG.m c_.2.2), vec 5 1 (.slice c_.1 ((o.d.take (496 : Int).toNat).length) c_.2.1) ((o.d.take (496 : Int).toNat).length) ((o.d.take (496 : Int).toNat).map bv), bytesX (.slice A1 a.length c1) a, bytesX (.slice A2 b.length c2) b]) rfl (fun w114 S115 => ?_))
            refine wl_end _ rfl ?_
            refine then_n ?_
            refine wp_seq ?_
            refine wp_seq ?_
            refine wp_region_lit ?_
            refine pv (po g110 1) ?_
            refine wl_gv rfl (gv_ldR (v := .int .i64 ((newestF a (RG.s c_.2.2)).2.1 : Int)) rfl (by kernel_rfl) (by kernel_rfl) (((S115.blk 0 rfl).cell 1).trans rfl) ?_)
            refine pv (iv ((lst : Nat) : Int)) ?_
            refine wl_gv rfl (gv_dec (p := (((newestF a (RG.s c_.2.2)).2.1 : Int) : Int) < ((lst : Nat) : Int)) (by kernel_rfl) (fun hd116 => False.elim (by have := hq.1; omega)) (fun _ => ?_))
            refine pv fv ?_
            refine wl_when (by kernel_rfl) (gv_val (v := .int .i64 ((lst : Nat) : Int)) (w' := w114) (by kernel_rfl) ?_)
            refine wl_when (by kernel_rfl) (gv_dec (p := (((lst : Nat) : Int) : Int) > 0) (by kernel_rfl) (fun hb117 => ?_) (fun hb117 => ?_))
            · skip
              refine wl_when (by kernel_rfl) (gv_val (v := .bool true) (w' := w114) (by kernel_rfl) ?_)
              refine wl_when (by kernel_rfl) (gv_val (v := .pointer (some ⟨g110, 3, none⟩)) (w' := w114) (by kernel_rfl) ?_)
              refine wl_when (by kernel_rfl) (gv_ldR (v := .int .i64 ((newestF a (RG.s c_.2.2)).2.2.2 : Int)) rfl (by kernel_rfl) (by kernel_rfl) (((S115.blk 0 rfl).cell 3).trans rfl) ?_)
              refine wl_when (by kernel_rfl) (gv_ne (x := ((newestF a (RG.s c_.2.2)).2.2.2 : Int)) (y := 0) (by kernel_rfl) (fun hd118 => False.elim (by have := hq.2 (by omega); omega)) (fun _ => ?_))
              refine wl_when (by kernel_rfl) (gv_val (v := .bool false) (w' := w114) (by kernel_rfl) ?_)
              refine pv fv ?_
              refine wl_end (fr [.slice A steps.length c, ud, J 2, .slice A1 a.length c1, .slice (RG.A1 c_.2.2) ((RG.s c_.2.2).length) (RG.c1 c_.2.2), iv ((lst : Nat) : Int), iv ((i : Nat) : Int), tv, iv (RG.slot c_.2.2), .slice (RG.A1 c_.2.2) ((RG.s c_.2.2).length) (RG.c1 c_.2.2), .slice (RG.A2 c_.2.2) ((RG.m c_.2.2).length) (RG.c2 c_.2.2), pq g110, .slice Al z.length cl, .slice Ar z.length cr, tv, fv, iv ((i : Nat) : Int), .slice A steps.length c, iv (steps.length : Nat), tv, J 20, J 21, .tuple #[tv, iv (RG.slot c_.2.2), .slice (RG.A1 c_.2.2) ((RG.s c_.2.2).length) (RG.c1 c_.2.2), .slice (RG.A2 c_.2.2) ((RG.m c_.2.2).length) (RG.c2 c_.2.2)], .slice A1 a.length c1, .slice A2 b.length c2, .slice A steps.length c, iv ((i : Nat) : Int), .pointer (some (ad.add (i * 5))), .pointer (some (ad.add (i * 5))), iv o.no, .slice A steps.length c, iv ((i : Nat) : Int), .pointer (some (ad.add (i * 5))), .pointer (some ((ad.add (i * 5)).add 2)), .slice o.A o.d.length o.cd, .slice c_.1 ((o.d.take (496 : Int).toNat).length) c_.2.1, .slice A steps.length c, iv ((i : Nat) : Int), .pointer (some (ad.add (i * 5))), .pointer (some ((ad.add (i * 5)).add 1)), iv o.cut, iv ((cutF o.cut : Nat) : Int), .slice A steps.length c, iv ((i : Nat) : Int), .pointer (some (ad.add (i * 5))), .pointer (some ((ad.add (i * 5)).add 4)), .bool o.back, .tuple #[tv, iv (RG.slot c_.2.2), .slice (RG.A1 c_.2.2) ((RG.s c_.2.2).length) (RG.c1 c_.2.2), .slice (RG.A2 c_.2.2) ((RG.m c_.2.2).length) (RG.c2 c_.2.2)], tv, iv (RG.slot c_.2.2), .slice (RG.A1 c_.2.2) ((RG.s c_.2.2).length) (RG.c1 c_.2.2), .slice (RG.A2 c_.2.2) ((RG.m c_.2.2).length) (RG.c2 c_.2.2), tv, fv, .slice (RG.A1 c_.2.2) ((RG.s c_.2.2).length) (RG.c1 c_.2.2), iv ((RG.s c_.2.2).length : Nat), tv, .slice A steps.length c, iv ((i : Nat) : Int), .pointer (some (ad.add (i * 5))), .pointer (some ((ad.add (i * 5)).add 3)), .bool o.torn, J 62, .tuple #[.slice A1 a.length c1, .slice (RG.A1 c_.2.2) ((RG.s c_.2.2).length) (RG.c1 c_.2.2)], .slice A1 a.length c1, .slice A2 b.length c2, iv (RG.slot c_.2.2), .slice (RG.A1 c_.2.2) ((RG.s c_.2.2).length) (RG.c1 c_.2.2), .tuple #[.slice A1 a.length c1, .slice (RG.A1 c_.2.2) ((RG.s c_.2.2).length) (RG.c1 c_.2.2)], .slice A1 a.length c1, .slice (RG.A1 c_.2.2) ((RG.s c_.2.2).length) (RG.c1 c_.2.2), .slice A1 a.length c1, .slice (RG.A1 c_.2.2) ((RG.s c_.2.2).length) (RG.c1 c_.2.2), .agg #[iv ((newestF a (RG.s c_.2.2)).1 : Int), iv ((newestF a (RG.s c_.2.2)).2.1 : Int), .slice A108 ((newestF a (RG.s c_.2.2)).2.2.1.length) c109, iv ((newestF a (RG.s c_.2.2)).2.2.2 : Int)], po g110 1, iv ((newestF a (RG.s c_.2.2)).2.1 : Int), iv ((lst : Nat) : Int), fv, fv, iv ((lst : Nat) : Int), tv, tv, po g110 3, iv ((newestF a (RG.s c_.2.2)).2.2.2 : Int), fv, fv, fv, J 87, J 88] 0) (by kernel_rfl) ?_
              refine then_n ?_
              refine wp_cond_false (by kernel_rfl) ?_
              refine wp_skip ?_
              refine then_n ?_
              refine wp_region_lit ?_
              refine pv (po g110 1) ?_
              refine wl_gv rfl (gv_ldR (v := .int .i64 ((newestF a (RG.s c_.2.2)).2.1 : Int)) rfl (by kernel_rfl) (by kernel_rfl) (((S115.blk 0 rfl).cell 1).trans rfl) ?_)
              refine pv (iv ((newestF a (RG.s c_.2.2)).2.1 : Int)) ?_
              refine wl_end _ rfl ?_
              refine inb_n ?_
              refine then_n ?_
              refine wp_region_lit ?_
              refine pv (iv ((i : Nat) : Int)) ?_
              refine wl_gv rfl (gv_int (k := .i64) (z := IntKind.i64.wrap (((i : Nat) : Int) + 1)) (z' := ((i + 1 : Nat) : Int)) (by kernel_rfl) (wr_eq (by omega) (by omega) (by omega)) ?_)
              refine pv (iv ((i + 1 : Nat) : Int)) ?_
              have S119 : St none' w w114 [bytesX (.slice A1 a.length c1) a, bytesX (.slice (RG.A1 c_.2.2) (RG.s c_.2.2).length (RG.c1 c_.2.2)) (RG.s c_.2.2)] := St.permT [row g110 #[.int .i64 ((newestF a (RG.s c_.2.2)).1 : Int), .int .i64 ((newestF a (RG.s c_.2.2)).2.1 : Int), .slice A108 ((newestF a (RG.s c_.2.2)).2.2.1.length) c109, .int .i64 ((newestF a (RG.s c_.2.2)).2.2.2 : Int)] 53, bytesX (.slice A108 (newestF a (RG.s c_.2.2)).2.2.1.length c109) (newestF a (RG.s c_.2.2)).2.2.1, bytesX (.slice (RG.A1 c_.2.2) (RG.s c_.2.2).length (RG.c1 c_.2.2)) (RG.s c_.2.2), bytesX (.slice (RG.A2 c_.2.2) (RG.m c_.2.2).length (RG.c2 c_.2.2)) (RG.m c_.2.2), vec 5 1 (.slice c_.1 ((o.d.take (496 : Int).toNat).length) c_.2.1) ((o.d.take (496 : Int).toNat).length) ((o.d.take (496 : Int).toNat).map bv), bytesX (.slice A1 a.length c1) a, bytesX (.slice A2 b.length c2) b] [5, 2] (by decide) rfl S115
              have hla : a.length = 512 := by omega
              have hlb : (RG.s c_.2.2).length = 512 := by omega
              refine wl_end _ rfl ?_
              refine then_n ?_
              exact ⟨(i + 1, a, (RG.s c_.2.2), A1, c1, (RG.A1 c_.2.2), (RG.c1 c_.2.2), (newestF a (RG.s c_.2.2)).2.1), ⟨(jl [ud, ud, J 2, ud, ud, ud, ud, tv, iv (RG.slot c_.2.2), .slice (RG.A1 c_.2.2) ((RG.s c_.2.2).length) (RG.c1 c_.2.2), .slice (RG.A2 c_.2.2) ((RG.m c_.2.2).length) (RG.c2 c_.2.2), pq g110, ud, ud, ud, ud, iv ((i : Nat) : Int), .slice A steps.length c, iv (steps.length : Nat), tv, iv ((i : Nat) : Int), iv ((i + 1 : Nat) : Int), .tuple #[tv, iv (RG.slot c_.2.2), .slice (RG.A1 c_.2.2) ((RG.s c_.2.2).length) (RG.c1 c_.2.2), .slice (RG.A2 c_.2.2) ((RG.m c_.2.2).length) (RG.c2 c_.2.2)], .slice A1 a.length c1, .slice A2 b.length c2, .slice A steps.length c, iv ((i : Nat) : Int), .pointer (some (ad.add (i * 5))), .pointer (some (ad.add (i * 5))), iv o.no, .slice A steps.length c, iv ((i : Nat) : Int), .pointer (some (ad.add (i * 5))), .pointer (some ((ad.add (i * 5)).add 2)), .slice o.A o.d.length o.cd, .slice c_.1 ((o.d.take (496 : Int).toNat).length) c_.2.1, .slice A steps.length c, iv ((i : Nat) : Int), .pointer (some (ad.add (i * 5))), .pointer (some ((ad.add (i * 5)).add 1)), iv o.cut, iv ((cutF o.cut : Nat) : Int), .slice A steps.length c, iv ((i : Nat) : Int), .pointer (some (ad.add (i * 5))), .pointer (some ((ad.add (i * 5)).add 4)), .bool o.back, .tuple #[tv, iv (RG.slot c_.2.2), .slice (RG.A1 c_.2.2) ((RG.s c_.2.2).length) (RG.c1 c_.2.2), .slice (RG.A2 c_.2.2) ((RG.m c_.2.2).length) (RG.c2 c_.2.2)], tv, iv (RG.slot c_.2.2), .slice (RG.A1 c_.2.2) ((RG.s c_.2.2).length) (RG.c1 c_.2.2), .slice (RG.A2 c_.2.2) ((RG.m c_.2.2).length) (RG.c2 c_.2.2), tv, fv, .slice (RG.A1 c_.2.2) ((RG.s c_.2.2).length) (RG.c1 c_.2.2), iv ((RG.s c_.2.2).length : Nat), tv, .slice A steps.length c, iv ((i : Nat) : Int), .pointer (some (ad.add (i * 5))), .pointer (some ((ad.add (i * 5)).add 3)), .bool o.torn, J 62, .tuple #[.slice A1 a.length c1, .slice (RG.A1 c_.2.2) ((RG.s c_.2.2).length) (RG.c1 c_.2.2)], .slice A1 a.length c1, .slice A2 b.length c2, iv (RG.slot c_.2.2), .slice (RG.A1 c_.2.2) ((RG.s c_.2.2).length) (RG.c1 c_.2.2), .tuple #[.slice A1 a.length c1, .slice (RG.A1 c_.2.2) ((RG.s c_.2.2).length) (RG.c1 c_.2.2)], .slice A1 a.length c1, .slice (RG.A1 c_.2.2) ((RG.s c_.2.2).length) (RG.c1 c_.2.2), .slice A1 a.length c1, .slice (RG.A1 c_.2.2) ((RG.s c_.2.2).length) (RG.c1 c_.2.2), .agg #[iv ((newestF a (RG.s c_.2.2)).1 : Int), iv ((newestF a (RG.s c_.2.2)).2.1 : Int), .slice A108 ((newestF a (RG.s c_.2.2)).2.2.1.length) c109, iv ((newestF a (RG.s c_.2.2)).2.2.2 : Int)], po g110 1, iv ((newestF a (RG.s c_.2.2)).2.1 : Int), iv ((lst : Nat) : Int), fv, fv, iv ((lst : Nat) : Int), tv, tv, po g110 3, iv ((newestF a (RG.s c_.2.2)).2.2.2 : Int), fv, fv, fv, po g110 1, iv ((newestF a (RG.s c_.2.2)).2.1 : Int)]), by kernel_rfl, S119, ⟨by omega, hla, hlb, Nat.le_refl _, grow_pos⟩⟩, (by show steps.length - (i + 1) < steps.length - i; omega)⟩
            · skip
              refine wl_when (by kernel_rfl) (gv_val (v := .bool false) (w' := w114) (by kernel_rfl) ?_)
              refine wl_not (by kernel_rfl) ?_
              refine wl_not (by kernel_rfl) ?_
              refine wl_not (by kernel_rfl) ?_
              refine wl_when (by kernel_rfl) (gv_val (v := .bool false) (w' := w114) (by kernel_rfl) ?_)
              refine pv fv ?_
              refine wl_end (fr [.slice A steps.length c, ud, J 2, .slice A1 a.length c1, .slice (RG.A1 c_.2.2) ((RG.s c_.2.2).length) (RG.c1 c_.2.2), iv ((lst : Nat) : Int), iv ((i : Nat) : Int), tv, iv (RG.slot c_.2.2), .slice (RG.A1 c_.2.2) ((RG.s c_.2.2).length) (RG.c1 c_.2.2), .slice (RG.A2 c_.2.2) ((RG.m c_.2.2).length) (RG.c2 c_.2.2), pq g110, .slice Al z.length cl, .slice Ar z.length cr, tv, fv, iv ((i : Nat) : Int), .slice A steps.length c, iv (steps.length : Nat), tv, J 20, J 21, .tuple #[tv, iv (RG.slot c_.2.2), .slice (RG.A1 c_.2.2) ((RG.s c_.2.2).length) (RG.c1 c_.2.2), .slice (RG.A2 c_.2.2) ((RG.m c_.2.2).length) (RG.c2 c_.2.2)], .slice A1 a.length c1, .slice A2 b.length c2, .slice A steps.length c, iv ((i : Nat) : Int), .pointer (some (ad.add (i * 5))), .pointer (some (ad.add (i * 5))), iv o.no, .slice A steps.length c, iv ((i : Nat) : Int), .pointer (some (ad.add (i * 5))), .pointer (some ((ad.add (i * 5)).add 2)), .slice o.A o.d.length o.cd, .slice c_.1 ((o.d.take (496 : Int).toNat).length) c_.2.1, .slice A steps.length c, iv ((i : Nat) : Int), .pointer (some (ad.add (i * 5))), .pointer (some ((ad.add (i * 5)).add 1)), iv o.cut, iv ((cutF o.cut : Nat) : Int), .slice A steps.length c, iv ((i : Nat) : Int), .pointer (some (ad.add (i * 5))), .pointer (some ((ad.add (i * 5)).add 4)), .bool o.back, .tuple #[tv, iv (RG.slot c_.2.2), .slice (RG.A1 c_.2.2) ((RG.s c_.2.2).length) (RG.c1 c_.2.2), .slice (RG.A2 c_.2.2) ((RG.m c_.2.2).length) (RG.c2 c_.2.2)], tv, iv (RG.slot c_.2.2), .slice (RG.A1 c_.2.2) ((RG.s c_.2.2).length) (RG.c1 c_.2.2), .slice (RG.A2 c_.2.2) ((RG.m c_.2.2).length) (RG.c2 c_.2.2), tv, fv, .slice (RG.A1 c_.2.2) ((RG.s c_.2.2).length) (RG.c1 c_.2.2), iv ((RG.s c_.2.2).length : Nat), tv, .slice A steps.length c, iv ((i : Nat) : Int), .pointer (some (ad.add (i * 5))), .pointer (some ((ad.add (i * 5)).add 3)), .bool o.torn, J 62, .tuple #[.slice A1 a.length c1, .slice (RG.A1 c_.2.2) ((RG.s c_.2.2).length) (RG.c1 c_.2.2)], .slice A1 a.length c1, .slice A2 b.length c2, iv (RG.slot c_.2.2), .slice (RG.A1 c_.2.2) ((RG.s c_.2.2).length) (RG.c1 c_.2.2), .tuple #[.slice A1 a.length c1, .slice (RG.A1 c_.2.2) ((RG.s c_.2.2).length) (RG.c1 c_.2.2)], .slice A1 a.length c1, .slice (RG.A1 c_.2.2) ((RG.s c_.2.2).length) (RG.c1 c_.2.2), .slice A1 a.length c1, .slice (RG.A1 c_.2.2) ((RG.s c_.2.2).length) (RG.c1 c_.2.2), .agg #[iv ((newestF a (RG.s c_.2.2)).1 : Int), iv ((newestF a (RG.s c_.2.2)).2.1 : Int), .slice A108 ((newestF a (RG.s c_.2.2)).2.2.1.length) c109, iv ((newestF a (RG.s c_.2.2)).2.2.2 : Int)], po g110 1, iv ((newestF a (RG.s c_.2.2)).2.1 : Int), iv ((lst : Nat) : Int), fv, fv, iv ((lst : Nat) : Int), fv, fv, ud, ud, ud, fv, fv, J 87, J 88] 0) (by kernel_rfl) ?_
              refine then_n ?_
              refine wp_cond_false (by kernel_rfl) ?_
              refine wp_skip ?_
              refine then_n ?_
              refine wp_region_lit ?_
              refine pv (po g110 1) ?_
              refine wl_gv rfl (gv_ldR (v := .int .i64 ((newestF a (RG.s c_.2.2)).2.1 : Int)) rfl (by kernel_rfl) (by kernel_rfl) (((S115.blk 0 rfl).cell 1).trans rfl) ?_)
              refine pv (iv ((newestF a (RG.s c_.2.2)).2.1 : Int)) ?_
              refine wl_end _ rfl ?_
              refine inb_n ?_
              refine then_n ?_
              refine wp_region_lit ?_
              refine pv (iv ((i : Nat) : Int)) ?_
              refine wl_gv rfl (gv_int (k := .i64) (z := IntKind.i64.wrap (((i : Nat) : Int) + 1)) (z' := ((i + 1 : Nat) : Int)) (by kernel_rfl) (wr_eq (by omega) (by omega) (by omega)) ?_)
              refine pv (iv ((i + 1 : Nat) : Int)) ?_
              have S120 : St none' w w114 [bytesX (.slice A1 a.length c1) a, bytesX (.slice (RG.A1 c_.2.2) (RG.s c_.2.2).length (RG.c1 c_.2.2)) (RG.s c_.2.2)] := St.permT [row g110 #[.int .i64 ((newestF a (RG.s c_.2.2)).1 : Int), .int .i64 ((newestF a (RG.s c_.2.2)).2.1 : Int), .slice A108 ((newestF a (RG.s c_.2.2)).2.2.1.length) c109, .int .i64 ((newestF a (RG.s c_.2.2)).2.2.2 : Int)] 53, bytesX (.slice A108 (newestF a (RG.s c_.2.2)).2.2.1.length c109) (newestF a (RG.s c_.2.2)).2.2.1, bytesX (.slice (RG.A1 c_.2.2) (RG.s c_.2.2).length (RG.c1 c_.2.2)) (RG.s c_.2.2), bytesX (.slice (RG.A2 c_.2.2) (RG.m c_.2.2).length (RG.c2 c_.2.2)) (RG.m c_.2.2), vec 5 1 (.slice c_.1 ((o.d.take (496 : Int).toNat).length) c_.2.1) ((o.d.take (496 : Int).toNat).length) ((o.d.take (496 : Int).toNat).map bv), bytesX (.slice A1 a.length c1) a, bytesX (.slice A2 b.length c2) b] [5, 2] (by decide) rfl S115
              have hla : a.length = 512 := by omega
              have hlb : (RG.s c_.2.2).length = 512 := by omega
              refine wl_end _ rfl ?_
              refine then_n ?_
              exact ⟨(i + 1, a, (RG.s c_.2.2), A1, c1, (RG.A1 c_.2.2), (RG.c1 c_.2.2), (newestF a (RG.s c_.2.2)).2.1), ⟨(jl [ud, ud, J 2, ud, ud, ud, ud, tv, iv (RG.slot c_.2.2), .slice (RG.A1 c_.2.2) ((RG.s c_.2.2).length) (RG.c1 c_.2.2), .slice (RG.A2 c_.2.2) ((RG.m c_.2.2).length) (RG.c2 c_.2.2), pq g110, ud, ud, ud, ud, iv ((i : Nat) : Int), .slice A steps.length c, iv (steps.length : Nat), tv, iv ((i : Nat) : Int), iv ((i + 1 : Nat) : Int), .tuple #[tv, iv (RG.slot c_.2.2), .slice (RG.A1 c_.2.2) ((RG.s c_.2.2).length) (RG.c1 c_.2.2), .slice (RG.A2 c_.2.2) ((RG.m c_.2.2).length) (RG.c2 c_.2.2)], .slice A1 a.length c1, .slice A2 b.length c2, .slice A steps.length c, iv ((i : Nat) : Int), .pointer (some (ad.add (i * 5))), .pointer (some (ad.add (i * 5))), iv o.no, .slice A steps.length c, iv ((i : Nat) : Int), .pointer (some (ad.add (i * 5))), .pointer (some ((ad.add (i * 5)).add 2)), .slice o.A o.d.length o.cd, .slice c_.1 ((o.d.take (496 : Int).toNat).length) c_.2.1, .slice A steps.length c, iv ((i : Nat) : Int), .pointer (some (ad.add (i * 5))), .pointer (some ((ad.add (i * 5)).add 1)), iv o.cut, iv ((cutF o.cut : Nat) : Int), .slice A steps.length c, iv ((i : Nat) : Int), .pointer (some (ad.add (i * 5))), .pointer (some ((ad.add (i * 5)).add 4)), .bool o.back, .tuple #[tv, iv (RG.slot c_.2.2), .slice (RG.A1 c_.2.2) ((RG.s c_.2.2).length) (RG.c1 c_.2.2), .slice (RG.A2 c_.2.2) ((RG.m c_.2.2).length) (RG.c2 c_.2.2)], tv, iv (RG.slot c_.2.2), .slice (RG.A1 c_.2.2) ((RG.s c_.2.2).length) (RG.c1 c_.2.2), .slice (RG.A2 c_.2.2) ((RG.m c_.2.2).length) (RG.c2 c_.2.2), tv, fv, .slice (RG.A1 c_.2.2) ((RG.s c_.2.2).length) (RG.c1 c_.2.2), iv ((RG.s c_.2.2).length : Nat), tv, .slice A steps.length c, iv ((i : Nat) : Int), .pointer (some (ad.add (i * 5))), .pointer (some ((ad.add (i * 5)).add 3)), .bool o.torn, J 62, .tuple #[.slice A1 a.length c1, .slice (RG.A1 c_.2.2) ((RG.s c_.2.2).length) (RG.c1 c_.2.2)], .slice A1 a.length c1, .slice A2 b.length c2, iv (RG.slot c_.2.2), .slice (RG.A1 c_.2.2) ((RG.s c_.2.2).length) (RG.c1 c_.2.2), .tuple #[.slice A1 a.length c1, .slice (RG.A1 c_.2.2) ((RG.s c_.2.2).length) (RG.c1 c_.2.2)], .slice A1 a.length c1, .slice (RG.A1 c_.2.2) ((RG.s c_.2.2).length) (RG.c1 c_.2.2), .slice A1 a.length c1, .slice (RG.A1 c_.2.2) ((RG.s c_.2.2).length) (RG.c1 c_.2.2), .agg #[iv ((newestF a (RG.s c_.2.2)).1 : Int), iv ((newestF a (RG.s c_.2.2)).2.1 : Int), .slice A108 ((newestF a (RG.s c_.2.2)).2.2.1.length) c109, iv ((newestF a (RG.s c_.2.2)).2.2.2 : Int)], po g110 1, iv ((newestF a (RG.s c_.2.2)).2.1 : Int), iv ((lst : Nat) : Int), fv, fv, iv ((lst : Nat) : Int), fv, fv, ud, ud, ud, fv, fv, po g110 1, iv ((newestF a (RG.s c_.2.2)).2.1 : Int)]), by kernel_rfl, S120, ⟨by omega, hla, hlb, Nat.le_refl _, grow_pos⟩⟩, (by show steps.length - (i + 1) < steps.length - i; omega)⟩
      · skip
        have hq := And.intro hl1 hl2
        refine wl_end _ rfl ?_
        refine then_n ?_
        refine wp_cond_false (by kernel_rfl) ?_
        refine wp_skip ?_
        refine then_n ?_
        refine wp_seq ?_
        refine wp_region_lit ?_
        refine pv (.slice A1 a.length c1) ?_
        refine pv (.slice A2 b.length c2) ?_
        refine wl_gv rfl (gv_call (args := #[.slice A1 a.length c1, .slice A2 b.length c2]) rfl Try.func23 (by kernel_rfl) rfl rfl (by kernel_rfl) ?_)
        refine Calls.mono (ask_all (a := a) (b := b) S58 rfl rfl (RoT.bytesX 3 rfl rfl) (RoT.bytesX 4 rfl rfl) (by omega) (by omega)) ?_
        rintro _ w121 ⟨A123, c124, rfl, S122⟩
        refine ⟨_, rfl, ?_⟩
        refine wl_gv rfl (gv_new (z := .agg #[.int .i64 0, .int .i64 0, .slice none 0 0, .int .i64 0]) S122 rfl (by kernel_rfl) (fun g125 w126 hg127 S128 => ?_))
        refine wl_gv rfl (gv_stA (k := 0) (vs := [.int .i64 ((newestF a b).1 : Int), .int .i64 ((newestF a b).2.1 : Int), .slice A123 ((newestF a b).2.2.1.length) c124, .int .i64 ((newestF a b).2.2.2 : Int)]) S128 0 rfl rfl (by kernel_rfl) (by kernel_rfl) (by kernel_rfl) rfl (by simp [Value.oneCell']) (Nat.le_of_ble_eq_true (by kernel_rfl)) (L' := [row g125 #[.int .i64 ((newestF a b).1 : Int), .int .i64 ((newestF a b).2.1 : Int), .slice A123 ((newestF a b).2.2.1.length) c124, .int .i64 ((newestF a b).2.2.2 : Int)] 53, bytesX (.slice A123 (newestF a b).2.2.1.length c124) (newestF a b).2.2.1, bytesX (.slice (RG.A1 c_.2.2) (RG.s c_.2.2).length (RG.c1 c_.2.2)) (RG.s c_.2.2), bytesX (.slice (RG.A2 c_.2.2) (RG.m c_.2.2).length (RG.c2 c_.2.2)) (RG.m c_.2.2), vec 5 1 (.slice c_.1 ((o.d.take (496 : Int).toNat).length) c_.2.1) ((o.d.take (496 : Int).toNat).length) ((o.d.take (496 : Int).toNat).map bv), bytesX (.slice A1 a.length c1) a, bytesX (.slice A2 b.length c2) b]) rfl (fun w129 S130 => ?_))
        refine wl_end _ rfl ?_
        refine then_n ?_
        refine wp_seq ?_
        refine wp_seq ?_
        refine wp_region_lit ?_
        refine pv (po g125 1) ?_
        refine wl_gv rfl (gv_ldR (v := .int .i64 ((newestF a b).2.1 : Int)) rfl (by kernel_rfl) (by kernel_rfl) (((S130.blk 0 rfl).cell 1).trans rfl) ?_)
        refine pv (iv ((lst : Nat) : Int)) ?_
        refine wl_gv rfl (gv_dec (p := (((newestF a b).2.1 : Int) : Int) < ((lst : Nat) : Int)) (by kernel_rfl) (fun hd131 => False.elim (by have := hq.1; omega)) (fun _ => ?_))
        refine pv fv ?_
        refine wl_when (by kernel_rfl) (gv_val (v := .int .i64 ((lst : Nat) : Int)) (w' := w129) (by kernel_rfl) ?_)
        refine wl_when (by kernel_rfl) (gv_dec (p := (((lst : Nat) : Int) : Int) > 0) (by kernel_rfl) (fun hb132 => ?_) (fun hb132 => ?_))
        · skip
          refine wl_when (by kernel_rfl) (gv_val (v := .bool true) (w' := w129) (by kernel_rfl) ?_)
          refine wl_when (by kernel_rfl) (gv_val (v := .pointer (some ⟨g125, 3, none⟩)) (w' := w129) (by kernel_rfl) ?_)
          refine wl_when (by kernel_rfl) (gv_ldR (v := .int .i64 ((newestF a b).2.2.2 : Int)) rfl (by kernel_rfl) (by kernel_rfl) (((S130.blk 0 rfl).cell 3).trans rfl) ?_)
          refine wl_when (by kernel_rfl) (gv_ne (x := ((newestF a b).2.2.2 : Int)) (y := 0) (by kernel_rfl) (fun hd133 => False.elim (by have := hq.2 (by omega); omega)) (fun _ => ?_))
          refine wl_when (by kernel_rfl) (gv_val (v := .bool false) (w' := w129) (by kernel_rfl) ?_)
          refine pv fv ?_
          refine wl_end _ rfl ?_
          refine then_n ?_
          refine wp_cond_false (by kernel_rfl) ?_
          refine wp_skip ?_
          refine then_n ?_
          refine wp_region_lit ?_
          refine pv (po g125 1) ?_
          refine wl_gv rfl (gv_ldR (v := .int .i64 ((newestF a b).2.1 : Int)) rfl (by kernel_rfl) (by kernel_rfl) (((S130.blk 0 rfl).cell 1).trans rfl) ?_)
          refine pv (iv ((newestF a b).2.1 : Int)) ?_
          refine wl_end _ rfl ?_
          refine inb_n ?_
          refine then_n ?_
          refine wp_region_lit ?_
          refine pv (iv ((i : Nat) : Int)) ?_
          refine wl_gv rfl (gv_int (k := .i64) (z := IntKind.i64.wrap (((i : Nat) : Int) + 1)) (z' := ((i + 1 : Nat) : Int)) (by kernel_rfl) (wr_eq (by omega) (by omega) (by omega)) ?_)
          refine pv (iv ((i + 1 : Nat) : Int)) ?_
          have S134 : St none' w w129 [bytesX (.slice A1 a.length c1) a, bytesX (.slice A2 b.length c2) b] := St.permT [row g125 #[.int .i64 ((newestF a b).1 : Int), .int .i64 ((newestF a b).2.1 : Int), .slice A123 ((newestF a b).2.2.1.length) c124, .int .i64 ((newestF a b).2.2.2 : Int)] 53, bytesX (.slice A123 (newestF a b).2.2.1.length c124) (newestF a b).2.2.1, bytesX (.slice (RG.A1 c_.2.2) (RG.s c_.2.2).length (RG.c1 c_.2.2)) (RG.s c_.2.2), bytesX (.slice (RG.A2 c_.2.2) (RG.m c_.2.2).length (RG.c2 c_.2.2)) (RG.m c_.2.2), vec 5 1 (.slice c_.1 ((o.d.take (496 : Int).toNat).length) c_.2.1) ((o.d.take (496 : Int).toNat).length) ((o.d.take (496 : Int).toNat).map bv), bytesX (.slice A1 a.length c1) a, bytesX (.slice A2 b.length c2) b] [5, 6] (by decide) rfl S130
          have hla : a.length = 512 := by omega
          have hlb : b.length = 512 := by omega
          refine wl_end _ rfl ?_
          refine then_n ?_
          exact ⟨(i + 1, a, b, A1, c1, A2, c2, (newestF a b).2.1), ⟨(jl [ud, ud, J 2, ud, ud, ud, ud, tv, iv (RG.slot c_.2.2), .slice (RG.A1 c_.2.2) ((RG.s c_.2.2).length) (RG.c1 c_.2.2), .slice (RG.A2 c_.2.2) ((RG.m c_.2.2).length) (RG.c2 c_.2.2), pq g125, ud, ud, ud, ud, iv ((i : Nat) : Int), .slice A steps.length c, iv (steps.length : Nat), tv, iv ((i : Nat) : Int), iv ((i + 1 : Nat) : Int), .tuple #[tv, iv (RG.slot c_.2.2), .slice (RG.A1 c_.2.2) ((RG.s c_.2.2).length) (RG.c1 c_.2.2), .slice (RG.A2 c_.2.2) ((RG.m c_.2.2).length) (RG.c2 c_.2.2)], .slice A1 a.length c1, .slice A2 b.length c2, .slice A steps.length c, iv ((i : Nat) : Int), .pointer (some (ad.add (i * 5))), .pointer (some (ad.add (i * 5))), iv o.no, .slice A steps.length c, iv ((i : Nat) : Int), .pointer (some (ad.add (i * 5))), .pointer (some ((ad.add (i * 5)).add 2)), .slice o.A o.d.length o.cd, .slice c_.1 ((o.d.take (496 : Int).toNat).length) c_.2.1, .slice A steps.length c, iv ((i : Nat) : Int), .pointer (some (ad.add (i * 5))), .pointer (some ((ad.add (i * 5)).add 1)), iv o.cut, iv ((cutF o.cut : Nat) : Int), .slice A steps.length c, iv ((i : Nat) : Int), .pointer (some (ad.add (i * 5))), .pointer (some ((ad.add (i * 5)).add 4)), .bool o.back, .tuple #[tv, iv (RG.slot c_.2.2), .slice (RG.A1 c_.2.2) ((RG.s c_.2.2).length) (RG.c1 c_.2.2), .slice (RG.A2 c_.2.2) ((RG.m c_.2.2).length) (RG.c2 c_.2.2)], tv, iv (RG.slot c_.2.2), .slice (RG.A1 c_.2.2) ((RG.s c_.2.2).length) (RG.c1 c_.2.2), .slice (RG.A2 c_.2.2) ((RG.m c_.2.2).length) (RG.c2 c_.2.2), tv, fv, .slice (RG.A1 c_.2.2) ((RG.s c_.2.2).length) (RG.c1 c_.2.2), iv ((RG.s c_.2.2).length : Nat), fv, J 57, J 58, J 59, J 60, J 61, J 62, J 63, J 64, J 65, J 66, J 67, J 68, J 69, J 70, .slice A1 a.length c1, .slice A2 b.length c2, .agg #[iv ((newestF a b).1 : Int), iv ((newestF a b).2.1 : Int), .slice A123 ((newestF a b).2.2.1.length) c124, iv ((newestF a b).2.2.2 : Int)], po g125 1, iv ((newestF a b).2.1 : Int), iv ((lst : Nat) : Int), fv, fv, iv ((lst : Nat) : Int), tv, tv, po g125 3, iv ((newestF a b).2.2.2 : Int), fv, fv, fv, po g125 1, iv ((newestF a b).2.1 : Int)]), by kernel_rfl, S134, ⟨by omega, hla, hlb, Nat.le_refl _, grow_pos⟩⟩, (by show steps.length - (i + 1) < steps.length - i; omega)⟩
        · skip
          refine wl_when (by kernel_rfl) (gv_val (v := .bool false) (w' := w129) (by kernel_rfl) ?_)
          refine wl_not (by kernel_rfl) ?_
          refine wl_not (by kernel_rfl) ?_
          refine wl_not (by kernel_rfl) ?_
          refine wl_when (by kernel_rfl) (gv_val (v := .bool false) (w' := w129) (by kernel_rfl) ?_)
          refine pv fv ?_
          refine wl_end _ rfl ?_
          refine then_n ?_
          refine wp_cond_false (by kernel_rfl) ?_
          refine wp_skip ?_
          refine then_n ?_
          refine wp_region_lit ?_
          refine pv (po g125 1) ?_
          refine wl_gv rfl (gv_ldR (v := .int .i64 ((newestF a b).2.1 : Int)) rfl (by kernel_rfl) (by kernel_rfl) (((S130.blk 0 rfl).cell 1).trans rfl) ?_)
          refine pv (iv ((newestF a b).2.1 : Int)) ?_
          refine wl_end _ rfl ?_
          refine inb_n ?_
          refine then_n ?_
          refine wp_region_lit ?_
          refine pv (iv ((i : Nat) : Int)) ?_
          refine wl_gv rfl (gv_int (k := .i64) (z := IntKind.i64.wrap (((i : Nat) : Int) + 1)) (z' := ((i + 1 : Nat) : Int)) (by kernel_rfl) (wr_eq (by omega) (by omega) (by omega)) ?_)
          refine pv (iv ((i + 1 : Nat) : Int)) ?_
          have S135 : St none' w w129 [bytesX (.slice A1 a.length c1) a, bytesX (.slice A2 b.length c2) b] := St.permT [row g125 #[.int .i64 ((newestF a b).1 : Int), .int .i64 ((newestF a b).2.1 : Int), .slice A123 ((newestF a b).2.2.1.length) c124, .int .i64 ((newestF a b).2.2.2 : Int)] 53, bytesX (.slice A123 (newestF a b).2.2.1.length c124) (newestF a b).2.2.1, bytesX (.slice (RG.A1 c_.2.2) (RG.s c_.2.2).length (RG.c1 c_.2.2)) (RG.s c_.2.2), bytesX (.slice (RG.A2 c_.2.2) (RG.m c_.2.2).length (RG.c2 c_.2.2)) (RG.m c_.2.2), vec 5 1 (.slice c_.1 ((o.d.take (496 : Int).toNat).length) c_.2.1) ((o.d.take (496 : Int).toNat).length) ((o.d.take (496 : Int).toNat).map bv), bytesX (.slice A1 a.length c1) a, bytesX (.slice A2 b.length c2) b] [5, 6] (by decide) rfl S130
          have hla : a.length = 512 := by omega
          have hlb : b.length = 512 := by omega
          refine wl_end _ rfl ?_
          refine then_n ?_
          exact ⟨(i + 1, a, b, A1, c1, A2, c2, (newestF a b).2.1), ⟨(jl [ud, ud, J 2, ud, ud, ud, ud, tv, iv (RG.slot c_.2.2), .slice (RG.A1 c_.2.2) ((RG.s c_.2.2).length) (RG.c1 c_.2.2), .slice (RG.A2 c_.2.2) ((RG.m c_.2.2).length) (RG.c2 c_.2.2), pq g125, ud, ud, ud, ud, iv ((i : Nat) : Int), .slice A steps.length c, iv (steps.length : Nat), tv, iv ((i : Nat) : Int), iv ((i + 1 : Nat) : Int), .tuple #[tv, iv (RG.slot c_.2.2), .slice (RG.A1 c_.2.2) ((RG.s c_.2.2).length) (RG.c1 c_.2.2), .slice (RG.A2 c_.2.2) ((RG.m c_.2.2).length) (RG.c2 c_.2.2)], .slice A1 a.length c1, .slice A2 b.length c2, .slice A steps.length c, iv ((i : Nat) : Int), .pointer (some (ad.add (i * 5))), .pointer (some (ad.add (i * 5))), iv o.no, .slice A steps.length c, iv ((i : Nat) : Int), .pointer (some (ad.add (i * 5))), .pointer (some ((ad.add (i * 5)).add 2)), .slice o.A o.d.length o.cd, .slice c_.1 ((o.d.take (496 : Int).toNat).length) c_.2.1, .slice A steps.length c, iv ((i : Nat) : Int), .pointer (some (ad.add (i * 5))), .pointer (some ((ad.add (i * 5)).add 1)), iv o.cut, iv ((cutF o.cut : Nat) : Int), .slice A steps.length c, iv ((i : Nat) : Int), .pointer (some (ad.add (i * 5))), .pointer (some ((ad.add (i * 5)).add 4)), .bool o.back, .tuple #[tv, iv (RG.slot c_.2.2), .slice (RG.A1 c_.2.2) ((RG.s c_.2.2).length) (RG.c1 c_.2.2), .slice (RG.A2 c_.2.2) ((RG.m c_.2.2).length) (RG.c2 c_.2.2)], tv, iv (RG.slot c_.2.2), .slice (RG.A1 c_.2.2) ((RG.s c_.2.2).length) (RG.c1 c_.2.2), .slice (RG.A2 c_.2.2) ((RG.m c_.2.2).length) (RG.c2 c_.2.2), tv, fv, .slice (RG.A1 c_.2.2) ((RG.s c_.2.2).length) (RG.c1 c_.2.2), iv ((RG.s c_.2.2).length : Nat), fv, J 57, J 58, J 59, J 60, J 61, J 62, J 63, J 64, J 65, J 66, J 67, J 68, J 69, J 70, .slice A1 a.length c1, .slice A2 b.length c2, .agg #[iv ((newestF a b).1 : Int), iv ((newestF a b).2.1 : Int), .slice A123 ((newestF a b).2.2.1.length) c124, iv ((newestF a b).2.2.2 : Int)], po g125 1, iv ((newestF a b).2.1 : Int), iv ((lst : Nat) : Int), fv, fv, iv ((lst : Nat) : Int), fv, fv, ud, ud, ud, fv, fv, po g125 1, iv ((newestF a b).2.1 : Int)]), by kernel_rfl, S135, ⟨by omega, hla, hlb, Nat.le_refl _, grow_pos⟩⟩, (by show steps.length - (i + 1) < steps.length - i; omega)⟩
  · skip
    refine wl_end _ rfl ?_
    refine then_n ?_
    refine wp_cond_false (by kernel_rfl) ?_
    refine wp_exit ?_
    refine then_x ?_
    refine then_x ?_
    refine inb_x ?_
    refine then_n ?_
    refine wp_seq ?_
    refine wp_region_lit ?_
    refine pv tv ?_
    refine wl_end _ rfl ?_
    refine then_n ?_
    refine wp_ret ?_
    refine bodyPost_ret (v := .bool true) (results_t1 rfl (by kernel_rfl)) rfl ?_
    exact ⟨rfl, S11.fr.below⟩
end Go.Proofs
