/- made, renewed, SealRenews of the laws. -/
import Derived.Test.YtgelippmcflppaaHSeal4
open Go Go.RowKit Go.Proofs.YtgelippmcflppaaW.PrintWords Go.Proofs.YtgelippmcflppaaW.PrintMore
namespace Go.Proofs
open Go.Vel
set_option linter.unusedVariables false
set_option maxRecDepth 100000
set_option maxHeartbeats 4000000
attribute [local irreducible] gives wpList Code.wp

theorem sealF_len (a b : List UInt8) : (sealF a b).1.length ≤ 512 := by
  unfold sealF
  split
  · exact Nat.zero_le _
  · split
    · exact Nat.zero_le _
    · show (form _ b).length ≤ 512; rw [length_form _ (by omega)]; exact Nat.le_refl _
theorem vec_set {X : List UInt8} {junk : List Value} {k : Nat} (b : UInt8) (h : k < X.length) : (X.map bv ++ junk).toArray.setIfInBounds k (.int .u8 (b.toNat : Int)) = ((X.set k b).map bv ++ junk).toArray := by
  rw [List.setIfInBounds_toArray, List.set_append_left _ _ (by rw [List.length_map]; exact h), List.map_set]; rfl
theorem vec_blt {X : List UInt8} {junk : List Value} {k : Nat} (h : k < X.length) : Nat.blt k ((X.map bv ++ junk).toArray).size = true := Nat.ble_eq_true_of_le (by simp; omega)
theorem ps_renew' {F : Nat → Prop} {w0 w : World} {L : List Ast} (S : St F w0 w L) {A B D : Option Addr} {a b d : List UInt8} {ca cb cd : Nat} {no : Int} (ha : RoT F w0 L A a) (hb : RoT F w0 L B b) (hd : RoT F w0 L D d) (hma : a.length ≤ 9223372036854775807) (hmb : b.length ≤ 9223372036854775807) (hmd : d.length ≤ 140737488355328) (hno : no ≤ 9223372036854775807) : Calls Try.prog 33 #[.slice A a.length ca, .slice B b.length cb, .int .i64 no, .slice D d.length cd] w fun e w' => ∃ A c, e = .returned (.tuple #[.int .i64 ((renewF a b no d).1 : Int), .slice A (renewF a b no d).2.1.length c, .int .i64 ((renewF a b no d).2.2 : Int)]) ∧ St F w0 w' (bytesX (.slice A (renewF a b no d).2.1.length c) (renewF a b no d).2.1 :: L) := ps_renew S ha hb hd hma hmb hmd hno
theorem up3' {F : Nat → Prop} {w0 w : World} {L : List Ast} {A : Option Addr} {l : List UInt8} {m ca : Nat} {n : Int} (hm : m = l.length) (S : St F w0 w L) (hr : RoT F w0 L A l) (hlm : l.length ≤ 140737488355328) : Calls Try.prog 16 #[.slice A m ca, .int .i64 n] w fun e w' => ∃ A c, e = .returned (.slice A (l.take n.toNat).length c) ∧ St F w0 w' (vec 5 1 (.slice A (l.take n.toNat).length c) (l.take n.toNat).length ((l.take n.toNat).map bv) :: L) := by
  subst hm; exact up3 S hr hlm
theorem num_ro {w : World} {n : Int} : Calls Try.prog 35 #[.int .i64 n] w fun e w' => e = .returned (.int .i64 n) ∧ w = w' := by
  refine wp_enter (fr [iv n] 3) Try.func35 rfl (by kernel_rfl) ?_
  refine wp_seq ?_
  refine wp_region_lit ?_
  refine pv (iv 0) ?_
  refine wl_end (fr [iv n, ud, iv 0] 1) (by kernel_rfl) ?_
  refine then_n ?_
  refine wp_seq ?_
  refine wp_region_lit ?_
  refine pv (iv n) ?_
  refine pv (iv n) ?_
  refine wl_end (fr [iv n, ud, iv n, iv n] 0) (by kernel_rfl) ?_
  refine then_n ?_
  refine wp_ret ?_
  refine bodyPost_ret (v := .int .i64 n) (results_t1 rfl (by kernel_rfl)) rfl ?_
  exact ⟨rfl, rfl⟩
theorem made_all {F : Nat → Prop} {w0 w : World} {L : List Ast} (S : St F w0 w L) {kd nu ov : Int} {A : Option Addr} {l : List UInt8} {ca : Nat} (hr : RoT F w0 L A l) (hlm : l.length ≤ 140737488351232) : Calls Try.prog 14 #[.agg #[.int .i64 kd, .int .i64 nu, .int .i64 ov, .slice A l.length ca]] w fun e w' => ∃ (A : Option Addr) (c : Nat) (X : List UInt8), e = .returned (.slice A X.length c) ∧ X.length ≤ 140737488351232 ∧ St F w0 w' (vec 5 1 (.slice A X.length c) X.length (X.map bv) :: L) := by

  refine wp_enter (fr [.agg #[iv kd, iv nu, iv ov, .slice A l.length ca]] 77) Try.func14 rfl (by kernel_rfl) ?_
  refine wp_seq ?_
  refine wp_region_lit ?_
  refine wl_gv rfl (gv_box (v := .agg #[.int .i64 kd, .int .i64 nu, .int .i64 ov, .slice A l.length ca]) S rfl (by kernel_rfl) (fun g1 w2 hg3 S4 => ?_))
  refine pv (.slice none 0 0) ?_
  refine wl_end (fr [.agg #[iv kd, iv nu, iv ov, .slice A l.length ca], pq g1, .slice none 0 0] 75) (by kernel_rfl) ?_
  refine then_n ?_
  refine wp_seq ?_
  refine wp_seq ?_
  refine wp_region_lit ?_
  refine pv (pq g1) ?_
  refine wl_gv rfl (gv_ldR (v := .int .i64 kd) rfl (by kernel_rfl) (by kernel_rfl) (((S4.blk 0 rfl).cell 0).trans rfl) ?_)
  refine wl_gv rfl (gv_eq (x := kd) (y := 0) (by kernel_rfl) (fun hb5 => ?_) (fun hb5 => ?_))
  · skip
    refine wl_end (fr [.agg #[iv kd, iv nu, iv ov, .slice A l.length ca], pq g1, .slice none 0 0, ud, ud, ud, ud, ud, ud, ud, pq g1, iv kd, tv] 65) (by kernel_rfl) ?_
    refine then_n ?_
    refine wp_cond_true (by kernel_rfl) ?_
    refine wp_seq ?_
    refine wp_region_lit ?_
    refine pv (po g1 3) ?_
    refine wl_gv rfl (gv_ldR (v := .slice A l.length ca) rfl (by kernel_rfl) (by kernel_rfl) (((S4.blk 0 rfl).cell 3).trans rfl) ?_)
    refine wl_gv rfl (gv_call (args := #[.slice A l.length ca]) rfl Try.func26 (by kernel_rfl) rfl rfl (by kernel_rfl) ?_)
    refine Calls.mono (tw3 S4 hr.more (by omega)) ?_
    rintro _ w6 ⟨A8, c9, rfl, S7⟩
    refine ⟨_, rfl, ?_⟩
    refine pv (.slice A8 l.length c9) ?_
    refine wl_end (fr [.agg #[iv kd, iv nu, iv ov, .slice A l.length ca], pq g1, .slice A8 l.length c9, ud, ud, ud, ud, ud, ud, ud, pq g1, iv kd, tv, po g1 3, .slice A l.length ca, .slice A8 l.length c9] 62) (by kernel_rfl) ?_
    refine then_n ?_
    refine wp_ret ?_
    refine then_r ?_
    refine bodyPost_ret (v := .slice A8 l.length c9) (results_t1 rfl (by kernel_rfl)) rfl ?_
    have S10 : St F w0 w6 (vec 5 1 (.slice A8 l.length c9) l.length (l.map bv) :: L) := St.permT [vec 5 1 (.slice A8 l.length c9) l.length (l.map bv), row g1 #[.int .i64 kd, .int .i64 nu, .int .i64 ov, .slice A l.length ca] 35] [0] (by decide) rfl S7
    exact ⟨A8, c9, l, rfl, hlm, S10⟩
  · skip
    refine wl_end (fr [.agg #[iv kd, iv nu, iv ov, .slice A l.length ca], pq g1, .slice none 0 0, ud, ud, ud, ud, ud, ud, ud, pq g1, iv kd, fv] 65) (by kernel_rfl) ?_
    refine then_n ?_
    refine wp_cond_false (by kernel_rfl) ?_
    refine wp_skip ?_
    refine then_n ?_
    refine wp_seq ?_
    refine wp_seq ?_
    refine wp_region_lit ?_
    refine pv (pq g1) ?_
    refine wl_gv rfl (gv_ldR (v := .int .i64 kd) rfl (by kernel_rfl) (by kernel_rfl) (((S4.blk 0 rfl).cell 0).trans rfl) ?_)
    refine wl_gv rfl (gv_ne (x := kd) (y := 2) (by kernel_rfl) (fun hb11 => ?_) (fun hb11 => ?_))
    · skip
      refine pv tv ?_
      refine wl_when (by kernel_rfl) (gv_val (v := .pointer (some ⟨g1, 0, none⟩)) (w' := w2) (by kernel_rfl) ?_)
      refine wl_when (by kernel_rfl) (gv_ldR (v := .int .i64 kd) rfl (by kernel_rfl) (by kernel_rfl) (((S4.blk 0 rfl).cell 0).trans rfl) ?_)
      refine wl_when (by kernel_rfl) (gv_ne (x := kd) (y := 3) (by kernel_rfl) (fun hb12 => ?_) (fun hb12 => ?_))
      · skip
        refine pv tv ?_
        refine wl_end (fr [.agg #[iv kd, iv nu, iv ov, .slice A l.length ca], pq g1, .slice none 0 0, ud, ud, ud, ud, ud, ud, ud, pq g1, iv kd, fv, ud, ud, ud, pq g1, iv kd, tv, tv, pq g1, iv kd, tv, tv] 54) (by kernel_rfl) ?_
        refine then_n ?_
        refine wp_cond_true (by kernel_rfl) ?_
        refine wp_seq ?_
        refine wp_region_lit ?_
        refine pv (po g1 3) ?_
        refine wl_gv rfl (gv_ldR (v := .slice A l.length ca) rfl (by kernel_rfl) (by kernel_rfl) (((S4.blk 0 rfl).cell 3).trans rfl) ?_)
        refine wl_gv rfl (gv_call (args := #[.slice A l.length ca]) rfl Try.func18 (by kernel_rfl) rfl rfl (by kernel_rfl) ?_)
        refine Calls.mono (se3 S4 hr.more (by omega)) ?_
        rintro _ w13 ⟨A15, c16, rfl, S14⟩
        refine ⟨_, rfl, ?_⟩
        refine pv (.slice A15 512 c16) ?_
        refine wl_end (fr [.agg #[iv kd, iv nu, iv ov, .slice A l.length ca], pq g1, .slice A15 512 c16, ud, ud, ud, ud, ud, ud, ud, pq g1, iv kd, fv, ud, ud, ud, pq g1, iv kd, tv, tv, pq g1, iv kd, tv, tv, po g1 3, .slice A l.length ca, .slice A15 512 c16] 51) (by kernel_rfl) ?_
        refine then_n ?_
        refine wp_ret ?_
        refine then_r ?_
        refine bodyPost_ret (v := .slice A15 512 c16) (results_t1 rfl (by kernel_rfl)) rfl ?_
        have S17 : St F w0 w13 (vec 5 1 (.slice A15 512 c16) 512 ((sec3 l).map bv) :: L) := St.permT [vec 5 1 (.slice A15 512 c16) 512 ((sec3 l).map bv), row g1 #[.int .i64 kd, .int .i64 nu, .int .i64 ov, .slice A l.length ca] 35] [0] (by decide) rfl S14
        exact ⟨A15, c16, sec3 l, by rw [sec3_len], by rw [sec3_len]; decide, by rw [sec3_len]; exact S17⟩
      · skip
        refine pv fv ?_
        refine wl_end (fr [.agg #[iv kd, iv nu, iv ov, .slice A l.length ca], pq g1, .slice none 0 0, ud, ud, ud, ud, ud, ud, ud, pq g1, iv kd, fv, ud, ud, ud, pq g1, iv kd, tv, tv, pq g1, iv kd, fv, fv] 54) (by kernel_rfl) ?_
        refine then_n ?_
        refine wp_cond_false (by kernel_rfl) ?_
        refine wp_skip ?_
        refine then_n ?_
        refine wp_seq ?_
        refine wp_region_lit ?_
        refine pv (.slice none 0 0) ?_
        have S18 : St F w0 w2 (vec 5 1 (.slice none 0 0) 0 ([].map bv) :: row g1 #[.int .i64 kd, .int .i64 nu, .int .i64 ov, .slice A l.length ca] 35 :: L) := St.vec_nil S4
        refine wl_end (fr [.agg #[iv kd, iv nu, iv ov, .slice A l.length ca], pq g1, .slice none 0 0, .slice none 0 0, ud, ud, ud, ud, ud, ud, pq g1, iv kd, fv, ud, ud, ud, pq g1, iv kd, tv, tv, pq g1, iv kd, fv, fv] 54) (by kernel_rfl) ?_
        refine then_n ?_
        refine wp_seq ?_
        refine wp_seq ?_
        refine wp_region_lit ?_
        refine pv (pq g1) ?_
        refine wl_gv rfl (gv_ldR (v := .int .i64 kd) rfl (by kernel_rfl) (by kernel_rfl) (((S18.blk 1 rfl).cell 0).trans rfl) ?_)
        refine wl_gv rfl (gv_eq (x := kd) (y := 3) (by kernel_rfl) (fun hb19 => ?_) (fun hb19 => ?_))
        · skip
          refine wl_end (fr [.agg #[iv kd, iv nu, iv ov, .slice A l.length ca], pq g1, .slice none 0 0, .slice none 0 0, ud, ud, ud, ud, ud, ud, pq g1, iv kd, fv, ud, ud, ud, pq g1, iv kd, tv, tv, pq g1, iv kd, fv, fv, ud, ud, ud, pq g1, iv kd, tv] 48) (by kernel_rfl) ?_
          refine then_n ?_
          refine wp_cond_true (by kernel_rfl) ?_
          refine wp_seq ?_
          refine wp_region_lit ?_
          refine pv (po g1 1) ?_
          refine wl_gv rfl (gv_ldR (v := .int .i64 nu) rfl (by kernel_rfl) (by kernel_rfl) (((S18.blk 1 rfl).cell 1).trans rfl) ?_)
          refine pv (iv nu) ?_
          refine wl_end (fr [.agg #[iv kd, iv nu, iv ov, .slice A l.length ca], pq g1, .slice none 0 0, .slice none 0 0, iv nu, ud, ud, ud, ud, ud, pq g1, iv kd, fv, ud, ud, ud, pq g1, iv kd, tv, tv, pq g1, iv kd, fv, fv, ud, ud, ud, pq g1, iv kd, tv, po g1 1, iv nu] 46) (by kernel_rfl) ?_
          refine then_n ?_
          refine wp_seq ?_
          refine wp_region_lit ?_
          refine pv (iv 0) ?_
          refine wl_end (fr [.agg #[iv kd, iv nu, iv ov, .slice A l.length ca], pq g1, .slice none 0 0, .slice none 0 0, iv nu, iv 0, ud, ud, ud, ud, pq g1, iv kd, fv, ud, ud, ud, pq g1, iv kd, tv, tv, pq g1, iv kd, fv, fv, ud, ud, ud, pq g1, iv kd, tv, po g1 1, iv nu] 46) (by kernel_rfl) ?_
          refine then_n ?_
          refine wp_block ?_
          refine wp_loop_g (G := Nat × Int × List UInt8 × Option Addr × Nat) (fun (g_ : Nat × Int × List UInt8 × Option Addr × Nat) (a_ : Act) (w_ : World) => ∃ J : Nat → Value, a_ = (fr [.agg #[iv kd, iv nu, iv ov, .slice A l.length ca], pq g1, .slice none 0 0, .slice g_.2.2.2.1 g_.1 g_.2.2.2.2, iv g_.2.1, iv ((g_.1 : Nat) : Int), ud, ud, ud, ud, pq g1, iv kd, fv, ud, ud, ud, pq g1, iv kd, tv, tv, pq g1, iv kd, fv, fv, ud, ud, ud, pq g1, iv kd, tv, po g1 1, iv nu, J 32, J 33, J 34, J 35, J 36, J 37, J 38, J 39, J 40, J 41, J 42, J 43] 34) ∧ St F w0 w_ (vec 5 1 (.slice g_.2.2.2.1 g_.1 g_.2.2.2.2) g_.1 (g_.2.2.1.map bv) :: row g1 #[.int .i64 kd, .int .i64 nu, .int .i64 ov, .slice A l.length ca] 35 :: L) ∧ (g_.1 ≤ 8 ∧ g_.2.2.1.length = g_.1)) (fun g_ => 8 - g_.1) (0, nu, [], none, 0) ⟨(jl []), by kernel_rfl, S18, ⟨Nat.zero_le _, rfl⟩⟩ ?_
          rintro ⟨k, z, X, A5, c5⟩ a_ w20 ⟨J, rfl, S21, hI22⟩
          skip
          have S21 : St F w0 w20 (vec 5 1 (.slice A5 k c5) k (X.map bv) :: row g1 #[.int .i64 kd, .int .i64 nu, .int .i64 ov, .slice A l.length ca] 35 :: L) := S21
          have hI22 : (k ≤ 8 ∧ X.length = k) := hI22
          refine wp_seq ?_
          refine wp_seq ?_
          refine wp_region_lit ?_
          refine pv (iv ((k : Nat) : Int)) ?_
          refine wl_gv rfl (gv_dec (p := (((k : Nat) : Int) : Int) < 8) (by kernel_rfl) (fun hb23 => ?_) (fun hb23 => ?_))
          · skip
            refine wl_end (fr [.agg #[iv kd, iv nu, iv ov, .slice A l.length ca], pq g1, .slice none 0 0, .slice A5 k c5, iv z, iv ((k : Nat) : Int), ud, ud, ud, ud, pq g1, iv kd, fv, ud, ud, ud, pq g1, iv kd, tv, tv, pq g1, iv kd, fv, fv, ud, ud, ud, pq g1, iv kd, tv, po g1 1, iv nu, iv ((k : Nat) : Int), tv, J 34, J 35, J 36, J 37, J 38, J 39, J 40, J 41, J 42, J 43] 34) (by kernel_rfl) ?_
            refine then_n ?_
            refine wp_cond_true (by kernel_rfl) ?_
            refine wp_skip ?_
            refine then_n ?_
            refine wp_seq ?_
            refine wp_block ?_
            refine wp_seq ?_
            refine wp_region_lit ?_
            refine pv (.slice A5 k c5) ?_
            refine pv (iv z) ?_
            refine wl_gv rfl (gv_int (k := .i64) (z := bits .and .i64 z 255) (z' := (bits .and .i64 z 255)) (by kernel_rfl) rfl ?_)
            refine wl_gv rfl (gv_int (k := .u8) (z := IntKind.u8.wrap (bits .and .i64 z 255)) (z' := ((UInt8.ofNat (bits .and .i64 z 255 % 256).toNat).toNat : Int)) (by kernel_rfl) (wrap_u8 _) ?_)
            refine wl_gv rfl (gv_slit (e := 5) (sz := 1) (z := .int .u8 0) (by_ := 1) (vs := #[(0, .int .u8 ((UInt8.ofNat (bits .and .i64 z 255 % 256).toNat).toNat : Int))]) (cells := #[.int .u8 ((UInt8.ofNat (bits .and .i64 z 255 % 256).toNat).toNat : Int)]) S21 rfl (by kernel_rfl) ⟨by kernel_rfl⟩ (by kernel_rfl) (by kernel_rfl) (by kernel_rfl) (by kernel_rfl) (fun g24 w25 hg26 S27 => ?_))
            have S28 : St F w0 w25 (row g24 #[.int .u8 ((UInt8.ofNat (bits .and .i64 z 255 % 256).toNat).toNat : Int)] 5 :: vec 5 1 (.slice A5 k c5) k (X.map bv) :: row g1 #[.int .i64 kd, .int .i64 nu, .int .i64 ov, .slice A l.length ca] 35 :: L) := St.permT [row g24 #[.int .u8 ((UInt8.ofNat (bits .and .i64 z 255 % 256).toNat).toNat : Int)] 5, vec 5 1 (.slice A5 k c5) k (X.map bv), row g1 #[.int .i64 kd, .int .i64 nu, .int .i64 ov, .slice A l.length ca] 35] [0, 1, 2] (by decide) rfl S27
            refine wl_gv rfl (gv_append (e := 5) (sz := 1) (n := k) (v := (.slice A5 k c5)) (vals := (X.map bv)) (z := .int .u8 0) (by_ := 1) (m := 1) (c' := 1) (ad := ⟨g24, 0, none⟩) (news := [.int .u8 ((UInt8.ofNat (bits .and .i64 z 255 % 256).toNat).toNat : Int)]) (St.swap S28) rfl (by kernel_rfl) ⟨by kernel_rfl⟩ rfl (by kernel_rfl) (by kernel_rfl) (by decide) rfl (row_news (S28.blk 0 rfl)) (by intro u hu; simp at hu; subst hu; rfl) (by omega) (by omega) (fun v30 w29 S31 => ?_))
            have S32 : St F w0 w29 (vec 5 1 v30 (k + 1) (X.map bv ++ [.int .u8 ((UInt8.ofNat (bits .and .i64 z 255 % 256).toNat).toNat : Int)]) :: row g1 #[.int .i64 kd, .int .i64 nu, .int .i64 ov, .slice A l.length ca] 35 :: L) := St.permT [vec 5 1 v30 (k + 1) (X.map bv ++ [.int .u8 ((UInt8.ofNat (bits .and .i64 z 255 % 256).toNat).toNat : Int)]), row g24 #[.int .u8 ((UInt8.ofNat (bits .and .i64 z 255 % 256).toNat).toNat : Int)] 5, row g1 #[.int .i64 kd, .int .i64 nu, .int .i64 ov, .slice A l.length ca] 35] [0, 2] (by decide) rfl S31
            rw [bv_snoc] at S32
            obtain ⟨A33, c34, rfl⟩ := St.vecV S32 0 rfl
            change St F w0 w29 (vec 5 1 (.slice A33 (k + 1) c34) (k + 1) ((X ++ [UInt8.ofNat (bits .and .i64 z 255 % 256).toNat]).map bv) :: row g1 #[.int .i64 kd, .int .i64 nu, .int .i64 ov, .slice A l.length ca] 35 :: L) at S32
            refine pv (.slice A33 (k + 1) c34) ?_
            refine wl_end (fr [.agg #[iv kd, iv nu, iv ov, .slice A l.length ca], pq g1, .slice none 0 0, .slice A33 (k + 1) c34, iv z, iv ((k : Nat) : Int), ud, ud, ud, ud, pq g1, iv kd, fv, ud, ud, ud, pq g1, iv kd, tv, tv, pq g1, iv kd, fv, fv, ud, ud, ud, pq g1, iv kd, tv, po g1 1, iv nu, iv ((k : Nat) : Int), tv, J 34, J 35, .slice A5 k c5, iv z, iv (bits .and .i64 z 255), .int .u8 ((UInt8.ofNat (bits .and .i64 z 255 % 256).toNat).toNat : Int), sl g24 0 1 1, .slice A33 (k + 1) c34, J 42, J 43] 34) (by kernel_rfl) ?_
            refine then_n ?_
            refine wp_region_lit ?_
            refine pv (iv z) ?_
            refine wl_gv rfl (gv_shr (k := .i64) (yk := .u64) (z := z) (i := 8) (j := 8) (z' := (z / 256)) rfl (by kernel_rfl) (by kernel_rfl) rfl (by decide) (by simp) ?_)
            refine pv (iv (z / 256)) ?_
            refine wl_end (fr [.agg #[iv kd, iv nu, iv ov, .slice A l.length ca], pq g1, .slice none 0 0, .slice A33 (k + 1) c34, iv (z / 256), iv ((k : Nat) : Int), ud, ud, ud, ud, pq g1, iv kd, fv, ud, ud, ud, pq g1, iv kd, tv, tv, pq g1, iv kd, fv, fv, ud, ud, ud, pq g1, iv kd, tv, po g1 1, iv nu, iv ((k : Nat) : Int), tv, J 34, J 35, .slice A5 k c5, iv z, iv (bits .and .i64 z 255), .int .u8 ((UInt8.ofNat (bits .and .i64 z 255 % 256).toNat).toNat : Int), sl g24 0 1 1, .slice A33 (k + 1) c34, iv z, iv (z / 256)] 34) (by kernel_rfl) ?_
            refine inb_n ?_
            refine then_n ?_
            refine wp_region_lit ?_
            refine pv (iv ((k : Nat) : Int)) ?_
            refine wl_gv rfl (gv_int (k := .i64) (z := IntKind.i64.wrap (((k : Nat) : Int) + 1)) (z' := ((k + 1 : Nat) : Int)) (by kernel_rfl) (wr_eq (by omega) (by omega) (by omega)) ?_)
            refine pv (iv ((k + 1 : Nat) : Int)) ?_
            refine wl_end (fr [.agg #[iv kd, iv nu, iv ov, .slice A l.length ca], pq g1, .slice none 0 0, .slice A33 (k + 1) c34, iv (z / 256), iv ((k + 1 : Nat) : Int), ud, ud, ud, ud, pq g1, iv kd, fv, ud, ud, ud, pq g1, iv kd, tv, tv, pq g1, iv kd, fv, fv, ud, ud, ud, pq g1, iv kd, tv, po g1 1, iv nu, iv ((k : Nat) : Int), tv, iv ((k : Nat) : Int), iv ((k + 1 : Nat) : Int), .slice A5 k c5, iv z, iv (bits .and .i64 z 255), .int .u8 ((UInt8.ofNat (bits .and .i64 z 255 % 256).toNat).toNat : Int), sl g24 0 1 1, .slice A33 (k + 1) c34, iv z, iv (z / 256)] 34) (by kernel_rfl) ?_
            refine then_n ?_
            exact ⟨(k + 1, z / 256, X ++ [UInt8.ofNat (bits .and .i64 z 255 % 256).toNat], A33, c34), ⟨(jl [ud, ud, ud, ud, ud, ud, ud, ud, ud, ud, ud, ud, ud, ud, ud, ud, ud, ud, ud, ud, ud, ud, ud, ud, ud, ud, ud, ud, ud, ud, ud, ud, iv ((k : Nat) : Int), tv, iv ((k : Nat) : Int), iv ((k + 1 : Nat) : Int), .slice A5 k c5, iv z, iv (bits .and .i64 z 255), .int .u8 ((UInt8.ofNat (bits .and .i64 z 255 % 256).toNat).toNat : Int), sl g24 0 1 1, .slice A33 (k + 1) c34, iv z, iv (z / 256)]), by kernel_rfl, S32, ⟨by omega, by rw [List.length_append]; show X.length + 1 = k + 1; omega⟩⟩, (by show 8 - (k + 1) < 8 - k; omega)⟩
          · skip
            refine wl_end (fr [.agg #[iv kd, iv nu, iv ov, .slice A l.length ca], pq g1, .slice none 0 0, .slice A5 k c5, iv z, iv ((k : Nat) : Int), ud, ud, ud, ud, pq g1, iv kd, fv, ud, ud, ud, pq g1, iv kd, tv, tv, pq g1, iv kd, fv, fv, ud, ud, ud, pq g1, iv kd, tv, po g1 1, iv nu, iv ((k : Nat) : Int), fv, J 34, J 35, J 36, J 37, J 38, J 39, J 40, J 41, J 42, J 43] 34) (by kernel_rfl) ?_
            refine then_n ?_
            refine wp_cond_false (by kernel_rfl) ?_
            refine wp_exit ?_
            refine then_x ?_
            refine then_x ?_
            refine inb_x ?_
            refine then_n ?_
            refine wp_seq ?_
            refine wp_seq ?_
            refine wp_region_lit ?_
            refine pv (iv 0) ?_
            refine wl_end (fr [.agg #[iv kd, iv nu, iv ov, .slice A l.length ca], pq g1, .slice none 0 0, .slice A5 k c5, iv z, iv ((k : Nat) : Int), iv 0, ud, ud, ud, pq g1, iv kd, fv, ud, ud, ud, pq g1, iv kd, tv, tv, pq g1, iv kd, fv, fv, ud, ud, ud, pq g1, iv kd, tv, po g1 1, iv nu, iv ((k : Nat) : Int), fv, J 34, J 35, J 36, J 37, J 38, J 39, J 40, J 41, J 42, J 43] 34) (by kernel_rfl) ?_
            refine then_n ?_
            refine wp_block ?_
            have hkX : k ≤ 8 := hI22.1
            have S35 : St F w0 w20 (vec 5 1 (.slice A5 (k + 0) c5) (k + 0) (X.map bv) :: row g1 #[.int .i64 kd, .int .i64 nu, .int .i64 ov, .slice A l.length ca] 35 :: L) := S21
            have hXl : X.length = k + 0 := hI22.2
            refine wp_loop_g (G := Nat × List UInt8 × Option Addr × Nat) (fun (g_ : Nat × List UInt8 × Option Addr × Nat) (a_ : Act) (w_ : World) => ∃ J : Nat → Value, a_ = (fr [.agg #[iv kd, iv nu, iv ov, .slice A l.length ca], pq g1, .slice none 0 0, .slice g_.2.2.1 (k + g_.1) g_.2.2.2, iv z, iv ((k : Nat) : Int), iv ((g_.1 : Nat) : Int), ud, ud, ud, pq g1, iv kd, fv, ud, ud, ud, pq g1, iv kd, tv, tv, pq g1, iv kd, fv, fv, ud, ud, ud, pq g1, iv kd, tv, po g1 1, iv nu, iv ((k : Nat) : Int), fv, J 34, J 35, J 36, J 37, J 38, J 39, J 40, J 41, J 42, J 43, J 44, J 45, J 46, J 47, J 48, J 49, J 50, J 51, J 52, J 53, J 54, J 55, J 56, J 57, J 58] 19) ∧ St F w0 w_ (vec 5 1 (.slice g_.2.2.1 (k + g_.1) g_.2.2.2) (k + g_.1) (g_.2.1.map bv) :: row g1 #[.int .i64 kd, .int .i64 nu, .int .i64 ov, .slice A l.length ca] 35 :: L) ∧ (g_.1 ≤ l.length ∧ g_.2.1.length = k + g_.1)) (fun g_ => l.length - g_.1) (0, X, A5, c5) ⟨(jl [ud, ud, ud, ud, ud, ud, ud, ud, ud, ud, ud, ud, ud, ud, ud, ud, ud, ud, ud, ud, ud, ud, ud, ud, ud, ud, ud, ud, ud, ud, ud, ud, ud, ud, J 34, J 35, J 36, J 37, J 38, J 39, J 40, J 41, J 42, J 43]), by kernel_rfl, S35, ⟨Nat.zero_le _, hXl⟩⟩ ?_
            rintro ⟨i, Y, A6, c6⟩ a_ w36 ⟨J, rfl, S37, hI38⟩
            skip
            have S37 : St F w0 w36 (vec 5 1 (.slice A6 (k + i) c6) (k + i) (Y.map bv) :: row g1 #[.int .i64 kd, .int .i64 nu, .int .i64 ov, .slice A l.length ca] 35 :: L) := S37
            have hI38 : (i ≤ l.length ∧ Y.length = k + i) := hI38
            refine wp_seq ?_
            refine wp_seq ?_
            refine wp_region_lit ?_
            refine pv (iv ((i : Nat) : Int)) ?_
            refine pv (po g1 3) ?_
            refine wl_gv rfl (gv_ldR (v := .slice A l.length ca) rfl (by kernel_rfl) (by kernel_rfl) (((S37.blk 1 rfl).cell 3).trans rfl) ?_)
            refine pv (iv (l.length : Nat)) ?_
            refine wl_gv rfl (gv_dec (p := (((i : Nat) : Int) : Int) < (l.length : Nat)) (by kernel_rfl) (fun hb39 => ?_) (fun hb39 => ?_))
            · skip
              have hi : i < l.length := by omega
              obtain ⟨ad, had⟩ := (hr.out _ [vec 5 1 (.slice A6 (k + i) c6) (k + i) (Y.map bv), row g1 #[.int .i64 kd, .int .i64 nu, .int .i64 ov, .slice A l.length ca] 35] S37).at hi
              refine wl_end (fr [.agg #[iv kd, iv nu, iv ov, .slice A l.length ca], pq g1, .slice none 0 0, .slice A6 (k + i) c6, iv z, iv ((k : Nat) : Int), iv ((i : Nat) : Int), ud, ud, ud, pq g1, iv kd, fv, ud, ud, ud, pq g1, iv kd, tv, tv, pq g1, iv kd, fv, fv, ud, ud, ud, pq g1, iv kd, tv, po g1 1, iv nu, iv ((k : Nat) : Int), fv, J 34, J 35, J 36, J 37, J 38, J 39, J 40, J 41, J 42, J 43, iv ((i : Nat) : Int), po g1 3, .slice A l.length ca, iv (l.length : Nat), tv, J 49, J 50, J 51, J 52, J 53, J 54, J 55, J 56, J 57, J 58] 19) (by kernel_rfl) ?_
              refine then_n ?_
              refine wp_cond_true (by kernel_rfl) ?_
              refine wp_skip ?_
              refine then_n ?_
              refine wp_seq ?_
              refine wp_block ?_
              refine wp_region_lit ?_
              refine pv (.slice A6 (k + i) c6) ?_
              refine pv (po g1 3) ?_
              refine wl_gv rfl (gv_ldR (v := .slice A l.length ca) rfl (by kernel_rfl) (by kernel_rfl) (((S37.blk 1 rfl).cell 3).trans rfl) ?_)
              refine pv (iv ((i : Nat) : Int)) ?_
              refine wl_gv rfl (gv_ixB (e := 5) (sz := 1) (n := l.length) (c := ca) (i := ((i : Nat) : Int)) (k := .i64) (ad := ad) (ad' := (ad.add i)) (j := i) rfl (by kernel_rfl) (by kernel_rfl) (by rw [← had]; kernel_rfl) (by kernel_rfl) rfl hi (by rw [Nat.mul_one]) ?_)
              refine wl_gv rfl (gv_ldR (v := .int .u8 ((l.getD i 0).toNat : Int)) rfl (by kernel_rfl) (by kernel_rfl) ((had ▸ hr.out _ [vec 5 1 (.slice A6 (k + i) c6) (k + i) (Y.map bv), row g1 #[.int .i64 kd, .int .i64 nu, .int .i64 ov, .slice A l.length ca] 35] S37 : RdB _ (some ad) l).cell hi) ?_)
              refine wl_gv rfl (gv_slit (e := 5) (sz := 1) (z := .int .u8 0) (by_ := 1) (vs := #[(0, .int .u8 ((l.getD i 0).toNat : Int))]) (cells := #[.int .u8 ((l.getD i 0).toNat : Int)]) S37 rfl (by kernel_rfl) ⟨by kernel_rfl⟩ (by kernel_rfl) (by kernel_rfl) (by kernel_rfl) (by kernel_rfl) (fun g40 w41 hg42 S43 => ?_))
              have S44 : St F w0 w41 (row g40 #[.int .u8 ((l.getD i 0).toNat : Int)] 5 :: vec 5 1 (.slice A6 (k + i) c6) (k + i) (Y.map bv) :: row g1 #[.int .i64 kd, .int .i64 nu, .int .i64 ov, .slice A l.length ca] 35 :: L) := St.permT [row g40 #[.int .u8 ((l.getD i 0).toNat : Int)] 5, vec 5 1 (.slice A6 (k + i) c6) (k + i) (Y.map bv), row g1 #[.int .i64 kd, .int .i64 nu, .int .i64 ov, .slice A l.length ca] 35] [0, 1, 2] (by decide) rfl S43
              refine wl_gv rfl (gv_append (e := 5) (sz := 1) (n := (k + i)) (v := (.slice A6 (k + i) c6)) (vals := (Y.map bv)) (z := .int .u8 0) (by_ := 1) (m := 1) (c' := 1) (ad := ⟨g40, 0, none⟩) (news := [.int .u8 ((l.getD i 0).toNat : Int)]) (St.swap S44) rfl (by kernel_rfl) ⟨by kernel_rfl⟩ rfl (by kernel_rfl) (by kernel_rfl) (by decide) rfl (row_news (S44.blk 0 rfl)) (by intro u hu; simp at hu; subst hu; rfl) (by omega) (by omega) (fun v46 w45 S47 => ?_))
              have S48 : St F w0 w45 (vec 5 1 v46 (k + i + 1) (Y.map bv ++ [.int .u8 ((l.getD i 0).toNat : Int)]) :: row g1 #[.int .i64 kd, .int .i64 nu, .int .i64 ov, .slice A l.length ca] 35 :: L) := St.permT [vec 5 1 v46 (k + i + 1) (Y.map bv ++ [.int .u8 ((l.getD i 0).toNat : Int)]), row g40 #[.int .u8 ((l.getD i 0).toNat : Int)] 5, row g1 #[.int .i64 kd, .int .i64 nu, .int .i64 ov, .slice A l.length ca] 35] [0, 2] (by decide) rfl S47
              rw [bv_snoc] at S48
              obtain ⟨A49, c50, rfl⟩ := St.vecV S48 0 rfl
              change St F w0 w45 (vec 5 1 (.slice A49 (k + i + 1) c50) (k + i + 1) ((Y ++ [l.getD i 0]).map bv) :: row g1 #[.int .i64 kd, .int .i64 nu, .int .i64 ov, .slice A l.length ca] 35 :: L) at S48
              refine pv (.slice A49 (k + i + 1) c50) ?_
              refine wl_end (fr [.agg #[iv kd, iv nu, iv ov, .slice A l.length ca], pq g1, .slice none 0 0, .slice A49 (k + i + 1) c50, iv z, iv ((k : Nat) : Int), iv ((i : Nat) : Int), ud, ud, ud, pq g1, iv kd, fv, ud, ud, ud, pq g1, iv kd, tv, tv, pq g1, iv kd, fv, fv, ud, ud, ud, pq g1, iv kd, tv, po g1 1, iv nu, iv ((k : Nat) : Int), fv, J 34, J 35, J 36, J 37, J 38, J 39, J 40, J 41, J 42, J 43, iv ((i : Nat) : Int), po g1 3, .slice A l.length ca, iv (l.length : Nat), tv, J 49, J 50, .slice A6 (k + i) c6, po g1 3, .slice A l.length ca, iv ((i : Nat) : Int), .pointer (some (ad.add i)), .int .u8 ((l.getD i 0).toNat : Int), sl g40 0 1 1, .slice A49 (k + i + 1) c50] 19) (by kernel_rfl) ?_
              refine inb_n ?_
              refine then_n ?_
              refine wp_region_lit ?_
              refine pv (iv ((i : Nat) : Int)) ?_
              refine wl_gv rfl (gv_int (k := .i64) (z := IntKind.i64.wrap (((i : Nat) : Int) + 1)) (z' := ((i + 1 : Nat) : Int)) (by kernel_rfl) (wr_eq (by omega) (by omega) (by omega)) ?_)
              refine pv (iv ((i + 1 : Nat) : Int)) ?_
              refine wl_end (fr [.agg #[iv kd, iv nu, iv ov, .slice A l.length ca], pq g1, .slice none 0 0, .slice A49 (k + i + 1) c50, iv z, iv ((k : Nat) : Int), iv ((i + 1 : Nat) : Int), ud, ud, ud, pq g1, iv kd, fv, ud, ud, ud, pq g1, iv kd, tv, tv, pq g1, iv kd, fv, fv, ud, ud, ud, pq g1, iv kd, tv, po g1 1, iv nu, iv ((k : Nat) : Int), fv, J 34, J 35, J 36, J 37, J 38, J 39, J 40, J 41, J 42, J 43, iv ((i : Nat) : Int), po g1 3, .slice A l.length ca, iv (l.length : Nat), tv, iv ((i : Nat) : Int), iv ((i + 1 : Nat) : Int), .slice A6 (k + i) c6, po g1 3, .slice A l.length ca, iv ((i : Nat) : Int), .pointer (some (ad.add i)), .int .u8 ((l.getD i 0).toNat : Int), sl g40 0 1 1, .slice A49 (k + i + 1) c50] 19) (by kernel_rfl) ?_
              refine then_n ?_
              exact ⟨(i + 1, Y ++ [l.getD i 0], A49, c50), ⟨(jl [ud, ud, ud, ud, ud, ud, ud, ud, ud, ud, ud, ud, ud, ud, ud, ud, ud, ud, ud, ud, ud, ud, ud, ud, ud, ud, ud, ud, ud, ud, ud, ud, ud, ud, J 34, J 35, J 36, J 37, J 38, J 39, J 40, J 41, J 42, J 43, iv ((i : Nat) : Int), po g1 3, .slice A l.length ca, iv (l.length : Nat), tv, iv ((i : Nat) : Int), iv ((i + 1 : Nat) : Int), .slice A6 (k + i) c6, po g1 3, .slice A l.length ca, iv ((i : Nat) : Int), .pointer (some (ad.add i)), .int .u8 ((l.getD i 0).toNat : Int), sl g40 0 1 1, .slice A49 (k + i + 1) c50]), by kernel_rfl, S48, ⟨by omega, by rw [List.length_append]; show Y.length + 1 = k + (i + 1); omega⟩⟩, (by show l.length - (i + 1) < l.length - i; omega)⟩
            · skip
              obtain ⟨hiE, hYl⟩ := hI38
              refine wl_end (fr [.agg #[iv kd, iv nu, iv ov, .slice A l.length ca], pq g1, .slice none 0 0, .slice A6 (k + i) c6, iv z, iv ((k : Nat) : Int), iv ((i : Nat) : Int), ud, ud, ud, pq g1, iv kd, fv, ud, ud, ud, pq g1, iv kd, tv, tv, pq g1, iv kd, fv, fv, ud, ud, ud, pq g1, iv kd, tv, po g1 1, iv nu, iv ((k : Nat) : Int), fv, J 34, J 35, J 36, J 37, J 38, J 39, J 40, J 41, J 42, J 43, iv ((i : Nat) : Int), po g1 3, .slice A l.length ca, iv (l.length : Nat), fv, J 49, J 50, J 51, J 52, J 53, J 54, J 55, J 56, J 57, J 58] 19) (by kernel_rfl) ?_
              refine then_n ?_
              refine wp_cond_false (by kernel_rfl) ?_
              refine wp_exit ?_
              refine then_x ?_
              refine then_x ?_
              refine inb_x ?_
              refine then_n ?_
              refine wp_seq ?_
              refine wp_region_lit ?_
              refine wl_gv rfl (gv_call (args := #[.slice none 0 0]) rfl Try.func18 (by kernel_rfl) rfl rfl (by kernel_rfl) ?_)
              refine Calls.mono (se3 (l := []) (A := none) (ca := 0) S37 RoT.nil (Nat.zero_le _)) ?_
              rintro _ w51 ⟨As, cs_, rfl, S52⟩
              obtain ⟨gs, cS, js, hv_, hcS, _, hjs, S52'⟩ := St.vec_open S52 (by decide)
              simp at hv_
              obtain ⟨rfl, rfl⟩ := hv_
              refine ⟨_, rfl, ?_⟩
              have hsl := sec3_len []
              refine pv (sl gs 0 512 cs_) ?_
              refine wl_end (fr [.agg #[iv kd, iv nu, iv ov, .slice A l.length ca], pq g1, .slice none 0 0, .slice A6 (k + i) c6, iv z, iv ((k : Nat) : Int), iv ((i : Nat) : Int), sl gs 0 512 cs_, ud, ud, pq g1, iv kd, fv, ud, ud, ud, pq g1, iv kd, tv, tv, pq g1, iv kd, fv, fv, ud, ud, ud, pq g1, iv kd, tv, po g1 1, iv nu, iv ((k : Nat) : Int), fv, J 34, J 35, J 36, J 37, J 38, J 39, J 40, J 41, J 42, J 43, iv ((i : Nat) : Int), po g1 3, .slice A l.length ca, iv (l.length : Nat), fv, J 49, J 50, J 51, J 52, J 53, J 54, J 55, J 56, J 57, J 58, sl gs 0 512 cs_] 18) (by kernel_rfl) ?_
              refine then_n ?_
              refine wp_seq ?_
              refine wp_region_lit ?_
              refine pv (sl gs 0 512 cs_) ?_
              refine pv (po g1 2) ?_
              refine wl_gv rfl (gv_ldR (v := .int .i64 ov) rfl (by kernel_rfl) (by kernel_rfl) (((S52'.blk 2 rfl).cell 2).trans rfl) ?_)
              refine wl_gv rfl (gv_int (k := .u8) (z := IntKind.u8.wrap ov) (z' := ((UInt8.ofNat (ov % 256).toNat).toNat : Int)) (by kernel_rfl) (wrap_u8 _) ?_)
              refine wl_gv rfl (gv_ixE (e := 5) (sz := 1) (g := gs) (off := 0) (n := 512) (c := cs_) (i := 0) (k := .i64) (j := 0) (off' := 0) rfl (by kernel_rfl) (by kernel_rfl) (by kernel_rfl) (by kernel_rfl) rfl (by omega) (by omega) ?_)
              refine wl_gv rfl (gv_st (k := 0) (v := .int .u8 ((UInt8.ofNat (ov % 256).toNat).toNat : Int)) S52' 0 rfl rfl (by kernel_rfl) (by kernel_rfl) (by kernel_rfl) rfl (vec_blt (by first | omega | (simp only [List.length_set]; omega))) (L' := (row gs ((((sec3 []).set 0 (UInt8.ofNat (ov % 256).toNat)).map bv ++ js).toArray) 5 :: vec 5 1 (.slice A6 (k + i) c6) (k + i) (Y.map bv) :: row g1 #[.int .i64 kd, .int .i64 nu, .int .i64 ov, .slice A l.length ca] 35 :: L)) (by rw [vec_set _ (by first | omega | (simp only [List.length_set]; omega))]; rfl) (fun w53 S54 => ?_))
              refine wl_end (fr [.agg #[iv kd, iv nu, iv ov, .slice A l.length ca], pq g1, .slice none 0 0, .slice A6 (k + i) c6, iv z, iv ((k : Nat) : Int), iv ((i : Nat) : Int), sl gs 0 512 cs_, ud, ud, pq g1, iv kd, fv, ud, ud, ud, pq g1, iv kd, tv, tv, pq g1, iv kd, fv, fv, ud, ud, ud, pq g1, iv kd, tv, po g1 1, iv nu, iv ((k : Nat) : Int), fv, J 34, J 35, J 36, J 37, J 38, J 39, J 40, J 41, J 42, J 43, iv ((i : Nat) : Int), po g1 3, .slice A l.length ca, iv (l.length : Nat), fv, J 49, J 50, J 51, J 52, J 53, J 54, J 55, J 56, J 57, J 58, sl gs 0 512 cs_, sl gs 0 512 cs_, po g1 2, iv ov, .int .u8 ((UInt8.ofNat (ov % 256).toNat).toNat : Int), pq gs] 13) (by kernel_rfl) ?_
              refine then_n ?_
              refine wp_seq ?_
              refine wp_region_lit ?_
              refine pv (sl gs 0 512 cs_) ?_
              refine pv (po g1 2) ?_
              refine wl_gv rfl (gv_ldR (v := .int .i64 ov) rfl (by kernel_rfl) (by kernel_rfl) (((S54.blk 2 rfl).cell 2).trans rfl) ?_)
              refine wl_gv rfl (gv_int (k := .u8) (z := IntKind.u8.wrap ov) (z' := ((UInt8.ofNat (ov % 256).toNat).toNat : Int)) (by kernel_rfl) (wrap_u8 _) ?_)
              refine wl_gv rfl (gv_ixE (e := 5) (sz := 1) (g := gs) (off := 0) (n := 512) (c := cs_) (i := 511) (k := .i64) (j := 511) (off' := 511) rfl (by kernel_rfl) (by kernel_rfl) (by kernel_rfl) (by kernel_rfl) rfl (by omega) (by omega) ?_)
              refine wl_gv rfl (gv_st (k := 511) (v := .int .u8 ((UInt8.ofNat (ov % 256).toNat).toNat : Int)) S54 0 rfl rfl (by kernel_rfl) (by kernel_rfl) (by kernel_rfl) rfl (vec_blt (by first | omega | (simp only [List.length_set]; omega))) (L' := (row gs (((((sec3 []).set 0 (UInt8.ofNat (ov % 256).toNat)).set 511 (UInt8.ofNat (ov % 256).toNat)).map bv ++ js).toArray) 5 :: vec 5 1 (.slice A6 (k + i) c6) (k + i) (Y.map bv) :: row g1 #[.int .i64 kd, .int .i64 nu, .int .i64 ov, .slice A l.length ca] 35 :: L)) (by rw [vec_set _ (by first | omega | (simp only [List.length_set]; omega))]; rfl) (fun w55 S56 => ?_))
              refine wl_end (fr [.agg #[iv kd, iv nu, iv ov, .slice A l.length ca], pq g1, .slice none 0 0, .slice A6 (k + i) c6, iv z, iv ((k : Nat) : Int), iv ((i : Nat) : Int), sl gs 0 512 cs_, ud, ud, pq g1, iv kd, fv, ud, ud, ud, pq g1, iv kd, tv, tv, pq g1, iv kd, fv, fv, ud, ud, ud, pq g1, iv kd, tv, po g1 1, iv nu, iv ((k : Nat) : Int), fv, J 34, J 35, J 36, J 37, J 38, J 39, J 40, J 41, J 42, J 43, iv ((i : Nat) : Int), po g1 3, .slice A l.length ca, iv (l.length : Nat), fv, J 49, J 50, J 51, J 52, J 53, J 54, J 55, J 56, J 57, J 58, sl gs 0 512 cs_, sl gs 0 512 cs_, po g1 2, iv ov, .int .u8 ((UInt8.ofNat (ov % 256).toNat).toNat : Int), pq gs, sl gs 0 512 cs_, po g1 2, iv ov, .int .u8 ((UInt8.ofNat (ov % 256).toNat).toNat : Int), po gs 511] 8) (by kernel_rfl) ?_
              refine then_n ?_
              refine wp_seq ?_
              refine wp_region_lit ?_
              refine pv (sl gs 0 512 cs_) ?_
              refine pv (.slice A6 (k + i) c6) ?_
              refine wl_gv rfl (gv_call (args := #[.slice A6 (k + i) c6, .int .i64 504]) rfl Try.func16 (by kernel_rfl) rfl rfl (by kernel_rfl) ?_)
              have hol : ((sec3 []).set 0 (UInt8.ofNat (ov % 256).toNat) |>.set 511 (UInt8.ofNat (ov % 256).toNat)).length = 512 := by rw [List.length_set, List.length_set]; exact hsl
              have S57 : St F w0 w55 (vec 5 1 (.slice (some ⟨gs, 0, none⟩) 512 cs_) 512 ((((sec3 []).set 0 (UInt8.ofNat (ov % 256).toNat)).set 511 (UInt8.ofNat (ov % 256).toNat)).map bv) :: vec 5 1 (.slice A6 (k + i) c6) (k + i) (Y.map bv) :: row g1 #[.int .i64 kd, .int .i64 nu, .int .i64 ov, .slice A l.length ca] 35 :: L) := St.vec_mk (n := 512) S56 (by omega) (by rw [List.length_map, hol]) (by rw [List.length_append, List.length_map, hol]; rw [List.length_append, List.length_map, hsl] at hjs; exact hjs)
              have hYm : Y.length ≤ 140737488355328 := by omega
              refine Calls.mono (up3' (n := 504) hYl.symm S57 (RoT.ofVec (l := Y) 1 (by rw [← hYl]; rfl)) hYm) ?_
              rintro _ w58 ⟨A60, c61, rfl, S59⟩
              refine ⟨_, rfl, ?_⟩
              refine wl_gv rfl (gv_call (args := #[.slice (some ⟨gs, 0, none⟩) 512 cs_, .slice A60 ((Y.take (504 : Int).toNat).length) c61]) rfl Try.func32 (by kernel_rfl) rfl rfl (by kernel_rfl) ?_)
              refine Calls.mono (rseal' (a := ((sec3 []).set 0 (UInt8.ofNat (ov % 256).toNat)).set 511 (UInt8.ofNat (ov % 256).toNat)) (b := Y.take (504 : Int).toNat) S59 hol.symm rfl (RoT.ofVec 1 rfl) (RoT.ofVec 0 rfl) (by omega) (by rw [List.length_take]; omega)) ?_
              rintro _ w62 ⟨Az, cz, rfl, S63⟩
              refine ⟨_, rfl, ?_⟩
              obtain ⟨Z, hZ⟩ : ∃ Z, Z = (sealF (((sec3 []).set 0 (UInt8.ofNat (ov % 256).toNat)).set 511 (UInt8.ofNat (ov % 256).toNat)) (Y.take (504 : Int).toNat)).1 := ⟨_, rfl⟩
              have hZl : Z.length ≤ 512 := by rw [hZ]; exact sealF_len _ _
              rw [← hZ] at S63
              rw [← hZ]
              have S64 : St F w0 w62 (vec 5 1 (.slice Az Z.length cz) Z.length (Z.map bv) :: L) := St.permT [_, _, _, _, _] [0] (by decide) rfl S63
              refine pv (.tuple #[.slice Az Z.length cz, iv ((sealF (((sec3 []).set 0 (UInt8.ofNat (ov % 256).toNat)).set 511 (UInt8.ofNat (ov % 256).toNat)) (Y.take (504 : Int).toNat)).2 : Int)]) ?_
              refine pv (.slice Az Z.length cz) ?_
              refine pv (iv ((sealF (((sec3 []).set 0 (UInt8.ofNat (ov % 256).toNat)).set 511 (UInt8.ofNat (ov % 256).toNat)) (Y.take (504 : Int).toNat)).2 : Int)) ?_
              refine pv (.slice Az Z.length cz) ?_
              refine pv (iv ((sealF (((sec3 []).set 0 (UInt8.ofNat (ov % 256).toNat)).set 511 (UInt8.ofNat (ov % 256).toNat)) (Y.take (504 : Int).toNat)).2 : Int)) ?_
              refine wl_end (fr [.agg #[iv kd, iv nu, iv ov, .slice A l.length ca], pq g1, .slice none 0 0, .slice A6 (k + i) c6, iv z, iv ((k : Nat) : Int), iv ((i : Nat) : Int), sl gs 0 512 cs_, .slice Az Z.length cz, iv ((sealF (((sec3 []).set 0 (UInt8.ofNat (ov % 256).toNat)).set 511 (UInt8.ofNat (ov % 256).toNat)) (Y.take (504 : Int).toNat)).2 : Int), pq g1, iv kd, fv, ud, ud, ud, pq g1, iv kd, tv, tv, pq g1, iv kd, fv, fv, ud, ud, ud, pq g1, iv kd, tv, po g1 1, iv nu, iv ((k : Nat) : Int), fv, J 34, J 35, J 36, J 37, J 38, J 39, J 40, J 41, J 42, J 43, iv ((i : Nat) : Int), po g1 3, .slice A l.length ca, iv (l.length : Nat), fv, J 49, J 50, J 51, J 52, J 53, J 54, J 55, J 56, J 57, J 58, sl gs 0 512 cs_, sl gs 0 512 cs_, po g1 2, iv ov, .int .u8 ((UInt8.ofNat (ov % 256).toNat).toNat : Int), pq gs, sl gs 0 512 cs_, po g1 2, iv ov, .int .u8 ((UInt8.ofNat (ov % 256).toNat).toNat : Int), po gs 511, .tuple #[.slice Az Z.length cz, iv ((sealF (((sec3 []).set 0 (UInt8.ofNat (ov % 256).toNat)).set 511 (UInt8.ofNat (ov % 256).toNat)) (Y.take (504 : Int).toNat)).2 : Int)], sl gs 0 512 cs_, .slice A6 (k + i) c6, .slice A60 ((Y.take (504 : Int).toNat).length) c61, .tuple #[.slice Az Z.length cz, iv ((sealF (((sec3 []).set 0 (UInt8.ofNat (ov % 256).toNat)).set 511 (UInt8.ofNat (ov % 256).toNat)) (Y.take (504 : Int).toNat)).2 : Int)], .slice Az Z.length cz, iv ((sealF (((sec3 []).set 0 (UInt8.ofNat (ov % 256).toNat)).set 511 (UInt8.ofNat (ov % 256).toNat)) (Y.take (504 : Int).toNat)).2 : Int)] 1) (by kernel_rfl) ?_
              refine then_n ?_
              refine wp_seq ?_
              refine wp_region_lit ?_
              refine pv (.slice Az Z.length cz) ?_
              refine pv (.slice Az Z.length cz) ?_
              refine wl_end (fr [.agg #[iv kd, iv nu, iv ov, .slice A l.length ca], pq g1, .slice Az Z.length cz, .slice A6 (k + i) c6, iv z, iv ((k : Nat) : Int), iv ((i : Nat) : Int), sl gs 0 512 cs_, .slice Az Z.length cz, iv ((sealF (((sec3 []).set 0 (UInt8.ofNat (ov % 256).toNat)).set 511 (UInt8.ofNat (ov % 256).toNat)) (Y.take (504 : Int).toNat)).2 : Int), pq g1, iv kd, fv, ud, ud, ud, pq g1, iv kd, tv, tv, pq g1, iv kd, fv, fv, ud, ud, ud, pq g1, iv kd, tv, po g1 1, iv nu, iv ((k : Nat) : Int), fv, J 34, J 35, J 36, J 37, J 38, J 39, J 40, J 41, J 42, J 43, iv ((i : Nat) : Int), po g1 3, .slice A l.length ca, iv (l.length : Nat), fv, J 49, J 50, J 51, J 52, J 53, J 54, J 55, J 56, J 57, J 58, sl gs 0 512 cs_, sl gs 0 512 cs_, po g1 2, iv ov, .int .u8 ((UInt8.ofNat (ov % 256).toNat).toNat : Int), pq gs, sl gs 0 512 cs_, po g1 2, iv ov, .int .u8 ((UInt8.ofNat (ov % 256).toNat).toNat : Int), po gs 511, .tuple #[.slice Az Z.length cz, iv ((sealF (((sec3 []).set 0 (UInt8.ofNat (ov % 256).toNat)).set 511 (UInt8.ofNat (ov % 256).toNat)) (Y.take (504 : Int).toNat)).2 : Int)], sl gs 0 512 cs_, .slice A6 (k + i) c6, .slice A60 ((Y.take (504 : Int).toNat).length) c61, .tuple #[.slice Az Z.length cz, iv ((sealF (((sec3 []).set 0 (UInt8.ofNat (ov % 256).toNat)).set 511 (UInt8.ofNat (ov % 256).toNat)) (Y.take (504 : Int).toNat)).2 : Int)], .slice Az Z.length cz, iv ((sealF (((sec3 []).set 0 (UInt8.ofNat (ov % 256).toNat)).set 511 (UInt8.ofNat (ov % 256).toNat)) (Y.take (504 : Int).toNat)).2 : Int), .slice Az Z.length cz] 0) (by kernel_rfl) ?_
              refine then_n ?_
              refine wp_ret ?_
              refine bodyPost_ret (v := .slice Az Z.length cz) (results_t1 rfl (by kernel_rfl)) rfl ?_
              have S65 : St F w0 w62 (vec 5 1 (.slice Az Z.length cz) Z.length (Z.map bv) :: L) := St.permT [vec 5 1 (.slice Az Z.length cz) Z.length (Z.map bv)] [0] (by decide) rfl S64
              exact ⟨Az, cz, Z, rfl, by omega, S65⟩
        · skip
          refine wl_end (fr [.agg #[iv kd, iv nu, iv ov, .slice A l.length ca], pq g1, .slice none 0 0, .slice none 0 0, ud, ud, ud, ud, ud, ud, pq g1, iv kd, fv, ud, ud, ud, pq g1, iv kd, tv, tv, pq g1, iv kd, fv, fv, ud, ud, ud, pq g1, iv kd, fv] 48) (by kernel_rfl) ?_
          refine then_n ?_
          refine wp_cond_false (by kernel_rfl) ?_
          refine wp_skip ?_
          refine then_n ?_
          refine wp_seq ?_
          refine wp_seq ?_
          refine wp_region_lit ?_
          refine pv (iv 0) ?_
          refine wl_end (fr [.agg #[iv kd, iv nu, iv ov, .slice A l.length ca], pq g1, .slice none 0 0, .slice none 0 0, ud, ud, iv 0, ud, ud, ud, pq g1, iv kd, fv, ud, ud, ud, pq g1, iv kd, tv, tv, pq g1, iv kd, fv, fv, ud, ud, ud, pq g1, iv kd, fv] 48) (by kernel_rfl) ?_
          refine then_n ?_
          refine wp_block ?_
          have S66 : St F w0 w2 (vec 5 1 (.slice none (0 + 0) 0) (0 + 0) ([].map bv) :: row g1 #[.int .i64 kd, .int .i64 nu, .int .i64 ov, .slice A l.length ca] 35 :: L) := S18
          have hXl : ([] : List UInt8).length = 0 + 0 := rfl
          refine wp_loop_g (G := Nat × List UInt8 × Option Addr × Nat) (fun (g_ : Nat × List UInt8 × Option Addr × Nat) (a_ : Act) (w_ : World) => ∃ J : Nat → Value, a_ = (fr [.agg #[iv kd, iv nu, iv ov, .slice A l.length ca], pq g1, .slice none 0 0, .slice g_.2.2.1 (0 + g_.1) g_.2.2.2, ud, ud, iv ((g_.1 : Nat) : Int), ud, ud, ud, pq g1, iv kd, fv, ud, ud, ud, pq g1, iv kd, tv, tv, pq g1, iv kd, fv, fv, ud, ud, ud, pq g1, iv kd, fv, ud, ud, ud, ud, ud, ud, ud, ud, ud, ud, ud, ud, ud, ud, J 44, J 45, J 46, J 47, J 48, J 49, J 50, J 51, J 52, J 53, J 54, J 55, J 56, J 57, J 58] 19) ∧ St F w0 w_ (vec 5 1 (.slice g_.2.2.1 (0 + g_.1) g_.2.2.2) (0 + g_.1) (g_.2.1.map bv) :: row g1 #[.int .i64 kd, .int .i64 nu, .int .i64 ov, .slice A l.length ca] 35 :: L) ∧ (g_.1 ≤ l.length ∧ g_.2.1.length = 0 + g_.1)) (fun g_ => l.length - g_.1) (0, [], none, 0) ⟨(jl []), by kernel_rfl, S66, ⟨Nat.zero_le _, hXl⟩⟩ ?_
          rintro ⟨i, Y, A6, c6⟩ a_ w67 ⟨J, rfl, S68, hI69⟩
          skip
          have S68 : St F w0 w67 (vec 5 1 (.slice A6 (0 + i) c6) (0 + i) (Y.map bv) :: row g1 #[.int .i64 kd, .int .i64 nu, .int .i64 ov, .slice A l.length ca] 35 :: L) := S68
          have hI69 : (i ≤ l.length ∧ Y.length = 0 + i) := hI69
          refine wp_seq ?_
          refine wp_seq ?_
          refine wp_region_lit ?_
          refine pv (iv ((i : Nat) : Int)) ?_
          refine pv (po g1 3) ?_
          refine wl_gv rfl (gv_ldR (v := .slice A l.length ca) rfl (by kernel_rfl) (by kernel_rfl) (((S68.blk 1 rfl).cell 3).trans rfl) ?_)
          refine pv (iv (l.length : Nat)) ?_
          refine wl_gv rfl (gv_dec (p := (((i : Nat) : Int) : Int) < (l.length : Nat)) (by kernel_rfl) (fun hb70 => ?_) (fun hb70 => ?_))
          · skip
            have hi : i < l.length := by omega
            obtain ⟨ad, had⟩ := (hr.out _ [vec 5 1 (.slice A6 (0 + i) c6) (0 + i) (Y.map bv), row g1 #[.int .i64 kd, .int .i64 nu, .int .i64 ov, .slice A l.length ca] 35] S68).at hi
            refine wl_end (fr [.agg #[iv kd, iv nu, iv ov, .slice A l.length ca], pq g1, .slice none 0 0, .slice A6 (0 + i) c6, ud, ud, iv ((i : Nat) : Int), ud, ud, ud, pq g1, iv kd, fv, ud, ud, ud, pq g1, iv kd, tv, tv, pq g1, iv kd, fv, fv, ud, ud, ud, pq g1, iv kd, fv, ud, ud, ud, ud, ud, ud, ud, ud, ud, ud, ud, ud, ud, ud, iv ((i : Nat) : Int), po g1 3, .slice A l.length ca, iv (l.length : Nat), tv, J 49, J 50, J 51, J 52, J 53, J 54, J 55, J 56, J 57, J 58] 19) (by kernel_rfl) ?_
            refine then_n ?_
            refine wp_cond_true (by kernel_rfl) ?_
            refine wp_skip ?_
            refine then_n ?_
            refine wp_seq ?_
            refine wp_block ?_
            refine wp_region_lit ?_
            refine pv (.slice A6 (0 + i) c6) ?_
            refine pv (po g1 3) ?_
            refine wl_gv rfl (gv_ldR (v := .slice A l.length ca) rfl (by kernel_rfl) (by kernel_rfl) (((S68.blk 1 rfl).cell 3).trans rfl) ?_)
            refine pv (iv ((i : Nat) : Int)) ?_
            refine wl_gv rfl (gv_ixB (e := 5) (sz := 1) (n := l.length) (c := ca) (i := ((i : Nat) : Int)) (k := .i64) (ad := ad) (ad' := (ad.add i)) (j := i) rfl (by kernel_rfl) (by kernel_rfl) (by rw [← had]; kernel_rfl) (by kernel_rfl) rfl hi (by rw [Nat.mul_one]) ?_)
            refine wl_gv rfl (gv_ldR (v := .int .u8 ((l.getD i 0).toNat : Int)) rfl (by kernel_rfl) (by kernel_rfl) ((had ▸ hr.out _ [vec 5 1 (.slice A6 (0 + i) c6) (0 + i) (Y.map bv), row g1 #[.int .i64 kd, .int .i64 nu, .int .i64 ov, .slice A l.length ca] 35] S68 : RdB _ (some ad) l).cell hi) ?_)
            refine wl_gv rfl (gv_slit (e := 5) (sz := 1) (z := .int .u8 0) (by_ := 1) (vs := #[(0, .int .u8 ((l.getD i 0).toNat : Int))]) (cells := #[.int .u8 ((l.getD i 0).toNat : Int)]) S68 rfl (by kernel_rfl) ⟨by kernel_rfl⟩ (by kernel_rfl) (by kernel_rfl) (by kernel_rfl) (by kernel_rfl) (fun g71 w72 hg73 S74 => ?_))
            have S75 : St F w0 w72 (row g71 #[.int .u8 ((l.getD i 0).toNat : Int)] 5 :: vec 5 1 (.slice A6 (0 + i) c6) (0 + i) (Y.map bv) :: row g1 #[.int .i64 kd, .int .i64 nu, .int .i64 ov, .slice A l.length ca] 35 :: L) := St.permT [row g71 #[.int .u8 ((l.getD i 0).toNat : Int)] 5, vec 5 1 (.slice A6 (0 + i) c6) (0 + i) (Y.map bv), row g1 #[.int .i64 kd, .int .i64 nu, .int .i64 ov, .slice A l.length ca] 35] [0, 1, 2] (by decide) rfl S74
            refine wl_gv rfl (gv_append (e := 5) (sz := 1) (n := (0 + i)) (v := (.slice A6 (0 + i) c6)) (vals := (Y.map bv)) (z := .int .u8 0) (by_ := 1) (m := 1) (c' := 1) (ad := ⟨g71, 0, none⟩) (news := [.int .u8 ((l.getD i 0).toNat : Int)]) (St.swap S75) rfl (by kernel_rfl) ⟨by kernel_rfl⟩ rfl (by kernel_rfl) (by kernel_rfl) (by decide) rfl (row_news (S75.blk 0 rfl)) (by intro u hu; simp at hu; subst hu; rfl) (by omega) (by omega) (fun v77 w76 S78 => ?_))
            have S79 : St F w0 w76 (vec 5 1 v77 (0 + i + 1) (Y.map bv ++ [.int .u8 ((l.getD i 0).toNat : Int)]) :: row g1 #[.int .i64 kd, .int .i64 nu, .int .i64 ov, .slice A l.length ca] 35 :: L) := St.permT [vec 5 1 v77 (0 + i + 1) (Y.map bv ++ [.int .u8 ((l.getD i 0).toNat : Int)]), row g71 #[.int .u8 ((l.getD i 0).toNat : Int)] 5, row g1 #[.int .i64 kd, .int .i64 nu, .int .i64 ov, .slice A l.length ca] 35] [0, 2] (by decide) rfl S78
            rw [bv_snoc] at S79
            obtain ⟨A80, c81, rfl⟩ := St.vecV S79 0 rfl
            change St F w0 w76 (vec 5 1 (.slice A80 (0 + i + 1) c81) (0 + i + 1) ((Y ++ [l.getD i 0]).map bv) :: row g1 #[.int .i64 kd, .int .i64 nu, .int .i64 ov, .slice A l.length ca] 35 :: L) at S79
            refine pv (.slice A80 (0 + i + 1) c81) ?_
            refine wl_end (fr [.agg #[iv kd, iv nu, iv ov, .slice A l.length ca], pq g1, .slice none 0 0, .slice A80 (0 + i + 1) c81, ud, ud, iv ((i : Nat) : Int), ud, ud, ud, pq g1, iv kd, fv, ud, ud, ud, pq g1, iv kd, tv, tv, pq g1, iv kd, fv, fv, ud, ud, ud, pq g1, iv kd, fv, ud, ud, ud, ud, ud, ud, ud, ud, ud, ud, ud, ud, ud, ud, iv ((i : Nat) : Int), po g1 3, .slice A l.length ca, iv (l.length : Nat), tv, J 49, J 50, .slice A6 (0 + i) c6, po g1 3, .slice A l.length ca, iv ((i : Nat) : Int), .pointer (some (ad.add i)), .int .u8 ((l.getD i 0).toNat : Int), sl g71 0 1 1, .slice A80 (0 + i + 1) c81] 19) (by kernel_rfl) ?_
            refine inb_n ?_
            refine then_n ?_
            refine wp_region_lit ?_
            refine pv (iv ((i : Nat) : Int)) ?_
            refine wl_gv rfl (gv_int (k := .i64) (z := IntKind.i64.wrap (((i : Nat) : Int) + 1)) (z' := ((i + 1 : Nat) : Int)) (by kernel_rfl) (wr_eq (by omega) (by omega) (by omega)) ?_)
            refine pv (iv ((i + 1 : Nat) : Int)) ?_
            refine wl_end (fr [.agg #[iv kd, iv nu, iv ov, .slice A l.length ca], pq g1, .slice none 0 0, .slice A80 (0 + i + 1) c81, ud, ud, iv ((i + 1 : Nat) : Int), ud, ud, ud, pq g1, iv kd, fv, ud, ud, ud, pq g1, iv kd, tv, tv, pq g1, iv kd, fv, fv, ud, ud, ud, pq g1, iv kd, fv, ud, ud, ud, ud, ud, ud, ud, ud, ud, ud, ud, ud, ud, ud, iv ((i : Nat) : Int), po g1 3, .slice A l.length ca, iv (l.length : Nat), tv, iv ((i : Nat) : Int), iv ((i + 1 : Nat) : Int), .slice A6 (0 + i) c6, po g1 3, .slice A l.length ca, iv ((i : Nat) : Int), .pointer (some (ad.add i)), .int .u8 ((l.getD i 0).toNat : Int), sl g71 0 1 1, .slice A80 (0 + i + 1) c81] 19) (by kernel_rfl) ?_
            refine then_n ?_
            exact ⟨(i + 1, Y ++ [l.getD i 0], A80, c81), ⟨(jl [ud, ud, ud, ud, ud, ud, ud, ud, ud, ud, ud, ud, ud, ud, ud, ud, ud, ud, ud, ud, ud, ud, ud, ud, ud, ud, ud, ud, ud, ud, ud, ud, ud, ud, ud, ud, ud, ud, ud, ud, ud, ud, ud, ud, iv ((i : Nat) : Int), po g1 3, .slice A l.length ca, iv (l.length : Nat), tv, iv ((i : Nat) : Int), iv ((i + 1 : Nat) : Int), .slice A6 (0 + i) c6, po g1 3, .slice A l.length ca, iv ((i : Nat) : Int), .pointer (some (ad.add i)), .int .u8 ((l.getD i 0).toNat : Int), sl g71 0 1 1, .slice A80 (0 + i + 1) c81]), by kernel_rfl, S79, ⟨by omega, by rw [List.length_append]; show Y.length + 1 = 0 + (i + 1); omega⟩⟩, (by show l.length - (i + 1) < l.length - i; omega)⟩
          · skip
            obtain ⟨hiE, hYl⟩ := hI69
            refine wl_end (fr [.agg #[iv kd, iv nu, iv ov, .slice A l.length ca], pq g1, .slice none 0 0, .slice A6 (0 + i) c6, ud, ud, iv ((i : Nat) : Int), ud, ud, ud, pq g1, iv kd, fv, ud, ud, ud, pq g1, iv kd, tv, tv, pq g1, iv kd, fv, fv, ud, ud, ud, pq g1, iv kd, fv, ud, ud, ud, ud, ud, ud, ud, ud, ud, ud, ud, ud, ud, ud, iv ((i : Nat) : Int), po g1 3, .slice A l.length ca, iv (l.length : Nat), fv, J 49, J 50, J 51, J 52, J 53, J 54, J 55, J 56, J 57, J 58] 19) (by kernel_rfl) ?_
            refine then_n ?_
            refine wp_cond_false (by kernel_rfl) ?_
            refine wp_exit ?_
            refine then_x ?_
            refine then_x ?_
            refine inb_x ?_
            refine then_n ?_
            refine wp_seq ?_
            refine wp_region_lit ?_
            refine wl_gv rfl (gv_call (args := #[.slice none 0 0]) rfl Try.func18 (by kernel_rfl) rfl rfl (by kernel_rfl) ?_)
            refine Calls.mono (se3 (l := []) (A := none) (ca := 0) S68 RoT.nil (Nat.zero_le _)) ?_
            rintro _ w82 ⟨As, cs_, rfl, S83⟩
            obtain ⟨gs, cS, js, hv_, hcS, _, hjs, S83'⟩ := St.vec_open S83 (by decide)
            simp at hv_
            obtain ⟨rfl, rfl⟩ := hv_
            refine ⟨_, rfl, ?_⟩
            have hsl := sec3_len []
            refine pv (sl gs 0 512 cs_) ?_
            refine wl_end (fr [.agg #[iv kd, iv nu, iv ov, .slice A l.length ca], pq g1, .slice none 0 0, .slice A6 (0 + i) c6, ud, ud, iv ((i : Nat) : Int), sl gs 0 512 cs_, ud, ud, pq g1, iv kd, fv, ud, ud, ud, pq g1, iv kd, tv, tv, pq g1, iv kd, fv, fv, ud, ud, ud, pq g1, iv kd, fv, ud, ud, ud, ud, ud, ud, ud, ud, ud, ud, ud, ud, ud, ud, iv ((i : Nat) : Int), po g1 3, .slice A l.length ca, iv (l.length : Nat), fv, J 49, J 50, J 51, J 52, J 53, J 54, J 55, J 56, J 57, J 58, sl gs 0 512 cs_] 18) (by kernel_rfl) ?_
            refine then_n ?_
            refine wp_seq ?_
            refine wp_region_lit ?_
            refine pv (sl gs 0 512 cs_) ?_
            refine pv (po g1 2) ?_
            refine wl_gv rfl (gv_ldR (v := .int .i64 ov) rfl (by kernel_rfl) (by kernel_rfl) (((S83'.blk 2 rfl).cell 2).trans rfl) ?_)
            refine wl_gv rfl (gv_int (k := .u8) (z := IntKind.u8.wrap ov) (z' := ((UInt8.ofNat (ov % 256).toNat).toNat : Int)) (by kernel_rfl) (wrap_u8 _) ?_)
            refine wl_gv rfl (gv_ixE (e := 5) (sz := 1) (g := gs) (off := 0) (n := 512) (c := cs_) (i := 0) (k := .i64) (j := 0) (off' := 0) rfl (by kernel_rfl) (by kernel_rfl) (by kernel_rfl) (by kernel_rfl) rfl (by omega) (by omega) ?_)
            refine wl_gv rfl (gv_st (k := 0) (v := .int .u8 ((UInt8.ofNat (ov % 256).toNat).toNat : Int)) S83' 0 rfl rfl (by kernel_rfl) (by kernel_rfl) (by kernel_rfl) rfl (vec_blt (by first | omega | (simp only [List.length_set]; omega))) (L' := (row gs ((((sec3 []).set 0 (UInt8.ofNat (ov % 256).toNat)).map bv ++ js).toArray) 5 :: vec 5 1 (.slice A6 (0 + i) c6) (0 + i) (Y.map bv) :: row g1 #[.int .i64 kd, .int .i64 nu, .int .i64 ov, .slice A l.length ca] 35 :: L)) (by rw [vec_set _ (by first | omega | (simp only [List.length_set]; omega))]; rfl) (fun w84 S85 => ?_))
            refine wl_end (fr [.agg #[iv kd, iv nu, iv ov, .slice A l.length ca], pq g1, .slice none 0 0, .slice A6 (0 + i) c6, ud, ud, iv ((i : Nat) : Int), sl gs 0 512 cs_, ud, ud, pq g1, iv kd, fv, ud, ud, ud, pq g1, iv kd, tv, tv, pq g1, iv kd, fv, fv, ud, ud, ud, pq g1, iv kd, fv, ud, ud, ud, ud, ud, ud, ud, ud, ud, ud, ud, ud, ud, ud, iv ((i : Nat) : Int), po g1 3, .slice A l.length ca, iv (l.length : Nat), fv, J 49, J 50, J 51, J 52, J 53, J 54, J 55, J 56, J 57, J 58, sl gs 0 512 cs_, sl gs 0 512 cs_, po g1 2, iv ov, .int .u8 ((UInt8.ofNat (ov % 256).toNat).toNat : Int), pq gs] 13) (by kernel_rfl) ?_
            refine then_n ?_
            refine wp_seq ?_
            refine wp_region_lit ?_
            refine pv (sl gs 0 512 cs_) ?_
            refine pv (po g1 2) ?_
            refine wl_gv rfl (gv_ldR (v := .int .i64 ov) rfl (by kernel_rfl) (by kernel_rfl) (((S85.blk 2 rfl).cell 2).trans rfl) ?_)
            refine wl_gv rfl (gv_int (k := .u8) (z := IntKind.u8.wrap ov) (z' := ((UInt8.ofNat (ov % 256).toNat).toNat : Int)) (by kernel_rfl) (wrap_u8 _) ?_)
            refine wl_gv rfl (gv_ixE (e := 5) (sz := 1) (g := gs) (off := 0) (n := 512) (c := cs_) (i := 511) (k := .i64) (j := 511) (off' := 511) rfl (by kernel_rfl) (by kernel_rfl) (by kernel_rfl) (by kernel_rfl) rfl (by omega) (by omega) ?_)
            refine wl_gv rfl (gv_st (k := 511) (v := .int .u8 ((UInt8.ofNat (ov % 256).toNat).toNat : Int)) S85 0 rfl rfl (by kernel_rfl) (by kernel_rfl) (by kernel_rfl) rfl (vec_blt (by first | omega | (simp only [List.length_set]; omega))) (L' := (row gs (((((sec3 []).set 0 (UInt8.ofNat (ov % 256).toNat)).set 511 (UInt8.ofNat (ov % 256).toNat)).map bv ++ js).toArray) 5 :: vec 5 1 (.slice A6 (0 + i) c6) (0 + i) (Y.map bv) :: row g1 #[.int .i64 kd, .int .i64 nu, .int .i64 ov, .slice A l.length ca] 35 :: L)) (by rw [vec_set _ (by first | omega | (simp only [List.length_set]; omega))]; rfl) (fun w86 S87 => ?_))
            refine wl_end (fr [.agg #[iv kd, iv nu, iv ov, .slice A l.length ca], pq g1, .slice none 0 0, .slice A6 (0 + i) c6, ud, ud, iv ((i : Nat) : Int), sl gs 0 512 cs_, ud, ud, pq g1, iv kd, fv, ud, ud, ud, pq g1, iv kd, tv, tv, pq g1, iv kd, fv, fv, ud, ud, ud, pq g1, iv kd, fv, ud, ud, ud, ud, ud, ud, ud, ud, ud, ud, ud, ud, ud, ud, iv ((i : Nat) : Int), po g1 3, .slice A l.length ca, iv (l.length : Nat), fv, J 49, J 50, J 51, J 52, J 53, J 54, J 55, J 56, J 57, J 58, sl gs 0 512 cs_, sl gs 0 512 cs_, po g1 2, iv ov, .int .u8 ((UInt8.ofNat (ov % 256).toNat).toNat : Int), pq gs, sl gs 0 512 cs_, po g1 2, iv ov, .int .u8 ((UInt8.ofNat (ov % 256).toNat).toNat : Int), po gs 511] 8) (by kernel_rfl) ?_
            refine then_n ?_
            refine wp_seq ?_
            refine wp_region_lit ?_
            refine pv (sl gs 0 512 cs_) ?_
            refine pv (.slice A6 (0 + i) c6) ?_
            refine wl_gv rfl (gv_call (args := #[.slice A6 (0 + i) c6, .int .i64 504]) rfl Try.func16 (by kernel_rfl) rfl rfl (by kernel_rfl) ?_)
            have hol : ((sec3 []).set 0 (UInt8.ofNat (ov % 256).toNat) |>.set 511 (UInt8.ofNat (ov % 256).toNat)).length = 512 := by rw [List.length_set, List.length_set]; exact hsl
            have S88 : St F w0 w86 (vec 5 1 (.slice (some ⟨gs, 0, none⟩) 512 cs_) 512 ((((sec3 []).set 0 (UInt8.ofNat (ov % 256).toNat)).set 511 (UInt8.ofNat (ov % 256).toNat)).map bv) :: vec 5 1 (.slice A6 (0 + i) c6) (0 + i) (Y.map bv) :: row g1 #[.int .i64 kd, .int .i64 nu, .int .i64 ov, .slice A l.length ca] 35 :: L) := St.vec_mk (n := 512) S87 (by omega) (by rw [List.length_map, hol]) (by rw [List.length_append, List.length_map, hol]; rw [List.length_append, List.length_map, hsl] at hjs; exact hjs)
            have hYm : Y.length ≤ 140737488355328 := by omega
            refine Calls.mono (up3' (n := 504) hYl.symm S88 (RoT.ofVec (l := Y) 1 (by rw [← hYl]; rfl)) hYm) ?_
            rintro _ w89 ⟨A91, c92, rfl, S90⟩
            refine ⟨_, rfl, ?_⟩
            refine wl_gv rfl (gv_call (args := #[.slice (some ⟨gs, 0, none⟩) 512 cs_, .slice A91 ((Y.take (504 : Int).toNat).length) c92]) rfl Try.func32 (by kernel_rfl) rfl rfl (by kernel_rfl) ?_)
            refine Calls.mono (rseal' (a := ((sec3 []).set 0 (UInt8.ofNat (ov % 256).toNat)).set 511 (UInt8.ofNat (ov % 256).toNat)) (b := Y.take (504 : Int).toNat) S90 hol.symm rfl (RoT.ofVec 1 rfl) (RoT.ofVec 0 rfl) (by omega) (by rw [List.length_take]; omega)) ?_
            rintro _ w93 ⟨Az, cz, rfl, S94⟩
            refine ⟨_, rfl, ?_⟩
            obtain ⟨Z, hZ⟩ : ∃ Z, Z = (sealF (((sec3 []).set 0 (UInt8.ofNat (ov % 256).toNat)).set 511 (UInt8.ofNat (ov % 256).toNat)) (Y.take (504 : Int).toNat)).1 := ⟨_, rfl⟩
            have hZl : Z.length ≤ 512 := by rw [hZ]; exact sealF_len _ _
            rw [← hZ] at S94
            rw [← hZ]
            have S95 : St F w0 w93 (vec 5 1 (.slice Az Z.length cz) Z.length (Z.map bv) :: L) := St.permT [_, _, _, _, _] [0] (by decide) rfl S94
            refine pv (.tuple #[.slice Az Z.length cz, iv ((sealF (((sec3 []).set 0 (UInt8.ofNat (ov % 256).toNat)).set 511 (UInt8.ofNat (ov % 256).toNat)) (Y.take (504 : Int).toNat)).2 : Int)]) ?_
            refine pv (.slice Az Z.length cz) ?_
            refine pv (iv ((sealF (((sec3 []).set 0 (UInt8.ofNat (ov % 256).toNat)).set 511 (UInt8.ofNat (ov % 256).toNat)) (Y.take (504 : Int).toNat)).2 : Int)) ?_
            refine pv (.slice Az Z.length cz) ?_
            refine pv (iv ((sealF (((sec3 []).set 0 (UInt8.ofNat (ov % 256).toNat)).set 511 (UInt8.ofNat (ov % 256).toNat)) (Y.take (504 : Int).toNat)).2 : Int)) ?_
            refine wl_end (fr [.agg #[iv kd, iv nu, iv ov, .slice A l.length ca], pq g1, .slice none 0 0, .slice A6 (0 + i) c6, ud, ud, iv ((i : Nat) : Int), sl gs 0 512 cs_, .slice Az Z.length cz, iv ((sealF (((sec3 []).set 0 (UInt8.ofNat (ov % 256).toNat)).set 511 (UInt8.ofNat (ov % 256).toNat)) (Y.take (504 : Int).toNat)).2 : Int), pq g1, iv kd, fv, ud, ud, ud, pq g1, iv kd, tv, tv, pq g1, iv kd, fv, fv, ud, ud, ud, pq g1, iv kd, fv, ud, ud, ud, ud, ud, ud, ud, ud, ud, ud, ud, ud, ud, ud, iv ((i : Nat) : Int), po g1 3, .slice A l.length ca, iv (l.length : Nat), fv, J 49, J 50, J 51, J 52, J 53, J 54, J 55, J 56, J 57, J 58, sl gs 0 512 cs_, sl gs 0 512 cs_, po g1 2, iv ov, .int .u8 ((UInt8.ofNat (ov % 256).toNat).toNat : Int), pq gs, sl gs 0 512 cs_, po g1 2, iv ov, .int .u8 ((UInt8.ofNat (ov % 256).toNat).toNat : Int), po gs 511, .tuple #[.slice Az Z.length cz, iv ((sealF (((sec3 []).set 0 (UInt8.ofNat (ov % 256).toNat)).set 511 (UInt8.ofNat (ov % 256).toNat)) (Y.take (504 : Int).toNat)).2 : Int)], sl gs 0 512 cs_, .slice A6 (0 + i) c6, .slice A91 ((Y.take (504 : Int).toNat).length) c92, .tuple #[.slice Az Z.length cz, iv ((sealF (((sec3 []).set 0 (UInt8.ofNat (ov % 256).toNat)).set 511 (UInt8.ofNat (ov % 256).toNat)) (Y.take (504 : Int).toNat)).2 : Int)], .slice Az Z.length cz, iv ((sealF (((sec3 []).set 0 (UInt8.ofNat (ov % 256).toNat)).set 511 (UInt8.ofNat (ov % 256).toNat)) (Y.take (504 : Int).toNat)).2 : Int)] 1) (by kernel_rfl) ?_
            refine then_n ?_
            refine wp_seq ?_
            refine wp_region_lit ?_
            refine pv (.slice Az Z.length cz) ?_
            refine pv (.slice Az Z.length cz) ?_
            refine wl_end (fr [.agg #[iv kd, iv nu, iv ov, .slice A l.length ca], pq g1, .slice Az Z.length cz, .slice A6 (0 + i) c6, ud, ud, iv ((i : Nat) : Int), sl gs 0 512 cs_, .slice Az Z.length cz, iv ((sealF (((sec3 []).set 0 (UInt8.ofNat (ov % 256).toNat)).set 511 (UInt8.ofNat (ov % 256).toNat)) (Y.take (504 : Int).toNat)).2 : Int), pq g1, iv kd, fv, ud, ud, ud, pq g1, iv kd, tv, tv, pq g1, iv kd, fv, fv, ud, ud, ud, pq g1, iv kd, fv, ud, ud, ud, ud, ud, ud, ud, ud, ud, ud, ud, ud, ud, ud, iv ((i : Nat) : Int), po g1 3, .slice A l.length ca, iv (l.length : Nat), fv, J 49, J 50, J 51, J 52, J 53, J 54, J 55, J 56, J 57, J 58, sl gs 0 512 cs_, sl gs 0 512 cs_, po g1 2, iv ov, .int .u8 ((UInt8.ofNat (ov % 256).toNat).toNat : Int), pq gs, sl gs 0 512 cs_, po g1 2, iv ov, .int .u8 ((UInt8.ofNat (ov % 256).toNat).toNat : Int), po gs 511, .tuple #[.slice Az Z.length cz, iv ((sealF (((sec3 []).set 0 (UInt8.ofNat (ov % 256).toNat)).set 511 (UInt8.ofNat (ov % 256).toNat)) (Y.take (504 : Int).toNat)).2 : Int)], sl gs 0 512 cs_, .slice A6 (0 + i) c6, .slice A91 ((Y.take (504 : Int).toNat).length) c92, .tuple #[.slice Az Z.length cz, iv ((sealF (((sec3 []).set 0 (UInt8.ofNat (ov % 256).toNat)).set 511 (UInt8.ofNat (ov % 256).toNat)) (Y.take (504 : Int).toNat)).2 : Int)], .slice Az Z.length cz, iv ((sealF (((sec3 []).set 0 (UInt8.ofNat (ov % 256).toNat)).set 511 (UInt8.ofNat (ov % 256).toNat)) (Y.take (504 : Int).toNat)).2 : Int), .slice Az Z.length cz] 0) (by kernel_rfl) ?_
            refine then_n ?_
            refine wp_ret ?_
            refine bodyPost_ret (v := .slice Az Z.length cz) (results_t1 rfl (by kernel_rfl)) rfl ?_
            have S96 : St F w0 w93 (vec 5 1 (.slice Az Z.length cz) Z.length (Z.map bv) :: L) := St.permT [vec 5 1 (.slice Az Z.length cz) Z.length (Z.map bv)] [0] (by decide) rfl S95
            exact ⟨Az, cz, Z, rfl, by omega, S96⟩
    · skip
      refine pv fv ?_
      refine wl_not (by kernel_rfl) ?_
      refine wl_not (by kernel_rfl) ?_
      refine wl_not (by kernel_rfl) ?_
      refine pv fv ?_
      refine wl_end (fr [.agg #[iv kd, iv nu, iv ov, .slice A l.length ca], pq g1, .slice none 0 0, ud, ud, ud, ud, ud, ud, ud, pq g1, iv kd, fv, ud, ud, ud, pq g1, iv kd, fv, fv, ud, ud, ud, fv] 54) (by kernel_rfl) ?_
      refine then_n ?_
      refine wp_cond_false (by kernel_rfl) ?_
      refine wp_skip ?_
      refine then_n ?_
      refine wp_seq ?_
      refine wp_region_lit ?_
      refine pv (.slice none 0 0) ?_
      have S97 : St F w0 w2 (vec 5 1 (.slice none 0 0) 0 ([].map bv) :: row g1 #[.int .i64 kd, .int .i64 nu, .int .i64 ov, .slice A l.length ca] 35 :: L) := St.vec_nil S4
      refine wl_end (fr [.agg #[iv kd, iv nu, iv ov, .slice A l.length ca], pq g1, .slice none 0 0, .slice none 0 0, ud, ud, ud, ud, ud, ud, pq g1, iv kd, fv, ud, ud, ud, pq g1, iv kd, fv, fv, ud, ud, ud, fv] 54) (by kernel_rfl) ?_
      refine then_n ?_
      refine wp_seq ?_
      refine wp_seq ?_
      refine wp_region_lit ?_
      refine pv (pq g1) ?_
      refine wl_gv rfl (gv_ldR (v := .int .i64 kd) rfl (by kernel_rfl) (by kernel_rfl) (((S97.blk 1 rfl).cell 0).trans rfl) ?_)
      refine wl_gv rfl (gv_eq (x := kd) (y := 3) (by kernel_rfl) (fun hb98 => ?_) (fun hb98 => ?_))
      · skip
        refine wl_end (fr [.agg #[iv kd, iv nu, iv ov, .slice A l.length ca], pq g1, .slice none 0 0, .slice none 0 0, ud, ud, ud, ud, ud, ud, pq g1, iv kd, fv, ud, ud, ud, pq g1, iv kd, fv, fv, ud, ud, ud, fv, ud, ud, ud, pq g1, iv kd, tv] 48) (by kernel_rfl) ?_
        refine then_n ?_
        refine wp_cond_true (by kernel_rfl) ?_
        refine wp_seq ?_
        refine wp_region_lit ?_
        refine pv (po g1 1) ?_
        refine wl_gv rfl (gv_ldR (v := .int .i64 nu) rfl (by kernel_rfl) (by kernel_rfl) (((S97.blk 1 rfl).cell 1).trans rfl) ?_)
        refine pv (iv nu) ?_
        refine wl_end (fr [.agg #[iv kd, iv nu, iv ov, .slice A l.length ca], pq g1, .slice none 0 0, .slice none 0 0, iv nu, ud, ud, ud, ud, ud, pq g1, iv kd, fv, ud, ud, ud, pq g1, iv kd, fv, fv, ud, ud, ud, fv, ud, ud, ud, pq g1, iv kd, tv, po g1 1, iv nu] 46) (by kernel_rfl) ?_
        refine then_n ?_
        refine wp_seq ?_
        refine wp_region_lit ?_
        refine pv (iv 0) ?_
        refine wl_end (fr [.agg #[iv kd, iv nu, iv ov, .slice A l.length ca], pq g1, .slice none 0 0, .slice none 0 0, iv nu, iv 0, ud, ud, ud, ud, pq g1, iv kd, fv, ud, ud, ud, pq g1, iv kd, fv, fv, ud, ud, ud, fv, ud, ud, ud, pq g1, iv kd, tv, po g1 1, iv nu] 46) (by kernel_rfl) ?_
        refine then_n ?_
        refine wp_block ?_
        refine wp_loop_g (G := Nat × Int × List UInt8 × Option Addr × Nat) (fun (g_ : Nat × Int × List UInt8 × Option Addr × Nat) (a_ : Act) (w_ : World) => ∃ J : Nat → Value, a_ = (fr [.agg #[iv kd, iv nu, iv ov, .slice A l.length ca], pq g1, .slice none 0 0, .slice g_.2.2.2.1 g_.1 g_.2.2.2.2, iv g_.2.1, iv ((g_.1 : Nat) : Int), ud, ud, ud, ud, pq g1, iv kd, fv, ud, ud, ud, pq g1, iv kd, fv, fv, ud, ud, ud, fv, ud, ud, ud, pq g1, iv kd, tv, po g1 1, iv nu, J 32, J 33, J 34, J 35, J 36, J 37, J 38, J 39, J 40, J 41, J 42, J 43] 34) ∧ St F w0 w_ (vec 5 1 (.slice g_.2.2.2.1 g_.1 g_.2.2.2.2) g_.1 (g_.2.2.1.map bv) :: row g1 #[.int .i64 kd, .int .i64 nu, .int .i64 ov, .slice A l.length ca] 35 :: L) ∧ (g_.1 ≤ 8 ∧ g_.2.2.1.length = g_.1)) (fun g_ => 8 - g_.1) (0, nu, [], none, 0) ⟨(jl []), by kernel_rfl, S97, ⟨Nat.zero_le _, rfl⟩⟩ ?_
        rintro ⟨k, z, X, A5, c5⟩ a_ w99 ⟨J, rfl, S100, hI101⟩
        skip
        have S100 : St F w0 w99 (vec 5 1 (.slice A5 k c5) k (X.map bv) :: row g1 #[.int .i64 kd, .int .i64 nu, .int .i64 ov, .slice A l.length ca] 35 :: L) := S100
        have hI101 : (k ≤ 8 ∧ X.length = k) := hI101
        refine wp_seq ?_
        refine wp_seq ?_
        refine wp_region_lit ?_
        refine pv (iv ((k : Nat) : Int)) ?_
        refine wl_gv rfl (gv_dec (p := (((k : Nat) : Int) : Int) < 8) (by kernel_rfl) (fun hb102 => ?_) (fun hb102 => ?_))
        · skip
          refine wl_end (fr [.agg #[iv kd, iv nu, iv ov, .slice A l.length ca], pq g1, .slice none 0 0, .slice A5 k c5, iv z, iv ((k : Nat) : Int), ud, ud, ud, ud, pq g1, iv kd, fv, ud, ud, ud, pq g1, iv kd, fv, fv, ud, ud, ud, fv, ud, ud, ud, pq g1, iv kd, tv, po g1 1, iv nu, iv ((k : Nat) : Int), tv, J 34, J 35, J 36, J 37, J 38, J 39, J 40, J 41, J 42, J 43] 34) (by kernel_rfl) ?_
          refine then_n ?_
          refine wp_cond_true (by kernel_rfl) ?_
          refine wp_skip ?_
          refine then_n ?_
          refine wp_seq ?_
          refine wp_block ?_
          refine wp_seq ?_
          refine wp_region_lit ?_
          refine pv (.slice A5 k c5) ?_
          refine pv (iv z) ?_
          refine wl_gv rfl (gv_int (k := .i64) (z := bits .and .i64 z 255) (z' := (bits .and .i64 z 255)) (by kernel_rfl) rfl ?_)
          refine wl_gv rfl (gv_int (k := .u8) (z := IntKind.u8.wrap (bits .and .i64 z 255)) (z' := ((UInt8.ofNat (bits .and .i64 z 255 % 256).toNat).toNat : Int)) (by kernel_rfl) (wrap_u8 _) ?_)
          refine wl_gv rfl (gv_slit (e := 5) (sz := 1) (z := .int .u8 0) (by_ := 1) (vs := #[(0, .int .u8 ((UInt8.ofNat (bits .and .i64 z 255 % 256).toNat).toNat : Int))]) (cells := #[.int .u8 ((UInt8.ofNat (bits .and .i64 z 255 % 256).toNat).toNat : Int)]) S100 rfl (by kernel_rfl) ⟨by kernel_rfl⟩ (by kernel_rfl) (by kernel_rfl) (by kernel_rfl) (by kernel_rfl) (fun g103 w104 hg105 S106 => ?_))
          have S107 : St F w0 w104 (row g103 #[.int .u8 ((UInt8.ofNat (bits .and .i64 z 255 % 256).toNat).toNat : Int)] 5 :: vec 5 1 (.slice A5 k c5) k (X.map bv) :: row g1 #[.int .i64 kd, .int .i64 nu, .int .i64 ov, .slice A l.length ca] 35 :: L) := St.permT [row g103 #[.int .u8 ((UInt8.ofNat (bits .and .i64 z 255 % 256).toNat).toNat : Int)] 5, vec 5 1 (.slice A5 k c5) k (X.map bv), row g1 #[.int .i64 kd, .int .i64 nu, .int .i64 ov, .slice A l.length ca] 35] [0, 1, 2] (by decide) rfl S106
          refine wl_gv rfl (gv_append (e := 5) (sz := 1) (n := k) (v := (.slice A5 k c5)) (vals := (X.map bv)) (z := .int .u8 0) (by_ := 1) (m := 1) (c' := 1) (ad := ⟨g103, 0, none⟩) (news := [.int .u8 ((UInt8.ofNat (bits .and .i64 z 255 % 256).toNat).toNat : Int)]) (St.swap S107) rfl (by kernel_rfl) ⟨by kernel_rfl⟩ rfl (by kernel_rfl) (by kernel_rfl) (by decide) rfl (row_news (S107.blk 0 rfl)) (by intro u hu; simp at hu; subst hu; rfl) (by omega) (by omega) (fun v109 w108 S110 => ?_))
          have S111 : St F w0 w108 (vec 5 1 v109 (k + 1) (X.map bv ++ [.int .u8 ((UInt8.ofNat (bits .and .i64 z 255 % 256).toNat).toNat : Int)]) :: row g1 #[.int .i64 kd, .int .i64 nu, .int .i64 ov, .slice A l.length ca] 35 :: L) := St.permT [vec 5 1 v109 (k + 1) (X.map bv ++ [.int .u8 ((UInt8.ofNat (bits .and .i64 z 255 % 256).toNat).toNat : Int)]), row g103 #[.int .u8 ((UInt8.ofNat (bits .and .i64 z 255 % 256).toNat).toNat : Int)] 5, row g1 #[.int .i64 kd, .int .i64 nu, .int .i64 ov, .slice A l.length ca] 35] [0, 2] (by decide) rfl S110
          rw [bv_snoc] at S111
          obtain ⟨A112, c113, rfl⟩ := St.vecV S111 0 rfl
          change St F w0 w108 (vec 5 1 (.slice A112 (k + 1) c113) (k + 1) ((X ++ [UInt8.ofNat (bits .and .i64 z 255 % 256).toNat]).map bv) :: row g1 #[.int .i64 kd, .int .i64 nu, .int .i64 ov, .slice A l.length ca] 35 :: L) at S111
          refine pv (.slice A112 (k + 1) c113) ?_
          refine wl_end (fr [.agg #[iv kd, iv nu, iv ov, .slice A l.length ca], pq g1, .slice none 0 0, .slice A112 (k + 1) c113, iv z, iv ((k : Nat) : Int), ud, ud, ud, ud, pq g1, iv kd, fv, ud, ud, ud, pq g1, iv kd, fv, fv, ud, ud, ud, fv, ud, ud, ud, pq g1, iv kd, tv, po g1 1, iv nu, iv ((k : Nat) : Int), tv, J 34, J 35, .slice A5 k c5, iv z, iv (bits .and .i64 z 255), .int .u8 ((UInt8.ofNat (bits .and .i64 z 255 % 256).toNat).toNat : Int), sl g103 0 1 1, .slice A112 (k + 1) c113, J 42, J 43] 34) (by kernel_rfl) ?_
          refine then_n ?_
          refine wp_region_lit ?_
          refine pv (iv z) ?_
          refine wl_gv rfl (gv_shr (k := .i64) (yk := .u64) (z := z) (i := 8) (j := 8) (z' := (z / 256)) rfl (by kernel_rfl) (by kernel_rfl) rfl (by decide) (by simp) ?_)
          refine pv (iv (z / 256)) ?_
          refine wl_end (fr [.agg #[iv kd, iv nu, iv ov, .slice A l.length ca], pq g1, .slice none 0 0, .slice A112 (k + 1) c113, iv (z / 256), iv ((k : Nat) : Int), ud, ud, ud, ud, pq g1, iv kd, fv, ud, ud, ud, pq g1, iv kd, fv, fv, ud, ud, ud, fv, ud, ud, ud, pq g1, iv kd, tv, po g1 1, iv nu, iv ((k : Nat) : Int), tv, J 34, J 35, .slice A5 k c5, iv z, iv (bits .and .i64 z 255), .int .u8 ((UInt8.ofNat (bits .and .i64 z 255 % 256).toNat).toNat : Int), sl g103 0 1 1, .slice A112 (k + 1) c113, iv z, iv (z / 256)] 34) (by kernel_rfl) ?_
          refine inb_n ?_
          refine then_n ?_
          refine wp_region_lit ?_
          refine pv (iv ((k : Nat) : Int)) ?_
          refine wl_gv rfl (gv_int (k := .i64) (z := IntKind.i64.wrap (((k : Nat) : Int) + 1)) (z' := ((k + 1 : Nat) : Int)) (by kernel_rfl) (wr_eq (by omega) (by omega) (by omega)) ?_)
          refine pv (iv ((k + 1 : Nat) : Int)) ?_
          refine wl_end (fr [.agg #[iv kd, iv nu, iv ov, .slice A l.length ca], pq g1, .slice none 0 0, .slice A112 (k + 1) c113, iv (z / 256), iv ((k + 1 : Nat) : Int), ud, ud, ud, ud, pq g1, iv kd, fv, ud, ud, ud, pq g1, iv kd, fv, fv, ud, ud, ud, fv, ud, ud, ud, pq g1, iv kd, tv, po g1 1, iv nu, iv ((k : Nat) : Int), tv, iv ((k : Nat) : Int), iv ((k + 1 : Nat) : Int), .slice A5 k c5, iv z, iv (bits .and .i64 z 255), .int .u8 ((UInt8.ofNat (bits .and .i64 z 255 % 256).toNat).toNat : Int), sl g103 0 1 1, .slice A112 (k + 1) c113, iv z, iv (z / 256)] 34) (by kernel_rfl) ?_
          refine then_n ?_
          exact ⟨(k + 1, z / 256, X ++ [UInt8.ofNat (bits .and .i64 z 255 % 256).toNat], A112, c113), ⟨(jl [ud, ud, ud, ud, ud, ud, ud, ud, ud, ud, ud, ud, ud, ud, ud, ud, ud, ud, ud, ud, ud, ud, ud, ud, ud, ud, ud, ud, ud, ud, ud, ud, iv ((k : Nat) : Int), tv, iv ((k : Nat) : Int), iv ((k + 1 : Nat) : Int), .slice A5 k c5, iv z, iv (bits .and .i64 z 255), .int .u8 ((UInt8.ofNat (bits .and .i64 z 255 % 256).toNat).toNat : Int), sl g103 0 1 1, .slice A112 (k + 1) c113, iv z, iv (z / 256)]), by kernel_rfl, S111, ⟨by omega, by rw [List.length_append]; show X.length + 1 = k + 1; omega⟩⟩, (by show 8 - (k + 1) < 8 - k; omega)⟩
        · skip
          refine wl_end (fr [.agg #[iv kd, iv nu, iv ov, .slice A l.length ca], pq g1, .slice none 0 0, .slice A5 k c5, iv z, iv ((k : Nat) : Int), ud, ud, ud, ud, pq g1, iv kd, fv, ud, ud, ud, pq g1, iv kd, fv, fv, ud, ud, ud, fv, ud, ud, ud, pq g1, iv kd, tv, po g1 1, iv nu, iv ((k : Nat) : Int), fv, J 34, J 35, J 36, J 37, J 38, J 39, J 40, J 41, J 42, J 43] 34) (by kernel_rfl) ?_
          refine then_n ?_
          refine wp_cond_false (by kernel_rfl) ?_
          refine wp_exit ?_
          refine then_x ?_
          refine then_x ?_
          refine inb_x ?_
          refine then_n ?_
          refine wp_seq ?_
          refine wp_seq ?_
          refine wp_region_lit ?_
          refine pv (iv 0) ?_
          refine wl_end (fr [.agg #[iv kd, iv nu, iv ov, .slice A l.length ca], pq g1, .slice none 0 0, .slice A5 k c5, iv z, iv ((k : Nat) : Int), iv 0, ud, ud, ud, pq g1, iv kd, fv, ud, ud, ud, pq g1, iv kd, fv, fv, ud, ud, ud, fv, ud, ud, ud, pq g1, iv kd, tv, po g1 1, iv nu, iv ((k : Nat) : Int), fv, J 34, J 35, J 36, J 37, J 38, J 39, J 40, J 41, J 42, J 43] 34) (by kernel_rfl) ?_
          refine then_n ?_
          refine wp_block ?_
          have hkX : k ≤ 8 := hI101.1
          have S114 : St F w0 w99 (vec 5 1 (.slice A5 (k + 0) c5) (k + 0) (X.map bv) :: row g1 #[.int .i64 kd, .int .i64 nu, .int .i64 ov, .slice A l.length ca] 35 :: L) := S100
          have hXl : X.length = k + 0 := hI101.2
          refine wp_loop_g (G := Nat × List UInt8 × Option Addr × Nat) (fun (g_ : Nat × List UInt8 × Option Addr × Nat) (a_ : Act) (w_ : World) => ∃ J : Nat → Value, a_ = (fr [.agg #[iv kd, iv nu, iv ov, .slice A l.length ca], pq g1, .slice none 0 0, .slice g_.2.2.1 (k + g_.1) g_.2.2.2, iv z, iv ((k : Nat) : Int), iv ((g_.1 : Nat) : Int), ud, ud, ud, pq g1, iv kd, fv, ud, ud, ud, pq g1, iv kd, fv, fv, ud, ud, ud, fv, ud, ud, ud, pq g1, iv kd, tv, po g1 1, iv nu, iv ((k : Nat) : Int), fv, J 34, J 35, J 36, J 37, J 38, J 39, J 40, J 41, J 42, J 43, J 44, J 45, J 46, J 47, J 48, J 49, J 50, J 51, J 52, J 53, J 54, J 55, J 56, J 57, J 58] 19) ∧ St F w0 w_ (vec 5 1 (.slice g_.2.2.1 (k + g_.1) g_.2.2.2) (k + g_.1) (g_.2.1.map bv) :: row g1 #[.int .i64 kd, .int .i64 nu, .int .i64 ov, .slice A l.length ca] 35 :: L) ∧ (g_.1 ≤ l.length ∧ g_.2.1.length = k + g_.1)) (fun g_ => l.length - g_.1) (0, X, A5, c5) ⟨(jl [ud, ud, ud, ud, ud, ud, ud, ud, ud, ud, ud, ud, ud, ud, ud, ud, ud, ud, ud, ud, ud, ud, ud, ud, ud, ud, ud, ud, ud, ud, ud, ud, ud, ud, J 34, J 35, J 36, J 37, J 38, J 39, J 40, J 41, J 42, J 43]), by kernel_rfl, S114, ⟨Nat.zero_le _, hXl⟩⟩ ?_
          rintro ⟨i, Y, A6, c6⟩ a_ w115 ⟨J, rfl, S116, hI117⟩
          skip
          have S116 : St F w0 w115 (vec 5 1 (.slice A6 (k + i) c6) (k + i) (Y.map bv) :: row g1 #[.int .i64 kd, .int .i64 nu, .int .i64 ov, .slice A l.length ca] 35 :: L) := S116
          have hI117 : (i ≤ l.length ∧ Y.length = k + i) := hI117
          refine wp_seq ?_
          refine wp_seq ?_
          refine wp_region_lit ?_
          refine pv (iv ((i : Nat) : Int)) ?_
          refine pv (po g1 3) ?_
          refine wl_gv rfl (gv_ldR (v := .slice A l.length ca) rfl (by kernel_rfl) (by kernel_rfl) (((S116.blk 1 rfl).cell 3).trans rfl) ?_)
          refine pv (iv (l.length : Nat)) ?_
          refine wl_gv rfl (gv_dec (p := (((i : Nat) : Int) : Int) < (l.length : Nat)) (by kernel_rfl) (fun hb118 => ?_) (fun hb118 => ?_))
          · skip
            have hi : i < l.length := by omega
            obtain ⟨ad, had⟩ := (hr.out _ [vec 5 1 (.slice A6 (k + i) c6) (k + i) (Y.map bv), row g1 #[.int .i64 kd, .int .i64 nu, .int .i64 ov, .slice A l.length ca] 35] S116).at hi
            refine wl_end (fr [.agg #[iv kd, iv nu, iv ov, .slice A l.length ca], pq g1, .slice none 0 0, .slice A6 (k + i) c6, iv z, iv ((k : Nat) : Int), iv ((i : Nat) : Int), ud, ud, ud, pq g1, iv kd, fv, ud, ud, ud, pq g1, iv kd, fv, fv, ud, ud, ud, fv, ud, ud, ud, pq g1, iv kd, tv, po g1 1, iv nu, iv ((k : Nat) : Int), fv, J 34, J 35, J 36, J 37, J 38, J 39, J 40, J 41, J 42, J 43, iv ((i : Nat) : Int), po g1 3, .slice A l.length ca, iv (l.length : Nat), tv, J 49, J 50, J 51, J 52, J 53, J 54, J 55, J 56, J 57, J 58] 19) (by kernel_rfl) ?_
            refine then_n ?_
            refine wp_cond_true (by kernel_rfl) ?_
            refine wp_skip ?_
            refine then_n ?_
            refine wp_seq ?_
            refine wp_block ?_
            refine wp_region_lit ?_
            refine pv (.slice A6 (k + i) c6) ?_
            refine pv (po g1 3) ?_
            refine wl_gv rfl (gv_ldR (v := .slice A l.length ca) rfl (by kernel_rfl) (by kernel_rfl) (((S116.blk 1 rfl).cell 3).trans rfl) ?_)
            refine pv (iv ((i : Nat) : Int)) ?_
            refine wl_gv rfl (gv_ixB (e := 5) (sz := 1) (n := l.length) (c := ca) (i := ((i : Nat) : Int)) (k := .i64) (ad := ad) (ad' := (ad.add i)) (j := i) rfl (by kernel_rfl) (by kernel_rfl) (by rw [← had]; kernel_rfl) (by kernel_rfl) rfl hi (by rw [Nat.mul_one]) ?_)
            refine wl_gv rfl (gv_ldR (v := .int .u8 ((l.getD i 0).toNat : Int)) rfl (by kernel_rfl) (by kernel_rfl) ((had ▸ hr.out _ [vec 5 1 (.slice A6 (k + i) c6) (k + i) (Y.map bv), row g1 #[.int .i64 kd, .int .i64 nu, .int .i64 ov, .slice A l.length ca] 35] S116 : RdB _ (some ad) l).cell hi) ?_)
            refine wl_gv rfl (gv_slit (e := 5) (sz := 1) (z := .int .u8 0) (by_ := 1) (vs := #[(0, .int .u8 ((l.getD i 0).toNat : Int))]) (cells := #[.int .u8 ((l.getD i 0).toNat : Int)]) S116 rfl (by kernel_rfl) ⟨by kernel_rfl⟩ (by kernel_rfl) (by kernel_rfl) (by kernel_rfl) (by kernel_rfl) (fun g119 w120 hg121 S122 => ?_))
            have S123 : St F w0 w120 (row g119 #[.int .u8 ((l.getD i 0).toNat : Int)] 5 :: vec 5 1 (.slice A6 (k + i) c6) (k + i) (Y.map bv) :: row g1 #[.int .i64 kd, .int .i64 nu, .int .i64 ov, .slice A l.length ca] 35 :: L) := St.permT [row g119 #[.int .u8 ((l.getD i 0).toNat : Int)] 5, vec 5 1 (.slice A6 (k + i) c6) (k + i) (Y.map bv), row g1 #[.int .i64 kd, .int .i64 nu, .int .i64 ov, .slice A l.length ca] 35] [0, 1, 2] (by decide) rfl S122
            refine wl_gv rfl (gv_append (e := 5) (sz := 1) (n := (k + i)) (v := (.slice A6 (k + i) c6)) (vals := (Y.map bv)) (z := .int .u8 0) (by_ := 1) (m := 1) (c' := 1) (ad := ⟨g119, 0, none⟩) (news := [.int .u8 ((l.getD i 0).toNat : Int)]) (St.swap S123) rfl (by kernel_rfl) ⟨by kernel_rfl⟩ rfl (by kernel_rfl) (by kernel_rfl) (by decide) rfl (row_news (S123.blk 0 rfl)) (by intro u hu; simp at hu; subst hu; rfl) (by omega) (by omega) (fun v125 w124 S126 => ?_))
            have S127 : St F w0 w124 (vec 5 1 v125 (k + i + 1) (Y.map bv ++ [.int .u8 ((l.getD i 0).toNat : Int)]) :: row g1 #[.int .i64 kd, .int .i64 nu, .int .i64 ov, .slice A l.length ca] 35 :: L) := St.permT [vec 5 1 v125 (k + i + 1) (Y.map bv ++ [.int .u8 ((l.getD i 0).toNat : Int)]), row g119 #[.int .u8 ((l.getD i 0).toNat : Int)] 5, row g1 #[.int .i64 kd, .int .i64 nu, .int .i64 ov, .slice A l.length ca] 35] [0, 2] (by decide) rfl S126
            rw [bv_snoc] at S127
            obtain ⟨A128, c129, rfl⟩ := St.vecV S127 0 rfl
            change St F w0 w124 (vec 5 1 (.slice A128 (k + i + 1) c129) (k + i + 1) ((Y ++ [l.getD i 0]).map bv) :: row g1 #[.int .i64 kd, .int .i64 nu, .int .i64 ov, .slice A l.length ca] 35 :: L) at S127
            refine pv (.slice A128 (k + i + 1) c129) ?_
            refine wl_end (fr [.agg #[iv kd, iv nu, iv ov, .slice A l.length ca], pq g1, .slice none 0 0, .slice A128 (k + i + 1) c129, iv z, iv ((k : Nat) : Int), iv ((i : Nat) : Int), ud, ud, ud, pq g1, iv kd, fv, ud, ud, ud, pq g1, iv kd, fv, fv, ud, ud, ud, fv, ud, ud, ud, pq g1, iv kd, tv, po g1 1, iv nu, iv ((k : Nat) : Int), fv, J 34, J 35, J 36, J 37, J 38, J 39, J 40, J 41, J 42, J 43, iv ((i : Nat) : Int), po g1 3, .slice A l.length ca, iv (l.length : Nat), tv, J 49, J 50, .slice A6 (k + i) c6, po g1 3, .slice A l.length ca, iv ((i : Nat) : Int), .pointer (some (ad.add i)), .int .u8 ((l.getD i 0).toNat : Int), sl g119 0 1 1, .slice A128 (k + i + 1) c129] 19) (by kernel_rfl) ?_
            refine inb_n ?_
            refine then_n ?_
            refine wp_region_lit ?_
            refine pv (iv ((i : Nat) : Int)) ?_
            refine wl_gv rfl (gv_int (k := .i64) (z := IntKind.i64.wrap (((i : Nat) : Int) + 1)) (z' := ((i + 1 : Nat) : Int)) (by kernel_rfl) (wr_eq (by omega) (by omega) (by omega)) ?_)
            refine pv (iv ((i + 1 : Nat) : Int)) ?_
            refine wl_end (fr [.agg #[iv kd, iv nu, iv ov, .slice A l.length ca], pq g1, .slice none 0 0, .slice A128 (k + i + 1) c129, iv z, iv ((k : Nat) : Int), iv ((i + 1 : Nat) : Int), ud, ud, ud, pq g1, iv kd, fv, ud, ud, ud, pq g1, iv kd, fv, fv, ud, ud, ud, fv, ud, ud, ud, pq g1, iv kd, tv, po g1 1, iv nu, iv ((k : Nat) : Int), fv, J 34, J 35, J 36, J 37, J 38, J 39, J 40, J 41, J 42, J 43, iv ((i : Nat) : Int), po g1 3, .slice A l.length ca, iv (l.length : Nat), tv, iv ((i : Nat) : Int), iv ((i + 1 : Nat) : Int), .slice A6 (k + i) c6, po g1 3, .slice A l.length ca, iv ((i : Nat) : Int), .pointer (some (ad.add i)), .int .u8 ((l.getD i 0).toNat : Int), sl g119 0 1 1, .slice A128 (k + i + 1) c129] 19) (by kernel_rfl) ?_
            refine then_n ?_
            exact ⟨(i + 1, Y ++ [l.getD i 0], A128, c129), ⟨(jl [ud, ud, ud, ud, ud, ud, ud, ud, ud, ud, ud, ud, ud, ud, ud, ud, ud, ud, ud, ud, ud, ud, ud, ud, ud, ud, ud, ud, ud, ud, ud, ud, ud, ud, J 34, J 35, J 36, J 37, J 38, J 39, J 40, J 41, J 42, J 43, iv ((i : Nat) : Int), po g1 3, .slice A l.length ca, iv (l.length : Nat), tv, iv ((i : Nat) : Int), iv ((i + 1 : Nat) : Int), .slice A6 (k + i) c6, po g1 3, .slice A l.length ca, iv ((i : Nat) : Int), .pointer (some (ad.add i)), .int .u8 ((l.getD i 0).toNat : Int), sl g119 0 1 1, .slice A128 (k + i + 1) c129]), by kernel_rfl, S127, ⟨by omega, by rw [List.length_append]; show Y.length + 1 = k + (i + 1); omega⟩⟩, (by show l.length - (i + 1) < l.length - i; omega)⟩
          · skip
            obtain ⟨hiE, hYl⟩ := hI117
            refine wl_end (fr [.agg #[iv kd, iv nu, iv ov, .slice A l.length ca], pq g1, .slice none 0 0, .slice A6 (k + i) c6, iv z, iv ((k : Nat) : Int), iv ((i : Nat) : Int), ud, ud, ud, pq g1, iv kd, fv, ud, ud, ud, pq g1, iv kd, fv, fv, ud, ud, ud, fv, ud, ud, ud, pq g1, iv kd, tv, po g1 1, iv nu, iv ((k : Nat) : Int), fv, J 34, J 35, J 36, J 37, J 38, J 39, J 40, J 41, J 42, J 43, iv ((i : Nat) : Int), po g1 3, .slice A l.length ca, iv (l.length : Nat), fv, J 49, J 50, J 51, J 52, J 53, J 54, J 55, J 56, J 57, J 58] 19) (by kernel_rfl) ?_
            refine then_n ?_
            refine wp_cond_false (by kernel_rfl) ?_
            refine wp_exit ?_
            refine then_x ?_
            refine then_x ?_
            refine inb_x ?_
            refine then_n ?_
            refine wp_seq ?_
            refine wp_region_lit ?_
            refine wl_gv rfl (gv_call (args := #[.slice none 0 0]) rfl Try.func18 (by kernel_rfl) rfl rfl (by kernel_rfl) ?_)
            refine Calls.mono (se3 (l := []) (A := none) (ca := 0) S116 RoT.nil (Nat.zero_le _)) ?_
            rintro _ w130 ⟨As, cs_, rfl, S131⟩
            obtain ⟨gs, cS, js, hv_, hcS, _, hjs, S131'⟩ := St.vec_open S131 (by decide)
            simp at hv_
            obtain ⟨rfl, rfl⟩ := hv_
            refine ⟨_, rfl, ?_⟩
            have hsl := sec3_len []
            refine pv (sl gs 0 512 cs_) ?_
            refine wl_end (fr [.agg #[iv kd, iv nu, iv ov, .slice A l.length ca], pq g1, .slice none 0 0, .slice A6 (k + i) c6, iv z, iv ((k : Nat) : Int), iv ((i : Nat) : Int), sl gs 0 512 cs_, ud, ud, pq g1, iv kd, fv, ud, ud, ud, pq g1, iv kd, fv, fv, ud, ud, ud, fv, ud, ud, ud, pq g1, iv kd, tv, po g1 1, iv nu, iv ((k : Nat) : Int), fv, J 34, J 35, J 36, J 37, J 38, J 39, J 40, J 41, J 42, J 43, iv ((i : Nat) : Int), po g1 3, .slice A l.length ca, iv (l.length : Nat), fv, J 49, J 50, J 51, J 52, J 53, J 54, J 55, J 56, J 57, J 58, sl gs 0 512 cs_] 18) (by kernel_rfl) ?_
            refine then_n ?_
            refine wp_seq ?_
            refine wp_region_lit ?_
            refine pv (sl gs 0 512 cs_) ?_
            refine pv (po g1 2) ?_
            refine wl_gv rfl (gv_ldR (v := .int .i64 ov) rfl (by kernel_rfl) (by kernel_rfl) (((S131'.blk 2 rfl).cell 2).trans rfl) ?_)
            refine wl_gv rfl (gv_int (k := .u8) (z := IntKind.u8.wrap ov) (z' := ((UInt8.ofNat (ov % 256).toNat).toNat : Int)) (by kernel_rfl) (wrap_u8 _) ?_)
            refine wl_gv rfl (gv_ixE (e := 5) (sz := 1) (g := gs) (off := 0) (n := 512) (c := cs_) (i := 0) (k := .i64) (j := 0) (off' := 0) rfl (by kernel_rfl) (by kernel_rfl) (by kernel_rfl) (by kernel_rfl) rfl (by omega) (by omega) ?_)
            refine wl_gv rfl (gv_st (k := 0) (v := .int .u8 ((UInt8.ofNat (ov % 256).toNat).toNat : Int)) S131' 0 rfl rfl (by kernel_rfl) (by kernel_rfl) (by kernel_rfl) rfl (vec_blt (by first | omega | (simp only [List.length_set]; omega))) (L' := (row gs ((((sec3 []).set 0 (UInt8.ofNat (ov % 256).toNat)).map bv ++ js).toArray) 5 :: vec 5 1 (.slice A6 (k + i) c6) (k + i) (Y.map bv) :: row g1 #[.int .i64 kd, .int .i64 nu, .int .i64 ov, .slice A l.length ca] 35 :: L)) (by rw [vec_set _ (by first | omega | (simp only [List.length_set]; omega))]; rfl) (fun w132 S133 => ?_))
            refine wl_end (fr [.agg #[iv kd, iv nu, iv ov, .slice A l.length ca], pq g1, .slice none 0 0, .slice A6 (k + i) c6, iv z, iv ((k : Nat) : Int), iv ((i : Nat) : Int), sl gs 0 512 cs_, ud, ud, pq g1, iv kd, fv, ud, ud, ud, pq g1, iv kd, fv, fv, ud, ud, ud, fv, ud, ud, ud, pq g1, iv kd, tv, po g1 1, iv nu, iv ((k : Nat) : Int), fv, J 34, J 35, J 36, J 37, J 38, J 39, J 40, J 41, J 42, J 43, iv ((i : Nat) : Int), po g1 3, .slice A l.length ca, iv (l.length : Nat), fv, J 49, J 50, J 51, J 52, J 53, J 54, J 55, J 56, J 57, J 58, sl gs 0 512 cs_, sl gs 0 512 cs_, po g1 2, iv ov, .int .u8 ((UInt8.ofNat (ov % 256).toNat).toNat : Int), pq gs] 13) (by kernel_rfl) ?_
            refine then_n ?_
            refine wp_seq ?_
            refine wp_region_lit ?_
            refine pv (sl gs 0 512 cs_) ?_
            refine pv (po g1 2) ?_
            refine wl_gv rfl (gv_ldR (v := .int .i64 ov) rfl (by kernel_rfl) (by kernel_rfl) (((S133.blk 2 rfl).cell 2).trans rfl) ?_)
            refine wl_gv rfl (gv_int (k := .u8) (z := IntKind.u8.wrap ov) (z' := ((UInt8.ofNat (ov % 256).toNat).toNat : Int)) (by kernel_rfl) (wrap_u8 _) ?_)
            refine wl_gv rfl (gv_ixE (e := 5) (sz := 1) (g := gs) (off := 0) (n := 512) (c := cs_) (i := 511) (k := .i64) (j := 511) (off' := 511) rfl (by kernel_rfl) (by kernel_rfl) (by kernel_rfl) (by kernel_rfl) rfl (by omega) (by omega) ?_)
            refine wl_gv rfl (gv_st (k := 511) (v := .int .u8 ((UInt8.ofNat (ov % 256).toNat).toNat : Int)) S133 0 rfl rfl (by kernel_rfl) (by kernel_rfl) (by kernel_rfl) rfl (vec_blt (by first | omega | (simp only [List.length_set]; omega))) (L' := (row gs (((((sec3 []).set 0 (UInt8.ofNat (ov % 256).toNat)).set 511 (UInt8.ofNat (ov % 256).toNat)).map bv ++ js).toArray) 5 :: vec 5 1 (.slice A6 (k + i) c6) (k + i) (Y.map bv) :: row g1 #[.int .i64 kd, .int .i64 nu, .int .i64 ov, .slice A l.length ca] 35 :: L)) (by rw [vec_set _ (by first | omega | (simp only [List.length_set]; omega))]; rfl) (fun w134 S135 => ?_))
            refine wl_end (fr [.agg #[iv kd, iv nu, iv ov, .slice A l.length ca], pq g1, .slice none 0 0, .slice A6 (k + i) c6, iv z, iv ((k : Nat) : Int), iv ((i : Nat) : Int), sl gs 0 512 cs_, ud, ud, pq g1, iv kd, fv, ud, ud, ud, pq g1, iv kd, fv, fv, ud, ud, ud, fv, ud, ud, ud, pq g1, iv kd, tv, po g1 1, iv nu, iv ((k : Nat) : Int), fv, J 34, J 35, J 36, J 37, J 38, J 39, J 40, J 41, J 42, J 43, iv ((i : Nat) : Int), po g1 3, .slice A l.length ca, iv (l.length : Nat), fv, J 49, J 50, J 51, J 52, J 53, J 54, J 55, J 56, J 57, J 58, sl gs 0 512 cs_, sl gs 0 512 cs_, po g1 2, iv ov, .int .u8 ((UInt8.ofNat (ov % 256).toNat).toNat : Int), pq gs, sl gs 0 512 cs_, po g1 2, iv ov, .int .u8 ((UInt8.ofNat (ov % 256).toNat).toNat : Int), po gs 511] 8) (by kernel_rfl) ?_
            refine then_n ?_
            refine wp_seq ?_
            refine wp_region_lit ?_
            refine pv (sl gs 0 512 cs_) ?_
            refine pv (.slice A6 (k + i) c6) ?_
            refine wl_gv rfl (gv_call (args := #[.slice A6 (k + i) c6, .int .i64 504]) rfl Try.func16 (by kernel_rfl) rfl rfl (by kernel_rfl) ?_)
            have hol : ((sec3 []).set 0 (UInt8.ofNat (ov % 256).toNat) |>.set 511 (UInt8.ofNat (ov % 256).toNat)).length = 512 := by rw [List.length_set, List.length_set]; exact hsl
            have S136 : St F w0 w134 (vec 5 1 (.slice (some ⟨gs, 0, none⟩) 512 cs_) 512 ((((sec3 []).set 0 (UInt8.ofNat (ov % 256).toNat)).set 511 (UInt8.ofNat (ov % 256).toNat)).map bv) :: vec 5 1 (.slice A6 (k + i) c6) (k + i) (Y.map bv) :: row g1 #[.int .i64 kd, .int .i64 nu, .int .i64 ov, .slice A l.length ca] 35 :: L) := St.vec_mk (n := 512) S135 (by omega) (by rw [List.length_map, hol]) (by rw [List.length_append, List.length_map, hol]; rw [List.length_append, List.length_map, hsl] at hjs; exact hjs)
            have hYm : Y.length ≤ 140737488355328 := by omega
            refine Calls.mono (up3' (n := 504) hYl.symm S136 (RoT.ofVec (l := Y) 1 (by rw [← hYl]; rfl)) hYm) ?_
            rintro _ w137 ⟨A139, c140, rfl, S138⟩
            refine ⟨_, rfl, ?_⟩
            refine wl_gv rfl (gv_call (args := #[.slice (some ⟨gs, 0, none⟩) 512 cs_, .slice A139 ((Y.take (504 : Int).toNat).length) c140]) rfl Try.func32 (by kernel_rfl) rfl rfl (by kernel_rfl) ?_)
            refine Calls.mono (rseal' (a := ((sec3 []).set 0 (UInt8.ofNat (ov % 256).toNat)).set 511 (UInt8.ofNat (ov % 256).toNat)) (b := Y.take (504 : Int).toNat) S138 hol.symm rfl (RoT.ofVec 1 rfl) (RoT.ofVec 0 rfl) (by omega) (by rw [List.length_take]; omega)) ?_
            rintro _ w141 ⟨Az, cz, rfl, S142⟩
            refine ⟨_, rfl, ?_⟩
            obtain ⟨Z, hZ⟩ : ∃ Z, Z = (sealF (((sec3 []).set 0 (UInt8.ofNat (ov % 256).toNat)).set 511 (UInt8.ofNat (ov % 256).toNat)) (Y.take (504 : Int).toNat)).1 := ⟨_, rfl⟩
            have hZl : Z.length ≤ 512 := by rw [hZ]; exact sealF_len _ _
            rw [← hZ] at S142
            rw [← hZ]
            have S143 : St F w0 w141 (vec 5 1 (.slice Az Z.length cz) Z.length (Z.map bv) :: L) := St.permT [_, _, _, _, _] [0] (by decide) rfl S142
            refine pv (.tuple #[.slice Az Z.length cz, iv ((sealF (((sec3 []).set 0 (UInt8.ofNat (ov % 256).toNat)).set 511 (UInt8.ofNat (ov % 256).toNat)) (Y.take (504 : Int).toNat)).2 : Int)]) ?_
            refine pv (.slice Az Z.length cz) ?_
            refine pv (iv ((sealF (((sec3 []).set 0 (UInt8.ofNat (ov % 256).toNat)).set 511 (UInt8.ofNat (ov % 256).toNat)) (Y.take (504 : Int).toNat)).2 : Int)) ?_
            refine pv (.slice Az Z.length cz) ?_
            refine pv (iv ((sealF (((sec3 []).set 0 (UInt8.ofNat (ov % 256).toNat)).set 511 (UInt8.ofNat (ov % 256).toNat)) (Y.take (504 : Int).toNat)).2 : Int)) ?_
            refine wl_end (fr [.agg #[iv kd, iv nu, iv ov, .slice A l.length ca], pq g1, .slice none 0 0, .slice A6 (k + i) c6, iv z, iv ((k : Nat) : Int), iv ((i : Nat) : Int), sl gs 0 512 cs_, .slice Az Z.length cz, iv ((sealF (((sec3 []).set 0 (UInt8.ofNat (ov % 256).toNat)).set 511 (UInt8.ofNat (ov % 256).toNat)) (Y.take (504 : Int).toNat)).2 : Int), pq g1, iv kd, fv, ud, ud, ud, pq g1, iv kd, fv, fv, ud, ud, ud, fv, ud, ud, ud, pq g1, iv kd, tv, po g1 1, iv nu, iv ((k : Nat) : Int), fv, J 34, J 35, J 36, J 37, J 38, J 39, J 40, J 41, J 42, J 43, iv ((i : Nat) : Int), po g1 3, .slice A l.length ca, iv (l.length : Nat), fv, J 49, J 50, J 51, J 52, J 53, J 54, J 55, J 56, J 57, J 58, sl gs 0 512 cs_, sl gs 0 512 cs_, po g1 2, iv ov, .int .u8 ((UInt8.ofNat (ov % 256).toNat).toNat : Int), pq gs, sl gs 0 512 cs_, po g1 2, iv ov, .int .u8 ((UInt8.ofNat (ov % 256).toNat).toNat : Int), po gs 511, .tuple #[.slice Az Z.length cz, iv ((sealF (((sec3 []).set 0 (UInt8.ofNat (ov % 256).toNat)).set 511 (UInt8.ofNat (ov % 256).toNat)) (Y.take (504 : Int).toNat)).2 : Int)], sl gs 0 512 cs_, .slice A6 (k + i) c6, .slice A139 ((Y.take (504 : Int).toNat).length) c140, .tuple #[.slice Az Z.length cz, iv ((sealF (((sec3 []).set 0 (UInt8.ofNat (ov % 256).toNat)).set 511 (UInt8.ofNat (ov % 256).toNat)) (Y.take (504 : Int).toNat)).2 : Int)], .slice Az Z.length cz, iv ((sealF (((sec3 []).set 0 (UInt8.ofNat (ov % 256).toNat)).set 511 (UInt8.ofNat (ov % 256).toNat)) (Y.take (504 : Int).toNat)).2 : Int)] 1) (by kernel_rfl) ?_
            refine then_n ?_
            refine wp_seq ?_
            refine wp_region_lit ?_
            refine pv (.slice Az Z.length cz) ?_
            refine pv (.slice Az Z.length cz) ?_
            refine wl_end (fr [.agg #[iv kd, iv nu, iv ov, .slice A l.length ca], pq g1, .slice Az Z.length cz, .slice A6 (k + i) c6, iv z, iv ((k : Nat) : Int), iv ((i : Nat) : Int), sl gs 0 512 cs_, .slice Az Z.length cz, iv ((sealF (((sec3 []).set 0 (UInt8.ofNat (ov % 256).toNat)).set 511 (UInt8.ofNat (ov % 256).toNat)) (Y.take (504 : Int).toNat)).2 : Int), pq g1, iv kd, fv, ud, ud, ud, pq g1, iv kd, fv, fv, ud, ud, ud, fv, ud, ud, ud, pq g1, iv kd, tv, po g1 1, iv nu, iv ((k : Nat) : Int), fv, J 34, J 35, J 36, J 37, J 38, J 39, J 40, J 41, J 42, J 43, iv ((i : Nat) : Int), po g1 3, .slice A l.length ca, iv (l.length : Nat), fv, J 49, J 50, J 51, J 52, J 53, J 54, J 55, J 56, J 57, J 58, sl gs 0 512 cs_, sl gs 0 512 cs_, po g1 2, iv ov, .int .u8 ((UInt8.ofNat (ov % 256).toNat).toNat : Int), pq gs, sl gs 0 512 cs_, po g1 2, iv ov, .int .u8 ((UInt8.ofNat (ov % 256).toNat).toNat : Int), po gs 511, .tuple #[.slice Az Z.length cz, iv ((sealF (((sec3 []).set 0 (UInt8.ofNat (ov % 256).toNat)).set 511 (UInt8.ofNat (ov % 256).toNat)) (Y.take (504 : Int).toNat)).2 : Int)], sl gs 0 512 cs_, .slice A6 (k + i) c6, .slice A139 ((Y.take (504 : Int).toNat).length) c140, .tuple #[.slice Az Z.length cz, iv ((sealF (((sec3 []).set 0 (UInt8.ofNat (ov % 256).toNat)).set 511 (UInt8.ofNat (ov % 256).toNat)) (Y.take (504 : Int).toNat)).2 : Int)], .slice Az Z.length cz, iv ((sealF (((sec3 []).set 0 (UInt8.ofNat (ov % 256).toNat)).set 511 (UInt8.ofNat (ov % 256).toNat)) (Y.take (504 : Int).toNat)).2 : Int), .slice Az Z.length cz] 0) (by kernel_rfl) ?_
            refine then_n ?_
            refine wp_ret ?_
            refine bodyPost_ret (v := .slice Az Z.length cz) (results_t1 rfl (by kernel_rfl)) rfl ?_
            have S144 : St F w0 w141 (vec 5 1 (.slice Az Z.length cz) Z.length (Z.map bv) :: L) := St.permT [vec 5 1 (.slice Az Z.length cz) Z.length (Z.map bv)] [0] (by decide) rfl S143
            exact ⟨Az, cz, Z, rfl, by omega, S144⟩
      · skip
        refine wl_end (fr [.agg #[iv kd, iv nu, iv ov, .slice A l.length ca], pq g1, .slice none 0 0, .slice none 0 0, ud, ud, ud, ud, ud, ud, pq g1, iv kd, fv, ud, ud, ud, pq g1, iv kd, fv, fv, ud, ud, ud, fv, ud, ud, ud, pq g1, iv kd, fv] 48) (by kernel_rfl) ?_
        refine then_n ?_
        refine wp_cond_false (by kernel_rfl) ?_
        refine wp_skip ?_
        refine then_n ?_
        refine wp_seq ?_
        refine wp_seq ?_
        refine wp_region_lit ?_
        refine pv (iv 0) ?_
        refine wl_end (fr [.agg #[iv kd, iv nu, iv ov, .slice A l.length ca], pq g1, .slice none 0 0, .slice none 0 0, ud, ud, iv 0, ud, ud, ud, pq g1, iv kd, fv, ud, ud, ud, pq g1, iv kd, fv, fv, ud, ud, ud, fv, ud, ud, ud, pq g1, iv kd, fv] 48) (by kernel_rfl) ?_
        refine then_n ?_
        refine wp_block ?_
        have S145 : St F w0 w2 (vec 5 1 (.slice none (0 + 0) 0) (0 + 0) ([].map bv) :: row g1 #[.int .i64 kd, .int .i64 nu, .int .i64 ov, .slice A l.length ca] 35 :: L) := S97
        have hXl : ([] : List UInt8).length = 0 + 0 := rfl
        refine wp_loop_g (G := Nat × List UInt8 × Option Addr × Nat) (fun (g_ : Nat × List UInt8 × Option Addr × Nat) (a_ : Act) (w_ : World) => ∃ J : Nat → Value, a_ = (fr [.agg #[iv kd, iv nu, iv ov, .slice A l.length ca], pq g1, .slice none 0 0, .slice g_.2.2.1 (0 + g_.1) g_.2.2.2, ud, ud, iv ((g_.1 : Nat) : Int), ud, ud, ud, pq g1, iv kd, fv, ud, ud, ud, pq g1, iv kd, fv, fv, ud, ud, ud, fv, ud, ud, ud, pq g1, iv kd, fv, ud, ud, ud, ud, ud, ud, ud, ud, ud, ud, ud, ud, ud, ud, J 44, J 45, J 46, J 47, J 48, J 49, J 50, J 51, J 52, J 53, J 54, J 55, J 56, J 57, J 58] 19) ∧ St F w0 w_ (vec 5 1 (.slice g_.2.2.1 (0 + g_.1) g_.2.2.2) (0 + g_.1) (g_.2.1.map bv) :: row g1 #[.int .i64 kd, .int .i64 nu, .int .i64 ov, .slice A l.length ca] 35 :: L) ∧ (g_.1 ≤ l.length ∧ g_.2.1.length = 0 + g_.1)) (fun g_ => l.length - g_.1) (0, [], none, 0) ⟨(jl []), by kernel_rfl, S145, ⟨Nat.zero_le _, hXl⟩⟩ ?_
        rintro ⟨i, Y, A6, c6⟩ a_ w146 ⟨J, rfl, S147, hI148⟩
        skip
        have S147 : St F w0 w146 (vec 5 1 (.slice A6 (0 + i) c6) (0 + i) (Y.map bv) :: row g1 #[.int .i64 kd, .int .i64 nu, .int .i64 ov, .slice A l.length ca] 35 :: L) := S147
        have hI148 : (i ≤ l.length ∧ Y.length = 0 + i) := hI148
        refine wp_seq ?_
        refine wp_seq ?_
        refine wp_region_lit ?_
        refine pv (iv ((i : Nat) : Int)) ?_
        refine pv (po g1 3) ?_
        refine wl_gv rfl (gv_ldR (v := .slice A l.length ca) rfl (by kernel_rfl) (by kernel_rfl) (((S147.blk 1 rfl).cell 3).trans rfl) ?_)
        refine pv (iv (l.length : Nat)) ?_
        refine wl_gv rfl (gv_dec (p := (((i : Nat) : Int) : Int) < (l.length : Nat)) (by kernel_rfl) (fun hb149 => ?_) (fun hb149 => ?_))
        · skip
          have hi : i < l.length := by omega
          obtain ⟨ad, had⟩ := (hr.out _ [vec 5 1 (.slice A6 (0 + i) c6) (0 + i) (Y.map bv), row g1 #[.int .i64 kd, .int .i64 nu, .int .i64 ov, .slice A l.length ca] 35] S147).at hi
          refine wl_end (fr [.agg #[iv kd, iv nu, iv ov, .slice A l.length ca], pq g1, .slice none 0 0, .slice A6 (0 + i) c6, ud, ud, iv ((i : Nat) : Int), ud, ud, ud, pq g1, iv kd, fv, ud, ud, ud, pq g1, iv kd, fv, fv, ud, ud, ud, fv, ud, ud, ud, pq g1, iv kd, fv, ud, ud, ud, ud, ud, ud, ud, ud, ud, ud, ud, ud, ud, ud, iv ((i : Nat) : Int), po g1 3, .slice A l.length ca, iv (l.length : Nat), tv, J 49, J 50, J 51, J 52, J 53, J 54, J 55, J 56, J 57, J 58] 19) (by kernel_rfl) ?_
          refine then_n ?_
          refine wp_cond_true (by kernel_rfl) ?_
          refine wp_skip ?_
          refine then_n ?_
          refine wp_seq ?_
          refine wp_block ?_
          refine wp_region_lit ?_
          refine pv (.slice A6 (0 + i) c6) ?_
          refine pv (po g1 3) ?_
          refine wl_gv rfl (gv_ldR (v := .slice A l.length ca) rfl (by kernel_rfl) (by kernel_rfl) (((S147.blk 1 rfl).cell 3).trans rfl) ?_)
          refine pv (iv ((i : Nat) : Int)) ?_
          refine wl_gv rfl (gv_ixB (e := 5) (sz := 1) (n := l.length) (c := ca) (i := ((i : Nat) : Int)) (k := .i64) (ad := ad) (ad' := (ad.add i)) (j := i) rfl (by kernel_rfl) (by kernel_rfl) (by rw [← had]; kernel_rfl) (by kernel_rfl) rfl hi (by rw [Nat.mul_one]) ?_)
          refine wl_gv rfl (gv_ldR (v := .int .u8 ((l.getD i 0).toNat : Int)) rfl (by kernel_rfl) (by kernel_rfl) ((had ▸ hr.out _ [vec 5 1 (.slice A6 (0 + i) c6) (0 + i) (Y.map bv), row g1 #[.int .i64 kd, .int .i64 nu, .int .i64 ov, .slice A l.length ca] 35] S147 : RdB _ (some ad) l).cell hi) ?_)
          refine wl_gv rfl (gv_slit (e := 5) (sz := 1) (z := .int .u8 0) (by_ := 1) (vs := #[(0, .int .u8 ((l.getD i 0).toNat : Int))]) (cells := #[.int .u8 ((l.getD i 0).toNat : Int)]) S147 rfl (by kernel_rfl) ⟨by kernel_rfl⟩ (by kernel_rfl) (by kernel_rfl) (by kernel_rfl) (by kernel_rfl) (fun g150 w151 hg152 S153 => ?_))
          have S154 : St F w0 w151 (row g150 #[.int .u8 ((l.getD i 0).toNat : Int)] 5 :: vec 5 1 (.slice A6 (0 + i) c6) (0 + i) (Y.map bv) :: row g1 #[.int .i64 kd, .int .i64 nu, .int .i64 ov, .slice A l.length ca] 35 :: L) := St.permT [row g150 #[.int .u8 ((l.getD i 0).toNat : Int)] 5, vec 5 1 (.slice A6 (0 + i) c6) (0 + i) (Y.map bv), row g1 #[.int .i64 kd, .int .i64 nu, .int .i64 ov, .slice A l.length ca] 35] [0, 1, 2] (by decide) rfl S153
          refine wl_gv rfl (gv_append (e := 5) (sz := 1) (n := (0 + i)) (v := (.slice A6 (0 + i) c6)) (vals := (Y.map bv)) (z := .int .u8 0) (by_ := 1) (m := 1) (c' := 1) (ad := ⟨g150, 0, none⟩) (news := [.int .u8 ((l.getD i 0).toNat : Int)]) (St.swap S154) rfl (by kernel_rfl) ⟨by kernel_rfl⟩ rfl (by kernel_rfl) (by kernel_rfl) (by decide) rfl (row_news (S154.blk 0 rfl)) (by intro u hu; simp at hu; subst hu; rfl) (by omega) (by omega) (fun v156 w155 S157 => ?_))
          have S158 : St F w0 w155 (vec 5 1 v156 (0 + i + 1) (Y.map bv ++ [.int .u8 ((l.getD i 0).toNat : Int)]) :: row g1 #[.int .i64 kd, .int .i64 nu, .int .i64 ov, .slice A l.length ca] 35 :: L) := St.permT [vec 5 1 v156 (0 + i + 1) (Y.map bv ++ [.int .u8 ((l.getD i 0).toNat : Int)]), row g150 #[.int .u8 ((l.getD i 0).toNat : Int)] 5, row g1 #[.int .i64 kd, .int .i64 nu, .int .i64 ov, .slice A l.length ca] 35] [0, 2] (by decide) rfl S157
          rw [bv_snoc] at S158
          obtain ⟨A159, c160, rfl⟩ := St.vecV S158 0 rfl
          change St F w0 w155 (vec 5 1 (.slice A159 (0 + i + 1) c160) (0 + i + 1) ((Y ++ [l.getD i 0]).map bv) :: row g1 #[.int .i64 kd, .int .i64 nu, .int .i64 ov, .slice A l.length ca] 35 :: L) at S158
          refine pv (.slice A159 (0 + i + 1) c160) ?_
          refine wl_end (fr [.agg #[iv kd, iv nu, iv ov, .slice A l.length ca], pq g1, .slice none 0 0, .slice A159 (0 + i + 1) c160, ud, ud, iv ((i : Nat) : Int), ud, ud, ud, pq g1, iv kd, fv, ud, ud, ud, pq g1, iv kd, fv, fv, ud, ud, ud, fv, ud, ud, ud, pq g1, iv kd, fv, ud, ud, ud, ud, ud, ud, ud, ud, ud, ud, ud, ud, ud, ud, iv ((i : Nat) : Int), po g1 3, .slice A l.length ca, iv (l.length : Nat), tv, J 49, J 50, .slice A6 (0 + i) c6, po g1 3, .slice A l.length ca, iv ((i : Nat) : Int), .pointer (some (ad.add i)), .int .u8 ((l.getD i 0).toNat : Int), sl g150 0 1 1, .slice A159 (0 + i + 1) c160] 19) (by kernel_rfl) ?_
          refine inb_n ?_
          refine then_n ?_
          refine wp_region_lit ?_
          refine pv (iv ((i : Nat) : Int)) ?_
          refine wl_gv rfl (gv_int (k := .i64) (z := IntKind.i64.wrap (((i : Nat) : Int) + 1)) (z' := ((i + 1 : Nat) : Int)) (by kernel_rfl) (wr_eq (by omega) (by omega) (by omega)) ?_)
          refine pv (iv ((i + 1 : Nat) : Int)) ?_
          refine wl_end (fr [.agg #[iv kd, iv nu, iv ov, .slice A l.length ca], pq g1, .slice none 0 0, .slice A159 (0 + i + 1) c160, ud, ud, iv ((i + 1 : Nat) : Int), ud, ud, ud, pq g1, iv kd, fv, ud, ud, ud, pq g1, iv kd, fv, fv, ud, ud, ud, fv, ud, ud, ud, pq g1, iv kd, fv, ud, ud, ud, ud, ud, ud, ud, ud, ud, ud, ud, ud, ud, ud, iv ((i : Nat) : Int), po g1 3, .slice A l.length ca, iv (l.length : Nat), tv, iv ((i : Nat) : Int), iv ((i + 1 : Nat) : Int), .slice A6 (0 + i) c6, po g1 3, .slice A l.length ca, iv ((i : Nat) : Int), .pointer (some (ad.add i)), .int .u8 ((l.getD i 0).toNat : Int), sl g150 0 1 1, .slice A159 (0 + i + 1) c160] 19) (by kernel_rfl) ?_
          refine then_n ?_
          exact ⟨(i + 1, Y ++ [l.getD i 0], A159, c160), ⟨(jl [ud, ud, ud, ud, ud, ud, ud, ud, ud, ud, ud, ud, ud, ud, ud, ud, ud, ud, ud, ud, ud, ud, ud, ud, ud, ud, ud, ud, ud, ud, ud, ud, ud, ud, ud, ud, ud, ud, ud, ud, ud, ud, ud, ud, iv ((i : Nat) : Int), po g1 3, .slice A l.length ca, iv (l.length : Nat), tv, iv ((i : Nat) : Int), iv ((i + 1 : Nat) : Int), .slice A6 (0 + i) c6, po g1 3, .slice A l.length ca, iv ((i : Nat) : Int), .pointer (some (ad.add i)), .int .u8 ((l.getD i 0).toNat : Int), sl g150 0 1 1, .slice A159 (0 + i + 1) c160]), by kernel_rfl, S158, ⟨by omega, by rw [List.length_append]; show Y.length + 1 = 0 + (i + 1); omega⟩⟩, (by show l.length - (i + 1) < l.length - i; omega)⟩
        · skip
          obtain ⟨hiE, hYl⟩ := hI148
          refine wl_end (fr [.agg #[iv kd, iv nu, iv ov, .slice A l.length ca], pq g1, .slice none 0 0, .slice A6 (0 + i) c6, ud, ud, iv ((i : Nat) : Int), ud, ud, ud, pq g1, iv kd, fv, ud, ud, ud, pq g1, iv kd, fv, fv, ud, ud, ud, fv, ud, ud, ud, pq g1, iv kd, fv, ud, ud, ud, ud, ud, ud, ud, ud, ud, ud, ud, ud, ud, ud, iv ((i : Nat) : Int), po g1 3, .slice A l.length ca, iv (l.length : Nat), fv, J 49, J 50, J 51, J 52, J 53, J 54, J 55, J 56, J 57, J 58] 19) (by kernel_rfl) ?_
          refine then_n ?_
          refine wp_cond_false (by kernel_rfl) ?_
          refine wp_exit ?_
          refine then_x ?_
          refine then_x ?_
          refine inb_x ?_
          refine then_n ?_
          refine wp_seq ?_
          refine wp_region_lit ?_
          refine wl_gv rfl (gv_call (args := #[.slice none 0 0]) rfl Try.func18 (by kernel_rfl) rfl rfl (by kernel_rfl) ?_)
          refine Calls.mono (se3 (l := []) (A := none) (ca := 0) S147 RoT.nil (Nat.zero_le _)) ?_
          rintro _ w161 ⟨As, cs_, rfl, S162⟩
          obtain ⟨gs, cS, js, hv_, hcS, _, hjs, S162'⟩ := St.vec_open S162 (by decide)
          simp at hv_
          obtain ⟨rfl, rfl⟩ := hv_
          refine ⟨_, rfl, ?_⟩
          have hsl := sec3_len []
          refine pv (sl gs 0 512 cs_) ?_
          refine wl_end (fr [.agg #[iv kd, iv nu, iv ov, .slice A l.length ca], pq g1, .slice none 0 0, .slice A6 (0 + i) c6, ud, ud, iv ((i : Nat) : Int), sl gs 0 512 cs_, ud, ud, pq g1, iv kd, fv, ud, ud, ud, pq g1, iv kd, fv, fv, ud, ud, ud, fv, ud, ud, ud, pq g1, iv kd, fv, ud, ud, ud, ud, ud, ud, ud, ud, ud, ud, ud, ud, ud, ud, iv ((i : Nat) : Int), po g1 3, .slice A l.length ca, iv (l.length : Nat), fv, J 49, J 50, J 51, J 52, J 53, J 54, J 55, J 56, J 57, J 58, sl gs 0 512 cs_] 18) (by kernel_rfl) ?_
          refine then_n ?_
          refine wp_seq ?_
          refine wp_region_lit ?_
          refine pv (sl gs 0 512 cs_) ?_
          refine pv (po g1 2) ?_
          refine wl_gv rfl (gv_ldR (v := .int .i64 ov) rfl (by kernel_rfl) (by kernel_rfl) (((S162'.blk 2 rfl).cell 2).trans rfl) ?_)
          refine wl_gv rfl (gv_int (k := .u8) (z := IntKind.u8.wrap ov) (z' := ((UInt8.ofNat (ov % 256).toNat).toNat : Int)) (by kernel_rfl) (wrap_u8 _) ?_)
          refine wl_gv rfl (gv_ixE (e := 5) (sz := 1) (g := gs) (off := 0) (n := 512) (c := cs_) (i := 0) (k := .i64) (j := 0) (off' := 0) rfl (by kernel_rfl) (by kernel_rfl) (by kernel_rfl) (by kernel_rfl) rfl (by omega) (by omega) ?_)
          refine wl_gv rfl (gv_st (k := 0) (v := .int .u8 ((UInt8.ofNat (ov % 256).toNat).toNat : Int)) S162' 0 rfl rfl (by kernel_rfl) (by kernel_rfl) (by kernel_rfl) rfl (vec_blt (by first | omega | (simp only [List.length_set]; omega))) (L' := (row gs ((((sec3 []).set 0 (UInt8.ofNat (ov % 256).toNat)).map bv ++ js).toArray) 5 :: vec 5 1 (.slice A6 (0 + i) c6) (0 + i) (Y.map bv) :: row g1 #[.int .i64 kd, .int .i64 nu, .int .i64 ov, .slice A l.length ca] 35 :: L)) (by rw [vec_set _ (by first | omega | (simp only [List.length_set]; omega))]; rfl) (fun w163 S164 => ?_))
          refine wl_end (fr [.agg #[iv kd, iv nu, iv ov, .slice A l.length ca], pq g1, .slice none 0 0, .slice A6 (0 + i) c6, ud, ud, iv ((i : Nat) : Int), sl gs 0 512 cs_, ud, ud, pq g1, iv kd, fv, ud, ud, ud, pq g1, iv kd, fv, fv, ud, ud, ud, fv, ud, ud, ud, pq g1, iv kd, fv, ud, ud, ud, ud, ud, ud, ud, ud, ud, ud, ud, ud, ud, ud, iv ((i : Nat) : Int), po g1 3, .slice A l.length ca, iv (l.length : Nat), fv, J 49, J 50, J 51, J 52, J 53, J 54, J 55, J 56, J 57, J 58, sl gs 0 512 cs_, sl gs 0 512 cs_, po g1 2, iv ov, .int .u8 ((UInt8.ofNat (ov % 256).toNat).toNat : Int), pq gs] 13) (by kernel_rfl) ?_
          refine then_n ?_
          refine wp_seq ?_
          refine wp_region_lit ?_
          refine pv (sl gs 0 512 cs_) ?_
          refine pv (po g1 2) ?_
          refine wl_gv rfl (gv_ldR (v := .int .i64 ov) rfl (by kernel_rfl) (by kernel_rfl) (((S164.blk 2 rfl).cell 2).trans rfl) ?_)
          refine wl_gv rfl (gv_int (k := .u8) (z := IntKind.u8.wrap ov) (z' := ((UInt8.ofNat (ov % 256).toNat).toNat : Int)) (by kernel_rfl) (wrap_u8 _) ?_)
          refine wl_gv rfl (gv_ixE (e := 5) (sz := 1) (g := gs) (off := 0) (n := 512) (c := cs_) (i := 511) (k := .i64) (j := 511) (off' := 511) rfl (by kernel_rfl) (by kernel_rfl) (by kernel_rfl) (by kernel_rfl) rfl (by omega) (by omega) ?_)
          refine wl_gv rfl (gv_st (k := 511) (v := .int .u8 ((UInt8.ofNat (ov % 256).toNat).toNat : Int)) S164 0 rfl rfl (by kernel_rfl) (by kernel_rfl) (by kernel_rfl) rfl (vec_blt (by first | omega | (simp only [List.length_set]; omega))) (L' := (row gs (((((sec3 []).set 0 (UInt8.ofNat (ov % 256).toNat)).set 511 (UInt8.ofNat (ov % 256).toNat)).map bv ++ js).toArray) 5 :: vec 5 1 (.slice A6 (0 + i) c6) (0 + i) (Y.map bv) :: row g1 #[.int .i64 kd, .int .i64 nu, .int .i64 ov, .slice A l.length ca] 35 :: L)) (by rw [vec_set _ (by first | omega | (simp only [List.length_set]; omega))]; rfl) (fun w165 S166 => ?_))
          refine wl_end (fr [.agg #[iv kd, iv nu, iv ov, .slice A l.length ca], pq g1, .slice none 0 0, .slice A6 (0 + i) c6, ud, ud, iv ((i : Nat) : Int), sl gs 0 512 cs_, ud, ud, pq g1, iv kd, fv, ud, ud, ud, pq g1, iv kd, fv, fv, ud, ud, ud, fv, ud, ud, ud, pq g1, iv kd, fv, ud, ud, ud, ud, ud, ud, ud, ud, ud, ud, ud, ud, ud, ud, iv ((i : Nat) : Int), po g1 3, .slice A l.length ca, iv (l.length : Nat), fv, J 49, J 50, J 51, J 52, J 53, J 54, J 55, J 56, J 57, J 58, sl gs 0 512 cs_, sl gs 0 512 cs_, po g1 2, iv ov, .int .u8 ((UInt8.ofNat (ov % 256).toNat).toNat : Int), pq gs, sl gs 0 512 cs_, po g1 2, iv ov, .int .u8 ((UInt8.ofNat (ov % 256).toNat).toNat : Int), po gs 511] 8) (by kernel_rfl) ?_
          refine then_n ?_
          refine wp_seq ?_
          refine wp_region_lit ?_
          refine pv (sl gs 0 512 cs_) ?_
          refine pv (.slice A6 (0 + i) c6) ?_
          refine wl_gv rfl (gv_call (args := #[.slice A6 (0 + i) c6, .int .i64 504]) rfl Try.func16 (by kernel_rfl) rfl rfl (by kernel_rfl) ?_)
          have hol : ((sec3 []).set 0 (UInt8.ofNat (ov % 256).toNat) |>.set 511 (UInt8.ofNat (ov % 256).toNat)).length = 512 := by rw [List.length_set, List.length_set]; exact hsl
          have S167 : St F w0 w165 (vec 5 1 (.slice (some ⟨gs, 0, none⟩) 512 cs_) 512 ((((sec3 []).set 0 (UInt8.ofNat (ov % 256).toNat)).set 511 (UInt8.ofNat (ov % 256).toNat)).map bv) :: vec 5 1 (.slice A6 (0 + i) c6) (0 + i) (Y.map bv) :: row g1 #[.int .i64 kd, .int .i64 nu, .int .i64 ov, .slice A l.length ca] 35 :: L) := St.vec_mk (n := 512) S166 (by omega) (by rw [List.length_map, hol]) (by rw [List.length_append, List.length_map, hol]; rw [List.length_append, List.length_map, hsl] at hjs; exact hjs)
          have hYm : Y.length ≤ 140737488355328 := by omega
          refine Calls.mono (up3' (n := 504) hYl.symm S167 (RoT.ofVec (l := Y) 1 (by rw [← hYl]; rfl)) hYm) ?_
          rintro _ w168 ⟨A170, c171, rfl, S169⟩
          refine ⟨_, rfl, ?_⟩
          refine wl_gv rfl (gv_call (args := #[.slice (some ⟨gs, 0, none⟩) 512 cs_, .slice A170 ((Y.take (504 : Int).toNat).length) c171]) rfl Try.func32 (by kernel_rfl) rfl rfl (by kernel_rfl) ?_)
          refine Calls.mono (rseal' (a := ((sec3 []).set 0 (UInt8.ofNat (ov % 256).toNat)).set 511 (UInt8.ofNat (ov % 256).toNat)) (b := Y.take (504 : Int).toNat) S169 hol.symm rfl (RoT.ofVec 1 rfl) (RoT.ofVec 0 rfl) (by omega) (by rw [List.length_take]; omega)) ?_
          rintro _ w172 ⟨Az, cz, rfl, S173⟩
          refine ⟨_, rfl, ?_⟩
          obtain ⟨Z, hZ⟩ : ∃ Z, Z = (sealF (((sec3 []).set 0 (UInt8.ofNat (ov % 256).toNat)).set 511 (UInt8.ofNat (ov % 256).toNat)) (Y.take (504 : Int).toNat)).1 := ⟨_, rfl⟩
          have hZl : Z.length ≤ 512 := by rw [hZ]; exact sealF_len _ _
          rw [← hZ] at S173
          rw [← hZ]
          have S174 : St F w0 w172 (vec 5 1 (.slice Az Z.length cz) Z.length (Z.map bv) :: L) := St.permT [_, _, _, _, _] [0] (by decide) rfl S173
          refine pv (.tuple #[.slice Az Z.length cz, iv ((sealF (((sec3 []).set 0 (UInt8.ofNat (ov % 256).toNat)).set 511 (UInt8.ofNat (ov % 256).toNat)) (Y.take (504 : Int).toNat)).2 : Int)]) ?_
          refine pv (.slice Az Z.length cz) ?_
          refine pv (iv ((sealF (((sec3 []).set 0 (UInt8.ofNat (ov % 256).toNat)).set 511 (UInt8.ofNat (ov % 256).toNat)) (Y.take (504 : Int).toNat)).2 : Int)) ?_
          refine pv (.slice Az Z.length cz) ?_
          refine pv (iv ((sealF (((sec3 []).set 0 (UInt8.ofNat (ov % 256).toNat)).set 511 (UInt8.ofNat (ov % 256).toNat)) (Y.take (504 : Int).toNat)).2 : Int)) ?_
          refine wl_end (fr [.agg #[iv kd, iv nu, iv ov, .slice A l.length ca], pq g1, .slice none 0 0, .slice A6 (0 + i) c6, ud, ud, iv ((i : Nat) : Int), sl gs 0 512 cs_, .slice Az Z.length cz, iv ((sealF (((sec3 []).set 0 (UInt8.ofNat (ov % 256).toNat)).set 511 (UInt8.ofNat (ov % 256).toNat)) (Y.take (504 : Int).toNat)).2 : Int), pq g1, iv kd, fv, ud, ud, ud, pq g1, iv kd, fv, fv, ud, ud, ud, fv, ud, ud, ud, pq g1, iv kd, fv, ud, ud, ud, ud, ud, ud, ud, ud, ud, ud, ud, ud, ud, ud, iv ((i : Nat) : Int), po g1 3, .slice A l.length ca, iv (l.length : Nat), fv, J 49, J 50, J 51, J 52, J 53, J 54, J 55, J 56, J 57, J 58, sl gs 0 512 cs_, sl gs 0 512 cs_, po g1 2, iv ov, .int .u8 ((UInt8.ofNat (ov % 256).toNat).toNat : Int), pq gs, sl gs 0 512 cs_, po g1 2, iv ov, .int .u8 ((UInt8.ofNat (ov % 256).toNat).toNat : Int), po gs 511, .tuple #[.slice Az Z.length cz, iv ((sealF (((sec3 []).set 0 (UInt8.ofNat (ov % 256).toNat)).set 511 (UInt8.ofNat (ov % 256).toNat)) (Y.take (504 : Int).toNat)).2 : Int)], sl gs 0 512 cs_, .slice A6 (0 + i) c6, .slice A170 ((Y.take (504 : Int).toNat).length) c171, .tuple #[.slice Az Z.length cz, iv ((sealF (((sec3 []).set 0 (UInt8.ofNat (ov % 256).toNat)).set 511 (UInt8.ofNat (ov % 256).toNat)) (Y.take (504 : Int).toNat)).2 : Int)], .slice Az Z.length cz, iv ((sealF (((sec3 []).set 0 (UInt8.ofNat (ov % 256).toNat)).set 511 (UInt8.ofNat (ov % 256).toNat)) (Y.take (504 : Int).toNat)).2 : Int)] 1) (by kernel_rfl) ?_
          refine then_n ?_
          refine wp_seq ?_
          refine wp_region_lit ?_
          refine pv (.slice Az Z.length cz) ?_
          refine pv (.slice Az Z.length cz) ?_
          refine wl_end (fr [.agg #[iv kd, iv nu, iv ov, .slice A l.length ca], pq g1, .slice Az Z.length cz, .slice A6 (0 + i) c6, ud, ud, iv ((i : Nat) : Int), sl gs 0 512 cs_, .slice Az Z.length cz, iv ((sealF (((sec3 []).set 0 (UInt8.ofNat (ov % 256).toNat)).set 511 (UInt8.ofNat (ov % 256).toNat)) (Y.take (504 : Int).toNat)).2 : Int), pq g1, iv kd, fv, ud, ud, ud, pq g1, iv kd, fv, fv, ud, ud, ud, fv, ud, ud, ud, pq g1, iv kd, fv, ud, ud, ud, ud, ud, ud, ud, ud, ud, ud, ud, ud, ud, ud, iv ((i : Nat) : Int), po g1 3, .slice A l.length ca, iv (l.length : Nat), fv, J 49, J 50, J 51, J 52, J 53, J 54, J 55, J 56, J 57, J 58, sl gs 0 512 cs_, sl gs 0 512 cs_, po g1 2, iv ov, .int .u8 ((UInt8.ofNat (ov % 256).toNat).toNat : Int), pq gs, sl gs 0 512 cs_, po g1 2, iv ov, .int .u8 ((UInt8.ofNat (ov % 256).toNat).toNat : Int), po gs 511, .tuple #[.slice Az Z.length cz, iv ((sealF (((sec3 []).set 0 (UInt8.ofNat (ov % 256).toNat)).set 511 (UInt8.ofNat (ov % 256).toNat)) (Y.take (504 : Int).toNat)).2 : Int)], sl gs 0 512 cs_, .slice A6 (0 + i) c6, .slice A170 ((Y.take (504 : Int).toNat).length) c171, .tuple #[.slice Az Z.length cz, iv ((sealF (((sec3 []).set 0 (UInt8.ofNat (ov % 256).toNat)).set 511 (UInt8.ofNat (ov % 256).toNat)) (Y.take (504 : Int).toNat)).2 : Int)], .slice Az Z.length cz, iv ((sealF (((sec3 []).set 0 (UInt8.ofNat (ov % 256).toNat)).set 511 (UInt8.ofNat (ov % 256).toNat)) (Y.take (504 : Int).toNat)).2 : Int), .slice Az Z.length cz] 0) (by kernel_rfl) ?_
          refine then_n ?_
          refine wp_ret ?_
          refine bodyPost_ret (v := .slice Az Z.length cz) (results_t1 rfl (by kernel_rfl)) rfl ?_
          have S175 : St F w0 w172 (vec 5 1 (.slice Az Z.length cz) Z.length (Z.map bv) :: L) := St.permT [vec 5 1 (.slice Az Z.length cz) Z.length (Z.map bv)] [0] (by decide) rfl S174
          exact ⟨Az, cz, Z, rfl, by omega, S175⟩
end Go.Proofs
