/- Functions of package disk, by the walk, on the disk laid open. -/
import Derived.Test.YtefmefimhiedfaaHDsk
open Go Go.RowKit Go.Proofs.YtefmefimhiedfaaW.PrintWords Go.Proofs.YtefmefimhiedfaaW.PrintMore
namespace Go.Proofs
open Go.Vel
set_option linter.unusedVariables false
set_option maxRecDepth 100000
set_option maxHeartbeats 4000000
attribute [local irreducible] gives wpList Code.wp

theorem burnt_b {w : World} {g gd n c gm : Nat} {fused : Bool} {left life r wr fl rf pn : Int} {b : Bool} (HB : Blk w g (dcells gd n c gm fused left life r wr fl rf pn) 87) (hb : (fused && decide (left = 0)) = b) :
    Calls Try.prog 22 #[.pointer (some ⟨g, 0, none⟩)] w fun e w' => e = .returned (.bool b) ∧ w = w' := hb ▸ burnt_ro HB
theorem there_dead {F : Nat → Prop} {w0 w : World} {L : List Ast} {g gd n c gm : Nat} {fused : Bool} {left life r wr fl rf pn : Int} {at_ : Int} (hb : (fused && decide (left = 0)) = true) (S : St F w0 w (row g (dcells gd n c gm fused left life r wr fl rf pn) 87 :: L)) :
    Calls Try.prog 61 #[.pointer (some ⟨g, 0, none⟩), .int .i64 at_] w fun e w' => e = .returned (.int .i64 3) ∧ St F w0 w' (row g (dcells gd n c gm fused left life r wr fl rf pn) 87 :: L) := by
  change St F w0 w (row g #[.slice (some ⟨gd, 0, none⟩) n c, .map (some gm), .bool fused, .int .i64 left, .int .i64 life, .int .i64 r, .int .i64 wr, .int .i64 fl, .int .i64 rf, .int .i64 pn] 87 :: L) at S
  refine wp_enter ⟨#[.pointer (some ⟨g, 0, none⟩), .int .i64 at_, undef, undef, undef, undef, undef, undef, undef, undef, undef, undef, undef, undef, undef, undef, undef, undef, undef, undef, undef, undef, undef, undef], []⟩ Try.func61 rfl (by kernel_rfl) ?_
  refine wp_seq ?_
  refine wp_region_lit ?_
  refine wl_gv rfl (gv_val (v := .int .i64 0) (w' := w) (by kernel_rfl) ?_)
  refine wl_end ⟨#[.pointer (some ⟨g, 0, none⟩), .int .i64 at_, undef, undef, .int .i64 0, undef, undef, undef, undef, undef, undef, undef, undef, undef, undef, undef, undef, undef, undef, undef, undef, undef, undef, undef], []⟩ (by kernel_rfl) ?_
  refine then_n ?_
  refine wp_seq ?_
  refine wp_seq ?_
  refine wp_region_lit ?_
  refine wl_gv rfl (gv_val (v := .pointer (some ⟨g, 0, none⟩)) (w' := w) (by kernel_rfl) ?_)
  refine wl_gv rfl (gv_call (args := #[.pointer (some ⟨g, 0, none⟩)]) rfl Try.func22 (by kernel_rfl) rfl rfl (by kernel_rfl) ?_)
  refine Calls.mono (burnt_b (b := true) (S.blk 0 rfl) hb) ?_
  rintro _ _ ⟨rfl, rfl⟩
  refine ⟨_, rfl, ?_⟩
  refine wl_end ⟨#[.pointer (some ⟨g, 0, none⟩), .int .i64 at_, undef, undef, .int .i64 0, .pointer (some ⟨g, 0, none⟩), .bool true, undef, undef, undef, undef, undef, undef, undef, undef, undef, undef, undef, undef, undef, undef, undef, undef, undef], []⟩ (by kernel_rfl) ?_
  refine then_n ?_
  refine wp_cond_true (by kernel_rfl) ?_
  refine wp_seq ?_
  refine wp_region_lit ?_
  refine wl_gv rfl (gv_val (v := .int .i64 3) (w' := w) (by kernel_rfl) ?_)
  refine wl_end ⟨#[.pointer (some ⟨g, 0, none⟩), .int .i64 at_, undef, undef, .int .i64 3, .pointer (some ⟨g, 0, none⟩), .bool true, undef, undef, undef, undef, undef, undef, undef, undef, undef, undef, undef, undef, undef, undef, undef, undef, undef], []⟩ (by kernel_rfl) ?_
  refine then_n ?_
  refine wp_ret ?_
  refine then_r ?_
  refine bodyPost_ret (v := .int .i64 3) (results_t1 rfl (by kernel_rfl)) rfl ?_
  exact ⟨rfl, S⟩
theorem there_out {F : Nat → Prop} {w0 w : World} {L : List Ast} {g gd n c gm : Nat} {fused : Bool} {left life r wr fl rf pn : Int} {at_ : Int} {m : Nat} (hb : (fused && decide (left = 0)) = false) (hn : n = 512 * m) (hm : m ≤ 2048) (ha : at_ < 0 ∨ (m : Int) ≤ at_) (S : St F w0 w (row g (dcells gd n c gm fused left life r wr fl rf pn) 87 :: L)) :
    Calls Try.prog 61 #[.pointer (some ⟨g, 0, none⟩), .int .i64 at_] w fun e w' => e = .returned (.int .i64 11) ∧ St F w0 w' (row g (dcells gd n c gm fused left life r wr fl (inc rf) pn) 87 :: L) := by
  change St F w0 w (row g #[.slice (some ⟨gd, 0, none⟩) n c, .map (some gm), .bool fused, .int .i64 left, .int .i64 life, .int .i64 r, .int .i64 wr, .int .i64 fl, .int .i64 rf, .int .i64 pn] 87 :: L) at S
  refine wp_enter ⟨#[.pointer (some ⟨g, 0, none⟩), .int .i64 at_, undef, undef, undef, undef, undef, undef, undef, undef, undef, undef, undef, undef, undef, undef, undef, undef, undef, undef, undef, undef, undef, undef], []⟩ Try.func61 rfl (by kernel_rfl) ?_
  refine wp_seq ?_
  refine wp_region_lit ?_
  refine wl_gv rfl (gv_val (v := .int .i64 0) (w' := w) (by kernel_rfl) ?_)
  refine wl_end ⟨#[.pointer (some ⟨g, 0, none⟩), .int .i64 at_, undef, undef, .int .i64 0, undef, undef, undef, undef, undef, undef, undef, undef, undef, undef, undef, undef, undef, undef, undef, undef, undef, undef, undef], []⟩ (by kernel_rfl) ?_
  refine then_n ?_
  refine wp_seq ?_
  refine wp_seq ?_
  refine wp_region_lit ?_
  refine wl_gv rfl (gv_val (v := .pointer (some ⟨g, 0, none⟩)) (w' := w) (by kernel_rfl) ?_)
  refine wl_gv rfl (gv_call (args := #[.pointer (some ⟨g, 0, none⟩)]) rfl Try.func22 (by kernel_rfl) rfl rfl (by kernel_rfl) ?_)
  refine Calls.mono (burnt_b (b := false) (S.blk 0 rfl) hb) ?_
  rintro _ _ ⟨rfl, rfl⟩
  refine ⟨_, rfl, ?_⟩
  refine wl_end ⟨#[.pointer (some ⟨g, 0, none⟩), .int .i64 at_, undef, undef, .int .i64 0, .pointer (some ⟨g, 0, none⟩), .bool false, undef, undef, undef, undef, undef, undef, undef, undef, undef, undef, undef, undef, undef, undef, undef, undef, undef], []⟩ (by kernel_rfl) ?_
  refine then_n ?_
  refine wp_cond_false (by kernel_rfl) ?_
  refine wp_skip ?_
  refine then_n ?_
  refine wp_seq ?_
  refine wp_seq ?_
  refine wp_region_lit ?_
  refine wl_gv rfl (gv_val (v := .int .i64 at_) (w' := w) (by kernel_rfl) ?_)
  refine wl_gv rfl (gv_dec (p := (at_ : Int) < 0) (by kernel_rfl) (fun hb1 => ?_) (fun hb1 => ?_))
  · skip
    refine wl_gv rfl (gv_val (v := .bool true) (w' := w) (by kernel_rfl) ?_)
    refine wl_not (by kernel_rfl) ?_
    refine wl_not (by kernel_rfl) ?_
    refine wl_not (by kernel_rfl) ?_
    refine wl_not (by kernel_rfl) ?_
    refine wl_gv rfl (gv_val (v := .bool true) (w' := w) (by kernel_rfl) ?_)
    refine wl_end ⟨#[.pointer (some ⟨g, 0, none⟩), .int .i64 at_, undef, undef, .int .i64 0, .pointer (some ⟨g, 0, none⟩), .bool false, .int .i64 at_, .bool true, .bool true, undef, undef, undef, undef, .bool true, undef, undef, undef, undef, undef, undef, undef, undef, undef], []⟩ (by kernel_rfl) ?_
    refine then_n ?_
    refine wp_cond_true (by kernel_rfl) ?_
    refine wp_seq ?_
    refine wp_region_lit ?_
    refine wl_gv rfl (gv_val (v := .pointer (some ⟨g, 0, none⟩)) (w' := w) (by kernel_rfl) ?_)
    refine wl_gv rfl (gv_val (v := .pointer (some ⟨g, 0, none⟩)) (w' := w) (by kernel_rfl) ?_)
    refine wl_gv rfl (gv_val (v := .pointer (some ⟨g, 5, none⟩)) (w' := w) (by kernel_rfl) ?_)
    refine wl_gv rfl (gv_val (v := .pointer (some ⟨g, 8, none⟩)) (w' := w) (by kernel_rfl) ?_)
    refine wl_gv rfl (gv_ldR (v := .int .i64 rf) rfl (by kernel_rfl) (by kernel_rfl) (((S.blk 0 rfl).cell 8).trans rfl) ?_)
    refine wl_gv rfl (gv_val (v := .int .i64 (inc rf)) (w' := w) (by kernel_rfl) ?_)
    refine wl_gv rfl (gv_val (v := .pointer (some ⟨g, 0, none⟩)) (w' := w) (by kernel_rfl) ?_)
    refine wl_gv rfl (gv_val (v := .pointer (some ⟨g, 5, none⟩)) (w' := w) (by kernel_rfl) ?_)
    refine wl_gv rfl (gv_val (v := .pointer (some ⟨g, 8, none⟩)) (w' := w) (by kernel_rfl) ?_)
    refine wl_gv rfl (gv_st (k := 8) (v := .int .i64 (inc rf)) S 0 rfl rfl (by kernel_rfl) (by kernel_rfl) (by kernel_rfl) rfl rfl (L' := (row g #[.slice (some ⟨gd, 0, none⟩) n c, .map (some gm), .bool fused, .int .i64 left, .int .i64 life, .int .i64 r, .int .i64 wr, .int .i64 fl, .int .i64 (inc rf), .int .i64 pn] 87 :: L)) rfl (fun w2 S3 => ?_))
    refine wl_end ⟨#[.pointer (some ⟨g, 0, none⟩), .int .i64 at_, undef, undef, .int .i64 0, .pointer (some ⟨g, 0, none⟩), .bool false, .int .i64 at_, .bool true, .bool true, undef, undef, undef, undef, .bool true, .pointer (some ⟨g, 0, none⟩), .pointer (some ⟨g, 0, none⟩), .pointer (some ⟨g, 5, none⟩), .pointer (some ⟨g, 8, none⟩), .int .i64 rf, .int .i64 (inc rf), .pointer (some ⟨g, 0, none⟩), .pointer (some ⟨g, 5, none⟩), .pointer (some ⟨g, 8, none⟩)], []⟩ (by kernel_rfl) ?_
    refine then_n ?_
    refine wp_seq ?_
    refine wp_region_lit ?_
    refine wl_gv rfl (gv_val (v := .int .i64 11) (w' := w2) (by kernel_rfl) ?_)
    refine wl_end ⟨#[.pointer (some ⟨g, 0, none⟩), .int .i64 at_, undef, undef, .int .i64 11, .pointer (some ⟨g, 0, none⟩), .bool false, .int .i64 at_, .bool true, .bool true, undef, undef, undef, undef, .bool true, .pointer (some ⟨g, 0, none⟩), .pointer (some ⟨g, 0, none⟩), .pointer (some ⟨g, 5, none⟩), .pointer (some ⟨g, 8, none⟩), .int .i64 rf, .int .i64 (inc rf), .pointer (some ⟨g, 0, none⟩), .pointer (some ⟨g, 5, none⟩), .pointer (some ⟨g, 8, none⟩)], []⟩ (by kernel_rfl) ?_
    refine then_n ?_
    refine wp_ret ?_
    refine then_r ?_
    refine bodyPost_ret (v := .int .i64 11) (results_t1 rfl (by kernel_rfl)) rfl ?_
    exact ⟨rfl, S3⟩
  · skip
    refine wl_gv rfl (gv_val (v := .bool false) (w' := w) (by kernel_rfl) ?_)
    refine wl_when (by kernel_rfl) (gv_val (v := .int .i64 at_) (w' := w) (by kernel_rfl) ?_)
    refine wl_when (by kernel_rfl) (gv_val (v := .pointer (some ⟨g, 0, none⟩)) (w' := w) (by kernel_rfl) ?_)
    refine wl_when (by kernel_rfl) (gv_call (args := #[.pointer (some ⟨g, 0, none⟩)]) rfl Try.func21 (by kernel_rfl) rfl rfl (by kernel_rfl) ?_)
    refine Calls.mono (sectors_ro (S.blk 0 rfl) hn hm) ?_
    rintro _ _ ⟨rfl, rfl⟩
    refine ⟨_, rfl, ?_⟩
    refine wl_when (by kernel_rfl) (gv_dec (p := (at_ : Int) ≥ ((m : Nat) : Int)) (by kernel_rfl) (fun _ => ?_) (fun hd4 => False.elim (by omega)))
    refine wl_gv rfl (gv_val (v := .bool true) (w' := w) (by kernel_rfl) ?_)
    refine wl_end ⟨#[.pointer (some ⟨g, 0, none⟩), .int .i64 at_, undef, undef, .int .i64 0, .pointer (some ⟨g, 0, none⟩), .bool false, .int .i64 at_, .bool false, .bool false, .int .i64 at_, .pointer (some ⟨g, 0, none⟩), .int .i64 ((m : Nat) : Int), .bool true, .bool true, undef, undef, undef, undef, undef, undef, undef, undef, undef], []⟩ (by kernel_rfl) ?_
    refine then_n ?_
    refine wp_cond_true (by kernel_rfl) ?_
    refine wp_seq ?_
    refine wp_region_lit ?_
    refine wl_gv rfl (gv_val (v := .pointer (some ⟨g, 0, none⟩)) (w' := w) (by kernel_rfl) ?_)
    refine wl_gv rfl (gv_val (v := .pointer (some ⟨g, 0, none⟩)) (w' := w) (by kernel_rfl) ?_)
    refine wl_gv rfl (gv_val (v := .pointer (some ⟨g, 5, none⟩)) (w' := w) (by kernel_rfl) ?_)
    refine wl_gv rfl (gv_val (v := .pointer (some ⟨g, 8, none⟩)) (w' := w) (by kernel_rfl) ?_)
    refine wl_gv rfl (gv_ldR (v := .int .i64 rf) rfl (by kernel_rfl) (by kernel_rfl) (((S.blk 0 rfl).cell 8).trans rfl) ?_)
    refine wl_gv rfl (gv_val (v := .int .i64 (inc rf)) (w' := w) (by kernel_rfl) ?_)
    refine wl_gv rfl (gv_val (v := .pointer (some ⟨g, 0, none⟩)) (w' := w) (by kernel_rfl) ?_)
    refine wl_gv rfl (gv_val (v := .pointer (some ⟨g, 5, none⟩)) (w' := w) (by kernel_rfl) ?_)
    refine wl_gv rfl (gv_val (v := .pointer (some ⟨g, 8, none⟩)) (w' := w) (by kernel_rfl) ?_)
    refine wl_gv rfl (gv_st (k := 8) (v := .int .i64 (inc rf)) S 0 rfl rfl (by kernel_rfl) (by kernel_rfl) (by kernel_rfl) rfl rfl (L' := (row g #[.slice (some ⟨gd, 0, none⟩) n c, .map (some gm), .bool fused, .int .i64 left, .int .i64 life, .int .i64 r, .int .i64 wr, .int .i64 fl, .int .i64 (inc rf), .int .i64 pn] 87 :: L)) rfl (fun w5 S6 => ?_))
    refine wl_end ⟨#[.pointer (some ⟨g, 0, none⟩), .int .i64 at_, undef, undef, .int .i64 0, .pointer (some ⟨g, 0, none⟩), .bool false, .int .i64 at_, .bool false, .bool false, .int .i64 at_, .pointer (some ⟨g, 0, none⟩), .int .i64 ((m : Nat) : Int), .bool true, .bool true, .pointer (some ⟨g, 0, none⟩), .pointer (some ⟨g, 0, none⟩), .pointer (some ⟨g, 5, none⟩), .pointer (some ⟨g, 8, none⟩), .int .i64 rf, .int .i64 (inc rf), .pointer (some ⟨g, 0, none⟩), .pointer (some ⟨g, 5, none⟩), .pointer (some ⟨g, 8, none⟩)], []⟩ (by kernel_rfl) ?_
    refine then_n ?_
    refine wp_seq ?_
    refine wp_region_lit ?_
    refine wl_gv rfl (gv_val (v := .int .i64 11) (w' := w5) (by kernel_rfl) ?_)
    refine wl_end ⟨#[.pointer (some ⟨g, 0, none⟩), .int .i64 at_, undef, undef, .int .i64 11, .pointer (some ⟨g, 0, none⟩), .bool false, .int .i64 at_, .bool false, .bool false, .int .i64 at_, .pointer (some ⟨g, 0, none⟩), .int .i64 ((m : Nat) : Int), .bool true, .bool true, .pointer (some ⟨g, 0, none⟩), .pointer (some ⟨g, 0, none⟩), .pointer (some ⟨g, 5, none⟩), .pointer (some ⟨g, 8, none⟩), .int .i64 rf, .int .i64 (inc rf), .pointer (some ⟨g, 0, none⟩), .pointer (some ⟨g, 5, none⟩), .pointer (some ⟨g, 8, none⟩)], []⟩ (by kernel_rfl) ?_
    refine then_n ?_
    refine wp_ret ?_
    refine then_r ?_
    refine bodyPost_ret (v := .int .i64 11) (results_t1 rfl (by kernel_rfl)) rfl ?_
    exact ⟨rfl, S6⟩
theorem there_in {F : Nat → Prop} {w0 w : World} {L : List Ast} {g gd n c gm : Nat} {fused : Bool} {left life r wr fl rf pn : Int} {k m : Nat} (hb : (fused && decide (left = 0)) = false) (hn : n = 512 * m) (hm : m ≤ 2048) (ha : k < m) (S : St F w0 w (row g (dcells gd n c gm fused left life r wr fl rf pn) 87 :: L)) :
    Calls Try.prog 61 #[.pointer (some ⟨g, 0, none⟩), .int .i64 ((k : Nat) : Int)] w fun e w' => e = .returned (.int .i64 0) ∧ St F w0 w' (row g (dcells gd n c gm fused left life r wr fl rf pn) 87 :: L) := by
  change St F w0 w (row g #[.slice (some ⟨gd, 0, none⟩) n c, .map (some gm), .bool fused, .int .i64 left, .int .i64 life, .int .i64 r, .int .i64 wr, .int .i64 fl, .int .i64 rf, .int .i64 pn] 87 :: L) at S
  refine wp_enter ⟨#[.pointer (some ⟨g, 0, none⟩), .int .i64 ((k : Nat) : Int), undef, undef, undef, undef, undef, undef, undef, undef, undef, undef, undef, undef, undef, undef, undef, undef, undef, undef, undef, undef, undef, undef], []⟩ Try.func61 rfl (by kernel_rfl) ?_
  refine wp_seq ?_
  refine wp_region_lit ?_
  refine wl_gv rfl (gv_val (v := .int .i64 0) (w' := w) (by kernel_rfl) ?_)
  refine wl_end ⟨#[.pointer (some ⟨g, 0, none⟩), .int .i64 ((k : Nat) : Int), undef, undef, .int .i64 0, undef, undef, undef, undef, undef, undef, undef, undef, undef, undef, undef, undef, undef, undef, undef, undef, undef, undef, undef], []⟩ (by kernel_rfl) ?_
  refine then_n ?_
  refine wp_seq ?_
  refine wp_seq ?_
  refine wp_region_lit ?_
  refine wl_gv rfl (gv_val (v := .pointer (some ⟨g, 0, none⟩)) (w' := w) (by kernel_rfl) ?_)
  refine wl_gv rfl (gv_call (args := #[.pointer (some ⟨g, 0, none⟩)]) rfl Try.func22 (by kernel_rfl) rfl rfl (by kernel_rfl) ?_)
  refine Calls.mono (burnt_b (b := false) (S.blk 0 rfl) hb) ?_
  rintro _ _ ⟨rfl, rfl⟩
  refine ⟨_, rfl, ?_⟩
  refine wl_end ⟨#[.pointer (some ⟨g, 0, none⟩), .int .i64 ((k : Nat) : Int), undef, undef, .int .i64 0, .pointer (some ⟨g, 0, none⟩), .bool false, undef, undef, undef, undef, undef, undef, undef, undef, undef, undef, undef, undef, undef, undef, undef, undef, undef], []⟩ (by kernel_rfl) ?_
  refine then_n ?_
  refine wp_cond_false (by kernel_rfl) ?_
  refine wp_skip ?_
  refine then_n ?_
  refine wp_seq ?_
  refine wp_seq ?_
  refine wp_region_lit ?_
  refine wl_gv rfl (gv_val (v := .int .i64 ((k : Nat) : Int)) (w' := w) (by kernel_rfl) ?_)
  refine wl_gv rfl (gv_dec (p := (((k : Nat) : Int) : Int) < 0) (by kernel_rfl) (fun hd1 => False.elim (by omega)) (fun _ => ?_))
  refine wl_gv rfl (gv_val (v := .bool false) (w' := w) (by kernel_rfl) ?_)
  refine wl_when (by kernel_rfl) (gv_val (v := .int .i64 ((k : Nat) : Int)) (w' := w) (by kernel_rfl) ?_)
  refine wl_when (by kernel_rfl) (gv_val (v := .pointer (some ⟨g, 0, none⟩)) (w' := w) (by kernel_rfl) ?_)
  refine wl_when (by kernel_rfl) (gv_call (args := #[.pointer (some ⟨g, 0, none⟩)]) rfl Try.func21 (by kernel_rfl) rfl rfl (by kernel_rfl) ?_)
  refine Calls.mono (sectors_ro (S.blk 0 rfl) hn hm) ?_
  rintro _ _ ⟨rfl, rfl⟩
  refine ⟨_, rfl, ?_⟩
  refine wl_when (by kernel_rfl) (gv_dec (p := (((k : Nat) : Int) : Int) ≥ ((m : Nat) : Int)) (by kernel_rfl) (fun hd2 => False.elim (by omega)) (fun _ => ?_))
  refine wl_gv rfl (gv_val (v := .bool false) (w' := w) (by kernel_rfl) ?_)
  refine wl_end ⟨#[.pointer (some ⟨g, 0, none⟩), .int .i64 ((k : Nat) : Int), undef, undef, .int .i64 0, .pointer (some ⟨g, 0, none⟩), .bool false, .int .i64 ((k : Nat) : Int), .bool false, .bool false, .int .i64 ((k : Nat) : Int), .pointer (some ⟨g, 0, none⟩), .int .i64 ((m : Nat) : Int), .bool false, .bool false, undef, undef, undef, undef, undef, undef, undef, undef, undef], []⟩ (by kernel_rfl) ?_
  refine then_n ?_
  refine wp_cond_false (by kernel_rfl) ?_
  refine wp_skip ?_
  refine then_n ?_
  refine wp_seq ?_
  refine wp_region_lit ?_
  refine wl_gv rfl (gv_val (v := .int .i64 0) (w' := w) (by kernel_rfl) ?_)
  refine wl_end ⟨#[.pointer (some ⟨g, 0, none⟩), .int .i64 ((k : Nat) : Int), undef, undef, .int .i64 0, .pointer (some ⟨g, 0, none⟩), .bool false, .int .i64 ((k : Nat) : Int), .bool false, .bool false, .int .i64 ((k : Nat) : Int), .pointer (some ⟨g, 0, none⟩), .int .i64 ((m : Nat) : Int), .bool false, .bool false, undef, undef, undef, undef, undef, undef, undef, undef, undef], []⟩ (by kernel_rfl) ?_
  refine then_n ?_
  refine wp_ret ?_
  refine bodyPost_ret (v := .int .i64 0) (results_t1 rfl (by kernel_rfl)) rfl ?_
  exact ⟨rfl, S⟩
theorem home_ro {w : World} {g gd n c gm : Nat} {fused : Bool} {left life r wr fl rf pn : Int} {k m : Nat} (HB : Blk w g (dcells gd n c gm fused left life r wr fl rf pn) 87) (hn : n = 512 * m) (hc : c = 512 * m) (hm : m ≤ 2048) (ha : k < m) :
    Calls Try.prog 71 #[.pointer (some ⟨g, 0, none⟩), .int .i64 ((k : Nat) : Int)] w fun e w' => e = .returned (.slice (some ⟨gd, 512 * k, none⟩) 512 (512 * m - 512 * k)) ∧ w = w' := by
  refine wp_enter ⟨#[.pointer (some ⟨g, 0, none⟩), .int .i64 ((k : Nat) : Int), undef, undef, undef, undef, undef, undef, undef, undef, undef, undef, undef, undef, undef], []⟩ Try.func71 rfl (by kernel_rfl) ?_
  refine wp_seq ?_
  refine wp_region_lit ?_
  refine wl_gv rfl (gv_val (v := .slice none 0 0) (w' := w) (by kernel_rfl) ?_)
  refine wl_end ⟨#[.pointer (some ⟨g, 0, none⟩), .int .i64 ((k : Nat) : Int), undef, undef, .slice none 0 0, undef, undef, undef, undef, undef, undef, undef, undef, undef, undef], []⟩ (by kernel_rfl) ?_
  refine then_n ?_
  refine wp_seq ?_
  refine wp_region_lit ?_
  refine wl_gv rfl (gv_val (v := .pointer (some ⟨g, 0, none⟩)) (w' := w) (by kernel_rfl) ?_)
  refine wl_gv rfl (gv_val (v := .pointer (some ⟨g, 0, none⟩)) (w' := w) (by kernel_rfl) ?_)
  refine wl_gv rfl (gv_val (v := .pointer (some ⟨g, 0, none⟩)) (w' := w) (by kernel_rfl) ?_)
  refine wl_gv rfl (gv_ldR (v := .slice (some ⟨gd, 0, none⟩) n c) rfl (by kernel_rfl) (by kernel_rfl) ((HB.cell 0).trans rfl) ?_)
  refine wl_gv rfl (gv_val (v := .int .i64 ((k : Nat) : Int)) (w' := w) (by kernel_rfl) ?_)
  refine wl_gv rfl (gv_int (k := .i64) (z := IntKind.i64.wrap (((k : Nat) : Int) * 512)) (z' := ((512 * k : Nat) : Int)) (by kernel_rfl) (wr_eq (by omega) (by omega) (by omega)) ?_)
  refine wl_gv rfl (gv_val (v := .int .i64 ((k : Nat) : Int)) (w' := w) (by kernel_rfl) ?_)
  refine wl_gv rfl (gv_int (k := .i64) (z := IntKind.i64.wrap (((k : Nat) : Int) + 1)) (z' := ((k : Nat) : Int) + 1) (by kernel_rfl) (wr_ok (by omega) (by omega)) ?_)
  refine wl_gv rfl (gv_int (k := .i64) (z := IntKind.i64.wrap ((((k : Nat) : Int) + 1) * 512)) (z' := ((512 * (k + 1) : Nat) : Int)) (by kernel_rfl) (wr_eq (by omega) (by omega) (by omega)) ?_)
  refine wl_gv rfl (gv_cutE (e := 5) (sz := 1) (g := gd) (off := 0) (n := n) (c := c) (kl := .i64) (kh := .i64) (u := ((512 * k : Nat) : Int)) (v := ((512 * (k + 1) : Nat) : Int)) (lo := (512 * k)) (hi := (512 * (k + 1))) (off' := (512 * k)) (n' := 512) (c' := (512 * m - 512 * k)) rfl (by kernel_rfl) (by kernel_rfl) (by kernel_rfl) (by kernel_rfl) (by kernel_rfl) rfl rfl (by omega) (by omega) (by omega) (by omega) (by omega) (by omega) ?_)
  refine wl_gv rfl (gv_val (v := .slice (some ⟨gd, 512 * k, none⟩) 512 (512 * m - 512 * k)) (w' := w) (by kernel_rfl) ?_)
  refine wl_end ⟨#[.pointer (some ⟨g, 0, none⟩), .int .i64 ((k : Nat) : Int), undef, undef, .slice (some ⟨gd, 512 * k, none⟩) 512 (512 * m - 512 * k), .pointer (some ⟨g, 0, none⟩), .pointer (some ⟨g, 0, none⟩), .pointer (some ⟨g, 0, none⟩), .slice (some ⟨gd, 0, none⟩) n c, .int .i64 ((k : Nat) : Int), .int .i64 ((512 * k : Nat) : Int), .int .i64 ((k : Nat) : Int), .int .i64 (((k : Nat) : Int) + 1), .int .i64 ((512 * (k + 1) : Nat) : Int), .slice (some ⟨gd, 512 * k, none⟩) 512 (512 * m - 512 * k)], []⟩ (by kernel_rfl) ?_
  refine then_n ?_
  refine wp_ret ?_
  refine bodyPost_ret (v := .slice (some ⟨gd, 512 * k, none⟩) 512 (512 * m - 512 * k)) (results_t1 rfl (by kernel_rfl)) rfl ?_
  exact ⟨rfl, rfl⟩
theorem now_home {w : World} {g gd n c gm : Nat} {fused : Bool} {left life r wr fl rf pn : Int} {k m : Nat} (HB : Blk w g (dcells gd n c gm fused left life r wr fl rf pn) 87) (hn : n = 512 * m) (hc : c = 512 * m) (hm : m ≤ 2048) (ha : k < m) {es : List Ent} {clock : Nat} (hg : w.heap[gm]? = some (mapO es clock)) (hno : ∀ e ∈ es, e.k ≠ ((k : Nat) : Int)) :
    Calls Try.prog 62 #[.pointer (some ⟨g, 0, none⟩), .int .i64 ((k : Nat) : Int)] w fun e w' => e = .returned (.slice (some ⟨gd, 512 * k, none⟩) 512 (512 * m - 512 * k)) ∧ w = w' := by
  refine wp_enter ⟨#[.pointer (some ⟨g, 0, none⟩), .int .i64 ((k : Nat) : Int), undef, undef, undef, undef, undef, undef, undef, undef, undef, undef, undef, undef, undef, undef, undef, undef, undef, undef, undef, undef, undef, undef], []⟩ Try.func62 rfl (by kernel_rfl) ?_
  refine wp_seq ?_
  refine wp_region_lit ?_
  refine wl_gv rfl (gv_val (v := .slice none 0 0) (w' := w) (by kernel_rfl) ?_)
  refine wl_end ⟨#[.pointer (some ⟨g, 0, none⟩), .int .i64 ((k : Nat) : Int), undef, undef, .slice none 0 0, undef, undef, undef, undef, undef, undef, undef, undef, undef, undef, undef, undef, undef, undef, undef, undef, undef, undef, undef], []⟩ (by kernel_rfl) ?_
  refine then_n ?_
  refine wp_seq ?_
  refine wp_seq ?_
  refine wp_region_lit ?_
  refine wl_gv rfl (gv_val (v := .pointer (some ⟨g, 0, none⟩)) (w' := w) (by kernel_rfl) ?_)
  refine wl_gv rfl (gv_val (v := .pointer (some ⟨g, 0, none⟩)) (w' := w) (by kernel_rfl) ?_)
  refine wl_gv rfl (gv_val (v := .pointer (some ⟨g, 1, none⟩)) (w' := w) (by kernel_rfl) ?_)
  refine wl_gv rfl (gv_ldR (v := .map (some gm)) rfl (by kernel_rfl) (by kernel_rfl) ((HB.cell 1).trans rfl) ?_)
  refine wl_gv rfl (gv_val (v := .int .i64 ((k : Nat) : Int)) (w' := w) (by kernel_rfl) ?_)
  refine wl_gv rfl (gv_look_none (kT := 3) (eT := 52) (k := ((k : Nat) : Int)) (z := .slice none 0 0) hg rfl (by kernel_rfl) (by kernel_rfl) (by kernel_rfl) (by kernel_rfl) (by kernel_rfl) hno ?_)
  refine wl_gv rfl (gv_val (v := .slice none 0 0) (w' := w) (by kernel_rfl) ?_)
  refine wl_end ⟨#[.pointer (some ⟨g, 0, none⟩), .int .i64 ((k : Nat) : Int), undef, undef, .slice none 0 0, .slice none 0 0, .pointer (some ⟨g, 0, none⟩), .pointer (some ⟨g, 0, none⟩), .pointer (some ⟨g, 1, none⟩), .map (some gm), .int .i64 ((k : Nat) : Int), .slice none 0 0, undef, undef, undef, undef, undef, undef, undef, undef, undef, undef, undef, undef], []⟩ (by kernel_rfl) ?_
  refine then_n ?_
  refine wp_seq ?_
  refine wp_region_lit ?_
  refine wl_gv rfl (gv_val (v := .slice none 0 0) (w' := w) (by kernel_rfl) ?_)
  refine wl_gv rfl (gv_val (v := .int .i64 0) (w' := w) (by kernel_rfl) ?_)
  refine wl_gv rfl (gv_dec (p := (0 : Int) > 0) (by kernel_rfl) (fun hd1 => False.elim (by omega)) (fun _ => ?_))
  refine wl_end ⟨#[.pointer (some ⟨g, 0, none⟩), .int .i64 ((k : Nat) : Int), undef, undef, .slice none 0 0, .slice none 0 0, .pointer (some ⟨g, 0, none⟩), .pointer (some ⟨g, 0, none⟩), .pointer (some ⟨g, 1, none⟩), .map (some gm), .int .i64 ((k : Nat) : Int), .slice none 0 0, .slice none 0 0, .int .i64 0, .bool false, undef, undef, undef, undef, undef, undef, undef, undef, undef], []⟩ (by kernel_rfl) ?_
  refine then_n ?_
  refine wp_cond_false (by kernel_rfl) ?_
  refine wp_skip ?_
  refine then_n ?_
  refine wp_seq ?_
  refine wp_region_lit ?_
  refine wl_gv rfl (gv_val (v := .pointer (some ⟨g, 0, none⟩)) (w' := w) (by kernel_rfl) ?_)
  refine wl_gv rfl (gv_val (v := .int .i64 ((k : Nat) : Int)) (w' := w) (by kernel_rfl) ?_)
  refine wl_gv rfl (gv_call (args := #[.pointer (some ⟨g, 0, none⟩), .int .i64 ((k : Nat) : Int)]) rfl Try.func71 (by kernel_rfl) rfl rfl (by kernel_rfl) ?_)
  refine Calls.mono (home_ro HB hn hc hm ha) ?_
  rintro _ _ ⟨rfl, rfl⟩
  refine ⟨_, rfl, ?_⟩
  refine wl_gv rfl (gv_val (v := .slice (some ⟨gd, 512 * k, none⟩) 512 (512 * m - 512 * k)) (w' := w) (by kernel_rfl) ?_)
  refine wl_end ⟨#[.pointer (some ⟨g, 0, none⟩), .int .i64 ((k : Nat) : Int), undef, undef, .slice (some ⟨gd, 512 * k, none⟩) 512 (512 * m - 512 * k), .slice none 0 0, .pointer (some ⟨g, 0, none⟩), .pointer (some ⟨g, 0, none⟩), .pointer (some ⟨g, 1, none⟩), .map (some gm), .int .i64 ((k : Nat) : Int), .slice none 0 0, .slice none 0 0, .int .i64 0, .bool false, undef, undef, undef, undef, undef, undef, .pointer (some ⟨g, 0, none⟩), .int .i64 ((k : Nat) : Int), .slice (some ⟨gd, 512 * k, none⟩) 512 (512 * m - 512 * k)], []⟩ (by kernel_rfl) ?_
  refine then_n ?_
  refine wp_ret ?_
  refine bodyPost_ret (v := .slice (some ⟨gd, 512 * k, none⟩) 512 (512 * m - 512 * k)) (results_t1 rfl (by kernel_rfl)) rfl ?_
  exact ⟨rfl, rfl⟩
theorem now_pend {w : World} {g gd n c gm : Nat} {fused : Bool} {left life r wr fl rf pn : Int} {k : Nat} (HB : Blk w g (dcells gd n c gm fused left life r wr fl rf pn) 87) {es : List Ent} {clock : Nat} (hg : w.heap[gm]? = some (mapO es clock)) {j : Nat} {e0 : Ent} (hj : es[j]? = some e0) (hk : e0.k = ((k : Nat) : Int)) (hf : ∀ m e, m < j → es[m]? = some e → e.k ≠ ((k : Nat) : Int)) {gb q cb : Nat} {cells : Array Value} {tb : TypeId} {X : Value} (hv : e0.v = .slice (some ⟨gb, 0, none⟩) q cb) (hq : 0 < q) (hq2 : q ≤ 9223372036854775807) (HV : Blk w gb cells tb) (hX : cells[q - 1]? = some X) :
    Calls Try.prog 62 #[.pointer (some ⟨g, 0, none⟩), .int .i64 ((k : Nat) : Int)] w fun e w' => e = .returned X ∧ w = w' := by
  refine wp_enter ⟨#[.pointer (some ⟨g, 0, none⟩), .int .i64 ((k : Nat) : Int), undef, undef, undef, undef, undef, undef, undef, undef, undef, undef, undef, undef, undef, undef, undef, undef, undef, undef, undef, undef, undef, undef], []⟩ Try.func62 rfl (by kernel_rfl) ?_
  refine wp_seq ?_
  refine wp_region_lit ?_
  refine wl_gv rfl (gv_val (v := .slice none 0 0) (w' := w) (by kernel_rfl) ?_)
  refine wl_end ⟨#[.pointer (some ⟨g, 0, none⟩), .int .i64 ((k : Nat) : Int), undef, undef, .slice none 0 0, undef, undef, undef, undef, undef, undef, undef, undef, undef, undef, undef, undef, undef, undef, undef, undef, undef, undef, undef], []⟩ (by kernel_rfl) ?_
  refine then_n ?_
  refine wp_seq ?_
  refine wp_seq ?_
  refine wp_region_lit ?_
  refine wl_gv rfl (gv_val (v := .pointer (some ⟨g, 0, none⟩)) (w' := w) (by kernel_rfl) ?_)
  refine wl_gv rfl (gv_val (v := .pointer (some ⟨g, 0, none⟩)) (w' := w) (by kernel_rfl) ?_)
  refine wl_gv rfl (gv_val (v := .pointer (some ⟨g, 1, none⟩)) (w' := w) (by kernel_rfl) ?_)
  refine wl_gv rfl (gv_ldR (v := .map (some gm)) rfl (by kernel_rfl) (by kernel_rfl) ((HB.cell 1).trans rfl) ?_)
  refine wl_gv rfl (gv_val (v := .int .i64 ((k : Nat) : Int)) (w' := w) (by kernel_rfl) ?_)
  refine wl_gv rfl (gv_look_some (kT := 3) (eT := 52) (k := ((k : Nat) : Int)) hg rfl (by kernel_rfl) (by kernel_rfl) (by kernel_rfl) (by kernel_rfl) hj hk hf ?_)
  rw [hv]
  refine wl_gv rfl (gv_val (v := .slice (some ⟨gb, 0, none⟩) q cb) (w' := w) (by kernel_rfl) ?_)
  refine wl_end ⟨#[.pointer (some ⟨g, 0, none⟩), .int .i64 ((k : Nat) : Int), undef, undef, .slice none 0 0, .slice (some ⟨gb, 0, none⟩) q cb, .pointer (some ⟨g, 0, none⟩), .pointer (some ⟨g, 0, none⟩), .pointer (some ⟨g, 1, none⟩), .map (some gm), .int .i64 ((k : Nat) : Int), .slice (some ⟨gb, 0, none⟩) q cb, undef, undef, undef, undef, undef, undef, undef, undef, undef, undef, undef, undef], []⟩ (by kernel_rfl) ?_
  refine then_n ?_
  refine wp_seq ?_
  refine wp_region_lit ?_
  refine wl_gv rfl (gv_val (v := .slice (some ⟨gb, 0, none⟩) q cb) (w' := w) (by kernel_rfl) ?_)
  refine wl_gv rfl (gv_val (v := .int .i64 (q : Nat)) (w' := w) (by kernel_rfl) ?_)
  refine wl_gv rfl (gv_dec (p := ((q : Nat) : Int) > 0) (by kernel_rfl) (fun _ => ?_) (fun hd1 => False.elim (by omega)))
  refine wl_end ⟨#[.pointer (some ⟨g, 0, none⟩), .int .i64 ((k : Nat) : Int), undef, undef, .slice none 0 0, .slice (some ⟨gb, 0, none⟩) q cb, .pointer (some ⟨g, 0, none⟩), .pointer (some ⟨g, 0, none⟩), .pointer (some ⟨g, 1, none⟩), .map (some gm), .int .i64 ((k : Nat) : Int), .slice (some ⟨gb, 0, none⟩) q cb, .slice (some ⟨gb, 0, none⟩) q cb, .int .i64 (q : Nat), .bool true, undef, undef, undef, undef, undef, undef, undef, undef, undef], []⟩ (by kernel_rfl) ?_
  refine then_n ?_
  refine wp_cond_true (by kernel_rfl) ?_
  refine wp_seq ?_
  refine wp_region_lit ?_
  refine wl_gv rfl (gv_val (v := .slice (some ⟨gb, 0, none⟩) q cb) (w' := w) (by kernel_rfl) ?_)
  refine wl_gv rfl (gv_val (v := .slice (some ⟨gb, 0, none⟩) q cb) (w' := w) (by kernel_rfl) ?_)
  refine wl_gv rfl (gv_val (v := .int .i64 (q : Nat)) (w' := w) (by kernel_rfl) ?_)
  refine wl_gv rfl (gv_int (k := .i64) (z := IntKind.i64.wrap ((q : Nat) - 1)) (z' := ((q - 1 : Nat) : Int)) (by kernel_rfl) (wr_eq (by omega) (by omega) (by omega)) ?_)
  refine wl_gv rfl (gv_ixE (e := 31) (sz := 1) (g := gb) (off := 0) (n := q) (c := cb) (i := ((q - 1 : Nat) : Int)) (k := .i64) (j := (q - 1)) (off' := (q - 1)) rfl (by kernel_rfl) (by kernel_rfl) (by kernel_rfl) (by kernel_rfl) rfl (by omega) (by omega) ?_)
  refine wl_gv rfl (gv_ldR (v := X) rfl (by kernel_rfl) (by kernel_rfl) ((HV.cell (q - 1)).trans hX) ?_)
  refine wl_gv rfl (gv_val (v := X) (w' := w) (by kernel_rfl) ?_)
  refine wl_end ⟨#[.pointer (some ⟨g, 0, none⟩), .int .i64 ((k : Nat) : Int), undef, undef, X, .slice (some ⟨gb, 0, none⟩) q cb, .pointer (some ⟨g, 0, none⟩), .pointer (some ⟨g, 0, none⟩), .pointer (some ⟨g, 1, none⟩), .map (some gm), .int .i64 ((k : Nat) : Int), .slice (some ⟨gb, 0, none⟩) q cb, .slice (some ⟨gb, 0, none⟩) q cb, .int .i64 (q : Nat), .bool true, .slice (some ⟨gb, 0, none⟩) q cb, .slice (some ⟨gb, 0, none⟩) q cb, .int .i64 (q : Nat), .int .i64 ((q - 1 : Nat) : Int), .pointer (some ⟨gb, q - 1, none⟩), X, undef, undef, undef], []⟩ (by kernel_rfl) ?_
  refine then_n ?_
  refine wp_ret ?_
  refine then_r ?_
  refine bodyPost_ret (v := X) (results_t1 rfl (by kernel_rfl)) rfl ?_
  exact ⟨rfl, rfl⟩
theorem take_own {F : Nat → Prop} {w0 w : World} {L : List Ast} {g gd n c gm : Nat} {fused : Bool} {left life r wr fl rf pn : Int}  (S : St F w0 w (row g (dcells gd n c gm fused left life r wr fl rf pn) 87 :: L)) :
    Calls Try.prog 66 #[.pointer (some ⟨g, 0, none⟩)] w fun e w' => e = .returned (.int .i64 (inc life)) ∧ St F w0 w' (row g (dcells gd n c gm fused left (inc life) r wr fl rf pn) 87 :: L) := by
  change St F w0 w (row g #[.slice (some ⟨gd, 0, none⟩) n c, .map (some gm), .bool fused, .int .i64 left, .int .i64 life, .int .i64 r, .int .i64 wr, .int .i64 fl, .int .i64 rf, .int .i64 pn] 87 :: L) at S
  refine wp_enter ⟨#[.pointer (some ⟨g, 0, none⟩), undef, undef, undef, undef, undef, undef, undef, undef, undef, undef, undef, undef, undef], []⟩ Try.func66 rfl (by kernel_rfl) ?_
  refine wp_seq ?_
  refine wp_region_lit ?_
  refine wl_gv rfl (gv_val (v := .int .i64 0) (w' := w) (by kernel_rfl) ?_)
  refine wl_end ⟨#[.pointer (some ⟨g, 0, none⟩), undef, .int .i64 0, undef, undef, undef, undef, undef, undef, undef, undef, undef, undef, undef], []⟩ (by kernel_rfl) ?_
  refine then_n ?_
  refine wp_seq ?_
  refine wp_region_lit ?_
  refine wl_gv rfl (gv_val (v := .pointer (some ⟨g, 0, none⟩)) (w' := w) (by kernel_rfl) ?_)
  refine wl_gv rfl (gv_val (v := .pointer (some ⟨g, 0, none⟩)) (w' := w) (by kernel_rfl) ?_)
  refine wl_gv rfl (gv_val (v := .pointer (some ⟨g, 4, none⟩)) (w' := w) (by kernel_rfl) ?_)
  refine wl_gv rfl (gv_ldR (v := .int .i64 life) rfl (by kernel_rfl) (by kernel_rfl) (((S.blk 0 rfl).cell 4).trans rfl) ?_)
  refine wl_gv rfl (gv_val (v := .int .i64 (inc life)) (w' := w) (by kernel_rfl) ?_)
  refine wl_gv rfl (gv_val (v := .pointer (some ⟨g, 0, none⟩)) (w' := w) (by kernel_rfl) ?_)
  refine wl_gv rfl (gv_val (v := .pointer (some ⟨g, 4, none⟩)) (w' := w) (by kernel_rfl) ?_)
  refine wl_gv rfl (gv_st (k := 4) (v := .int .i64 (inc life)) S 0 rfl rfl (by kernel_rfl) (by kernel_rfl) (by kernel_rfl) rfl rfl (L' := (row g #[.slice (some ⟨gd, 0, none⟩) n c, .map (some gm), .bool fused, .int .i64 left, .int .i64 (inc life), .int .i64 r, .int .i64 wr, .int .i64 fl, .int .i64 rf, .int .i64 pn] 87 :: L)) rfl (fun w1 S2 => ?_))
  refine wl_end ⟨#[.pointer (some ⟨g, 0, none⟩), undef, .int .i64 0, .pointer (some ⟨g, 0, none⟩), .pointer (some ⟨g, 0, none⟩), .pointer (some ⟨g, 4, none⟩), .int .i64 life, .int .i64 (inc life), .pointer (some ⟨g, 0, none⟩), .pointer (some ⟨g, 4, none⟩), undef, undef, undef, undef], []⟩ (by kernel_rfl) ?_
  refine then_n ?_
  refine wp_seq ?_
  refine wp_region_lit ?_
  refine wl_gv rfl (gv_val (v := .pointer (some ⟨g, 0, none⟩)) (w' := w1) (by kernel_rfl) ?_)
  refine wl_gv rfl (gv_val (v := .pointer (some ⟨g, 0, none⟩)) (w' := w1) (by kernel_rfl) ?_)
  refine wl_gv rfl (gv_val (v := .pointer (some ⟨g, 4, none⟩)) (w' := w1) (by kernel_rfl) ?_)
  refine wl_gv rfl (gv_ldR (v := .int .i64 (inc life)) rfl (by kernel_rfl) (by kernel_rfl) (((S2.blk 0 rfl).cell 4).trans rfl) ?_)
  refine wl_gv rfl (gv_val (v := .int .i64 (inc life)) (w' := w1) (by kernel_rfl) ?_)
  refine wl_end ⟨#[.pointer (some ⟨g, 0, none⟩), undef, .int .i64 (inc life), .pointer (some ⟨g, 0, none⟩), .pointer (some ⟨g, 0, none⟩), .pointer (some ⟨g, 4, none⟩), .int .i64 life, .int .i64 (inc life), .pointer (some ⟨g, 0, none⟩), .pointer (some ⟨g, 4, none⟩), .pointer (some ⟨g, 0, none⟩), .pointer (some ⟨g, 0, none⟩), .pointer (some ⟨g, 4, none⟩), .int .i64 (inc life)], []⟩ (by kernel_rfl) ?_
  refine then_n ?_
  refine wp_ret ?_
  refine bodyPost_ret (v := .int .i64 (inc life)) (results_t1 rfl (by kernel_rfl)) rfl ?_
  exact ⟨rfl, S2⟩
theorem spend_true {F : Nat → Prop} {w0 w : World} {L : List Ast} {g gd n c gm : Nat} {left life r wr fl rf pn : Int} (S : St F w0 w (row g (dcells gd n c gm true left life r wr fl rf pn) 87 :: L)) :
    Calls Try.prog 69 #[.pointer (some ⟨g, 0, none⟩)] w fun e w' => e = .returned (.tuple #[]) ∧ St F w0 w' (row g (dcells gd n c gm true (dec left) life r wr fl rf pn) 87 :: L) := by
  change St F w0 w (row g #[.slice (some ⟨gd, 0, none⟩) n c, .map (some gm), .bool true, .int .i64 left, .int .i64 life, .int .i64 r, .int .i64 wr, .int .i64 fl, .int .i64 rf, .int .i64 pn] 87 :: L) at S
  refine wp_enter ⟨#[.pointer (some ⟨g, 0, none⟩), undef, undef, undef, undef, undef, undef, undef, undef, undef, undef, undef, undef], []⟩ Try.func69 rfl (by kernel_rfl) ?_
  refine wp_seq ?_
  refine wp_region_lit ?_
  refine wl_gv rfl (gv_val (v := .pointer (some ⟨g, 0, none⟩)) (w' := w) (by kernel_rfl) ?_)
  refine wl_gv rfl (gv_val (v := .pointer (some ⟨g, 0, none⟩)) (w' := w) (by kernel_rfl) ?_)
  refine wl_gv rfl (gv_val (v := .pointer (some ⟨g, 2, none⟩)) (w' := w) (by kernel_rfl) ?_)
  refine wl_gv rfl (gv_ldR (v := .bool true) rfl (by kernel_rfl) (by kernel_rfl) (((S.blk 0 rfl).cell 2).trans rfl) ?_)
  refine wl_end ⟨#[.pointer (some ⟨g, 0, none⟩), undef, .pointer (some ⟨g, 0, none⟩), .pointer (some ⟨g, 0, none⟩), .pointer (some ⟨g, 2, none⟩), .bool true, undef, undef, undef, undef, undef, undef, undef], []⟩ (by kernel_rfl) ?_
  refine then_n ?_
  refine wp_cond_true (by kernel_rfl) ?_
  refine wp_region_lit ?_
  refine wl_gv rfl (gv_val (v := .pointer (some ⟨g, 0, none⟩)) (w' := w) (by kernel_rfl) ?_)
  refine wl_gv rfl (gv_val (v := .pointer (some ⟨g, 0, none⟩)) (w' := w) (by kernel_rfl) ?_)
  refine wl_gv rfl (gv_val (v := .pointer (some ⟨g, 3, none⟩)) (w' := w) (by kernel_rfl) ?_)
  refine wl_gv rfl (gv_ldR (v := .int .i64 left) rfl (by kernel_rfl) (by kernel_rfl) (((S.blk 0 rfl).cell 3).trans rfl) ?_)
  refine wl_gv rfl (gv_val (v := .int .i64 (dec left)) (w' := w) (by kernel_rfl) ?_)
  refine wl_gv rfl (gv_val (v := .pointer (some ⟨g, 0, none⟩)) (w' := w) (by kernel_rfl) ?_)
  refine wl_gv rfl (gv_val (v := .pointer (some ⟨g, 3, none⟩)) (w' := w) (by kernel_rfl) ?_)
  refine wl_gv rfl (gv_st (k := 3) (v := .int .i64 (dec left)) S 0 rfl rfl (by kernel_rfl) (by kernel_rfl) (by kernel_rfl) rfl rfl (L' := (row g #[.slice (some ⟨gd, 0, none⟩) n c, .map (some gm), .bool true, .int .i64 (dec left), .int .i64 life, .int .i64 r, .int .i64 wr, .int .i64 fl, .int .i64 rf, .int .i64 pn] 87 :: L)) rfl (fun w1 S2 => ?_))
  refine wl_end ⟨#[.pointer (some ⟨g, 0, none⟩), undef, .pointer (some ⟨g, 0, none⟩), .pointer (some ⟨g, 0, none⟩), .pointer (some ⟨g, 2, none⟩), .bool true, .pointer (some ⟨g, 0, none⟩), .pointer (some ⟨g, 0, none⟩), .pointer (some ⟨g, 3, none⟩), .int .i64 left, .int .i64 (dec left), .pointer (some ⟨g, 0, none⟩), .pointer (some ⟨g, 3, none⟩)], []⟩ (by kernel_rfl) ?_
  refine bodyPost_end (v := .tuple #[]) (results_none rfl _ _ _) rfl ?_
  exact ⟨rfl, S2⟩
theorem spend_false {F : Nat → Prop} {w0 w : World} {L : List Ast} {g gd n c gm : Nat} {left life r wr fl rf pn : Int} (S : St F w0 w (row g (dcells gd n c gm false left life r wr fl rf pn) 87 :: L)) :
    Calls Try.prog 69 #[.pointer (some ⟨g, 0, none⟩)] w fun e w' => e = .returned (.tuple #[]) ∧ St F w0 w' (row g (dcells gd n c gm false left life r wr fl rf pn) 87 :: L) := by
  change St F w0 w (row g #[.slice (some ⟨gd, 0, none⟩) n c, .map (some gm), .bool false, .int .i64 left, .int .i64 life, .int .i64 r, .int .i64 wr, .int .i64 fl, .int .i64 rf, .int .i64 pn] 87 :: L) at S
  refine wp_enter ⟨#[.pointer (some ⟨g, 0, none⟩), undef, undef, undef, undef, undef, undef, undef, undef, undef, undef, undef, undef], []⟩ Try.func69 rfl (by kernel_rfl) ?_
  refine wp_seq ?_
  refine wp_region_lit ?_
  refine wl_gv rfl (gv_val (v := .pointer (some ⟨g, 0, none⟩)) (w' := w) (by kernel_rfl) ?_)
  refine wl_gv rfl (gv_val (v := .pointer (some ⟨g, 0, none⟩)) (w' := w) (by kernel_rfl) ?_)
  refine wl_gv rfl (gv_val (v := .pointer (some ⟨g, 2, none⟩)) (w' := w) (by kernel_rfl) ?_)
  refine wl_gv rfl (gv_ldR (v := .bool false) rfl (by kernel_rfl) (by kernel_rfl) (((S.blk 0 rfl).cell 2).trans rfl) ?_)
  refine wl_end ⟨#[.pointer (some ⟨g, 0, none⟩), undef, .pointer (some ⟨g, 0, none⟩), .pointer (some ⟨g, 0, none⟩), .pointer (some ⟨g, 2, none⟩), .bool false, undef, undef, undef, undef, undef, undef, undef], []⟩ (by kernel_rfl) ?_
  refine then_n ?_
  refine wp_cond_false (by kernel_rfl) ?_
  refine wp_skip ?_
  refine bodyPost_end (v := .tuple #[]) (results_none rfl _ _ _) rfl ?_
  exact ⟨rfl, S⟩
end Go.Proofs
