/- The small functions of package disk, by the walk: they read the disk's variable. -/
import Derived.Test.YtefmefimhiedfaaHMore
open Go Go.RowKit Go.Proofs.YtefmefimhiedfaaW.PrintWords Go.Proofs.YtefmefimhiedfaaW.PrintMore
namespace Go.Proofs
open Go.Vel
set_option linter.unusedVariables false
set_option maxRecDepth 100000
set_option maxHeartbeats 4000000
attribute [local irreducible] gives wpList Code.wp
/-- The cells of a disk's variable. -/
def dcells (gd n c gm : Nat) (fused : Bool) (left life r wr fl rf pn : Int) : Array Value := #[.slice (some ⟨gd, 0, none⟩) n c, .map (some gm), .bool fused, .int .i64 left, .int .i64 life, .int .i64 r, .int .i64 wr, .int .i64 fl, .int .i64 rf, .int .i64 pn]

theorem life_ro {w : World} {g gd n c gm : Nat} {fused : Bool} {left life r wr fl rf pn : Int} (HB : Blk w g (dcells gd n c gm fused left life r wr fl rf pn) 87) :
    Calls Try.prog 23 #[.pointer (some ⟨g, 0, none⟩)] w fun e w' => e = .returned (.int .i64 life) ∧ w = w' := by
  refine wp_enter (fr [pq g] 6) Try.func23 rfl (by kernel_rfl) ?_
  refine wp_seq ?_
  refine wp_region_lit ?_
  refine pv (iv 0) ?_
  refine wl_end (fr [pq g, ud, iv 0] 4) (by kernel_rfl) ?_
  refine then_n ?_
  refine wp_seq ?_
  refine wp_region_lit ?_
  refine pv (pq g) ?_
  refine pv (pq g) ?_
  refine pv (po g 4) ?_
  refine wl_gv rfl (gv_ldR (v := .int .i64 life) rfl (by kernel_rfl) (by kernel_rfl) ((HB.cell 4).trans rfl) ?_)
  refine pv (iv life) ?_
  refine wl_end (fr [pq g, ud, iv life, pq g, pq g, po g 4, iv life] 0) (by kernel_rfl) ?_
  refine then_n ?_
  refine wp_ret ?_
  refine bodyPost_ret (v := .int .i64 life) (results_t1 rfl (by kernel_rfl)) rfl ?_
  exact ⟨rfl, rfl⟩
theorem burnt_ro {w : World} {g gd n c gm : Nat} {fused : Bool} {left life r wr fl rf pn : Int} (HB : Blk w g (dcells gd n c gm fused left life r wr fl rf pn) 87) :
    Calls Try.prog 22 #[.pointer (some ⟨g, 0, none⟩)] w fun e w' => e = .returned (.bool (fused && decide (left = 0))) ∧ w = w' := by
  cases fused
  · skip
    refine wp_enter (fr [pq g] 13) Try.func22 rfl (by kernel_rfl) ?_
    refine wp_seq ?_
    refine wp_region_lit ?_
    refine pv fv ?_
    refine wl_end (fr [pq g, ud, fv] 11) (by kernel_rfl) ?_
    refine then_n ?_
    refine wp_seq ?_
    refine wp_region_lit ?_
    refine pv (pq g) ?_
    refine pv (pq g) ?_
    refine pv (po g 2) ?_
    refine wl_gv rfl (gv_ldR (v := .bool false) rfl (by kernel_rfl) (by kernel_rfl) ((HB.cell 2).trans rfl) ?_)
    refine pv fv ?_
    refine wl_not (by kernel_rfl) ?_
    refine wl_not (by kernel_rfl) ?_
    refine wl_not (by kernel_rfl) ?_
    refine wl_not (by kernel_rfl) ?_
    refine wl_not (by kernel_rfl) ?_
    refine pv fv ?_
    refine pv fv ?_
    refine wl_end (fr [pq g, ud, fv, pq g, pq g, po g 2, fv, fv, ud, ud, ud, ud, ud, fv] 0) (by kernel_rfl) ?_
    refine then_n ?_
    refine wp_ret ?_
    refine bodyPost_ret (v := .bool false) (results_t1 rfl (by kernel_rfl)) rfl ?_
    exact ⟨rfl, rfl⟩
  · skip
    refine wp_enter (fr [pq g] 13) Try.func22 rfl (by kernel_rfl) ?_
    refine wp_seq ?_
    refine wp_region_lit ?_
    refine pv fv ?_
    refine wl_end (fr [pq g, ud, fv] 11) (by kernel_rfl) ?_
    refine then_n ?_
    refine wp_seq ?_
    refine wp_region_lit ?_
    refine pv (pq g) ?_
    refine pv (pq g) ?_
    refine pv (po g 2) ?_
    refine wl_gv rfl (gv_ldR (v := .bool true) rfl (by kernel_rfl) (by kernel_rfl) ((HB.cell 2).trans rfl) ?_)
    refine pv tv ?_
    refine wl_when (by kernel_rfl) (gv_val (v := .pointer (some ⟨g, 0, none⟩)) (w' := w) (by kernel_rfl) ?_)
    refine wl_when (by kernel_rfl) (gv_val (v := .pointer (some ⟨g, 0, none⟩)) (w' := w) (by kernel_rfl) ?_)
    refine wl_when (by kernel_rfl) (gv_val (v := .pointer (some ⟨g, 3, none⟩)) (w' := w) (by kernel_rfl) ?_)
    refine wl_when (by kernel_rfl) (gv_ldR (v := .int .i64 left) rfl (by kernel_rfl) (by kernel_rfl) ((HB.cell 3).trans rfl) ?_)
    refine wl_when (by kernel_rfl) (gv_eq (x := left) (y := 0) (by kernel_rfl) (fun hb1 => ?_) (fun hb1 => ?_))
    · skip
      refine pv tv ?_
      refine pv tv ?_
      refine wl_end (fr [pq g, ud, tv, pq g, pq g, po g 2, tv, tv, pq g, pq g, po g 3, iv left, tv, tv] 0) (by kernel_rfl) ?_
      refine then_n ?_
      refine wp_ret ?_
      refine bodyPost_ret (v := .bool true) (results_t1 rfl (by kernel_rfl)) rfl ?_
      exact ⟨by simp [hb1], rfl⟩
    · skip
      refine pv fv ?_
      refine pv fv ?_
      refine wl_end (fr [pq g, ud, fv, pq g, pq g, po g 2, tv, tv, pq g, pq g, po g 3, iv left, fv, fv] 0) (by kernel_rfl) ?_
      refine then_n ?_
      refine wp_ret ?_
      refine bodyPost_ret (v := .bool false) (results_t1 rfl (by kernel_rfl)) rfl ?_
      exact ⟨by simp [hb1], rfl⟩
theorem sectors_ro {w : World} {g gd n c gm : Nat} {fused : Bool} {left life r wr fl rf pn : Int} (HB : Blk w g (dcells gd n c gm fused left life r wr fl rf pn) 87) {m : Nat} (hn : n = 512 * m) (hm : m ≤ 2048) :
    Calls Try.prog 21 #[.pointer (some ⟨g, 0, none⟩)] w fun e w' => e = .returned (.int .i64 m) ∧ w = w' := by
  refine wp_enter (fr [pq g] 8) Try.func21 rfl (by kernel_rfl) ?_
  refine wp_seq ?_
  refine wp_region_lit ?_
  refine pv (iv 0) ?_
  refine wl_end (fr [pq g, ud, iv 0] 6) (by kernel_rfl) ?_
  refine then_n ?_
  refine wp_seq ?_
  refine wp_region_lit ?_
  refine pv (pq g) ?_
  refine pv (pq g) ?_
  refine pv (pq g) ?_
  refine wl_gv rfl (gv_ldR (v := .slice (some ⟨gd, 0, none⟩) n c) rfl (by kernel_rfl) (by kernel_rfl) ((HB.cell 0).trans rfl) ?_)
  refine pv (iv (n : Nat)) ?_
  refine wl_gv rfl (gv_int (k := .i64) (z := IntKind.i64.wrap (Int.tdiv (n : Nat) 512)) (z' := (m : Nat)) (by kernel_rfl) (wr_eq (by rw [Int.tdiv_eq_ediv_of_nonneg (by omega), hn]; omega) (by omega) (by omega)) ?_)
  refine pv (iv (m : Nat)) ?_
  refine wl_end (fr [pq g, ud, iv (m : Nat), pq g, pq g, pq g, sl gd 0 n c, iv (n : Nat), iv (m : Nat)] 0) (by kernel_rfl) ?_
  refine then_n ?_
  refine wp_ret ?_
  refine bodyPost_ret (v := .int .i64 (m : Nat)) (results_t1 rfl (by kernel_rfl)) rfl ?_
  exact ⟨rfl, rfl⟩
end Go.Proofs
