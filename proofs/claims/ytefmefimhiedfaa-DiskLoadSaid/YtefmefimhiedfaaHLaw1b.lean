/- The laws DiskNew and DiskLoad answer true. -/
import Derived.Test.YtefmefimhiedfaaHDisk6
import Derived.Test.YtefmefimhiedfaaHDisk3
import Derived.Test.YtefmefimhiedfaaHLaw1a
open Go Go.RowKit Go.Proofs.YtefmefimhiedfaaW.PrintWords Go.Proofs.YtefmefimhiedfaaW.PrintMore
namespace Go.Proofs
open Go.Vel
set_option linter.unusedVariables false
set_option maxRecDepth 100000
set_option maxHeartbeats 4000000
attribute [local irreducible] gives wpList Code.wp

theorem diskNew_bad (w : World) (n : Int) (hn : n < 1 ∨ 2048 < n) : Calls Try.prog 3 #[.int .i64 n] w fun e w' => e = .returned (.bool true) ∧ Below w.heap.size w w' := by
  have S0 : St none' w w [] := St.init none' w
  refine wp_enter ⟨#[.int .i64 n, undef, undef, undef, undef, undef, undef, undef, undef, undef, undef, undef, undef, undef, undef, undef, undef, undef, undef, undef, undef, undef, undef, undef, undef, undef, undef, undef, undef, undef, undef, undef, undef, undef, undef, undef, undef, undef, undef, undef, undef, undef, undef, undef, undef, undef, undef, undef, undef, undef, undef, undef, undef, undef, undef, undef, undef, undef, undef, undef, undef, undef, undef, undef, undef, undef, undef, undef, undef, undef, undef, undef, undef, undef, undef, undef, undef, undef, undef, undef, undef, undef, undef, undef, undef, undef, undef, undef, undef], []⟩ Try.func3 rfl (by kernel_rfl) ?_
  refine wp_seq ?_
  refine wp_region_lit ?_
  refine wl_gv rfl (gv_val (v := .bool false) (w' := w) (by kernel_rfl) ?_)
  refine wl_end ⟨#[.int .i64 n, undef, .bool false, undef, undef, undef, undef, undef, undef, undef, undef, undef, undef, undef, undef, undef, undef, undef, undef, undef, undef, undef, undef, undef, undef, undef, undef, undef, undef, undef, undef, undef, undef, undef, undef, undef, undef, undef, undef, undef, undef, undef, undef, undef, undef, undef, undef, undef, undef, undef, undef, undef, undef, undef, undef, undef, undef, undef, undef, undef, undef, undef, undef, undef, undef, undef, undef, undef, undef, undef, undef, undef, undef, undef, undef, undef, undef, undef, undef, undef, undef, undef, undef, undef, undef, undef, undef, undef, undef], []⟩ (by kernel_rfl) ?_
  refine then_n ?_
  refine wp_seq ?_
  refine wp_region_lit ?_
  refine wl_gv rfl (gv_val (v := .int .i64 n) (w' := w) (by kernel_rfl) ?_)
  refine wl_gv rfl (gv_call (args := #[.int .i64 n]) rfl Try.func20 (by kernel_rfl) rfl rfl (by kernel_rfl) ?_)
  refine Calls.mono (pd_new_bad hn S0) ?_
  rintro _ w1 ⟨rfl, S2⟩
  refine ⟨_, rfl, ?_⟩
  refine wl_gv rfl (gv_val (v := .tuple #[.pointer none, .int .i64 10]) (w' := w1) (by kernel_rfl) ?_)
  refine wl_gv rfl (gv_val (v := .pointer none) (w' := w1) (by kernel_rfl) ?_)
  refine wl_gv rfl (gv_val (v := .int .i64 10) (w' := w1) (by kernel_rfl) ?_)
  refine wl_gv rfl (gv_val (v := .pointer none) (w' := w1) (by kernel_rfl) ?_)
  refine wl_gv rfl (gv_val (v := .int .i64 10) (w' := w1) (by kernel_rfl) ?_)
  refine wl_end ⟨#[.int .i64 n, undef, .bool false, .pointer none, .int .i64 10, undef, undef, undef, .tuple #[.pointer none, .int .i64 10], .int .i64 n, .tuple #[.pointer none, .int .i64 10], .pointer none, .int .i64 10, undef, undef, undef, undef, undef, undef, undef, undef, undef, undef, undef, undef, undef, undef, undef, undef, undef, undef, undef, undef, undef, undef, undef, undef, undef, undef, undef, undef, undef, undef, undef, undef, undef, undef, undef, undef, undef, undef, undef, undef, undef, undef, undef, undef, undef, undef, undef, undef, undef, undef, undef, undef, undef, undef, undef, undef, undef, undef, undef, undef, undef, undef, undef, undef, undef, undef, undef, undef, undef, undef, undef, undef, undef, undef, undef, undef], []⟩ (by kernel_rfl) ?_
  refine then_n ?_
  refine wp_seq ?_
  refine wp_seq ?_
  refine wp_region_lit ?_
  refine wl_gv rfl (gv_val (v := .int .i64 n) (w' := w1) (by kernel_rfl) ?_)
  refine wl_gv rfl (gv_dec (p := (n : Int) < 1) (by kernel_rfl) (fun hb3 => ?_) (fun hb3 => ?_))
  · skip
    refine wl_gv rfl (gv_val (v := .bool true) (w' := w1) (by kernel_rfl) ?_)
    refine wl_not (by kernel_rfl) ?_
    refine wl_not (by kernel_rfl) ?_
    refine wl_gv rfl (gv_val (v := .bool true) (w' := w1) (by kernel_rfl) ?_)
    refine wl_end ⟨#[.int .i64 n, undef, .bool false, .pointer none, .int .i64 10, undef, undef, undef, .tuple #[.pointer none, .int .i64 10], .int .i64 n, .tuple #[.pointer none, .int .i64 10], .pointer none, .int .i64 10, .int .i64 n, .bool true, .bool true, undef, undef, .bool true, undef, undef, undef, undef, undef, undef, undef, undef, undef, undef, undef, undef, undef, undef, undef, undef, undef, undef, undef, undef, undef, undef, undef, undef, undef, undef, undef, undef, undef, undef, undef, undef, undef, undef, undef, undef, undef, undef, undef, undef, undef, undef, undef, undef, undef, undef, undef, undef, undef, undef, undef, undef, undef, undef, undef, undef, undef, undef, undef, undef, undef, undef, undef, undef, undef, undef, undef, undef, undef, undef], []⟩ (by kernel_rfl) ?_
    refine then_n ?_
    refine wp_cond_true (by kernel_rfl) ?_
    refine wp_seq ?_
    refine wp_region_lit ?_
    refine wl_gv rfl (gv_val (v := .pointer none) (w' := w1) (by kernel_rfl) ?_)
    refine wl_gv rfl (gv_val (v := .bool true) (w' := w1) (by kernel_rfl) ?_)
    refine wl_gv rfl (gv_val (v := .bool true) (w' := w1) (by kernel_rfl) ?_)
    refine wl_when (by kernel_rfl) (gv_val (v := .int .i64 10) (w' := w1) (by kernel_rfl) ?_)
    refine wl_when (by kernel_rfl) (gv_eq (x := 10) (y := 10) (by kernel_rfl) (fun _ => ?_) (fun hd4 => False.elim (by omega)))
    refine wl_gv rfl (gv_val (v := .bool true) (w' := w1) (by kernel_rfl) ?_)
    refine wl_gv rfl (gv_val (v := .bool true) (w' := w1) (by kernel_rfl) ?_)
    refine wl_end ⟨#[.int .i64 n, undef, .bool true, .pointer none, .int .i64 10, undef, undef, undef, .tuple #[.pointer none, .int .i64 10], .int .i64 n, .tuple #[.pointer none, .int .i64 10], .pointer none, .int .i64 10, .int .i64 n, .bool true, .bool true, undef, undef, .bool true, .pointer none, .bool true, .bool true, .int .i64 10, .bool true, .bool true, undef, undef, undef, undef, undef, undef, undef, undef, undef, undef, undef, undef, undef, undef, undef, undef, undef, undef, undef, undef, undef, undef, undef, undef, undef, undef, undef, undef, undef, undef, undef, undef, undef, undef, undef, undef, undef, undef, undef, undef, undef, undef, undef, undef, undef, undef, undef, undef, undef, undef, undef, undef, undef, undef, undef, undef, undef, undef, undef, undef, undef, undef, undef, undef], []⟩ (by kernel_rfl) ?_
    refine then_n ?_
    refine wp_ret ?_
    refine then_r ?_
    refine bodyPost_ret (v := .bool true) (results_t1 rfl (by kernel_rfl)) rfl ?_
    exact ⟨rfl, S2.fr.below⟩
  · skip
    refine wl_gv rfl (gv_val (v := .bool false) (w' := w1) (by kernel_rfl) ?_)
    refine wl_when (by kernel_rfl) (gv_val (v := .int .i64 n) (w' := w1) (by kernel_rfl) ?_)
    refine wl_when (by kernel_rfl) (gv_dec (p := (n : Int) > 2048) (by kernel_rfl) (fun _ => ?_) (fun hd5 => False.elim (by omega)))
    refine wl_gv rfl (gv_val (v := .bool true) (w' := w1) (by kernel_rfl) ?_)
    refine wl_end ⟨#[.int .i64 n, undef, .bool false, .pointer none, .int .i64 10, undef, undef, undef, .tuple #[.pointer none, .int .i64 10], .int .i64 n, .tuple #[.pointer none, .int .i64 10], .pointer none, .int .i64 10, .int .i64 n, .bool false, .bool false, .int .i64 n, .bool true, .bool true, undef, undef, undef, undef, undef, undef, undef, undef, undef, undef, undef, undef, undef, undef, undef, undef, undef, undef, undef, undef, undef, undef, undef, undef, undef, undef, undef, undef, undef, undef, undef, undef, undef, undef, undef, undef, undef, undef, undef, undef, undef, undef, undef, undef, undef, undef, undef, undef, undef, undef, undef, undef, undef, undef, undef, undef, undef, undef, undef, undef, undef, undef, undef, undef, undef, undef, undef, undef, undef, undef], []⟩ (by kernel_rfl) ?_
    refine then_n ?_
    refine wp_cond_true (by kernel_rfl) ?_
    refine wp_seq ?_
    refine wp_region_lit ?_
    refine wl_gv rfl (gv_val (v := .pointer none) (w' := w1) (by kernel_rfl) ?_)
    refine wl_gv rfl (gv_val (v := .bool true) (w' := w1) (by kernel_rfl) ?_)
    refine wl_gv rfl (gv_val (v := .bool true) (w' := w1) (by kernel_rfl) ?_)
    refine wl_when (by kernel_rfl) (gv_val (v := .int .i64 10) (w' := w1) (by kernel_rfl) ?_)
    refine wl_when (by kernel_rfl) (gv_eq (x := 10) (y := 10) (by kernel_rfl) (fun _ => ?_) (fun hd6 => False.elim (by omega)))
    refine wl_gv rfl (gv_val (v := .bool true) (w' := w1) (by kernel_rfl) ?_)
    refine wl_gv rfl (gv_val (v := .bool true) (w' := w1) (by kernel_rfl) ?_)
    refine wl_end ⟨#[.int .i64 n, undef, .bool true, .pointer none, .int .i64 10, undef, undef, undef, .tuple #[.pointer none, .int .i64 10], .int .i64 n, .tuple #[.pointer none, .int .i64 10], .pointer none, .int .i64 10, .int .i64 n, .bool false, .bool false, .int .i64 n, .bool true, .bool true, .pointer none, .bool true, .bool true, .int .i64 10, .bool true, .bool true, undef, undef, undef, undef, undef, undef, undef, undef, undef, undef, undef, undef, undef, undef, undef, undef, undef, undef, undef, undef, undef, undef, undef, undef, undef, undef, undef, undef, undef, undef, undef, undef, undef, undef, undef, undef, undef, undef, undef, undef, undef, undef, undef, undef, undef, undef, undef, undef, undef, undef, undef, undef, undef, undef, undef, undef, undef, undef, undef, undef, undef, undef, undef, undef], []⟩ (by kernel_rfl) ?_
    refine then_n ?_
    refine wp_ret ?_
    refine then_r ?_
    refine bodyPost_ret (v := .bool true) (results_t1 rfl (by kernel_rfl)) rfl ?_
    exact ⟨rfl, S2.fr.below⟩
theorem diskNew_good (w : World) (m : Nat) (h1 : 1 ≤ m) (h2 : m ≤ 2048) : Calls Try.prog 3 #[.int .i64 ((m : Nat) : Int)] w fun e w' => e = .returned (.bool true) ∧ Below w.heap.size w w' := by
  have S0 : St none' w w [] := St.init none' w
  refine wp_enter ⟨#[.int .i64 ((m : Nat) : Int), undef, undef, undef, undef, undef, undef, undef, undef, undef, undef, undef, undef, undef, undef, undef, undef, undef, undef, undef, undef, undef, undef, undef, undef, undef, undef, undef, undef, undef, undef, undef, undef, undef, undef, undef, undef, undef, undef, undef, undef, undef, undef, undef, undef, undef, undef, undef, undef, undef, undef, undef, undef, undef, undef, undef, undef, undef, undef, undef, undef, undef, undef, undef, undef, undef, undef, undef, undef, undef, undef, undef, undef, undef, undef, undef, undef, undef, undef, undef, undef, undef, undef, undef, undef, undef, undef, undef, undef], []⟩ Try.func3 rfl (by kernel_rfl) ?_
  refine wp_seq ?_
  refine wp_region_lit ?_
  refine wl_gv rfl (gv_val (v := .bool false) (w' := w) (by kernel_rfl) ?_)
  refine wl_end ⟨#[.int .i64 ((m : Nat) : Int), undef, .bool false, undef, undef, undef, undef, undef, undef, undef, undef, undef, undef, undef, undef, undef, undef, undef, undef, undef, undef, undef, undef, undef, undef, undef, undef, undef, undef, undef, undef, undef, undef, undef, undef, undef, undef, undef, undef, undef, undef, undef, undef, undef, undef, undef, undef, undef, undef, undef, undef, undef, undef, undef, undef, undef, undef, undef, undef, undef, undef, undef, undef, undef, undef, undef, undef, undef, undef, undef, undef, undef, undef, undef, undef, undef, undef, undef, undef, undef, undef, undef, undef, undef, undef, undef, undef, undef, undef], []⟩ (by kernel_rfl) ?_
  refine then_n ?_
  refine wp_seq ?_
  refine wp_region_lit ?_
  refine wl_gv rfl (gv_val (v := .int .i64 ((m : Nat) : Int)) (w' := w) (by kernel_rfl) ?_)
  refine wl_gv rfl (gv_call (args := #[.int .i64 ((m : Nat) : Int)]) rfl Try.func20 (by kernel_rfl) rfl rfl (by kernel_rfl) ?_)
  refine Calls.mono (pd_new h1 h2 S0) ?_
  rintro _ w1 ⟨g, rfl, S2⟩
  refine ⟨_, rfl, ?_⟩
  have hl : (Dsk.mk0 (List.replicate m zsec)).last.length = m := List.length_replicate
  refine wl_gv rfl (gv_val (v := .tuple #[.pointer (some ⟨g, 0, none⟩), .int .i64 0]) (w' := w1) (by kernel_rfl) ?_)
  refine wl_gv rfl (gv_val (v := .pointer (some ⟨g, 0, none⟩)) (w' := w1) (by kernel_rfl) ?_)
  refine wl_gv rfl (gv_val (v := .int .i64 0) (w' := w1) (by kernel_rfl) ?_)
  refine wl_gv rfl (gv_val (v := .pointer (some ⟨g, 0, none⟩)) (w' := w1) (by kernel_rfl) ?_)
  refine wl_gv rfl (gv_val (v := .int .i64 0) (w' := w1) (by kernel_rfl) ?_)
  refine wl_end ⟨#[.int .i64 ((m : Nat) : Int), undef, .bool false, .pointer (some ⟨g, 0, none⟩), .int .i64 0, undef, undef, undef, .tuple #[.pointer (some ⟨g, 0, none⟩), .int .i64 0], .int .i64 ((m : Nat) : Int), .tuple #[.pointer (some ⟨g, 0, none⟩), .int .i64 0], .pointer (some ⟨g, 0, none⟩), .int .i64 0, undef, undef, undef, undef, undef, undef, undef, undef, undef, undef, undef, undef, undef, undef, undef, undef, undef, undef, undef, undef, undef, undef, undef, undef, undef, undef, undef, undef, undef, undef, undef, undef, undef, undef, undef, undef, undef, undef, undef, undef, undef, undef, undef, undef, undef, undef, undef, undef, undef, undef, undef, undef, undef, undef, undef, undef, undef, undef, undef, undef, undef, undef, undef, undef, undef, undef, undef, undef, undef, undef, undef, undef, undef, undef, undef, undef], []⟩ (by kernel_rfl) ?_
  refine then_n ?_
  refine wp_seq ?_
  refine wp_seq ?_
  refine wp_region_lit ?_
  refine wl_gv rfl (gv_val (v := .int .i64 ((m : Nat) : Int)) (w' := w1) (by kernel_rfl) ?_)
  refine wl_gv rfl (gv_dec (p := (((m : Nat) : Int) : Int) < 1) (by kernel_rfl) (fun hd3 => False.elim (by omega)) (fun _ => ?_))
  refine wl_gv rfl (gv_val (v := .bool false) (w' := w1) (by kernel_rfl) ?_)
  refine wl_when (by kernel_rfl) (gv_val (v := .int .i64 ((m : Nat) : Int)) (w' := w1) (by kernel_rfl) ?_)
  refine wl_when (by kernel_rfl) (gv_dec (p := (((m : Nat) : Int) : Int) > 2048) (by kernel_rfl) (fun hd4 => False.elim (by omega)) (fun _ => ?_))
  refine wl_gv rfl (gv_val (v := .bool false) (w' := w1) (by kernel_rfl) ?_)
  refine wl_end ⟨#[.int .i64 ((m : Nat) : Int), undef, .bool false, .pointer (some ⟨g, 0, none⟩), .int .i64 0, undef, undef, undef, .tuple #[.pointer (some ⟨g, 0, none⟩), .int .i64 0], .int .i64 ((m : Nat) : Int), .tuple #[.pointer (some ⟨g, 0, none⟩), .int .i64 0], .pointer (some ⟨g, 0, none⟩), .int .i64 0, .int .i64 ((m : Nat) : Int), .bool false, .bool false, .int .i64 ((m : Nat) : Int), .bool false, .bool false, undef, undef, undef, undef, undef, undef, undef, undef, undef, undef, undef, undef, undef, undef, undef, undef, undef, undef, undef, undef, undef, undef, undef, undef, undef, undef, undef, undef, undef, undef, undef, undef, undef, undef, undef, undef, undef, undef, undef, undef, undef, undef, undef, undef, undef, undef, undef, undef, undef, undef, undef, undef, undef, undef, undef, undef, undef, undef, undef, undef, undef, undef, undef, undef, undef, undef, undef, undef, undef, undef], []⟩ (by kernel_rfl) ?_
  refine then_n ?_
  refine wp_cond_false (by kernel_rfl) ?_
  refine wp_skip ?_
  refine then_n ?_
  refine wp_seq ?_
  refine wp_seq ?_
  refine wp_region_lit ?_
  refine wl_gv rfl (gv_val (v := .pointer (some ⟨g, 0, none⟩)) (w' := w1) (by kernel_rfl) ?_)
  refine wl_gv rfl (gv_val (v := .bool false) (w' := w1) (by kernel_rfl) ?_)
  refine wl_gv rfl (gv_val (v := .bool false) (w' := w1) (by kernel_rfl) ?_)
  refine wl_when (by kernel_rfl) (gv_val (v := .int .i64 0) (w' := w1) (by kernel_rfl) ?_)
  refine wl_when (by kernel_rfl) (gv_ne (x := 0) (y := 0) (by kernel_rfl) (fun hd5 => False.elim (by omega)) (fun _ => ?_))
  refine wl_gv rfl (gv_val (v := .bool false) (w' := w1) (by kernel_rfl) ?_)
  refine wl_gv rfl (gv_val (v := .bool false) (w' := w1) (by kernel_rfl) ?_)
  refine wl_when (by kernel_rfl) (gv_val (v := .pointer (some ⟨g, 0, none⟩)) (w' := w1) (by kernel_rfl) ?_)
  refine wl_when (by kernel_rfl) (gv_call (args := #[.pointer (some ⟨g, 0, none⟩)]) rfl Try.func21 (by kernel_rfl) rfl rfl (by kernel_rfl) ?_)
  refine Calls.mono (pd_sectors S2 0 rfl) ?_
  rintro _ _ ⟨rfl, rfl⟩
  refine ⟨_, rfl, ?_⟩
  refine wl_when (by kernel_rfl) (gv_val (v := .int .i64 ((m : Nat) : Int)) (w' := w1) (by kernel_rfl) ?_)
  refine wl_when (by kernel_rfl) (gv_ne (x := ((Dsk.mk0 (List.replicate m zsec)).last.length : Int)) (y := ((m : Nat) : Int)) (by kernel_rfl) (fun hd6 => False.elim (by omega)) (fun _ => ?_))
  refine wl_gv rfl (gv_val (v := .bool false) (w' := w1) (by kernel_rfl) ?_)
  refine wl_gv rfl (gv_val (v := .bool false) (w' := w1) (by kernel_rfl) ?_)
  refine wl_when (by kernel_rfl) (gv_val (v := .pointer (some ⟨g, 0, none⟩)) (w' := w1) (by kernel_rfl) ?_)
  refine wl_when (by kernel_rfl) (gv_call (args := #[.pointer (some ⟨g, 0, none⟩)]) rfl Try.func22 (by kernel_rfl) rfl rfl (by kernel_rfl) ?_)
  refine Calls.mono (pd_burnt S2 0 rfl) ?_
  rintro _ _ ⟨rfl, rfl⟩
  refine ⟨_, rfl, ?_⟩
  refine wl_gv rfl (gv_val (v := .bool false) (w' := w1) (by kernel_rfl) ?_)
  refine wl_gv rfl (gv_val (v := .bool false) (w' := w1) (by kernel_rfl) ?_)
  refine wl_when (by kernel_rfl) (gv_val (v := .pointer (some ⟨g, 0, none⟩)) (w' := w1) (by kernel_rfl) ?_)
  refine wl_when (by kernel_rfl) (gv_call (args := #[.pointer (some ⟨g, 0, none⟩)]) rfl Try.func23 (by kernel_rfl) rfl rfl (by kernel_rfl) ?_)
  refine Calls.mono (pd_life S2 0 rfl) ?_
  rintro _ _ ⟨rfl, rfl⟩
  refine ⟨_, rfl, ?_⟩
  refine wl_when (by kernel_rfl) (gv_ne (x := 1) (y := 1) (by kernel_rfl) (fun hd7 => False.elim (by omega)) (fun _ => ?_))
  refine wl_gv rfl (gv_val (v := .bool false) (w' := w1) (by kernel_rfl) ?_)
  refine wl_end ⟨#[.int .i64 ((m : Nat) : Int), undef, .bool false, .pointer (some ⟨g, 0, none⟩), .int .i64 0, undef, undef, undef, .tuple #[.pointer (some ⟨g, 0, none⟩), .int .i64 0], .int .i64 ((m : Nat) : Int), .tuple #[.pointer (some ⟨g, 0, none⟩), .int .i64 0], .pointer (some ⟨g, 0, none⟩), .int .i64 0, .int .i64 ((m : Nat) : Int), .bool false, .bool false, .int .i64 ((m : Nat) : Int), .bool false, .bool false, undef, undef, undef, undef, undef, undef, .pointer (some ⟨g, 0, none⟩), .bool false, .bool false, .int .i64 0, .bool false, .bool false, .bool false, .pointer (some ⟨g, 0, none⟩), .int .i64 ((Dsk.mk0 (List.replicate m zsec)).last.length : Int), .int .i64 ((m : Nat) : Int), .bool false, .bool false, .bool false, .pointer (some ⟨g, 0, none⟩), .bool false, .bool false, .bool false, .pointer (some ⟨g, 0, none⟩), .int .i64 1, .bool false, .bool false, undef, undef, undef, undef, undef, undef, undef, undef, undef, undef, undef, undef, undef, undef, undef, undef, undef, undef, undef, undef, undef, undef, undef, undef, undef, undef, undef, undef, undef, undef, undef, undef, undef, undef, undef, undef, undef, undef, undef, undef, undef, undef, undef], []⟩ (by kernel_rfl) ?_
  refine then_n ?_
  refine wp_cond_false (by kernel_rfl) ?_
  refine wp_skip ?_
  refine then_n ?_
  refine wp_seq ?_
  refine wp_region_lit ?_
  refine wl_gv rfl (gv_val (v := .pointer (some ⟨g, 0, none⟩)) (w' := w1) (by kernel_rfl) ?_)
  refine wl_gv rfl (gv_call (args := #[.pointer (some ⟨g, 0, none⟩)]) rfl Try.func24 (by kernel_rfl) rfl rfl (by kernel_rfl) ?_)
  refine Calls.mono (pd_counts S2) ?_
  rintro _ w8 ⟨rfl, S9⟩
  refine ⟨_, rfl, ?_⟩
  refine wl_gv rfl (gv_new (z := .agg #[.int .i64 0, .int .i64 0, .int .i64 0, .int .i64 0, .int .i64 0]) S9 rfl (by kernel_rfl) (fun g10 w11 hg12 S13 => ?_))
  refine wl_gv rfl (gv_stA (k := 0) (vs := [.int .i64 0, .int .i64 0, .int .i64 0, .int .i64 0, .int .i64 0]) S13 0 rfl rfl (by kernel_rfl) (by kernel_rfl) (by kernel_rfl) rfl (by simp [Value.oneCell']) (Nat.le_of_ble_eq_true (by kernel_rfl)) (L' := [row g10 #[.int .i64 0, .int .i64 0, .int .i64 0, .int .i64 0, .int .i64 0] 29, PDisk g (Dsk.mk0 (List.replicate m zsec))]) rfl (fun w14 S15 => ?_))
  refine wl_end ⟨#[.int .i64 ((m : Nat) : Int), undef, .bool false, .pointer (some ⟨g, 0, none⟩), .int .i64 0, .pointer (some ⟨g10, 0, none⟩), undef, undef, .tuple #[.pointer (some ⟨g, 0, none⟩), .int .i64 0], .int .i64 ((m : Nat) : Int), .tuple #[.pointer (some ⟨g, 0, none⟩), .int .i64 0], .pointer (some ⟨g, 0, none⟩), .int .i64 0, .int .i64 ((m : Nat) : Int), .bool false, .bool false, .int .i64 ((m : Nat) : Int), .bool false, .bool false, undef, undef, undef, undef, undef, undef, .pointer (some ⟨g, 0, none⟩), .bool false, .bool false, .int .i64 0, .bool false, .bool false, .bool false, .pointer (some ⟨g, 0, none⟩), .int .i64 ((Dsk.mk0 (List.replicate m zsec)).last.length : Int), .int .i64 ((m : Nat) : Int), .bool false, .bool false, .bool false, .pointer (some ⟨g, 0, none⟩), .bool false, .bool false, .bool false, .pointer (some ⟨g, 0, none⟩), .int .i64 1, .bool false, .bool false, .pointer (some ⟨g, 0, none⟩), .agg #[.int .i64 0, .int .i64 0, .int .i64 0, .int .i64 0, .int .i64 0], undef, undef, undef, undef, undef, undef, undef, undef, undef, undef, undef, undef, undef, undef, undef, undef, undef, undef, undef, undef, undef, undef, undef, undef, undef, undef, undef, undef, undef, undef, undef, undef, undef, undef, undef, undef, undef, undef, undef, undef, undef], []⟩ (by kernel_rfl) ?_
  refine then_n ?_
  refine wp_seq ?_
  refine wp_seq ?_
  refine wp_region_lit ?_
  refine wl_gv rfl (gv_val (v := .pointer (some ⟨g10, 0, none⟩)) (w' := w14) (by kernel_rfl) ?_)
  refine wl_gv rfl (gv_ldR (v := .int .i64 0) rfl (by kernel_rfl) (by kernel_rfl) (((S15.blk 0 rfl).cell 0).trans rfl) ?_)
  refine wl_gv rfl (gv_ne (x := 0) (y := 0) (by kernel_rfl) (fun hd16 => False.elim (by omega)) (fun _ => ?_))
  refine wl_gv rfl (gv_val (v := .bool false) (w' := w14) (by kernel_rfl) ?_)
  refine wl_when (by kernel_rfl) (gv_val (v := .pointer (some ⟨g10, 1, none⟩)) (w' := w14) (by kernel_rfl) ?_)
  refine wl_when (by kernel_rfl) (gv_ldR (v := .int .i64 0) rfl (by kernel_rfl) (by kernel_rfl) (((S15.blk 0 rfl).cell 1).trans rfl) ?_)
  refine wl_when (by kernel_rfl) (gv_ne (x := 0) (y := 0) (by kernel_rfl) (fun hd17 => False.elim (by omega)) (fun _ => ?_))
  refine wl_gv rfl (gv_val (v := .bool false) (w' := w14) (by kernel_rfl) ?_)
  refine wl_gv rfl (gv_val (v := .bool false) (w' := w14) (by kernel_rfl) ?_)
  refine wl_when (by kernel_rfl) (gv_val (v := .pointer (some ⟨g10, 2, none⟩)) (w' := w14) (by kernel_rfl) ?_)
  refine wl_when (by kernel_rfl) (gv_ldR (v := .int .i64 0) rfl (by kernel_rfl) (by kernel_rfl) (((S15.blk 0 rfl).cell 2).trans rfl) ?_)
  refine wl_when (by kernel_rfl) (gv_ne (x := 0) (y := 0) (by kernel_rfl) (fun hd18 => False.elim (by omega)) (fun _ => ?_))
  refine wl_gv rfl (gv_val (v := .bool false) (w' := w14) (by kernel_rfl) ?_)
  refine wl_gv rfl (gv_val (v := .bool false) (w' := w14) (by kernel_rfl) ?_)
  refine wl_when (by kernel_rfl) (gv_val (v := .pointer (some ⟨g10, 3, none⟩)) (w' := w14) (by kernel_rfl) ?_)
  refine wl_when (by kernel_rfl) (gv_ldR (v := .int .i64 0) rfl (by kernel_rfl) (by kernel_rfl) (((S15.blk 0 rfl).cell 3).trans rfl) ?_)
  refine wl_when (by kernel_rfl) (gv_ne (x := 0) (y := 0) (by kernel_rfl) (fun hd19 => False.elim (by omega)) (fun _ => ?_))
  refine wl_gv rfl (gv_val (v := .bool false) (w' := w14) (by kernel_rfl) ?_)
  refine wl_gv rfl (gv_val (v := .bool false) (w' := w14) (by kernel_rfl) ?_)
  refine wl_when (by kernel_rfl) (gv_val (v := .pointer (some ⟨g10, 4, none⟩)) (w' := w14) (by kernel_rfl) ?_)
  refine wl_when (by kernel_rfl) (gv_ldR (v := .int .i64 0) rfl (by kernel_rfl) (by kernel_rfl) (((S15.blk 0 rfl).cell 4).trans rfl) ?_)
  refine wl_when (by kernel_rfl) (gv_ne (x := 0) (y := 0) (by kernel_rfl) (fun hd20 => False.elim (by omega)) (fun _ => ?_))
  refine wl_gv rfl (gv_val (v := .bool false) (w' := w14) (by kernel_rfl) ?_)
  refine wl_end ⟨#[.int .i64 ((m : Nat) : Int), undef, .bool false, .pointer (some ⟨g, 0, none⟩), .int .i64 0, .pointer (some ⟨g10, 0, none⟩), undef, undef, .tuple #[.pointer (some ⟨g, 0, none⟩), .int .i64 0], .int .i64 ((m : Nat) : Int), .tuple #[.pointer (some ⟨g, 0, none⟩), .int .i64 0], .pointer (some ⟨g, 0, none⟩), .int .i64 0, .int .i64 ((m : Nat) : Int), .bool false, .bool false, .int .i64 ((m : Nat) : Int), .bool false, .bool false, undef, undef, undef, undef, undef, undef, .pointer (some ⟨g, 0, none⟩), .bool false, .bool false, .int .i64 0, .bool false, .bool false, .bool false, .pointer (some ⟨g, 0, none⟩), .int .i64 ((Dsk.mk0 (List.replicate m zsec)).last.length : Int), .int .i64 ((m : Nat) : Int), .bool false, .bool false, .bool false, .pointer (some ⟨g, 0, none⟩), .bool false, .bool false, .bool false, .pointer (some ⟨g, 0, none⟩), .int .i64 1, .bool false, .bool false, .pointer (some ⟨g, 0, none⟩), .agg #[.int .i64 0, .int .i64 0, .int .i64 0, .int .i64 0, .int .i64 0], .pointer (some ⟨g10, 0, none⟩), .int .i64 0, .bool false, .bool false, .pointer (some ⟨g10, 1, none⟩), .int .i64 0, .bool false, .bool false, .bool false, .pointer (some ⟨g10, 2, none⟩), .int .i64 0, .bool false, .bool false, .bool false, .pointer (some ⟨g10, 3, none⟩), .int .i64 0, .bool false, .bool false, .bool false, .pointer (some ⟨g10, 4, none⟩), .int .i64 0, .bool false, .bool false, undef, undef, undef, undef, undef, undef, undef, undef, undef, undef, undef, undef, undef, undef, undef, undef, undef, undef], []⟩ (by kernel_rfl) ?_
  refine then_n ?_
  refine wp_cond_false (by kernel_rfl) ?_
  refine wp_skip ?_
  refine then_n ?_
  refine wp_seq ?_
  refine wp_region_lit ?_
  refine wl_gv rfl (gv_val (v := .pointer (some ⟨g, 0, none⟩)) (w' := w14) (by kernel_rfl) ?_)
  refine wl_gv rfl (gv_call (args := #[.pointer (some ⟨g, 0, none⟩)]) rfl Try.func25 (by kernel_rfl) rfl rfl (by kernel_rfl) ?_)
  have S21 : St none' w w14 [PDisk g (Dsk.mk0 (List.replicate m zsec)), row g10 #[.int .i64 0, .int .i64 0, .int .i64 0, .int .i64 0, .int .i64 0] 29] := St.permT [row g10 #[.int .i64 0, .int .i64 0, .int .i64 0, .int .i64 0, .int .i64 0] 29, PDisk g (Dsk.mk0 (List.replicate m zsec))] [1, 0] (by decide) rfl S15
  refine Calls.mono (pd_image S21) ?_
  rintro _ w22 ⟨v, rfl, S23⟩
  obtain ⟨AI, rfl, S23'⟩ := St.bytes_eq S23
  rw [show (Dsk.mk0 (List.replicate m zsec)).last.flatten = List.replicate (512 * m) 0 from zflat m, List.length_replicate] at S23' ⊢
  refine ⟨_, rfl, ?_⟩
  refine wl_gv rfl (gv_val (v := .slice AI (512 * m) (512 * m)) (w' := w22) (by kernel_rfl) ?_)
  refine wl_end ⟨#[.int .i64 ((m : Nat) : Int), undef, .bool false, .pointer (some ⟨g, 0, none⟩), .int .i64 0, .pointer (some ⟨g10, 0, none⟩), .slice AI (512 * m) (512 * m), undef, .tuple #[.pointer (some ⟨g, 0, none⟩), .int .i64 0], .int .i64 ((m : Nat) : Int), .tuple #[.pointer (some ⟨g, 0, none⟩), .int .i64 0], .pointer (some ⟨g, 0, none⟩), .int .i64 0, .int .i64 ((m : Nat) : Int), .bool false, .bool false, .int .i64 ((m : Nat) : Int), .bool false, .bool false, undef, undef, undef, undef, undef, undef, .pointer (some ⟨g, 0, none⟩), .bool false, .bool false, .int .i64 0, .bool false, .bool false, .bool false, .pointer (some ⟨g, 0, none⟩), .int .i64 ((Dsk.mk0 (List.replicate m zsec)).last.length : Int), .int .i64 ((m : Nat) : Int), .bool false, .bool false, .bool false, .pointer (some ⟨g, 0, none⟩), .bool false, .bool false, .bool false, .pointer (some ⟨g, 0, none⟩), .int .i64 1, .bool false, .bool false, .pointer (some ⟨g, 0, none⟩), .agg #[.int .i64 0, .int .i64 0, .int .i64 0, .int .i64 0, .int .i64 0], .pointer (some ⟨g10, 0, none⟩), .int .i64 0, .bool false, .bool false, .pointer (some ⟨g10, 1, none⟩), .int .i64 0, .bool false, .bool false, .bool false, .pointer (some ⟨g10, 2, none⟩), .int .i64 0, .bool false, .bool false, .bool false, .pointer (some ⟨g10, 3, none⟩), .int .i64 0, .bool false, .bool false, .bool false, .pointer (some ⟨g10, 4, none⟩), .int .i64 0, .bool false, .bool false, .pointer (some ⟨g, 0, none⟩), .slice AI (512 * m) (512 * m), undef, undef, undef, undef, undef, undef, undef, undef, undef, undef, undef, undef, undef, undef, undef, undef], []⟩ (by kernel_rfl) ?_
  refine then_n ?_
  refine wp_seq ?_
  refine wp_seq ?_
  refine wp_region_lit ?_
  refine wl_gv rfl (gv_val (v := .slice AI (512 * m) (512 * m)) (w' := w22) (by kernel_rfl) ?_)
  refine wl_gv rfl (gv_val (v := .int .i64 ((512 * m) : Nat)) (w' := w22) (by kernel_rfl) ?_)
  refine wl_gv rfl (gv_val (v := .int .i64 ((m : Nat) : Int)) (w' := w22) (by kernel_rfl) ?_)
  refine wl_gv rfl (gv_int (k := .i64) (z := IntKind.i64.wrap (((m : Nat) : Int) * 512)) (z' := ((512 * m : Nat) : Int)) (by kernel_rfl) (wr_eq (by omega) (by omega) (by omega)) ?_)
  refine wl_gv rfl (gv_ne (x := ((512 * m) : Nat)) (y := ((512 * m : Nat) : Int)) (by kernel_rfl) (fun hd24 => False.elim (by omega)) (fun _ => ?_))
  refine wl_end ⟨#[.int .i64 ((m : Nat) : Int), undef, .bool false, .pointer (some ⟨g, 0, none⟩), .int .i64 0, .pointer (some ⟨g10, 0, none⟩), .slice AI (512 * m) (512 * m), undef, .tuple #[.pointer (some ⟨g, 0, none⟩), .int .i64 0], .int .i64 ((m : Nat) : Int), .tuple #[.pointer (some ⟨g, 0, none⟩), .int .i64 0], .pointer (some ⟨g, 0, none⟩), .int .i64 0, .int .i64 ((m : Nat) : Int), .bool false, .bool false, .int .i64 ((m : Nat) : Int), .bool false, .bool false, undef, undef, undef, undef, undef, undef, .pointer (some ⟨g, 0, none⟩), .bool false, .bool false, .int .i64 0, .bool false, .bool false, .bool false, .pointer (some ⟨g, 0, none⟩), .int .i64 ((Dsk.mk0 (List.replicate m zsec)).last.length : Int), .int .i64 ((m : Nat) : Int), .bool false, .bool false, .bool false, .pointer (some ⟨g, 0, none⟩), .bool false, .bool false, .bool false, .pointer (some ⟨g, 0, none⟩), .int .i64 1, .bool false, .bool false, .pointer (some ⟨g, 0, none⟩), .agg #[.int .i64 0, .int .i64 0, .int .i64 0, .int .i64 0, .int .i64 0], .pointer (some ⟨g10, 0, none⟩), .int .i64 0, .bool false, .bool false, .pointer (some ⟨g10, 1, none⟩), .int .i64 0, .bool false, .bool false, .bool false, .pointer (some ⟨g10, 2, none⟩), .int .i64 0, .bool false, .bool false, .bool false, .pointer (some ⟨g10, 3, none⟩), .int .i64 0, .bool false, .bool false, .bool false, .pointer (some ⟨g10, 4, none⟩), .int .i64 0, .bool false, .bool false, .pointer (some ⟨g, 0, none⟩), .slice AI (512 * m) (512 * m), .slice AI (512 * m) (512 * m), .int .i64 ((512 * m) : Nat), .int .i64 ((m : Nat) : Int), .int .i64 ((512 * m : Nat) : Int), .bool false, undef, undef, undef, undef, undef, undef, undef, undef, undef, undef, undef], []⟩ (by kernel_rfl) ?_
  refine then_n ?_
  refine wp_cond_false (by kernel_rfl) ?_
  refine wp_skip ?_
  refine then_n ?_
  refine wp_seq ?_
  refine wp_seq ?_
  refine wp_region_lit ?_
  refine wl_gv rfl (gv_val (v := .int .i64 0) (w' := w22) (by kernel_rfl) ?_)
  refine wl_end ⟨#[.int .i64 ((m : Nat) : Int), undef, .bool false, .pointer (some ⟨g, 0, none⟩), .int .i64 0, .pointer (some ⟨g10, 0, none⟩), .slice AI (512 * m) (512 * m), .int .i64 0, .tuple #[.pointer (some ⟨g, 0, none⟩), .int .i64 0], .int .i64 ((m : Nat) : Int), .tuple #[.pointer (some ⟨g, 0, none⟩), .int .i64 0], .pointer (some ⟨g, 0, none⟩), .int .i64 0, .int .i64 ((m : Nat) : Int), .bool false, .bool false, .int .i64 ((m : Nat) : Int), .bool false, .bool false, undef, undef, undef, undef, undef, undef, .pointer (some ⟨g, 0, none⟩), .bool false, .bool false, .int .i64 0, .bool false, .bool false, .bool false, .pointer (some ⟨g, 0, none⟩), .int .i64 ((Dsk.mk0 (List.replicate m zsec)).last.length : Int), .int .i64 ((m : Nat) : Int), .bool false, .bool false, .bool false, .pointer (some ⟨g, 0, none⟩), .bool false, .bool false, .bool false, .pointer (some ⟨g, 0, none⟩), .int .i64 1, .bool false, .bool false, .pointer (some ⟨g, 0, none⟩), .agg #[.int .i64 0, .int .i64 0, .int .i64 0, .int .i64 0, .int .i64 0], .pointer (some ⟨g10, 0, none⟩), .int .i64 0, .bool false, .bool false, .pointer (some ⟨g10, 1, none⟩), .int .i64 0, .bool false, .bool false, .bool false, .pointer (some ⟨g10, 2, none⟩), .int .i64 0, .bool false, .bool false, .bool false, .pointer (some ⟨g10, 3, none⟩), .int .i64 0, .bool false, .bool false, .bool false, .pointer (some ⟨g10, 4, none⟩), .int .i64 0, .bool false, .bool false, .pointer (some ⟨g, 0, none⟩), .slice AI (512 * m) (512 * m), .slice AI (512 * m) (512 * m), .int .i64 ((512 * m) : Nat), .int .i64 ((m : Nat) : Int), .int .i64 ((512 * m : Nat) : Int), .bool false, undef, undef, undef, undef, undef, undef, undef, undef, undef, undef, undef], []⟩ (by kernel_rfl) ?_
  refine then_n ?_
  refine wp_block ?_
  refine wp_loop_g (G := Nat) (fun (g_ : Nat) (a_ : Act) (w_ : World) => ∃ J : Nat → Value, a_ = ⟨#[.int .i64 ((m : Nat) : Int), undef, J 2, .pointer (some ⟨g, 0, none⟩), .int .i64 0, .pointer (some ⟨g10, 0, none⟩), .slice AI (512 * m) (512 * m), .int .i64 ((g_ : Nat) : Int), .tuple #[.pointer (some ⟨g, 0, none⟩), .int .i64 0], .int .i64 ((m : Nat) : Int), .tuple #[.pointer (some ⟨g, 0, none⟩), .int .i64 0], .pointer (some ⟨g, 0, none⟩), .int .i64 0, .int .i64 ((m : Nat) : Int), .bool false, .bool false, .int .i64 ((m : Nat) : Int), .bool false, .bool false, undef, undef, undef, undef, undef, undef, .pointer (some ⟨g, 0, none⟩), .bool false, .bool false, .int .i64 0, .bool false, .bool false, .bool false, .pointer (some ⟨g, 0, none⟩), .int .i64 ((Dsk.mk0 (List.replicate m zsec)).last.length : Int), .int .i64 ((m : Nat) : Int), .bool false, .bool false, .bool false, .pointer (some ⟨g, 0, none⟩), .bool false, .bool false, .bool false, .pointer (some ⟨g, 0, none⟩), .int .i64 1, .bool false, .bool false, .pointer (some ⟨g, 0, none⟩), .agg #[.int .i64 0, .int .i64 0, .int .i64 0, .int .i64 0, .int .i64 0], .pointer (some ⟨g10, 0, none⟩), .int .i64 0, .bool false, .bool false, .pointer (some ⟨g10, 1, none⟩), .int .i64 0, .bool false, .bool false, .bool false, .pointer (some ⟨g10, 2, none⟩), .int .i64 0, .bool false, .bool false, .bool false, .pointer (some ⟨g10, 3, none⟩), .int .i64 0, .bool false, .bool false, .bool false, .pointer (some ⟨g10, 4, none⟩), .int .i64 0, .bool false, .bool false, .pointer (some ⟨g, 0, none⟩), .slice AI (512 * m) (512 * m), .slice AI (512 * m) (512 * m), .int .i64 ((512 * m) : Nat), .int .i64 ((m : Nat) : Int), .int .i64 ((512 * m : Nat) : Int), .bool false, J 78, J 79, J 80, J 81, J 82, J 83, J 84, J 85, J 86, J 87, J 88], []⟩ ∧ St none' w w_ [bytesA (.slice AI (512 * m) (512 * m)) (List.replicate (512 * m) 0), PDisk g (Dsk.mk0 (List.replicate m zsec)), row g10 #[.int .i64 0, .int .i64 0, .int .i64 0, .int .i64 0, .int .i64 0] 29] ∧ (g_ ≤ 512 * m)) (fun g_ => 512 * m - g_) 0 ⟨(fun i => (#[.int .i64 ((m : Nat) : Int), undef, .bool false, .pointer (some ⟨g, 0, none⟩), .int .i64 0, .pointer (some ⟨g10, 0, none⟩), .slice AI (512 * m) (512 * m), .int .i64 0, .tuple #[.pointer (some ⟨g, 0, none⟩), .int .i64 0], .int .i64 ((m : Nat) : Int), .tuple #[.pointer (some ⟨g, 0, none⟩), .int .i64 0], .pointer (some ⟨g, 0, none⟩), .int .i64 0, .int .i64 ((m : Nat) : Int), .bool false, .bool false, .int .i64 ((m : Nat) : Int), .bool false, .bool false, undef, undef, undef, undef, undef, undef, .pointer (some ⟨g, 0, none⟩), .bool false, .bool false, .int .i64 0, .bool false, .bool false, .bool false, .pointer (some ⟨g, 0, none⟩), .int .i64 ((Dsk.mk0 (List.replicate m zsec)).last.length : Int), .int .i64 ((m : Nat) : Int), .bool false, .bool false, .bool false, .pointer (some ⟨g, 0, none⟩), .bool false, .bool false, .bool false, .pointer (some ⟨g, 0, none⟩), .int .i64 1, .bool false, .bool false, .pointer (some ⟨g, 0, none⟩), .agg #[.int .i64 0, .int .i64 0, .int .i64 0, .int .i64 0, .int .i64 0], .pointer (some ⟨g10, 0, none⟩), .int .i64 0, .bool false, .bool false, .pointer (some ⟨g10, 1, none⟩), .int .i64 0, .bool false, .bool false, .bool false, .pointer (some ⟨g10, 2, none⟩), .int .i64 0, .bool false, .bool false, .bool false, .pointer (some ⟨g10, 3, none⟩), .int .i64 0, .bool false, .bool false, .bool false, .pointer (some ⟨g10, 4, none⟩), .int .i64 0, .bool false, .bool false, .pointer (some ⟨g, 0, none⟩), .slice AI (512 * m) (512 * m), .slice AI (512 * m) (512 * m), .int .i64 ((512 * m) : Nat), .int .i64 ((m : Nat) : Int), .int .i64 ((512 * m : Nat) : Int), .bool false, undef, undef, undef, undef, undef, undef, undef, undef, undef, undef, undef] : Array Value).getD i undef), by kernel_rfl, S23', (Nat.zero_le _)⟩ ?_
  rintro k a_ w25 ⟨J, rfl, S26, hI27⟩
  skip
  have S26 : St none' w w25 [bytesA (.slice AI (512 * m) (512 * m)) (List.replicate (512 * m) 0), PDisk g (Dsk.mk0 (List.replicate m zsec)), row g10 #[.int .i64 0, .int .i64 0, .int .i64 0, .int .i64 0, .int .i64 0] 29] := S26
  have hI27 : (k ≤ 512 * m) := hI27
  refine wp_seq ?_
  refine wp_seq ?_
  refine wp_region_lit ?_
  refine wl_gv rfl (gv_val (v := .int .i64 ((k : Nat) : Int)) (w' := w25) (by kernel_rfl) ?_)
  refine wl_gv rfl (gv_val (v := .slice AI (512 * m) (512 * m)) (w' := w25) (by kernel_rfl) ?_)
  refine wl_gv rfl (gv_val (v := .int .i64 ((512 * m) : Nat)) (w' := w25) (by kernel_rfl) ?_)
  refine wl_gv rfl (gv_dec (p := (((k : Nat) : Int) : Int) < ((512 * m) : Nat)) (by kernel_rfl) (fun hb28 => ?_) (fun hb28 => ?_))
  · skip
    have hk : k < 512 * m := by omega
    have hrd := St.bytes_rdb S26 0 rfl
    obtain ⟨ada, rfl⟩ := hrd.at (k := k) (by rw [List.length_replicate]; exact hk)
    refine wl_end ⟨#[.int .i64 ((m : Nat) : Int), undef, J 2, .pointer (some ⟨g, 0, none⟩), .int .i64 0, .pointer (some ⟨g10, 0, none⟩), .slice (some ada) (512 * m) (512 * m), .int .i64 ((k : Nat) : Int), .tuple #[.pointer (some ⟨g, 0, none⟩), .int .i64 0], .int .i64 ((m : Nat) : Int), .tuple #[.pointer (some ⟨g, 0, none⟩), .int .i64 0], .pointer (some ⟨g, 0, none⟩), .int .i64 0, .int .i64 ((m : Nat) : Int), .bool false, .bool false, .int .i64 ((m : Nat) : Int), .bool false, .bool false, undef, undef, undef, undef, undef, undef, .pointer (some ⟨g, 0, none⟩), .bool false, .bool false, .int .i64 0, .bool false, .bool false, .bool false, .pointer (some ⟨g, 0, none⟩), .int .i64 ((Dsk.mk0 (List.replicate m zsec)).last.length : Int), .int .i64 ((m : Nat) : Int), .bool false, .bool false, .bool false, .pointer (some ⟨g, 0, none⟩), .bool false, .bool false, .bool false, .pointer (some ⟨g, 0, none⟩), .int .i64 1, .bool false, .bool false, .pointer (some ⟨g, 0, none⟩), .agg #[.int .i64 0, .int .i64 0, .int .i64 0, .int .i64 0, .int .i64 0], .pointer (some ⟨g10, 0, none⟩), .int .i64 0, .bool false, .bool false, .pointer (some ⟨g10, 1, none⟩), .int .i64 0, .bool false, .bool false, .bool false, .pointer (some ⟨g10, 2, none⟩), .int .i64 0, .bool false, .bool false, .bool false, .pointer (some ⟨g10, 3, none⟩), .int .i64 0, .bool false, .bool false, .bool false, .pointer (some ⟨g10, 4, none⟩), .int .i64 0, .bool false, .bool false, .pointer (some ⟨g, 0, none⟩), .slice (some ada) (512 * m) (512 * m), .slice (some ada) (512 * m) (512 * m), .int .i64 ((512 * m) : Nat), .int .i64 ((m : Nat) : Int), .int .i64 ((512 * m : Nat) : Int), .bool false, .int .i64 ((k : Nat) : Int), .slice (some ada) (512 * m) (512 * m), .int .i64 ((512 * m) : Nat), .bool true, J 82, J 83, J 84, J 85, J 86, J 87, J 88], []⟩ (by kernel_rfl) ?_
    refine then_n ?_
    refine wp_cond_true (by kernel_rfl) ?_
    refine wp_skip ?_
    refine then_n ?_
    refine wp_seq ?_
    refine wp_block ?_
    refine wp_seq ?_
    refine wp_region_lit ?_
    refine wl_gv rfl (gv_val (v := .slice (some ada) (512 * m) (512 * m)) (w' := w25) (by kernel_rfl) ?_)
    refine wl_gv rfl (gv_val (v := .int .i64 ((k : Nat) : Int)) (w' := w25) (by kernel_rfl) ?_)
    refine wl_gv rfl (gv_ixB (e := 5) (sz := 1) (n := (512 * m)) (c := (512 * m)) (i := ((k : Nat) : Int)) (k := .i64) (ad := ada) (ad' := (ada.add k)) (j := k) rfl (by kernel_rfl) (by kernel_rfl) (by kernel_rfl) (by kernel_rfl) rfl hk (by rw [Nat.mul_one]) ?_)
    refine wl_gv rfl (gv_ldR (v := .int .u8 0) rfl (by kernel_rfl) (by kernel_rfl) ((hrd.cell (k := k) (by rw [List.length_replicate]; exact hk)).trans (by rw [List.getD_eq_getElem?_getD, List.getElem?_replicate, if_pos hk]; rfl)) ?_)
    refine wl_gv rfl (gv_ne (x := 0) (y := 0) (by kernel_rfl) (fun hd29 => False.elim (by omega)) (fun _ => ?_))
    refine wl_end ⟨#[.int .i64 ((m : Nat) : Int), undef, J 2, .pointer (some ⟨g, 0, none⟩), .int .i64 0, .pointer (some ⟨g10, 0, none⟩), .slice (some ada) (512 * m) (512 * m), .int .i64 ((k : Nat) : Int), .tuple #[.pointer (some ⟨g, 0, none⟩), .int .i64 0], .int .i64 ((m : Nat) : Int), .tuple #[.pointer (some ⟨g, 0, none⟩), .int .i64 0], .pointer (some ⟨g, 0, none⟩), .int .i64 0, .int .i64 ((m : Nat) : Int), .bool false, .bool false, .int .i64 ((m : Nat) : Int), .bool false, .bool false, undef, undef, undef, undef, undef, undef, .pointer (some ⟨g, 0, none⟩), .bool false, .bool false, .int .i64 0, .bool false, .bool false, .bool false, .pointer (some ⟨g, 0, none⟩), .int .i64 ((Dsk.mk0 (List.replicate m zsec)).last.length : Int), .int .i64 ((m : Nat) : Int), .bool false, .bool false, .bool false, .pointer (some ⟨g, 0, none⟩), .bool false, .bool false, .bool false, .pointer (some ⟨g, 0, none⟩), .int .i64 1, .bool false, .bool false, .pointer (some ⟨g, 0, none⟩), .agg #[.int .i64 0, .int .i64 0, .int .i64 0, .int .i64 0, .int .i64 0], .pointer (some ⟨g10, 0, none⟩), .int .i64 0, .bool false, .bool false, .pointer (some ⟨g10, 1, none⟩), .int .i64 0, .bool false, .bool false, .bool false, .pointer (some ⟨g10, 2, none⟩), .int .i64 0, .bool false, .bool false, .bool false, .pointer (some ⟨g10, 3, none⟩), .int .i64 0, .bool false, .bool false, .bool false, .pointer (some ⟨g10, 4, none⟩), .int .i64 0, .bool false, .bool false, .pointer (some ⟨g, 0, none⟩), .slice (some ada) (512 * m) (512 * m), .slice (some ada) (512 * m) (512 * m), .int .i64 ((512 * m) : Nat), .int .i64 ((m : Nat) : Int), .int .i64 ((512 * m : Nat) : Int), .bool false, .int .i64 ((k : Nat) : Int), .slice (some ada) (512 * m) (512 * m), .int .i64 ((512 * m) : Nat), .bool true, J 82, J 83, .slice (some ada) (512 * m) (512 * m), .int .i64 ((k : Nat) : Int), .pointer (some (ada.add k)), .int .u8 0, .bool false], []⟩ (by kernel_rfl) ?_
    refine then_n ?_
    refine wp_cond_false (by kernel_rfl) ?_
    refine wp_skip ?_
    refine inb_n ?_
    refine then_n ?_
    refine wp_region_lit ?_
    refine wl_gv rfl (gv_val (v := .int .i64 ((k : Nat) : Int)) (w' := w25) (by kernel_rfl) ?_)
    refine wl_gv rfl (gv_int (k := .i64) (z := IntKind.i64.wrap (((k : Nat) : Int) + 1)) (z' := ((k : Nat) : Int) + 1) (by kernel_rfl) (wr_ok (by omega) (by omega)) ?_)
    refine wl_gv rfl (gv_val (v := .int .i64 (((k : Nat) : Int) + 1)) (w' := w25) (by kernel_rfl) ?_)
    refine wl_end ⟨#[.int .i64 ((m : Nat) : Int), undef, J 2, .pointer (some ⟨g, 0, none⟩), .int .i64 0, .pointer (some ⟨g10, 0, none⟩), .slice (some ada) (512 * m) (512 * m), .int .i64 (((k : Nat) : Int) + 1), .tuple #[.pointer (some ⟨g, 0, none⟩), .int .i64 0], .int .i64 ((m : Nat) : Int), .tuple #[.pointer (some ⟨g, 0, none⟩), .int .i64 0], .pointer (some ⟨g, 0, none⟩), .int .i64 0, .int .i64 ((m : Nat) : Int), .bool false, .bool false, .int .i64 ((m : Nat) : Int), .bool false, .bool false, undef, undef, undef, undef, undef, undef, .pointer (some ⟨g, 0, none⟩), .bool false, .bool false, .int .i64 0, .bool false, .bool false, .bool false, .pointer (some ⟨g, 0, none⟩), .int .i64 ((Dsk.mk0 (List.replicate m zsec)).last.length : Int), .int .i64 ((m : Nat) : Int), .bool false, .bool false, .bool false, .pointer (some ⟨g, 0, none⟩), .bool false, .bool false, .bool false, .pointer (some ⟨g, 0, none⟩), .int .i64 1, .bool false, .bool false, .pointer (some ⟨g, 0, none⟩), .agg #[.int .i64 0, .int .i64 0, .int .i64 0, .int .i64 0, .int .i64 0], .pointer (some ⟨g10, 0, none⟩), .int .i64 0, .bool false, .bool false, .pointer (some ⟨g10, 1, none⟩), .int .i64 0, .bool false, .bool false, .bool false, .pointer (some ⟨g10, 2, none⟩), .int .i64 0, .bool false, .bool false, .bool false, .pointer (some ⟨g10, 3, none⟩), .int .i64 0, .bool false, .bool false, .bool false, .pointer (some ⟨g10, 4, none⟩), .int .i64 0, .bool false, .bool false, .pointer (some ⟨g, 0, none⟩), .slice (some ada) (512 * m) (512 * m), .slice (some ada) (512 * m) (512 * m), .int .i64 ((512 * m) : Nat), .int .i64 ((m : Nat) : Int), .int .i64 ((512 * m : Nat) : Int), .bool false, .int .i64 ((k : Nat) : Int), .slice (some ada) (512 * m) (512 * m), .int .i64 ((512 * m) : Nat), .bool true, .int .i64 ((k : Nat) : Int), .int .i64 (((k : Nat) : Int) + 1), .slice (some ada) (512 * m) (512 * m), .int .i64 ((k : Nat) : Int), .pointer (some (ada.add k)), .int .u8 0, .bool false], []⟩ (by kernel_rfl) ?_
    refine then_n ?_
    exact ⟨k + 1, ⟨(fun i => (#[.int .i64 ((m : Nat) : Int), undef, J 2, .pointer (some ⟨g, 0, none⟩), .int .i64 0, .pointer (some ⟨g10, 0, none⟩), .slice (some ada) (512 * m) (512 * m), .int .i64 (((k : Nat) : Int) + 1), .tuple #[.pointer (some ⟨g, 0, none⟩), .int .i64 0], .int .i64 ((m : Nat) : Int), .tuple #[.pointer (some ⟨g, 0, none⟩), .int .i64 0], .pointer (some ⟨g, 0, none⟩), .int .i64 0, .int .i64 ((m : Nat) : Int), .bool false, .bool false, .int .i64 ((m : Nat) : Int), .bool false, .bool false, undef, undef, undef, undef, undef, undef, .pointer (some ⟨g, 0, none⟩), .bool false, .bool false, .int .i64 0, .bool false, .bool false, .bool false, .pointer (some ⟨g, 0, none⟩), .int .i64 ((Dsk.mk0 (List.replicate m zsec)).last.length : Int), .int .i64 ((m : Nat) : Int), .bool false, .bool false, .bool false, .pointer (some ⟨g, 0, none⟩), .bool false, .bool false, .bool false, .pointer (some ⟨g, 0, none⟩), .int .i64 1, .bool false, .bool false, .pointer (some ⟨g, 0, none⟩), .agg #[.int .i64 0, .int .i64 0, .int .i64 0, .int .i64 0, .int .i64 0], .pointer (some ⟨g10, 0, none⟩), .int .i64 0, .bool false, .bool false, .pointer (some ⟨g10, 1, none⟩), .int .i64 0, .bool false, .bool false, .bool false, .pointer (some ⟨g10, 2, none⟩), .int .i64 0, .bool false, .bool false, .bool false, .pointer (some ⟨g10, 3, none⟩), .int .i64 0, .bool false, .bool false, .bool false, .pointer (some ⟨g10, 4, none⟩), .int .i64 0, .bool false, .bool false, .pointer (some ⟨g, 0, none⟩), .slice (some ada) (512 * m) (512 * m), .slice (some ada) (512 * m) (512 * m), .int .i64 ((512 * m) : Nat), .int .i64 ((m : Nat) : Int), .int .i64 ((512 * m : Nat) : Int), .bool false, .int .i64 ((k : Nat) : Int), .slice (some ada) (512 * m) (512 * m), .int .i64 ((512 * m) : Nat), .bool true, .int .i64 ((k : Nat) : Int), .int .i64 (((k : Nat) : Int) + 1), .slice (some ada) (512 * m) (512 * m), .int .i64 ((k : Nat) : Int), .pointer (some (ada.add k)), .int .u8 0, .bool false] : Array Value).getD i undef), by kernel_rfl, S26, (by omega)⟩, (by show 512 * m - (k + 1) < 512 * m - k; omega)⟩
  · skip
    refine wl_end ⟨#[.int .i64 ((m : Nat) : Int), undef, J 2, .pointer (some ⟨g, 0, none⟩), .int .i64 0, .pointer (some ⟨g10, 0, none⟩), .slice AI (512 * m) (512 * m), .int .i64 ((k : Nat) : Int), .tuple #[.pointer (some ⟨g, 0, none⟩), .int .i64 0], .int .i64 ((m : Nat) : Int), .tuple #[.pointer (some ⟨g, 0, none⟩), .int .i64 0], .pointer (some ⟨g, 0, none⟩), .int .i64 0, .int .i64 ((m : Nat) : Int), .bool false, .bool false, .int .i64 ((m : Nat) : Int), .bool false, .bool false, undef, undef, undef, undef, undef, undef, .pointer (some ⟨g, 0, none⟩), .bool false, .bool false, .int .i64 0, .bool false, .bool false, .bool false, .pointer (some ⟨g, 0, none⟩), .int .i64 ((Dsk.mk0 (List.replicate m zsec)).last.length : Int), .int .i64 ((m : Nat) : Int), .bool false, .bool false, .bool false, .pointer (some ⟨g, 0, none⟩), .bool false, .bool false, .bool false, .pointer (some ⟨g, 0, none⟩), .int .i64 1, .bool false, .bool false, .pointer (some ⟨g, 0, none⟩), .agg #[.int .i64 0, .int .i64 0, .int .i64 0, .int .i64 0, .int .i64 0], .pointer (some ⟨g10, 0, none⟩), .int .i64 0, .bool false, .bool false, .pointer (some ⟨g10, 1, none⟩), .int .i64 0, .bool false, .bool false, .bool false, .pointer (some ⟨g10, 2, none⟩), .int .i64 0, .bool false, .bool false, .bool false, .pointer (some ⟨g10, 3, none⟩), .int .i64 0, .bool false, .bool false, .bool false, .pointer (some ⟨g10, 4, none⟩), .int .i64 0, .bool false, .bool false, .pointer (some ⟨g, 0, none⟩), .slice AI (512 * m) (512 * m), .slice AI (512 * m) (512 * m), .int .i64 ((512 * m) : Nat), .int .i64 ((m : Nat) : Int), .int .i64 ((512 * m : Nat) : Int), .bool false, .int .i64 ((k : Nat) : Int), .slice AI (512 * m) (512 * m), .int .i64 ((512 * m) : Nat), .bool false, J 82, J 83, J 84, J 85, J 86, J 87, J 88], []⟩ (by kernel_rfl) ?_
    refine then_n ?_
    refine wp_cond_false (by kernel_rfl) ?_
    refine wp_exit ?_
    refine then_x ?_
    refine then_x ?_
    refine inb_x ?_
    refine then_n ?_
    refine wp_seq ?_
    refine wp_region_lit ?_
    refine wl_gv rfl (gv_val (v := .bool true) (w' := w25) (by kernel_rfl) ?_)
    refine wl_end ⟨#[.int .i64 ((m : Nat) : Int), undef, .bool true, .pointer (some ⟨g, 0, none⟩), .int .i64 0, .pointer (some ⟨g10, 0, none⟩), .slice AI (512 * m) (512 * m), .int .i64 ((k : Nat) : Int), .tuple #[.pointer (some ⟨g, 0, none⟩), .int .i64 0], .int .i64 ((m : Nat) : Int), .tuple #[.pointer (some ⟨g, 0, none⟩), .int .i64 0], .pointer (some ⟨g, 0, none⟩), .int .i64 0, .int .i64 ((m : Nat) : Int), .bool false, .bool false, .int .i64 ((m : Nat) : Int), .bool false, .bool false, undef, undef, undef, undef, undef, undef, .pointer (some ⟨g, 0, none⟩), .bool false, .bool false, .int .i64 0, .bool false, .bool false, .bool false, .pointer (some ⟨g, 0, none⟩), .int .i64 ((Dsk.mk0 (List.replicate m zsec)).last.length : Int), .int .i64 ((m : Nat) : Int), .bool false, .bool false, .bool false, .pointer (some ⟨g, 0, none⟩), .bool false, .bool false, .bool false, .pointer (some ⟨g, 0, none⟩), .int .i64 1, .bool false, .bool false, .pointer (some ⟨g, 0, none⟩), .agg #[.int .i64 0, .int .i64 0, .int .i64 0, .int .i64 0, .int .i64 0], .pointer (some ⟨g10, 0, none⟩), .int .i64 0, .bool false, .bool false, .pointer (some ⟨g10, 1, none⟩), .int .i64 0, .bool false, .bool false, .bool false, .pointer (some ⟨g10, 2, none⟩), .int .i64 0, .bool false, .bool false, .bool false, .pointer (some ⟨g10, 3, none⟩), .int .i64 0, .bool false, .bool false, .bool false, .pointer (some ⟨g10, 4, none⟩), .int .i64 0, .bool false, .bool false, .pointer (some ⟨g, 0, none⟩), .slice AI (512 * m) (512 * m), .slice AI (512 * m) (512 * m), .int .i64 ((512 * m) : Nat), .int .i64 ((m : Nat) : Int), .int .i64 ((512 * m : Nat) : Int), .bool false, .int .i64 ((k : Nat) : Int), .slice AI (512 * m) (512 * m), .int .i64 ((512 * m) : Nat), .bool false, J 82, J 83, J 84, J 85, J 86, J 87, J 88], []⟩ (by kernel_rfl) ?_
    refine then_n ?_
    refine wp_ret ?_
    refine bodyPost_ret (v := .bool true) (results_t1 rfl (by kernel_rfl)) rfl ?_
    exact ⟨rfl, S26.fr.below⟩
theorem diskLoad_odd (w : World) {A : Option Addr} {l : List UInt8} {ca : Nat} (hr : RdB w A l) (hlm : l.length ≤ 140737488351232) (hc : l.length ≤ ca) (ho : l.length % 512 ≠ 0) : Calls Try.prog 4 #[.slice A l.length ca] w fun e w' => e = .returned (.bool true) ∧ Below w.heap.size w w' := by
  have hR : ∀ L, RoT none' w L A l := fun L => (Ro.of_C hr (fun _ h => h)).T
  have S0 : St none' w w [] := St.init none' w
  refine wp_enter ⟨#[.slice A l.length ca, undef, undef, undef, undef, undef, undef, undef, undef, undef, undef, undef, undef, undef, undef, undef, undef, undef, undef, undef, undef, undef, undef, undef, undef, undef, undef, undef, undef, undef, undef, undef, undef, undef, undef, undef, undef, undef, undef, undef, undef, undef, undef, undef, undef, undef, undef, undef, undef, undef, undef, undef, undef, undef, undef, undef, undef, undef, undef, undef, undef, undef, undef, undef, undef, undef, undef, undef, undef, undef, undef, undef, undef, undef, undef, undef, undef, undef, undef, undef, undef, undef, undef, undef, undef, undef, undef, undef, undef, undef, undef, undef, undef], []⟩ Try.func4 rfl (by kernel_rfl) ?_
  refine wp_seq ?_
  refine wp_region_lit ?_
  refine wl_gv rfl (gv_val (v := .bool false) (w' := w) (by kernel_rfl) ?_)
  refine wl_end ⟨#[.slice A l.length ca, undef, .bool false, undef, undef, undef, undef, undef, undef, undef, undef, undef, undef, undef, undef, undef, undef, undef, undef, undef, undef, undef, undef, undef, undef, undef, undef, undef, undef, undef, undef, undef, undef, undef, undef, undef, undef, undef, undef, undef, undef, undef, undef, undef, undef, undef, undef, undef, undef, undef, undef, undef, undef, undef, undef, undef, undef, undef, undef, undef, undef, undef, undef, undef, undef, undef, undef, undef, undef, undef, undef, undef, undef, undef, undef, undef, undef, undef, undef, undef, undef, undef, undef, undef, undef, undef, undef, undef, undef, undef, undef, undef, undef], []⟩ (by kernel_rfl) ?_
  refine then_n ?_
  refine wp_seq ?_
  refine wp_region_lit ?_
  refine wl_gv rfl (gv_val (v := .slice A l.length ca) (w' := w) (by kernel_rfl) ?_)
  refine wl_gv rfl (gv_call (args := #[.slice A l.length ca]) rfl Try.func27 (by kernel_rfl) rfl rfl (by kernel_rfl) ?_)
  refine Calls.mono (twin_spec S0 (hR _) (by omega)) ?_
  rintro _ w1 ⟨v, rfl, S2⟩
  obtain ⟨AT, rfl, S2'⟩ := St.bytes_eq S2
  refine ⟨_, rfl, ?_⟩
  refine wl_gv rfl (gv_call (args := #[.slice AT l.length l.length]) rfl Try.func26 (by kernel_rfl) rfl rfl (by kernel_rfl) ?_)
  refine Calls.mono (pd_load_odd S2' (RoT.bytes 0 rfl rfl) (by omega) ho) ?_
  rintro _ w3 ⟨rfl, S4⟩
  refine ⟨_, rfl, ?_⟩
  refine wl_gv rfl (gv_val (v := .tuple #[.pointer none, .int .i64 2]) (w' := w3) (by kernel_rfl) ?_)
  refine wl_gv rfl (gv_val (v := .pointer none) (w' := w3) (by kernel_rfl) ?_)
  refine wl_gv rfl (gv_val (v := .int .i64 2) (w' := w3) (by kernel_rfl) ?_)
  refine wl_gv rfl (gv_val (v := .pointer none) (w' := w3) (by kernel_rfl) ?_)
  refine wl_gv rfl (gv_val (v := .int .i64 2) (w' := w3) (by kernel_rfl) ?_)
  refine wl_end ⟨#[.slice A l.length ca, undef, .bool false, .pointer none, .int .i64 2, undef, undef, undef, undef, undef, .tuple #[.pointer none, .int .i64 2], .slice A l.length ca, .slice AT l.length l.length, .tuple #[.pointer none, .int .i64 2], .pointer none, .int .i64 2, undef, undef, undef, undef, undef, undef, undef, undef, undef, undef, undef, undef, undef, undef, undef, undef, undef, undef, undef, undef, undef, undef, undef, undef, undef, undef, undef, undef, undef, undef, undef, undef, undef, undef, undef, undef, undef, undef, undef, undef, undef, undef, undef, undef, undef, undef, undef, undef, undef, undef, undef, undef, undef, undef, undef, undef, undef, undef, undef, undef, undef, undef, undef, undef, undef, undef, undef, undef, undef, undef, undef, undef, undef, undef, undef, undef, undef], []⟩ (by kernel_rfl) ?_
  refine then_n ?_
  refine wp_seq ?_
  refine wp_seq ?_
  refine wp_region_lit ?_
  refine wl_gv rfl (gv_val (v := .slice A l.length ca) (w' := w3) (by kernel_rfl) ?_)
  refine wl_gv rfl (gv_val (v := .int .i64 (l.length : Nat)) (w' := w3) (by kernel_rfl) ?_)
  refine wl_gv rfl (gv_int (k := .i64) (z := Int.tmod (l.length : Nat) 512) (z' := ((l.length % 512 : Nat) : Int)) (by kernel_rfl) (by rw [Int.tmod_eq_emod_of_nonneg (by omega)]; omega) ?_)
  refine wl_gv rfl (gv_ne (x := ((l.length % 512 : Nat) : Int)) (y := 0) (by kernel_rfl) (fun _ => ?_) (fun hd5 => False.elim (by omega)))
  refine wl_end ⟨#[.slice A l.length ca, undef, .bool false, .pointer none, .int .i64 2, undef, undef, undef, undef, undef, .tuple #[.pointer none, .int .i64 2], .slice A l.length ca, .slice AT l.length l.length, .tuple #[.pointer none, .int .i64 2], .pointer none, .int .i64 2, .slice A l.length ca, .int .i64 (l.length : Nat), .int .i64 ((l.length % 512 : Nat) : Int), .bool true, undef, undef, undef, undef, undef, undef, undef, undef, undef, undef, undef, undef, undef, undef, undef, undef, undef, undef, undef, undef, undef, undef, undef, undef, undef, undef, undef, undef, undef, undef, undef, undef, undef, undef, undef, undef, undef, undef, undef, undef, undef, undef, undef, undef, undef, undef, undef, undef, undef, undef, undef, undef, undef, undef, undef, undef, undef, undef, undef, undef, undef, undef, undef, undef, undef, undef, undef, undef, undef, undef, undef, undef, undef], []⟩ (by kernel_rfl) ?_
  refine then_n ?_
  refine wp_cond_true (by kernel_rfl) ?_
  refine wp_seq ?_
  refine wp_region_lit ?_
  refine wl_gv rfl (gv_val (v := .pointer none) (w' := w3) (by kernel_rfl) ?_)
  refine wl_gv rfl (gv_val (v := .bool true) (w' := w3) (by kernel_rfl) ?_)
  refine wl_gv rfl (gv_val (v := .bool true) (w' := w3) (by kernel_rfl) ?_)
  refine wl_when (by kernel_rfl) (gv_val (v := .int .i64 2) (w' := w3) (by kernel_rfl) ?_)
  refine wl_when (by kernel_rfl) (gv_eq (x := 2) (y := 2) (by kernel_rfl) (fun _ => ?_) (fun hd6 => False.elim (by omega)))
  refine wl_gv rfl (gv_val (v := .bool true) (w' := w3) (by kernel_rfl) ?_)
  refine wl_gv rfl (gv_val (v := .bool true) (w' := w3) (by kernel_rfl) ?_)
  refine wl_end ⟨#[.slice A l.length ca, undef, .bool true, .pointer none, .int .i64 2, undef, undef, undef, undef, undef, .tuple #[.pointer none, .int .i64 2], .slice A l.length ca, .slice AT l.length l.length, .tuple #[.pointer none, .int .i64 2], .pointer none, .int .i64 2, .slice A l.length ca, .int .i64 (l.length : Nat), .int .i64 ((l.length % 512 : Nat) : Int), .bool true, .pointer none, .bool true, .bool true, .int .i64 2, .bool true, .bool true, undef, undef, undef, undef, undef, undef, undef, undef, undef, undef, undef, undef, undef, undef, undef, undef, undef, undef, undef, undef, undef, undef, undef, undef, undef, undef, undef, undef, undef, undef, undef, undef, undef, undef, undef, undef, undef, undef, undef, undef, undef, undef, undef, undef, undef, undef, undef, undef, undef, undef, undef, undef, undef, undef, undef, undef, undef, undef, undef, undef, undef, undef, undef, undef, undef, undef, undef], []⟩ (by kernel_rfl) ?_
  refine then_n ?_
  refine wp_ret ?_
  refine then_r ?_
  refine bodyPost_ret (v := .bool true) (results_t1 rfl (by kernel_rfl)) rfl ?_
  exact ⟨rfl, S4.fr.below⟩
theorem diskLoad_bad (w : World) {A : Option Addr} {l : List UInt8} {ca : Nat} (hr : RdB w A l) (hlm : l.length ≤ 140737488351232) (hc : l.length ≤ ca) (ho : l.length % 512 = 0) (hb : l.length / 512 < 1 ∨ 2048 < l.length / 512) : Calls Try.prog 4 #[.slice A l.length ca] w fun e w' => e = .returned (.bool true) ∧ Below w.heap.size w w' := by
  have hR : ∀ L, RoT none' w L A l := fun L => (Ro.of_C hr (fun _ h => h)).T
  have S0 : St none' w w [] := St.init none' w
  refine wp_enter ⟨#[.slice A l.length ca, undef, undef, undef, undef, undef, undef, undef, undef, undef, undef, undef, undef, undef, undef, undef, undef, undef, undef, undef, undef, undef, undef, undef, undef, undef, undef, undef, undef, undef, undef, undef, undef, undef, undef, undef, undef, undef, undef, undef, undef, undef, undef, undef, undef, undef, undef, undef, undef, undef, undef, undef, undef, undef, undef, undef, undef, undef, undef, undef, undef, undef, undef, undef, undef, undef, undef, undef, undef, undef, undef, undef, undef, undef, undef, undef, undef, undef, undef, undef, undef, undef, undef, undef, undef, undef, undef, undef, undef, undef, undef, undef, undef], []⟩ Try.func4 rfl (by kernel_rfl) ?_
  refine wp_seq ?_
  refine wp_region_lit ?_
  refine wl_gv rfl (gv_val (v := .bool false) (w' := w) (by kernel_rfl) ?_)
  refine wl_end ⟨#[.slice A l.length ca, undef, .bool false, undef, undef, undef, undef, undef, undef, undef, undef, undef, undef, undef, undef, undef, undef, undef, undef, undef, undef, undef, undef, undef, undef, undef, undef, undef, undef, undef, undef, undef, undef, undef, undef, undef, undef, undef, undef, undef, undef, undef, undef, undef, undef, undef, undef, undef, undef, undef, undef, undef, undef, undef, undef, undef, undef, undef, undef, undef, undef, undef, undef, undef, undef, undef, undef, undef, undef, undef, undef, undef, undef, undef, undef, undef, undef, undef, undef, undef, undef, undef, undef, undef, undef, undef, undef, undef, undef, undef, undef, undef, undef], []⟩ (by kernel_rfl) ?_
  refine then_n ?_
  refine wp_seq ?_
  refine wp_region_lit ?_
  refine wl_gv rfl (gv_val (v := .slice A l.length ca) (w' := w) (by kernel_rfl) ?_)
  refine wl_gv rfl (gv_call (args := #[.slice A l.length ca]) rfl Try.func27 (by kernel_rfl) rfl rfl (by kernel_rfl) ?_)
  refine Calls.mono (twin_spec S0 (hR _) (by omega)) ?_
  rintro _ w1 ⟨v, rfl, S2⟩
  obtain ⟨AT, rfl, S2'⟩ := St.bytes_eq S2
  refine ⟨_, rfl, ?_⟩
  refine wl_gv rfl (gv_call (args := #[.slice AT l.length l.length]) rfl Try.func26 (by kernel_rfl) rfl rfl (by kernel_rfl) ?_)
  refine Calls.mono (pd_load_bad S2' (RoT.bytes 0 rfl rfl) (by omega) ho hb) ?_
  rintro _ w3 ⟨rfl, S4⟩
  refine ⟨_, rfl, ?_⟩
  refine wl_gv rfl (gv_val (v := .tuple #[.pointer none, .int .i64 10]) (w' := w3) (by kernel_rfl) ?_)
  refine wl_gv rfl (gv_val (v := .pointer none) (w' := w3) (by kernel_rfl) ?_)
  refine wl_gv rfl (gv_val (v := .int .i64 10) (w' := w3) (by kernel_rfl) ?_)
  refine wl_gv rfl (gv_val (v := .pointer none) (w' := w3) (by kernel_rfl) ?_)
  refine wl_gv rfl (gv_val (v := .int .i64 10) (w' := w3) (by kernel_rfl) ?_)
  refine wl_end ⟨#[.slice A l.length ca, undef, .bool false, .pointer none, .int .i64 10, undef, undef, undef, undef, undef, .tuple #[.pointer none, .int .i64 10], .slice A l.length ca, .slice AT l.length l.length, .tuple #[.pointer none, .int .i64 10], .pointer none, .int .i64 10, undef, undef, undef, undef, undef, undef, undef, undef, undef, undef, undef, undef, undef, undef, undef, undef, undef, undef, undef, undef, undef, undef, undef, undef, undef, undef, undef, undef, undef, undef, undef, undef, undef, undef, undef, undef, undef, undef, undef, undef, undef, undef, undef, undef, undef, undef, undef, undef, undef, undef, undef, undef, undef, undef, undef, undef, undef, undef, undef, undef, undef, undef, undef, undef, undef, undef, undef, undef, undef, undef, undef, undef, undef, undef, undef, undef, undef], []⟩ (by kernel_rfl) ?_
  refine then_n ?_
  refine wp_seq ?_
  refine wp_seq ?_
  refine wp_region_lit ?_
  refine wl_gv rfl (gv_val (v := .slice A l.length ca) (w' := w3) (by kernel_rfl) ?_)
  refine wl_gv rfl (gv_val (v := .int .i64 (l.length : Nat)) (w' := w3) (by kernel_rfl) ?_)
  refine wl_gv rfl (gv_int (k := .i64) (z := Int.tmod (l.length : Nat) 512) (z' := ((l.length % 512 : Nat) : Int)) (by kernel_rfl) (by rw [Int.tmod_eq_emod_of_nonneg (by omega)]; omega) ?_)
  refine wl_gv rfl (gv_ne (x := ((l.length % 512 : Nat) : Int)) (y := 0) (by kernel_rfl) (fun hd5 => False.elim (by omega)) (fun _ => ?_))
  refine wl_end ⟨#[.slice A l.length ca, undef, .bool false, .pointer none, .int .i64 10, undef, undef, undef, undef, undef, .tuple #[.pointer none, .int .i64 10], .slice A l.length ca, .slice AT l.length l.length, .tuple #[.pointer none, .int .i64 10], .pointer none, .int .i64 10, .slice A l.length ca, .int .i64 (l.length : Nat), .int .i64 ((l.length % 512 : Nat) : Int), .bool false, undef, undef, undef, undef, undef, undef, undef, undef, undef, undef, undef, undef, undef, undef, undef, undef, undef, undef, undef, undef, undef, undef, undef, undef, undef, undef, undef, undef, undef, undef, undef, undef, undef, undef, undef, undef, undef, undef, undef, undef, undef, undef, undef, undef, undef, undef, undef, undef, undef, undef, undef, undef, undef, undef, undef, undef, undef, undef, undef, undef, undef, undef, undef, undef, undef, undef, undef, undef, undef, undef, undef, undef, undef], []⟩ (by kernel_rfl) ?_
  refine then_n ?_
  refine wp_cond_false (by kernel_rfl) ?_
  refine wp_skip ?_
  refine then_n ?_
  refine wp_seq ?_
  refine wp_region_lit ?_
  refine wl_gv rfl (gv_val (v := .slice A l.length ca) (w' := w3) (by kernel_rfl) ?_)
  refine wl_gv rfl (gv_val (v := .int .i64 (l.length : Nat)) (w' := w3) (by kernel_rfl) ?_)
  refine wl_gv rfl (gv_int (k := .i64) (z := IntKind.i64.wrap (Int.tdiv (l.length : Nat) 512)) (z' := ((l.length / 512 : Nat) : Int)) (by kernel_rfl) (wr_eq (by rw [Int.tdiv_eq_ediv_of_nonneg (by omega)]; omega) (by omega) (by omega)) ?_)
  refine wl_gv rfl (gv_val (v := .int .i64 ((l.length / 512 : Nat) : Int)) (w' := w3) (by kernel_rfl) ?_)
  refine wl_end ⟨#[.slice A l.length ca, undef, .bool false, .pointer none, .int .i64 10, .int .i64 ((l.length / 512 : Nat) : Int), undef, undef, undef, undef, .tuple #[.pointer none, .int .i64 10], .slice A l.length ca, .slice AT l.length l.length, .tuple #[.pointer none, .int .i64 10], .pointer none, .int .i64 10, .slice A l.length ca, .int .i64 (l.length : Nat), .int .i64 ((l.length % 512 : Nat) : Int), .bool false, undef, undef, undef, undef, undef, undef, .slice A l.length ca, .int .i64 (l.length : Nat), .int .i64 ((l.length / 512 : Nat) : Int), undef, undef, undef, undef, undef, undef, undef, undef, undef, undef, undef, undef, undef, undef, undef, undef, undef, undef, undef, undef, undef, undef, undef, undef, undef, undef, undef, undef, undef, undef, undef, undef, undef, undef, undef, undef, undef, undef, undef, undef, undef, undef, undef, undef, undef, undef, undef, undef, undef, undef, undef, undef, undef, undef, undef, undef, undef, undef, undef, undef, undef, undef, undef, undef], []⟩ (by kernel_rfl) ?_
  refine then_n ?_
  refine wp_seq ?_
  refine wp_seq ?_
  refine wp_region_lit ?_
  refine wl_gv rfl (gv_val (v := .int .i64 ((l.length / 512 : Nat) : Int)) (w' := w3) (by kernel_rfl) ?_)
  refine wl_gv rfl (gv_dec (p := (((l.length / 512 : Nat) : Int) : Int) < 1) (by kernel_rfl) (fun hb6 => ?_) (fun hb6 => ?_))
  · skip
    refine wl_gv rfl (gv_val (v := .bool true) (w' := w3) (by kernel_rfl) ?_)
    refine wl_not (by kernel_rfl) ?_
    refine wl_not (by kernel_rfl) ?_
    refine wl_gv rfl (gv_val (v := .bool true) (w' := w3) (by kernel_rfl) ?_)
    refine wl_end ⟨#[.slice A l.length ca, undef, .bool false, .pointer none, .int .i64 10, .int .i64 ((l.length / 512 : Nat) : Int), undef, undef, undef, undef, .tuple #[.pointer none, .int .i64 10], .slice A l.length ca, .slice AT l.length l.length, .tuple #[.pointer none, .int .i64 10], .pointer none, .int .i64 10, .slice A l.length ca, .int .i64 (l.length : Nat), .int .i64 ((l.length % 512 : Nat) : Int), .bool false, undef, undef, undef, undef, undef, undef, .slice A l.length ca, .int .i64 (l.length : Nat), .int .i64 ((l.length / 512 : Nat) : Int), .int .i64 ((l.length / 512 : Nat) : Int), .bool true, .bool true, undef, undef, .bool true, undef, undef, undef, undef, undef, undef, undef, undef, undef, undef, undef, undef, undef, undef, undef, undef, undef, undef, undef, undef, undef, undef, undef, undef, undef, undef, undef, undef, undef, undef, undef, undef, undef, undef, undef, undef, undef, undef, undef, undef, undef, undef, undef, undef, undef, undef, undef, undef, undef, undef, undef, undef, undef, undef, undef, undef, undef, undef], []⟩ (by kernel_rfl) ?_
    refine then_n ?_
    refine wp_cond_true (by kernel_rfl) ?_
    refine wp_seq ?_
    refine wp_region_lit ?_
    refine wl_gv rfl (gv_val (v := .pointer none) (w' := w3) (by kernel_rfl) ?_)
    refine wl_gv rfl (gv_val (v := .bool true) (w' := w3) (by kernel_rfl) ?_)
    refine wl_gv rfl (gv_val (v := .bool true) (w' := w3) (by kernel_rfl) ?_)
    refine wl_when (by kernel_rfl) (gv_val (v := .int .i64 10) (w' := w3) (by kernel_rfl) ?_)
    refine wl_when (by kernel_rfl) (gv_eq (x := 10) (y := 10) (by kernel_rfl) (fun _ => ?_) (fun hd7 => False.elim (by omega)))
    refine wl_gv rfl (gv_val (v := .bool true) (w' := w3) (by kernel_rfl) ?_)
    refine wl_gv rfl (gv_val (v := .bool true) (w' := w3) (by kernel_rfl) ?_)
    refine wl_end ⟨#[.slice A l.length ca, undef, .bool true, .pointer none, .int .i64 10, .int .i64 ((l.length / 512 : Nat) : Int), undef, undef, undef, undef, .tuple #[.pointer none, .int .i64 10], .slice A l.length ca, .slice AT l.length l.length, .tuple #[.pointer none, .int .i64 10], .pointer none, .int .i64 10, .slice A l.length ca, .int .i64 (l.length : Nat), .int .i64 ((l.length % 512 : Nat) : Int), .bool false, undef, undef, undef, undef, undef, undef, .slice A l.length ca, .int .i64 (l.length : Nat), .int .i64 ((l.length / 512 : Nat) : Int), .int .i64 ((l.length / 512 : Nat) : Int), .bool true, .bool true, undef, undef, .bool true, .pointer none, .bool true, .bool true, .int .i64 10, .bool true, .bool true, undef, undef, undef, undef, undef, undef, undef, undef, undef, undef, undef, undef, undef, undef, undef, undef, undef, undef, undef, undef, undef, undef, undef, undef, undef, undef, undef, undef, undef, undef, undef, undef, undef, undef, undef, undef, undef, undef, undef, undef, undef, undef, undef, undef, undef, undef, undef, undef, undef, undef, undef, undef], []⟩ (by kernel_rfl) ?_
    refine then_n ?_
    refine wp_ret ?_
    refine then_r ?_
    refine bodyPost_ret (v := .bool true) (results_t1 rfl (by kernel_rfl)) rfl ?_
    exact ⟨rfl, S4.fr.below⟩
  · skip
    refine wl_gv rfl (gv_val (v := .bool false) (w' := w3) (by kernel_rfl) ?_)
    refine wl_when (by kernel_rfl) (gv_val (v := .int .i64 ((l.length / 512 : Nat) : Int)) (w' := w3) (by kernel_rfl) ?_)
    refine wl_when (by kernel_rfl) (gv_dec (p := (((l.length / 512 : Nat) : Int) : Int) > 2048) (by kernel_rfl) (fun _ => ?_) (fun hd8 => False.elim (by omega)))
    refine wl_gv rfl (gv_val (v := .bool true) (w' := w3) (by kernel_rfl) ?_)
    refine wl_end ⟨#[.slice A l.length ca, undef, .bool false, .pointer none, .int .i64 10, .int .i64 ((l.length / 512 : Nat) : Int), undef, undef, undef, undef, .tuple #[.pointer none, .int .i64 10], .slice A l.length ca, .slice AT l.length l.length, .tuple #[.pointer none, .int .i64 10], .pointer none, .int .i64 10, .slice A l.length ca, .int .i64 (l.length : Nat), .int .i64 ((l.length % 512 : Nat) : Int), .bool false, undef, undef, undef, undef, undef, undef, .slice A l.length ca, .int .i64 (l.length : Nat), .int .i64 ((l.length / 512 : Nat) : Int), .int .i64 ((l.length / 512 : Nat) : Int), .bool false, .bool false, .int .i64 ((l.length / 512 : Nat) : Int), .bool true, .bool true, undef, undef, undef, undef, undef, undef, undef, undef, undef, undef, undef, undef, undef, undef, undef, undef, undef, undef, undef, undef, undef, undef, undef, undef, undef, undef, undef, undef, undef, undef, undef, undef, undef, undef, undef, undef, undef, undef, undef, undef, undef, undef, undef, undef, undef, undef, undef, undef, undef, undef, undef, undef, undef, undef, undef, undef, undef, undef], []⟩ (by kernel_rfl) ?_
    refine then_n ?_
    refine wp_cond_true (by kernel_rfl) ?_
    refine wp_seq ?_
    refine wp_region_lit ?_
    refine wl_gv rfl (gv_val (v := .pointer none) (w' := w3) (by kernel_rfl) ?_)
    refine wl_gv rfl (gv_val (v := .bool true) (w' := w3) (by kernel_rfl) ?_)
    refine wl_gv rfl (gv_val (v := .bool true) (w' := w3) (by kernel_rfl) ?_)
    refine wl_when (by kernel_rfl) (gv_val (v := .int .i64 10) (w' := w3) (by kernel_rfl) ?_)
    refine wl_when (by kernel_rfl) (gv_eq (x := 10) (y := 10) (by kernel_rfl) (fun _ => ?_) (fun hd9 => False.elim (by omega)))
    refine wl_gv rfl (gv_val (v := .bool true) (w' := w3) (by kernel_rfl) ?_)
    refine wl_gv rfl (gv_val (v := .bool true) (w' := w3) (by kernel_rfl) ?_)
    refine wl_end ⟨#[.slice A l.length ca, undef, .bool true, .pointer none, .int .i64 10, .int .i64 ((l.length / 512 : Nat) : Int), undef, undef, undef, undef, .tuple #[.pointer none, .int .i64 10], .slice A l.length ca, .slice AT l.length l.length, .tuple #[.pointer none, .int .i64 10], .pointer none, .int .i64 10, .slice A l.length ca, .int .i64 (l.length : Nat), .int .i64 ((l.length % 512 : Nat) : Int), .bool false, undef, undef, undef, undef, undef, undef, .slice A l.length ca, .int .i64 (l.length : Nat), .int .i64 ((l.length / 512 : Nat) : Int), .int .i64 ((l.length / 512 : Nat) : Int), .bool false, .bool false, .int .i64 ((l.length / 512 : Nat) : Int), .bool true, .bool true, .pointer none, .bool true, .bool true, .int .i64 10, .bool true, .bool true, undef, undef, undef, undef, undef, undef, undef, undef, undef, undef, undef, undef, undef, undef, undef, undef, undef, undef, undef, undef, undef, undef, undef, undef, undef, undef, undef, undef, undef, undef, undef, undef, undef, undef, undef, undef, undef, undef, undef, undef, undef, undef, undef, undef, undef, undef, undef, undef, undef, undef, undef, undef], []⟩ (by kernel_rfl) ?_
    refine then_n ?_
    refine wp_ret ?_
    refine then_r ?_
    refine bodyPost_ret (v := .bool true) (results_t1 rfl (by kernel_rfl)) rfl ?_
    exact ⟨rfl, S4.fr.below⟩
theorem load_read {l : List UInt8} {m k : Nat} {r : Int} (ho : l.length = 512 * m) (hk : k < m) : Dsk.readR { Dsk.mk0 (secs l m) with rd := r } ((k : Nat) : Int) = ({ Dsk.mk0 (secs l m) with rd := inc r }, (l.drop (512 * k)).take 512, 0) := by
  have hl : (secs l m).length = m := length_secs m l
  have hs := flat_sec (secs_len m l ho) k _ (mem_getD (by rw [hl]; exact hk))
  rw [secs_flat m l ho] at hs
  exact Dsk.readR_ok (s := { Dsk.mk0 (secs l m) with rd := r }) (show ¬ (-1 : Int) = 0 by decide) (show k < (secs l m).length by rw [hl]; exact hk) hs.symm
theorem diskLoad_good (w : World) {A : Option Addr} {l : List UInt8} {ca : Nat} (hr : RdB w A l) (hlm : l.length ≤ 140737488351232) (hc : l.length ≤ ca) {m : Nat} (ho : l.length = 512 * m) (h1 : 1 ≤ m) (h2 : m ≤ 2048) : Calls Try.prog 4 #[.slice A l.length ca] w fun e w' => e = .returned (.bool true) ∧ Below w.heap.size w w' := by
  have hR : ∀ L, RoT none' w L A l := fun L => (Ro.of_C hr (fun _ h => h)).T
  have S0 : St none' w w [] := St.init none' w
  refine wp_enter ⟨#[.slice A l.length ca, undef, undef, undef, undef, undef, undef, undef, undef, undef, undef, undef, undef, undef, undef, undef, undef, undef, undef, undef, undef, undef, undef, undef, undef, undef, undef, undef, undef, undef, undef, undef, undef, undef, undef, undef, undef, undef, undef, undef, undef, undef, undef, undef, undef, undef, undef, undef, undef, undef, undef, undef, undef, undef, undef, undef, undef, undef, undef, undef, undef, undef, undef, undef, undef, undef, undef, undef, undef, undef, undef, undef, undef, undef, undef, undef, undef, undef, undef, undef, undef, undef, undef, undef, undef, undef, undef, undef, undef, undef, undef, undef, undef], []⟩ Try.func4 rfl (by kernel_rfl) ?_
  refine wp_seq ?_
  refine wp_region_lit ?_
  refine wl_gv rfl (gv_val (v := .bool false) (w' := w) (by kernel_rfl) ?_)
  refine wl_end ⟨#[.slice A l.length ca, undef, .bool false, undef, undef, undef, undef, undef, undef, undef, undef, undef, undef, undef, undef, undef, undef, undef, undef, undef, undef, undef, undef, undef, undef, undef, undef, undef, undef, undef, undef, undef, undef, undef, undef, undef, undef, undef, undef, undef, undef, undef, undef, undef, undef, undef, undef, undef, undef, undef, undef, undef, undef, undef, undef, undef, undef, undef, undef, undef, undef, undef, undef, undef, undef, undef, undef, undef, undef, undef, undef, undef, undef, undef, undef, undef, undef, undef, undef, undef, undef, undef, undef, undef, undef, undef, undef, undef, undef, undef, undef, undef, undef], []⟩ (by kernel_rfl) ?_
  refine then_n ?_
  refine wp_seq ?_
  refine wp_region_lit ?_
  refine wl_gv rfl (gv_val (v := .slice A l.length ca) (w' := w) (by kernel_rfl) ?_)
  refine wl_gv rfl (gv_call (args := #[.slice A l.length ca]) rfl Try.func27 (by kernel_rfl) rfl rfl (by kernel_rfl) ?_)
  refine Calls.mono (twin_spec S0 (hR _) (by omega)) ?_
  rintro _ w1 ⟨v, rfl, S2⟩
  obtain ⟨AT, rfl, S2'⟩ := St.bytes_eq S2
  refine ⟨_, rfl, ?_⟩
  refine wl_gv rfl (gv_call (args := #[.slice AT l.length l.length]) rfl Try.func26 (by kernel_rfl) rfl rfl (by kernel_rfl) ?_)
  refine Calls.mono (pd_load (m := m) S2' (RoT.bytes 0 rfl rfl) (by omega) ho h1 h2) ?_
  rintro _ w3 ⟨g, rfl, S4⟩
  refine ⟨_, rfl, ?_⟩
  have hl : (Dsk.mk0 (secs l m)).last.length = m := length_secs m l
  refine wl_gv rfl (gv_val (v := .tuple #[.pointer (some ⟨g, 0, none⟩), .int .i64 0]) (w' := w3) (by kernel_rfl) ?_)
  refine wl_gv rfl (gv_val (v := .pointer (some ⟨g, 0, none⟩)) (w' := w3) (by kernel_rfl) ?_)
  refine wl_gv rfl (gv_val (v := .int .i64 0) (w' := w3) (by kernel_rfl) ?_)
  refine wl_gv rfl (gv_val (v := .pointer (some ⟨g, 0, none⟩)) (w' := w3) (by kernel_rfl) ?_)
  refine wl_gv rfl (gv_val (v := .int .i64 0) (w' := w3) (by kernel_rfl) ?_)
  refine wl_end ⟨#[.slice A l.length ca, undef, .bool false, .pointer (some ⟨g, 0, none⟩), .int .i64 0, undef, undef, undef, undef, undef, .tuple #[.pointer (some ⟨g, 0, none⟩), .int .i64 0], .slice A l.length ca, .slice AT l.length l.length, .tuple #[.pointer (some ⟨g, 0, none⟩), .int .i64 0], .pointer (some ⟨g, 0, none⟩), .int .i64 0, undef, undef, undef, undef, undef, undef, undef, undef, undef, undef, undef, undef, undef, undef, undef, undef, undef, undef, undef, undef, undef, undef, undef, undef, undef, undef, undef, undef, undef, undef, undef, undef, undef, undef, undef, undef, undef, undef, undef, undef, undef, undef, undef, undef, undef, undef, undef, undef, undef, undef, undef, undef, undef, undef, undef, undef, undef, undef, undef, undef, undef, undef, undef, undef, undef, undef, undef, undef, undef, undef, undef, undef, undef, undef, undef, undef, undef], []⟩ (by kernel_rfl) ?_
  refine then_n ?_
  refine wp_seq ?_
  refine wp_seq ?_
  refine wp_region_lit ?_
  refine wl_gv rfl (gv_val (v := .slice A l.length ca) (w' := w3) (by kernel_rfl) ?_)
  refine wl_gv rfl (gv_val (v := .int .i64 (l.length : Nat)) (w' := w3) (by kernel_rfl) ?_)
  refine wl_gv rfl (gv_int (k := .i64) (z := Int.tmod (l.length : Nat) 512) (z' := ((l.length % 512 : Nat) : Int)) (by kernel_rfl) (by rw [Int.tmod_eq_emod_of_nonneg (by omega)]; omega) ?_)
  refine wl_gv rfl (gv_ne (x := ((l.length % 512 : Nat) : Int)) (y := 0) (by kernel_rfl) (fun hd5 => False.elim (by omega)) (fun _ => ?_))
  refine wl_end ⟨#[.slice A l.length ca, undef, .bool false, .pointer (some ⟨g, 0, none⟩), .int .i64 0, undef, undef, undef, undef, undef, .tuple #[.pointer (some ⟨g, 0, none⟩), .int .i64 0], .slice A l.length ca, .slice AT l.length l.length, .tuple #[.pointer (some ⟨g, 0, none⟩), .int .i64 0], .pointer (some ⟨g, 0, none⟩), .int .i64 0, .slice A l.length ca, .int .i64 (l.length : Nat), .int .i64 ((l.length % 512 : Nat) : Int), .bool false, undef, undef, undef, undef, undef, undef, undef, undef, undef, undef, undef, undef, undef, undef, undef, undef, undef, undef, undef, undef, undef, undef, undef, undef, undef, undef, undef, undef, undef, undef, undef, undef, undef, undef, undef, undef, undef, undef, undef, undef, undef, undef, undef, undef, undef, undef, undef, undef, undef, undef, undef, undef, undef, undef, undef, undef, undef, undef, undef, undef, undef, undef, undef, undef, undef, undef, undef, undef, undef, undef, undef, undef, undef], []⟩ (by kernel_rfl) ?_
  refine then_n ?_
  refine wp_cond_false (by kernel_rfl) ?_
  refine wp_skip ?_
  refine then_n ?_
  refine wp_seq ?_
  refine wp_region_lit ?_
  refine wl_gv rfl (gv_val (v := .slice A l.length ca) (w' := w3) (by kernel_rfl) ?_)
  refine wl_gv rfl (gv_val (v := .int .i64 (l.length : Nat)) (w' := w3) (by kernel_rfl) ?_)
  refine wl_gv rfl (gv_int (k := .i64) (z := IntKind.i64.wrap (Int.tdiv (l.length : Nat) 512)) (z' := ((m : Nat) : Int)) (by kernel_rfl) (wr_eq (by rw [Int.tdiv_eq_ediv_of_nonneg (by omega)]; omega) (by omega) (by omega)) ?_)
  refine wl_gv rfl (gv_val (v := .int .i64 ((m : Nat) : Int)) (w' := w3) (by kernel_rfl) ?_)
  refine wl_end ⟨#[.slice A l.length ca, undef, .bool false, .pointer (some ⟨g, 0, none⟩), .int .i64 0, .int .i64 ((m : Nat) : Int), undef, undef, undef, undef, .tuple #[.pointer (some ⟨g, 0, none⟩), .int .i64 0], .slice A l.length ca, .slice AT l.length l.length, .tuple #[.pointer (some ⟨g, 0, none⟩), .int .i64 0], .pointer (some ⟨g, 0, none⟩), .int .i64 0, .slice A l.length ca, .int .i64 (l.length : Nat), .int .i64 ((l.length % 512 : Nat) : Int), .bool false, undef, undef, undef, undef, undef, undef, .slice A l.length ca, .int .i64 (l.length : Nat), .int .i64 ((m : Nat) : Int), undef, undef, undef, undef, undef, undef, undef, undef, undef, undef, undef, undef, undef, undef, undef, undef, undef, undef, undef, undef, undef, undef, undef, undef, undef, undef, undef, undef, undef, undef, undef, undef, undef, undef, undef, undef, undef, undef, undef, undef, undef, undef, undef, undef, undef, undef, undef, undef, undef, undef, undef, undef, undef, undef, undef, undef, undef, undef, undef, undef, undef, undef, undef, undef], []⟩ (by kernel_rfl) ?_
  refine then_n ?_
  refine wp_seq ?_
  refine wp_seq ?_
  refine wp_region_lit ?_
  refine wl_gv rfl (gv_val (v := .int .i64 ((m : Nat) : Int)) (w' := w3) (by kernel_rfl) ?_)
  refine wl_gv rfl (gv_dec (p := (((m : Nat) : Int) : Int) < 1) (by kernel_rfl) (fun hd6 => False.elim (by omega)) (fun _ => ?_))
  refine wl_gv rfl (gv_val (v := .bool false) (w' := w3) (by kernel_rfl) ?_)
  refine wl_when (by kernel_rfl) (gv_val (v := .int .i64 ((m : Nat) : Int)) (w' := w3) (by kernel_rfl) ?_)
  refine wl_when (by kernel_rfl) (gv_dec (p := (((m : Nat) : Int) : Int) > 2048) (by kernel_rfl) (fun hd7 => False.elim (by omega)) (fun _ => ?_))
  refine wl_gv rfl (gv_val (v := .bool false) (w' := w3) (by kernel_rfl) ?_)
  refine wl_end ⟨#[.slice A l.length ca, undef, .bool false, .pointer (some ⟨g, 0, none⟩), .int .i64 0, .int .i64 ((m : Nat) : Int), undef, undef, undef, undef, .tuple #[.pointer (some ⟨g, 0, none⟩), .int .i64 0], .slice A l.length ca, .slice AT l.length l.length, .tuple #[.pointer (some ⟨g, 0, none⟩), .int .i64 0], .pointer (some ⟨g, 0, none⟩), .int .i64 0, .slice A l.length ca, .int .i64 (l.length : Nat), .int .i64 ((l.length % 512 : Nat) : Int), .bool false, undef, undef, undef, undef, undef, undef, .slice A l.length ca, .int .i64 (l.length : Nat), .int .i64 ((m : Nat) : Int), .int .i64 ((m : Nat) : Int), .bool false, .bool false, .int .i64 ((m : Nat) : Int), .bool false, .bool false, undef, undef, undef, undef, undef, undef, undef, undef, undef, undef, undef, undef, undef, undef, undef, undef, undef, undef, undef, undef, undef, undef, undef, undef, undef, undef, undef, undef, undef, undef, undef, undef, undef, undef, undef, undef, undef, undef, undef, undef, undef, undef, undef, undef, undef, undef, undef, undef, undef, undef, undef, undef, undef, undef, undef, undef, undef, undef], []⟩ (by kernel_rfl) ?_
  refine then_n ?_
  refine wp_cond_false (by kernel_rfl) ?_
  refine wp_skip ?_
  refine then_n ?_
  refine wp_seq ?_
  refine wp_seq ?_
  refine wp_region_lit ?_
  refine wl_gv rfl (gv_val (v := .pointer (some ⟨g, 0, none⟩)) (w' := w3) (by kernel_rfl) ?_)
  refine wl_gv rfl (gv_val (v := .bool false) (w' := w3) (by kernel_rfl) ?_)
  refine wl_gv rfl (gv_val (v := .bool false) (w' := w3) (by kernel_rfl) ?_)
  refine wl_when (by kernel_rfl) (gv_val (v := .int .i64 0) (w' := w3) (by kernel_rfl) ?_)
  refine wl_when (by kernel_rfl) (gv_ne (x := 0) (y := 0) (by kernel_rfl) (fun hd8 => False.elim (by omega)) (fun _ => ?_))
  refine wl_gv rfl (gv_val (v := .bool false) (w' := w3) (by kernel_rfl) ?_)
  refine wl_gv rfl (gv_val (v := .bool false) (w' := w3) (by kernel_rfl) ?_)
  refine wl_when (by kernel_rfl) (gv_val (v := .pointer (some ⟨g, 0, none⟩)) (w' := w3) (by kernel_rfl) ?_)
  refine wl_when (by kernel_rfl) (gv_call (args := #[.pointer (some ⟨g, 0, none⟩)]) rfl Try.func21 (by kernel_rfl) rfl rfl (by kernel_rfl) ?_)
  refine Calls.mono (pd_sectors S4 0 rfl) ?_
  rintro _ _ ⟨rfl, rfl⟩
  refine ⟨_, rfl, ?_⟩
  refine wl_when (by kernel_rfl) (gv_val (v := .int .i64 ((m : Nat) : Int)) (w' := w3) (by kernel_rfl) ?_)
  refine wl_when (by kernel_rfl) (gv_ne (x := ((Dsk.mk0 (secs l m)).last.length : Int)) (y := ((m : Nat) : Int)) (by kernel_rfl) (fun hd9 => False.elim (by omega)) (fun _ => ?_))
  refine wl_gv rfl (gv_val (v := .bool false) (w' := w3) (by kernel_rfl) ?_)
  refine wl_gv rfl (gv_val (v := .bool false) (w' := w3) (by kernel_rfl) ?_)
  refine wl_when (by kernel_rfl) (gv_val (v := .pointer (some ⟨g, 0, none⟩)) (w' := w3) (by kernel_rfl) ?_)
  refine wl_when (by kernel_rfl) (gv_call (args := #[.pointer (some ⟨g, 0, none⟩)]) rfl Try.func22 (by kernel_rfl) rfl rfl (by kernel_rfl) ?_)
  refine Calls.mono (pd_burnt S4 0 rfl) ?_
  rintro _ _ ⟨rfl, rfl⟩
  refine ⟨_, rfl, ?_⟩
  refine wl_gv rfl (gv_val (v := .bool false) (w' := w3) (by kernel_rfl) ?_)
  refine wl_gv rfl (gv_val (v := .bool false) (w' := w3) (by kernel_rfl) ?_)
  refine wl_when (by kernel_rfl) (gv_val (v := .pointer (some ⟨g, 0, none⟩)) (w' := w3) (by kernel_rfl) ?_)
  refine wl_when (by kernel_rfl) (gv_call (args := #[.pointer (some ⟨g, 0, none⟩)]) rfl Try.func23 (by kernel_rfl) rfl rfl (by kernel_rfl) ?_)
  refine Calls.mono (pd_life S4 0 rfl) ?_
  rintro _ _ ⟨rfl, rfl⟩
  refine ⟨_, rfl, ?_⟩
  refine wl_when (by kernel_rfl) (gv_ne (x := 1) (y := 1) (by kernel_rfl) (fun hd10 => False.elim (by omega)) (fun _ => ?_))
  refine wl_gv rfl (gv_val (v := .bool false) (w' := w3) (by kernel_rfl) ?_)
  refine wl_end ⟨#[.slice A l.length ca, undef, .bool false, .pointer (some ⟨g, 0, none⟩), .int .i64 0, .int .i64 ((m : Nat) : Int), undef, undef, undef, undef, .tuple #[.pointer (some ⟨g, 0, none⟩), .int .i64 0], .slice A l.length ca, .slice AT l.length l.length, .tuple #[.pointer (some ⟨g, 0, none⟩), .int .i64 0], .pointer (some ⟨g, 0, none⟩), .int .i64 0, .slice A l.length ca, .int .i64 (l.length : Nat), .int .i64 ((l.length % 512 : Nat) : Int), .bool false, undef, undef, undef, undef, undef, undef, .slice A l.length ca, .int .i64 (l.length : Nat), .int .i64 ((m : Nat) : Int), .int .i64 ((m : Nat) : Int), .bool false, .bool false, .int .i64 ((m : Nat) : Int), .bool false, .bool false, undef, undef, undef, undef, undef, undef, .pointer (some ⟨g, 0, none⟩), .bool false, .bool false, .int .i64 0, .bool false, .bool false, .bool false, .pointer (some ⟨g, 0, none⟩), .int .i64 ((Dsk.mk0 (secs l m)).last.length : Int), .int .i64 ((m : Nat) : Int), .bool false, .bool false, .bool false, .pointer (some ⟨g, 0, none⟩), .bool false, .bool false, .bool false, .pointer (some ⟨g, 0, none⟩), .int .i64 1, .bool false, .bool false, undef, undef, undef, undef, undef, undef, undef, undef, undef, undef, undef, undef, undef, undef, undef, undef, undef, undef, undef, undef, undef, undef, undef, undef, undef, undef, undef, undef, undef, undef, undef], []⟩ (by kernel_rfl) ?_
  refine then_n ?_
  refine wp_cond_false (by kernel_rfl) ?_
  refine wp_skip ?_
  refine then_n ?_
  refine wp_seq ?_
  refine wp_region_lit ?_
  refine wl_gv rfl (gv_val (v := .pointer (some ⟨g, 0, none⟩)) (w' := w3) (by kernel_rfl) ?_)
  refine wl_gv rfl (gv_call (args := #[.pointer (some ⟨g, 0, none⟩)]) rfl Try.func25 (by kernel_rfl) rfl rfl (by kernel_rfl) ?_)
  refine Calls.mono (pd_image S4) ?_
  rintro _ w11 ⟨v, rfl, S12⟩
  obtain ⟨AI, rfl, S12'⟩ := St.bytes_eq S12
  rw [show (Dsk.mk0 (secs l m)).last.flatten = l from secs_flat m l ho] at S12' ⊢
  refine ⟨_, rfl, ?_⟩
  refine wl_gv rfl (gv_val (v := .slice AI l.length l.length) (w' := w11) (by kernel_rfl) ?_)
  refine wl_end ⟨#[.slice A l.length ca, undef, .bool false, .pointer (some ⟨g, 0, none⟩), .int .i64 0, .int .i64 ((m : Nat) : Int), .slice AI l.length l.length, undef, undef, undef, .tuple #[.pointer (some ⟨g, 0, none⟩), .int .i64 0], .slice A l.length ca, .slice AT l.length l.length, .tuple #[.pointer (some ⟨g, 0, none⟩), .int .i64 0], .pointer (some ⟨g, 0, none⟩), .int .i64 0, .slice A l.length ca, .int .i64 (l.length : Nat), .int .i64 ((l.length % 512 : Nat) : Int), .bool false, undef, undef, undef, undef, undef, undef, .slice A l.length ca, .int .i64 (l.length : Nat), .int .i64 ((m : Nat) : Int), .int .i64 ((m : Nat) : Int), .bool false, .bool false, .int .i64 ((m : Nat) : Int), .bool false, .bool false, undef, undef, undef, undef, undef, undef, .pointer (some ⟨g, 0, none⟩), .bool false, .bool false, .int .i64 0, .bool false, .bool false, .bool false, .pointer (some ⟨g, 0, none⟩), .int .i64 ((Dsk.mk0 (secs l m)).last.length : Int), .int .i64 ((m : Nat) : Int), .bool false, .bool false, .bool false, .pointer (some ⟨g, 0, none⟩), .bool false, .bool false, .bool false, .pointer (some ⟨g, 0, none⟩), .int .i64 1, .bool false, .bool false, .pointer (some ⟨g, 0, none⟩), .slice AI l.length l.length, undef, undef, undef, undef, undef, undef, undef, undef, undef, undef, undef, undef, undef, undef, undef, undef, undef, undef, undef, undef, undef, undef, undef, undef, undef, undef, undef, undef, undef], []⟩ (by kernel_rfl) ?_
  refine then_n ?_
  refine wp_seq ?_
  refine wp_seq ?_
  refine wp_region_lit ?_
  refine wl_gv rfl (gv_val (v := .slice AI l.length l.length) (w' := w11) (by kernel_rfl) ?_)
  refine wl_gv rfl (gv_val (v := .slice A l.length ca) (w' := w11) (by kernel_rfl) ?_)
  refine wl_gv rfl (gv_call (args := #[.slice AI l.length l.length, .slice A l.length ca]) rfl Try.func28 (by kernel_rfl) rfl rfl (by kernel_rfl) ?_)
  refine Calls.mono (same_b (t := true) (decide_eq_true rfl) S12' (RoT.bytes 0 rfl rfl) (hR _) (by omega) (by omega)) ?_
  rintro _ w13 ⟨rfl, S14⟩
  refine ⟨_, rfl, ?_⟩
  refine wl_gv rfl (gv_val (v := .bool false) (w' := w13) (by kernel_rfl) ?_)
  refine wl_end ⟨#[.slice A l.length ca, undef, .bool false, .pointer (some ⟨g, 0, none⟩), .int .i64 0, .int .i64 ((m : Nat) : Int), .slice AI l.length l.length, undef, undef, undef, .tuple #[.pointer (some ⟨g, 0, none⟩), .int .i64 0], .slice A l.length ca, .slice AT l.length l.length, .tuple #[.pointer (some ⟨g, 0, none⟩), .int .i64 0], .pointer (some ⟨g, 0, none⟩), .int .i64 0, .slice A l.length ca, .int .i64 (l.length : Nat), .int .i64 ((l.length % 512 : Nat) : Int), .bool false, undef, undef, undef, undef, undef, undef, .slice A l.length ca, .int .i64 (l.length : Nat), .int .i64 ((m : Nat) : Int), .int .i64 ((m : Nat) : Int), .bool false, .bool false, .int .i64 ((m : Nat) : Int), .bool false, .bool false, undef, undef, undef, undef, undef, undef, .pointer (some ⟨g, 0, none⟩), .bool false, .bool false, .int .i64 0, .bool false, .bool false, .bool false, .pointer (some ⟨g, 0, none⟩), .int .i64 ((Dsk.mk0 (secs l m)).last.length : Int), .int .i64 ((m : Nat) : Int), .bool false, .bool false, .bool false, .pointer (some ⟨g, 0, none⟩), .bool false, .bool false, .bool false, .pointer (some ⟨g, 0, none⟩), .int .i64 1, .bool false, .bool false, .pointer (some ⟨g, 0, none⟩), .slice AI l.length l.length, .slice AI l.length l.length, .slice A l.length ca, .bool true, .bool false, undef, undef, undef, undef, undef, undef, undef, undef, undef, undef, undef, undef, undef, undef, undef, undef, undef, undef, undef, undef, undef, undef, undef, undef, undef], []⟩ (by kernel_rfl) ?_
  refine then_n ?_
  refine wp_cond_false (by kernel_rfl) ?_
  refine wp_skip ?_
  refine then_n ?_
  refine wp_seq ?_
  refine wp_seq ?_
  refine wp_region_lit ?_
  refine wl_gv rfl (gv_val (v := .int .i64 0) (w' := w13) (by kernel_rfl) ?_)
  refine wl_end ⟨#[.slice A l.length ca, undef, .bool false, .pointer (some ⟨g, 0, none⟩), .int .i64 0, .int .i64 ((m : Nat) : Int), .slice AI l.length l.length, .int .i64 0, undef, undef, .tuple #[.pointer (some ⟨g, 0, none⟩), .int .i64 0], .slice A l.length ca, .slice AT l.length l.length, .tuple #[.pointer (some ⟨g, 0, none⟩), .int .i64 0], .pointer (some ⟨g, 0, none⟩), .int .i64 0, .slice A l.length ca, .int .i64 (l.length : Nat), .int .i64 ((l.length % 512 : Nat) : Int), .bool false, undef, undef, undef, undef, undef, undef, .slice A l.length ca, .int .i64 (l.length : Nat), .int .i64 ((m : Nat) : Int), .int .i64 ((m : Nat) : Int), .bool false, .bool false, .int .i64 ((m : Nat) : Int), .bool false, .bool false, undef, undef, undef, undef, undef, undef, .pointer (some ⟨g, 0, none⟩), .bool false, .bool false, .int .i64 0, .bool false, .bool false, .bool false, .pointer (some ⟨g, 0, none⟩), .int .i64 ((Dsk.mk0 (secs l m)).last.length : Int), .int .i64 ((m : Nat) : Int), .bool false, .bool false, .bool false, .pointer (some ⟨g, 0, none⟩), .bool false, .bool false, .bool false, .pointer (some ⟨g, 0, none⟩), .int .i64 1, .bool false, .bool false, .pointer (some ⟨g, 0, none⟩), .slice AI l.length l.length, .slice AI l.length l.length, .slice A l.length ca, .bool true, .bool false, undef, undef, undef, undef, undef, undef, undef, undef, undef, undef, undef, undef, undef, undef, undef, undef, undef, undef, undef, undef, undef, undef, undef, undef, undef], []⟩ (by kernel_rfl) ?_
  refine then_n ?_
  refine wp_block ?_
  refine wp_loop_g (G := Nat × Int) (fun (g_ : Nat × Int) (a_ : Act) (w_ : World) => ∃ J : Nat → Value, a_ = ⟨#[.slice A l.length ca, undef, J 2, .pointer (some ⟨g, 0, none⟩), .int .i64 0, .int .i64 ((m : Nat) : Int), .slice AI l.length l.length, .int .i64 ((g_.1 : Nat) : Int), J 8, J 9, .tuple #[.pointer (some ⟨g, 0, none⟩), .int .i64 0], .slice A l.length ca, .slice AT l.length l.length, .tuple #[.pointer (some ⟨g, 0, none⟩), .int .i64 0], .pointer (some ⟨g, 0, none⟩), .int .i64 0, .slice A l.length ca, .int .i64 (l.length : Nat), .int .i64 ((l.length % 512 : Nat) : Int), .bool false, undef, undef, undef, undef, undef, undef, .slice A l.length ca, .int .i64 (l.length : Nat), .int .i64 ((m : Nat) : Int), .int .i64 ((m : Nat) : Int), .bool false, .bool false, .int .i64 ((m : Nat) : Int), .bool false, .bool false, undef, undef, undef, undef, undef, undef, .pointer (some ⟨g, 0, none⟩), .bool false, .bool false, .int .i64 0, .bool false, .bool false, .bool false, .pointer (some ⟨g, 0, none⟩), .int .i64 ((Dsk.mk0 (secs l m)).last.length : Int), .int .i64 ((m : Nat) : Int), .bool false, .bool false, .bool false, .pointer (some ⟨g, 0, none⟩), .bool false, .bool false, .bool false, .pointer (some ⟨g, 0, none⟩), .int .i64 1, .bool false, .bool false, .pointer (some ⟨g, 0, none⟩), .slice AI l.length l.length, .slice AI l.length l.length, .slice A l.length ca, .bool true, .bool false, J 68, J 69, J 70, J 71, J 72, J 73, J 74, J 75, J 76, J 77, J 78, J 79, J 80, J 81, J 82, J 83, J 84, J 85, J 86, J 87, J 88, J 89, J 90, J 91, J 92], []⟩ ∧ St none' w w_ [bytesA (.slice AI l.length l.length) l, PDisk g { Dsk.mk0 (secs l m) with rd := g_.2 }, bytesA (.slice AT l.length l.length) l] ∧ (g_.1 ≤ m)) (fun g_ => m - g_.1) (0, 0) ⟨(fun i => (#[.slice A l.length ca, undef, .bool false, .pointer (some ⟨g, 0, none⟩), .int .i64 0, .int .i64 ((m : Nat) : Int), .slice AI l.length l.length, .int .i64 0, undef, undef, .tuple #[.pointer (some ⟨g, 0, none⟩), .int .i64 0], .slice A l.length ca, .slice AT l.length l.length, .tuple #[.pointer (some ⟨g, 0, none⟩), .int .i64 0], .pointer (some ⟨g, 0, none⟩), .int .i64 0, .slice A l.length ca, .int .i64 (l.length : Nat), .int .i64 ((l.length % 512 : Nat) : Int), .bool false, undef, undef, undef, undef, undef, undef, .slice A l.length ca, .int .i64 (l.length : Nat), .int .i64 ((m : Nat) : Int), .int .i64 ((m : Nat) : Int), .bool false, .bool false, .int .i64 ((m : Nat) : Int), .bool false, .bool false, undef, undef, undef, undef, undef, undef, .pointer (some ⟨g, 0, none⟩), .bool false, .bool false, .int .i64 0, .bool false, .bool false, .bool false, .pointer (some ⟨g, 0, none⟩), .int .i64 ((Dsk.mk0 (secs l m)).last.length : Int), .int .i64 ((m : Nat) : Int), .bool false, .bool false, .bool false, .pointer (some ⟨g, 0, none⟩), .bool false, .bool false, .bool false, .pointer (some ⟨g, 0, none⟩), .int .i64 1, .bool false, .bool false, .pointer (some ⟨g, 0, none⟩), .slice AI l.length l.length, .slice AI l.length l.length, .slice A l.length ca, .bool true, .bool false, undef, undef, undef, undef, undef, undef, undef, undef, undef, undef, undef, undef, undef, undef, undef, undef, undef, undef, undef, undef, undef, undef, undef, undef, undef] : Array Value).getD i undef), by kernel_rfl, S14, (Nat.zero_le _)⟩ ?_
  rintro ⟨k, r⟩ a_ w15 ⟨J, rfl, S16, hI17⟩
  skip
  have S16 : St none' w w15 [bytesA (.slice AI l.length l.length) l, PDisk g { Dsk.mk0 (secs l m) with rd := r }, bytesA (.slice AT l.length l.length) l] := S16
  have hI17 : (k ≤ m) := hI17
  refine wp_seq ?_
  refine wp_seq ?_
  refine wp_region_lit ?_
  refine wl_gv rfl (gv_val (v := .int .i64 ((k : Nat) : Int)) (w' := w15) (by kernel_rfl) ?_)
  refine wl_gv rfl (gv_val (v := .int .i64 ((m : Nat) : Int)) (w' := w15) (by kernel_rfl) ?_)
  refine wl_gv rfl (gv_dec (p := (((k : Nat) : Int) : Int) < ((m : Nat) : Int)) (by kernel_rfl) (fun hb18 => ?_) (fun hb18 => ?_))
  · skip
    have hk : k < m := by omega
    obtain ⟨ada, rfl⟩ := hr.at (k := 0) (by omega)
    have hx5 : ((l.drop (512 * k)).take 512).length = 512 := by rw [List.length_take, List.length_drop]; omega
    refine wl_end ⟨#[.slice (some ada) l.length ca, undef, J 2, .pointer (some ⟨g, 0, none⟩), .int .i64 0, .int .i64 ((m : Nat) : Int), .slice AI l.length l.length, .int .i64 ((k : Nat) : Int), J 8, J 9, .tuple #[.pointer (some ⟨g, 0, none⟩), .int .i64 0], .slice (some ada) l.length ca, .slice AT l.length l.length, .tuple #[.pointer (some ⟨g, 0, none⟩), .int .i64 0], .pointer (some ⟨g, 0, none⟩), .int .i64 0, .slice (some ada) l.length ca, .int .i64 (l.length : Nat), .int .i64 ((l.length % 512 : Nat) : Int), .bool false, undef, undef, undef, undef, undef, undef, .slice (some ada) l.length ca, .int .i64 (l.length : Nat), .int .i64 ((m : Nat) : Int), .int .i64 ((m : Nat) : Int), .bool false, .bool false, .int .i64 ((m : Nat) : Int), .bool false, .bool false, undef, undef, undef, undef, undef, undef, .pointer (some ⟨g, 0, none⟩), .bool false, .bool false, .int .i64 0, .bool false, .bool false, .bool false, .pointer (some ⟨g, 0, none⟩), .int .i64 ((Dsk.mk0 (secs l m)).last.length : Int), .int .i64 ((m : Nat) : Int), .bool false, .bool false, .bool false, .pointer (some ⟨g, 0, none⟩), .bool false, .bool false, .bool false, .pointer (some ⟨g, 0, none⟩), .int .i64 1, .bool false, .bool false, .pointer (some ⟨g, 0, none⟩), .slice AI l.length l.length, .slice AI l.length l.length, .slice (some ada) l.length ca, .bool true, .bool false, .int .i64 ((k : Nat) : Int), .int .i64 ((m : Nat) : Int), .bool true, J 71, J 72, J 73, J 74, J 75, J 76, J 77, J 78, J 79, J 80, J 81, J 82, J 83, J 84, J 85, J 86, J 87, J 88, J 89, J 90, J 91, J 92], []⟩ (by kernel_rfl) ?_
    refine then_n ?_
    refine wp_cond_true (by kernel_rfl) ?_
    refine wp_skip ?_
    refine then_n ?_
    refine wp_seq ?_
    refine wp_block ?_
    refine wp_seq ?_
    refine wp_region_lit ?_
    refine wl_gv rfl (gv_val (v := .pointer (some ⟨g, 0, none⟩)) (w' := w15) (by kernel_rfl) ?_)
    refine wl_gv rfl (gv_val (v := .int .i64 ((k : Nat) : Int)) (w' := w15) (by kernel_rfl) ?_)
    refine wl_gv rfl (gv_call (args := #[.pointer (some ⟨g, 0, none⟩), .int .i64 ((k : Nat) : Int)]) rfl Try.func29 (by kernel_rfl) rfl rfl (by kernel_rfl) ?_)
    have S19 : St none' w w15 [PDisk g { Dsk.mk0 (secs l m) with rd := r }, bytesA (.slice AI l.length l.length) l, bytesA (.slice AT l.length l.length) l] := St.permT [bytesA (.slice AI l.length l.length) l, PDisk g { Dsk.mk0 (secs l m) with rd := r }, bytesA (.slice AT l.length l.length) l] [1, 0, 2] (by decide) rfl S16
    have hrr : Dsk.readR { Dsk.mk0 (secs l m) with rd := r } ((k : Nat) : Int) = ({ Dsk.mk0 (secs l m) with rd := inc r }, (l.drop (512 * k)).take 512, 0) := load_read ho hk
    have hcp := pd_read (at_ := ((k : Nat) : Int)) S19
    rw [hrr] at hcp
    refine Calls.mono hcp ?_
    rintro _ w20 ⟨v, rfl, S21⟩
    obtain ⟨AR, rfl, S21'⟩ := St.bytes_eq S21
    refine ⟨_, rfl, ?_⟩
    refine wl_gv rfl (gv_val (v := .tuple #[.slice AR (((l.drop (512 * k)).take 512).length) (((l.drop (512 * k)).take 512).length), .int .i64 0]) (w' := w20) (by kernel_rfl) ?_)
    refine wl_gv rfl (gv_val (v := .slice AR (((l.drop (512 * k)).take 512).length) (((l.drop (512 * k)).take 512).length)) (w' := w20) (by kernel_rfl) ?_)
    refine wl_gv rfl (gv_val (v := .int .i64 0) (w' := w20) (by kernel_rfl) ?_)
    refine wl_gv rfl (gv_val (v := .slice AR (((l.drop (512 * k)).take 512).length) (((l.drop (512 * k)).take 512).length)) (w' := w20) (by kernel_rfl) ?_)
    refine wl_gv rfl (gv_val (v := .int .i64 0) (w' := w20) (by kernel_rfl) ?_)
    refine wl_end ⟨#[.slice (some ada) l.length ca, undef, J 2, .pointer (some ⟨g, 0, none⟩), .int .i64 0, .int .i64 ((m : Nat) : Int), .slice AI l.length l.length, .int .i64 ((k : Nat) : Int), .slice AR (((l.drop (512 * k)).take 512).length) (((l.drop (512 * k)).take 512).length), .int .i64 0, .tuple #[.pointer (some ⟨g, 0, none⟩), .int .i64 0], .slice (some ada) l.length ca, .slice AT l.length l.length, .tuple #[.pointer (some ⟨g, 0, none⟩), .int .i64 0], .pointer (some ⟨g, 0, none⟩), .int .i64 0, .slice (some ada) l.length ca, .int .i64 (l.length : Nat), .int .i64 ((l.length % 512 : Nat) : Int), .bool false, undef, undef, undef, undef, undef, undef, .slice (some ada) l.length ca, .int .i64 (l.length : Nat), .int .i64 ((m : Nat) : Int), .int .i64 ((m : Nat) : Int), .bool false, .bool false, .int .i64 ((m : Nat) : Int), .bool false, .bool false, undef, undef, undef, undef, undef, undef, .pointer (some ⟨g, 0, none⟩), .bool false, .bool false, .int .i64 0, .bool false, .bool false, .bool false, .pointer (some ⟨g, 0, none⟩), .int .i64 ((Dsk.mk0 (secs l m)).last.length : Int), .int .i64 ((m : Nat) : Int), .bool false, .bool false, .bool false, .pointer (some ⟨g, 0, none⟩), .bool false, .bool false, .bool false, .pointer (some ⟨g, 0, none⟩), .int .i64 1, .bool false, .bool false, .pointer (some ⟨g, 0, none⟩), .slice AI l.length l.length, .slice AI l.length l.length, .slice (some ada) l.length ca, .bool true, .bool false, .int .i64 ((k : Nat) : Int), .int .i64 ((m : Nat) : Int), .bool true, J 71, J 72, .tuple #[.slice AR (((l.drop (512 * k)).take 512).length) (((l.drop (512 * k)).take 512).length), .int .i64 0], .pointer (some ⟨g, 0, none⟩), .int .i64 ((k : Nat) : Int), .tuple #[.slice AR (((l.drop (512 * k)).take 512).length) (((l.drop (512 * k)).take 512).length), .int .i64 0], .slice AR (((l.drop (512 * k)).take 512).length) (((l.drop (512 * k)).take 512).length), .int .i64 0, J 79, J 80, J 81, J 82, J 83, J 84, J 85, J 86, J 87, J 88, J 89, J 90, J 91, J 92], []⟩ (by kernel_rfl) ?_
    refine then_n ?_
    refine wp_seq ?_
    refine wp_region_lit ?_
    refine wl_gv rfl (gv_val (v := .int .i64 0) (w' := w20) (by kernel_rfl) ?_)
    refine wl_gv rfl (gv_ne (x := 0) (y := 0) (by kernel_rfl) (fun hd22 => False.elim (by omega)) (fun _ => ?_))
    refine wl_gv rfl (gv_val (v := .bool false) (w' := w20) (by kernel_rfl) ?_)
    refine wl_when (by kernel_rfl) (gv_val (v := .slice AR (((l.drop (512 * k)).take 512).length) (((l.drop (512 * k)).take 512).length)) (w' := w20) (by kernel_rfl) ?_)
    refine wl_when (by kernel_rfl) (gv_val (v := .slice (some ada) l.length ca) (w' := w20) (by kernel_rfl) ?_)
    refine wl_when (by kernel_rfl) (gv_val (v := .int .i64 ((k : Nat) : Int)) (w' := w20) (by kernel_rfl) ?_)
    refine wl_when (by kernel_rfl) (gv_int (k := .i64) (z := IntKind.i64.wrap (((k : Nat) : Int) * 512)) (z' := ((512 * k : Nat) : Int)) (by kernel_rfl) (wr_eq (by omega) (by omega) (by omega)) ?_)
    refine wl_when (by kernel_rfl) (gv_val (v := .int .i64 ((k : Nat) : Int)) (w' := w20) (by kernel_rfl) ?_)
    refine wl_when (by kernel_rfl) (gv_int (k := .i64) (z := IntKind.i64.wrap (((k : Nat) : Int) * 512)) (z' := ((512 * k : Nat) : Int)) (by kernel_rfl) (wr_eq (by omega) (by omega) (by omega)) ?_)
    refine wl_when (by kernel_rfl) (gv_int (k := .i64) (z := IntKind.i64.wrap (((512 * k : Nat) : Int) + 512)) (z' := ((512 * k + 512 : Nat) : Int)) (by kernel_rfl) (wr_eq (by omega) (by omega) (by omega)) ?_)
    refine wl_when (by kernel_rfl) (gv_cutA (e := 5) (sz := 1) (ad := ada) (n := l.length) (c := ca) (kl := .i64) (kh := .i64) (u := ((512 * k : Nat) : Int)) (v := ((512 * k + 512 : Nat) : Int)) (lo := (512 * k)) (hi := (512 * k + 512)) (ad' := (ada.add (512 * k))) (n' := (((l.drop (512 * k)).take 512).length)) (c' := (ca - 512 * k)) rfl (by kernel_rfl) (by kernel_rfl) (by kernel_rfl) (by kernel_rfl) (by kernel_rfl) rfl rfl (by omega) (by omega) (by omega) (by rw [Nat.mul_one]) (by omega) (by omega) ?_)
    refine wl_when (by kernel_rfl) (gv_call (args := #[.slice AR (((l.drop (512 * k)).take 512).length) (((l.drop (512 * k)).take 512).length), .slice (some (ada.add (512 * k))) (((l.drop (512 * k)).take 512).length) (ca - 512 * k)]) rfl Try.func28 (by kernel_rfl) rfl rfl (by kernel_rfl) ?_)
    refine Calls.mono (same_b (t := true) (decide_eq_true rfl) S21' (RoT.bytes 0 rfl rfl) ((hR _).sub (512 * k) 512) (by omega) (by omega)) ?_
    rintro _ w23 ⟨rfl, S24⟩
    refine ⟨_, rfl, ?_⟩
    refine wl_when (by kernel_rfl) (gv_val (v := .bool false) (w' := w23) (by kernel_rfl) ?_)
    refine wl_gv rfl (gv_val (v := .bool false) (w' := w23) (by kernel_rfl) ?_)
    refine wl_end ⟨#[.slice (some ada) l.length ca, undef, J 2, .pointer (some ⟨g, 0, none⟩), .int .i64 0, .int .i64 ((m : Nat) : Int), .slice AI l.length l.length, .int .i64 ((k : Nat) : Int), .slice AR (((l.drop (512 * k)).take 512).length) (((l.drop (512 * k)).take 512).length), .int .i64 0, .tuple #[.pointer (some ⟨g, 0, none⟩), .int .i64 0], .slice (some ada) l.length ca, .slice AT l.length l.length, .tuple #[.pointer (some ⟨g, 0, none⟩), .int .i64 0], .pointer (some ⟨g, 0, none⟩), .int .i64 0, .slice (some ada) l.length ca, .int .i64 (l.length : Nat), .int .i64 ((l.length % 512 : Nat) : Int), .bool false, undef, undef, undef, undef, undef, undef, .slice (some ada) l.length ca, .int .i64 (l.length : Nat), .int .i64 ((m : Nat) : Int), .int .i64 ((m : Nat) : Int), .bool false, .bool false, .int .i64 ((m : Nat) : Int), .bool false, .bool false, undef, undef, undef, undef, undef, undef, .pointer (some ⟨g, 0, none⟩), .bool false, .bool false, .int .i64 0, .bool false, .bool false, .bool false, .pointer (some ⟨g, 0, none⟩), .int .i64 ((Dsk.mk0 (secs l m)).last.length : Int), .int .i64 ((m : Nat) : Int), .bool false, .bool false, .bool false, .pointer (some ⟨g, 0, none⟩), .bool false, .bool false, .bool false, .pointer (some ⟨g, 0, none⟩), .int .i64 1, .bool false, .bool false, .pointer (some ⟨g, 0, none⟩), .slice AI l.length l.length, .slice AI l.length l.length, .slice (some ada) l.length ca, .bool true, .bool false, .int .i64 ((k : Nat) : Int), .int .i64 ((m : Nat) : Int), .bool true, J 71, J 72, .tuple #[.slice AR (((l.drop (512 * k)).take 512).length) (((l.drop (512 * k)).take 512).length), .int .i64 0], .pointer (some ⟨g, 0, none⟩), .int .i64 ((k : Nat) : Int), .tuple #[.slice AR (((l.drop (512 * k)).take 512).length) (((l.drop (512 * k)).take 512).length), .int .i64 0], .slice AR (((l.drop (512 * k)).take 512).length) (((l.drop (512 * k)).take 512).length), .int .i64 0, .int .i64 0, .bool false, .bool false, .slice AR (((l.drop (512 * k)).take 512).length) (((l.drop (512 * k)).take 512).length), .slice (some ada) l.length ca, .int .i64 ((k : Nat) : Int), .int .i64 ((512 * k : Nat) : Int), .int .i64 ((k : Nat) : Int), .int .i64 ((512 * k : Nat) : Int), .int .i64 ((512 * k + 512 : Nat) : Int), .slice (some (ada.add (512 * k))) (((l.drop (512 * k)).take 512).length) (ca - 512 * k), .bool true, .bool false, .bool false], []⟩ (by kernel_rfl) ?_
    refine then_n ?_
    refine wp_cond_false (by kernel_rfl) ?_
    refine wp_skip ?_
    refine inb_n ?_
    refine then_n ?_
    refine wp_region_lit ?_
    refine wl_gv rfl (gv_val (v := .int .i64 ((k : Nat) : Int)) (w' := w23) (by kernel_rfl) ?_)
    refine wl_gv rfl (gv_int (k := .i64) (z := IntKind.i64.wrap (((k : Nat) : Int) + 1)) (z' := ((k : Nat) : Int) + 1) (by kernel_rfl) (wr_ok (by omega) (by omega)) ?_)
    refine wl_gv rfl (gv_val (v := .int .i64 (((k : Nat) : Int) + 1)) (w' := w23) (by kernel_rfl) ?_)
    refine wl_end ⟨#[.slice (some ada) l.length ca, undef, J 2, .pointer (some ⟨g, 0, none⟩), .int .i64 0, .int .i64 ((m : Nat) : Int), .slice AI l.length l.length, .int .i64 (((k : Nat) : Int) + 1), .slice AR (((l.drop (512 * k)).take 512).length) (((l.drop (512 * k)).take 512).length), .int .i64 0, .tuple #[.pointer (some ⟨g, 0, none⟩), .int .i64 0], .slice (some ada) l.length ca, .slice AT l.length l.length, .tuple #[.pointer (some ⟨g, 0, none⟩), .int .i64 0], .pointer (some ⟨g, 0, none⟩), .int .i64 0, .slice (some ada) l.length ca, .int .i64 (l.length : Nat), .int .i64 ((l.length % 512 : Nat) : Int), .bool false, undef, undef, undef, undef, undef, undef, .slice (some ada) l.length ca, .int .i64 (l.length : Nat), .int .i64 ((m : Nat) : Int), .int .i64 ((m : Nat) : Int), .bool false, .bool false, .int .i64 ((m : Nat) : Int), .bool false, .bool false, undef, undef, undef, undef, undef, undef, .pointer (some ⟨g, 0, none⟩), .bool false, .bool false, .int .i64 0, .bool false, .bool false, .bool false, .pointer (some ⟨g, 0, none⟩), .int .i64 ((Dsk.mk0 (secs l m)).last.length : Int), .int .i64 ((m : Nat) : Int), .bool false, .bool false, .bool false, .pointer (some ⟨g, 0, none⟩), .bool false, .bool false, .bool false, .pointer (some ⟨g, 0, none⟩), .int .i64 1, .bool false, .bool false, .pointer (some ⟨g, 0, none⟩), .slice AI l.length l.length, .slice AI l.length l.length, .slice (some ada) l.length ca, .bool true, .bool false, .int .i64 ((k : Nat) : Int), .int .i64 ((m : Nat) : Int), .bool true, .int .i64 ((k : Nat) : Int), .int .i64 (((k : Nat) : Int) + 1), .tuple #[.slice AR (((l.drop (512 * k)).take 512).length) (((l.drop (512 * k)).take 512).length), .int .i64 0], .pointer (some ⟨g, 0, none⟩), .int .i64 ((k : Nat) : Int), .tuple #[.slice AR (((l.drop (512 * k)).take 512).length) (((l.drop (512 * k)).take 512).length), .int .i64 0], .slice AR (((l.drop (512 * k)).take 512).length) (((l.drop (512 * k)).take 512).length), .int .i64 0, .int .i64 0, .bool false, .bool false, .slice AR (((l.drop (512 * k)).take 512).length) (((l.drop (512 * k)).take 512).length), .slice (some ada) l.length ca, .int .i64 ((k : Nat) : Int), .int .i64 ((512 * k : Nat) : Int), .int .i64 ((k : Nat) : Int), .int .i64 ((512 * k : Nat) : Int), .int .i64 ((512 * k + 512 : Nat) : Int), .slice (some (ada.add (512 * k))) (((l.drop (512 * k)).take 512).length) (ca - 512 * k), .bool true, .bool false, .bool false], []⟩ (by kernel_rfl) ?_
    refine then_n ?_
    have S25 : St none' w w23 [bytesA (.slice AI l.length l.length) l, PDisk g { Dsk.mk0 (secs l m) with rd := inc r }, bytesA (.slice AT l.length l.length) l] := St.permT [bytesA (.slice AR ((l.drop (512 * k)).take 512).length ((l.drop (512 * k)).take 512).length) ((l.drop (512 * k)).take 512), PDisk g { Dsk.mk0 (secs l m) with rd := inc r }, bytesA (.slice AI l.length l.length) l, bytesA (.slice AT l.length l.length) l] [2, 1, 3] (by decide) rfl S24
    exact ⟨(k + 1, inc r), ⟨(fun i => (#[.slice (some ada) l.length ca, undef, J 2, .pointer (some ⟨g, 0, none⟩), .int .i64 0, .int .i64 ((m : Nat) : Int), .slice AI l.length l.length, .int .i64 (((k : Nat) : Int) + 1), .slice AR (((l.drop (512 * k)).take 512).length) (((l.drop (512 * k)).take 512).length), .int .i64 0, .tuple #[.pointer (some ⟨g, 0, none⟩), .int .i64 0], .slice (some ada) l.length ca, .slice AT l.length l.length, .tuple #[.pointer (some ⟨g, 0, none⟩), .int .i64 0], .pointer (some ⟨g, 0, none⟩), .int .i64 0, .slice (some ada) l.length ca, .int .i64 (l.length : Nat), .int .i64 ((l.length % 512 : Nat) : Int), .bool false, undef, undef, undef, undef, undef, undef, .slice (some ada) l.length ca, .int .i64 (l.length : Nat), .int .i64 ((m : Nat) : Int), .int .i64 ((m : Nat) : Int), .bool false, .bool false, .int .i64 ((m : Nat) : Int), .bool false, .bool false, undef, undef, undef, undef, undef, undef, .pointer (some ⟨g, 0, none⟩), .bool false, .bool false, .int .i64 0, .bool false, .bool false, .bool false, .pointer (some ⟨g, 0, none⟩), .int .i64 ((Dsk.mk0 (secs l m)).last.length : Int), .int .i64 ((m : Nat) : Int), .bool false, .bool false, .bool false, .pointer (some ⟨g, 0, none⟩), .bool false, .bool false, .bool false, .pointer (some ⟨g, 0, none⟩), .int .i64 1, .bool false, .bool false, .pointer (some ⟨g, 0, none⟩), .slice AI l.length l.length, .slice AI l.length l.length, .slice (some ada) l.length ca, .bool true, .bool false, .int .i64 ((k : Nat) : Int), .int .i64 ((m : Nat) : Int), .bool true, .int .i64 ((k : Nat) : Int), .int .i64 (((k : Nat) : Int) + 1), .tuple #[.slice AR (((l.drop (512 * k)).take 512).length) (((l.drop (512 * k)).take 512).length), .int .i64 0], .pointer (some ⟨g, 0, none⟩), .int .i64 ((k : Nat) : Int), .tuple #[.slice AR (((l.drop (512 * k)).take 512).length) (((l.drop (512 * k)).take 512).length), .int .i64 0], .slice AR (((l.drop (512 * k)).take 512).length) (((l.drop (512 * k)).take 512).length), .int .i64 0, .int .i64 0, .bool false, .bool false, .slice AR (((l.drop (512 * k)).take 512).length) (((l.drop (512 * k)).take 512).length), .slice (some ada) l.length ca, .int .i64 ((k : Nat) : Int), .int .i64 ((512 * k : Nat) : Int), .int .i64 ((k : Nat) : Int), .int .i64 ((512 * k : Nat) : Int), .int .i64 ((512 * k + 512 : Nat) : Int), .slice (some (ada.add (512 * k))) (((l.drop (512 * k)).take 512).length) (ca - 512 * k), .bool true, .bool false, .bool false] : Array Value).getD i undef), by kernel_rfl, S25, (by show k + 1 ≤ m; omega)⟩, (by show m - (k + 1) < m - k; omega)⟩
  · skip
    refine wl_end ⟨#[.slice A l.length ca, undef, J 2, .pointer (some ⟨g, 0, none⟩), .int .i64 0, .int .i64 ((m : Nat) : Int), .slice AI l.length l.length, .int .i64 ((k : Nat) : Int), J 8, J 9, .tuple #[.pointer (some ⟨g, 0, none⟩), .int .i64 0], .slice A l.length ca, .slice AT l.length l.length, .tuple #[.pointer (some ⟨g, 0, none⟩), .int .i64 0], .pointer (some ⟨g, 0, none⟩), .int .i64 0, .slice A l.length ca, .int .i64 (l.length : Nat), .int .i64 ((l.length % 512 : Nat) : Int), .bool false, undef, undef, undef, undef, undef, undef, .slice A l.length ca, .int .i64 (l.length : Nat), .int .i64 ((m : Nat) : Int), .int .i64 ((m : Nat) : Int), .bool false, .bool false, .int .i64 ((m : Nat) : Int), .bool false, .bool false, undef, undef, undef, undef, undef, undef, .pointer (some ⟨g, 0, none⟩), .bool false, .bool false, .int .i64 0, .bool false, .bool false, .bool false, .pointer (some ⟨g, 0, none⟩), .int .i64 ((Dsk.mk0 (secs l m)).last.length : Int), .int .i64 ((m : Nat) : Int), .bool false, .bool false, .bool false, .pointer (some ⟨g, 0, none⟩), .bool false, .bool false, .bool false, .pointer (some ⟨g, 0, none⟩), .int .i64 1, .bool false, .bool false, .pointer (some ⟨g, 0, none⟩), .slice AI l.length l.length, .slice AI l.length l.length, .slice A l.length ca, .bool true, .bool false, .int .i64 ((k : Nat) : Int), .int .i64 ((m : Nat) : Int), .bool false, J 71, J 72, J 73, J 74, J 75, J 76, J 77, J 78, J 79, J 80, J 81, J 82, J 83, J 84, J 85, J 86, J 87, J 88, J 89, J 90, J 91, J 92], []⟩ (by kernel_rfl) ?_
    refine then_n ?_
    refine wp_cond_false (by kernel_rfl) ?_
    refine wp_exit ?_
    refine then_x ?_
    refine then_x ?_
    refine inb_x ?_
    refine then_n ?_
    refine wp_seq ?_
    refine wp_region_lit ?_
    refine wl_gv rfl (gv_val (v := .bool true) (w' := w15) (by kernel_rfl) ?_)
    refine wl_end ⟨#[.slice A l.length ca, undef, .bool true, .pointer (some ⟨g, 0, none⟩), .int .i64 0, .int .i64 ((m : Nat) : Int), .slice AI l.length l.length, .int .i64 ((k : Nat) : Int), J 8, J 9, .tuple #[.pointer (some ⟨g, 0, none⟩), .int .i64 0], .slice A l.length ca, .slice AT l.length l.length, .tuple #[.pointer (some ⟨g, 0, none⟩), .int .i64 0], .pointer (some ⟨g, 0, none⟩), .int .i64 0, .slice A l.length ca, .int .i64 (l.length : Nat), .int .i64 ((l.length % 512 : Nat) : Int), .bool false, undef, undef, undef, undef, undef, undef, .slice A l.length ca, .int .i64 (l.length : Nat), .int .i64 ((m : Nat) : Int), .int .i64 ((m : Nat) : Int), .bool false, .bool false, .int .i64 ((m : Nat) : Int), .bool false, .bool false, undef, undef, undef, undef, undef, undef, .pointer (some ⟨g, 0, none⟩), .bool false, .bool false, .int .i64 0, .bool false, .bool false, .bool false, .pointer (some ⟨g, 0, none⟩), .int .i64 ((Dsk.mk0 (secs l m)).last.length : Int), .int .i64 ((m : Nat) : Int), .bool false, .bool false, .bool false, .pointer (some ⟨g, 0, none⟩), .bool false, .bool false, .bool false, .pointer (some ⟨g, 0, none⟩), .int .i64 1, .bool false, .bool false, .pointer (some ⟨g, 0, none⟩), .slice AI l.length l.length, .slice AI l.length l.length, .slice A l.length ca, .bool true, .bool false, .int .i64 ((k : Nat) : Int), .int .i64 ((m : Nat) : Int), .bool false, J 71, J 72, J 73, J 74, J 75, J 76, J 77, J 78, J 79, J 80, J 81, J 82, J 83, J 84, J 85, J 86, J 87, J 88, J 89, J 90, J 91, J 92], []⟩ (by kernel_rfl) ?_
    refine then_n ?_
    refine wp_ret ?_
    refine bodyPost_ret (v := .bool true) (results_t1 rfl (by kernel_rfl)) rfl ?_
    exact ⟨rfl, S16.fr.below⟩
theorem diskNew_all (w : World) (n : Int) : Calls Try.prog 3 #[.int .i64 n] w fun e w' => e = .returned (.bool true) ∧ Below w.heap.size w w' := by
  by_cases h : n < 1 ∨ 2048 < n
  · exact diskNew_bad w n h
  · obtain ⟨m, rfl⟩ : ∃ m : Nat, n = (m : Int) := ⟨n.toNat, by omega⟩
    exact diskNew_good w m (by omega) (by omega)
theorem diskLoad_all (w : World) {A : Option Addr} {l : List UInt8} {ca : Nat} (hr : RdB w A l) (hlm : l.length ≤ 140737488351232) (hc : l.length ≤ ca) : Calls Try.prog 4 #[.slice A l.length ca] w fun e w' => e = .returned (.bool true) ∧ Below w.heap.size w w' := by
  by_cases ho : l.length % 512 = 0
  · by_cases hb : l.length / 512 < 1 ∨ 2048 < l.length / 512
    · exact diskLoad_bad w hr hlm hc ho hb
    · exact diskLoad_good w hr hlm hc (m := l.length / 512) (by omega) (by omega) (by omega)
  · exact diskLoad_odd w hr hlm hc ho
end Go.Proofs
