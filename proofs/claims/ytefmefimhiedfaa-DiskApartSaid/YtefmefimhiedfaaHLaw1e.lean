/- The law DiskApart answers true. -/
import Derived.Test.YtefmefimhiedfaaHLaw1d
open Go Go.RowKit Go.Proofs.YtefmefimhiedfaaW.PrintWords Go.Proofs.YtefmefimhiedfaaW.PrintMore
namespace Go.Proofs
open Go.Vel
set_option linter.unusedVariables false
set_option maxRecDepth 100000
set_option maxHeartbeats 4000000
attribute [local irreducible] gives wpList Code.wp

theorem diskApart_all (w : World) {A A3 A4 : Option Addr} {l : List UInt8} {ca c3 c4 : Nat} {ops : List OpD} {zs : List Int} (n n2 : Int) (hr : RdB w A l) (hlm : l.length ≤ 140737488351232) (hca : l.length ≤ ca) (hs : RdV w A3 (opsV ops)) (hsm : ops.length ≤ 2199023255552) (hok : ∀ o ∈ ops, o.Ok w) (hz : RdV w A4 (zs.map (Value.int .i64))) (hzm : zs.length ≤ 9223372036854775807) : Calls Try.prog 18 #[.int .i64 n, .int .i64 n2, .slice A l.length ca, .slice A3 ops.length c3, .slice A4 zs.length c4] w fun e w' => e = .returned (.bool true) ∧ Below w.heap.size w w' := by
  have S0 : St none' w w [] := St.init none' w
  have hR : ∀ L, RoT none' w L A l := fun L => (Ro.of_C hr (fun _ h => h)).T
  refine wp_enter (fr [iv n, iv n2, .slice A l.length ca, .slice A3 ops.length c3, .slice A4 zs.length c4] 97) Try.func18 rfl (by kernel_rfl) ?_
  refine wp_seq ?_
  refine wp_region_lit ?_
  refine pv fv ?_
  refine wl_end (fr [iv n, iv n2, .slice A l.length ca, .slice A3 ops.length c3, .slice A4 zs.length c4, ud, ud, ud, ud, ud, fv] 91) (by kernel_rfl) ?_
  refine then_n ?_
  refine wp_seq ?_
  refine wp_region_lit ?_
  refine pv (iv n) ?_
  refine pv (.slice A l.length ca) ?_
  refine wl_gv rfl (gv_call (args := #[.int .i64 n, .slice A l.length ca]) rfl Try.func31 (by kernel_rfl) rfl rfl (by kernel_rfl) ?_)
  refine Calls.mono (begin_all S0 (hR _) hlm hca n) ?_
  rintro _ w1 (⟨rfl, S2⟩ | ⟨ga, gr, s, rfl, hsp, S2⟩)
  · refine ⟨_, rfl, ?_⟩
    refine pv (.tuple #[pn, pn, tv]) ?_
    refine pv pn ?_
    refine pv pn ?_
    refine pv tv ?_
    refine pv pn ?_
    refine pv pn ?_
    refine pv tv ?_
    refine wl_end (fr [iv n, iv n2, .slice A l.length ca, .slice A3 ops.length c3, .slice A4 zs.length c4, ud, ud, ud, ud, ud, fv, pn, pn, tv, ud, ud, ud, ud, ud, ud, .tuple #[pn, pn, tv], iv n, .slice A l.length ca, .tuple #[pn, pn, tv], pn, pn, tv] 75) (by kernel_rfl) ?_
    refine then_n ?_
    refine wp_seq ?_
    refine wp_seq ?_
    refine wp_region_lit ?_
    refine pv tv ?_
    refine pv fv ?_
    refine wl_end (fr [iv n, iv n2, .slice A l.length ca, .slice A3 ops.length c3, .slice A4 zs.length c4, ud, ud, ud, ud, ud, fv, pn, pn, tv, ud, ud, ud, ud, ud, ud, .tuple #[pn, pn, tv], iv n, .slice A l.length ca, .tuple #[pn, pn, tv], pn, pn, tv, tv, fv] 73) (by kernel_rfl) ?_
    refine then_n ?_
    refine wp_cond_false (by kernel_rfl) ?_
    refine wp_skip ?_
    refine then_n ?_
    refine wp_seq ?_
    refine wp_region_lit ?_
    refine pv (iv n2) ?_
    refine wl_gv rfl (gv_call (args := #[.int .i64 n2, .slice none 0 0]) rfl Try.func31 (by kernel_rfl) rfl rfl (by kernel_rfl) ?_)
    refine Calls.mono (begin_all (A := none) (l := []) (ca := 0) S2 RoT.nil (Nat.zero_le _) (Nat.le_refl _) n2) ?_
    rintro _ w3 (⟨rfl, S4⟩ | ⟨gb, gt, t, rfl, htp, S4⟩)
    · refine ⟨_, rfl, ?_⟩
      refine pv (.tuple #[pn, pn, tv]) ?_
      refine pv pn ?_
      refine pv pn ?_
      refine pv tv ?_
      refine pv pn ?_
      refine pv pn ?_
      refine pv tv ?_
      refine wl_end (fr [iv n, iv n2, .slice A l.length ca, .slice A3 ops.length c3, .slice A4 zs.length c4, ud, ud, ud, ud, ud, fv, pn, pn, tv, pn, pn, tv, ud, ud, ud, .tuple #[pn, pn, tv], iv n, .slice A l.length ca, .tuple #[pn, pn, tv], pn, pn, tv, tv, fv, .tuple #[pn, pn, tv], iv n2, .tuple #[pn, pn, tv], pn, pn, tv] 67) (by kernel_rfl) ?_
      refine then_n ?_
      refine wp_seq ?_
      refine wp_seq ?_
      refine wp_region_lit ?_
      refine pv tv ?_
      refine pv fv ?_
      refine wl_end (fr [iv n, iv n2, .slice A l.length ca, .slice A3 ops.length c3, .slice A4 zs.length c4, ud, ud, ud, ud, ud, fv, pn, pn, tv, pn, pn, tv, ud, ud, ud, .tuple #[pn, pn, tv], iv n, .slice A l.length ca, .tuple #[pn, pn, tv], pn, pn, tv, tv, fv, .tuple #[pn, pn, tv], iv n2, .tuple #[pn, pn, tv], pn, pn, tv, tv, fv] 65) (by kernel_rfl) ?_
      refine then_n ?_
      refine wp_cond_false (by kernel_rfl) ?_
      refine wp_skip ?_
      refine then_n ?_
      refine wp_seq ?_
      refine wp_seq ?_
      refine wp_region_lit ?_
      refine pv pn ?_
      refine pv tv ?_
      refine pv tv ?_
      refine wl_not (by kernel_rfl) ?_
      refine wl_not (by kernel_rfl) ?_
      refine pv tv ?_
      refine wl_end (fr [iv n, iv n2, .slice A l.length ca, .slice A3 ops.length c3, .slice A4 zs.length c4, ud, ud, ud, ud, ud, fv, pn, pn, tv, pn, pn, tv, ud, ud, ud, .tuple #[pn, pn, tv], iv n, .slice A l.length ca, .tuple #[pn, pn, tv], pn, pn, tv, tv, fv, .tuple #[pn, pn, tv], iv n2, .tuple #[pn, pn, tv], pn, pn, tv, tv, fv, pn, tv, tv, ud, ud, tv] 59) (by kernel_rfl) ?_
      refine then_n ?_
      refine wp_cond_true (by kernel_rfl) ?_
      refine wp_seq ?_
      refine wp_region_lit ?_
      refine pv tv ?_
      refine wl_end (fr [iv n, iv n2, .slice A l.length ca, .slice A3 ops.length c3, .slice A4 zs.length c4, ud, ud, ud, ud, ud, tv, pn, pn, tv, pn, pn, tv, ud, ud, ud, .tuple #[pn, pn, tv], iv n, .slice A l.length ca, .tuple #[pn, pn, tv], pn, pn, tv, tv, fv, .tuple #[pn, pn, tv], iv n2, .tuple #[pn, pn, tv], pn, pn, tv, tv, fv, pn, tv, tv, ud, ud, tv] 59) (by kernel_rfl) ?_
      refine then_n ?_
      refine wp_ret ?_
      refine then_r ?_
      refine bodyPost_ret (v := .bool true) (results_t1 rfl (by kernel_rfl)) rfl ?_
      exact ⟨rfl, S4.fr.below⟩
    · refine ⟨_, rfl, ?_⟩
      refine pv (.tuple #[pq gb, pq gt, tv]) ?_
      refine pv (pq gb) ?_
      refine pv (pq gt) ?_
      refine pv tv ?_
      refine pv (pq gb) ?_
      refine pv (pq gt) ?_
      refine pv tv ?_
      refine wl_end (fr [iv n, iv n2, .slice A l.length ca, .slice A3 ops.length c3, .slice A4 zs.length c4, ud, ud, ud, ud, ud, fv, pn, pn, tv, pq gb, pq gt, tv, ud, ud, ud, .tuple #[pn, pn, tv], iv n, .slice A l.length ca, .tuple #[pn, pn, tv], pn, pn, tv, tv, fv, .tuple #[pq gb, pq gt, tv], iv n2, .tuple #[pq gb, pq gt, tv], pq gb, pq gt, tv] 67) (by kernel_rfl) ?_
      refine then_n ?_
      refine wp_seq ?_
      refine wp_seq ?_
      refine wp_region_lit ?_
      refine pv tv ?_
      refine pv fv ?_
      refine wl_end (fr [iv n, iv n2, .slice A l.length ca, .slice A3 ops.length c3, .slice A4 zs.length c4, ud, ud, ud, ud, ud, fv, pn, pn, tv, pq gb, pq gt, tv, ud, ud, ud, .tuple #[pn, pn, tv], iv n, .slice A l.length ca, .tuple #[pn, pn, tv], pn, pn, tv, tv, fv, .tuple #[pq gb, pq gt, tv], iv n2, .tuple #[pq gb, pq gt, tv], pq gb, pq gt, tv, tv, fv] 65) (by kernel_rfl) ?_
      refine then_n ?_
      refine wp_cond_false (by kernel_rfl) ?_
      refine wp_skip ?_
      refine then_n ?_
      refine wp_seq ?_
      refine wp_seq ?_
      refine wp_region_lit ?_
      refine pv pn ?_
      refine pv tv ?_
      refine pv tv ?_
      refine wl_not (by kernel_rfl) ?_
      refine wl_not (by kernel_rfl) ?_
      refine pv tv ?_
      refine wl_end (fr [iv n, iv n2, .slice A l.length ca, .slice A3 ops.length c3, .slice A4 zs.length c4, ud, ud, ud, ud, ud, fv, pn, pn, tv, pq gb, pq gt, tv, ud, ud, ud, .tuple #[pn, pn, tv], iv n, .slice A l.length ca, .tuple #[pn, pn, tv], pn, pn, tv, tv, fv, .tuple #[pq gb, pq gt, tv], iv n2, .tuple #[pq gb, pq gt, tv], pq gb, pq gt, tv, tv, fv, pn, tv, tv, ud, ud, tv] 59) (by kernel_rfl) ?_
      refine then_n ?_
      refine wp_cond_true (by kernel_rfl) ?_
      refine wp_seq ?_
      refine wp_region_lit ?_
      refine pv tv ?_
      refine wl_end (fr [iv n, iv n2, .slice A l.length ca, .slice A3 ops.length c3, .slice A4 zs.length c4, ud, ud, ud, ud, ud, tv, pn, pn, tv, pq gb, pq gt, tv, ud, ud, ud, .tuple #[pn, pn, tv], iv n, .slice A l.length ca, .tuple #[pn, pn, tv], pn, pn, tv, tv, fv, .tuple #[pq gb, pq gt, tv], iv n2, .tuple #[pq gb, pq gt, tv], pq gb, pq gt, tv, tv, fv, pn, tv, tv, ud, ud, tv] 59) (by kernel_rfl) ?_
      refine then_n ?_
      refine wp_ret ?_
      refine then_r ?_
      refine bodyPost_ret (v := .bool true) (results_t1 rfl (by kernel_rfl)) rfl ?_
      exact ⟨rfl, S4.fr.below⟩
  · refine ⟨_, rfl, ?_⟩
    refine pv (.tuple #[pq ga, pq gr, tv]) ?_
    refine pv (pq ga) ?_
    refine pv (pq gr) ?_
    refine pv tv ?_
    refine pv (pq ga) ?_
    refine pv (pq gr) ?_
    refine pv tv ?_
    refine wl_end (fr [iv n, iv n2, .slice A l.length ca, .slice A3 ops.length c3, .slice A4 zs.length c4, ud, ud, ud, ud, ud, fv, pq ga, pq gr, tv, ud, ud, ud, ud, ud, ud, .tuple #[pq ga, pq gr, tv], iv n, .slice A l.length ca, .tuple #[pq ga, pq gr, tv], pq ga, pq gr, tv] 75) (by kernel_rfl) ?_
    refine then_n ?_
    refine wp_seq ?_
    refine wp_seq ?_
    refine wp_region_lit ?_
    refine pv tv ?_
    refine pv fv ?_
    refine wl_end (fr [iv n, iv n2, .slice A l.length ca, .slice A3 ops.length c3, .slice A4 zs.length c4, ud, ud, ud, ud, ud, fv, pq ga, pq gr, tv, ud, ud, ud, ud, ud, ud, .tuple #[pq ga, pq gr, tv], iv n, .slice A l.length ca, .tuple #[pq ga, pq gr, tv], pq ga, pq gr, tv, tv, fv] 73) (by kernel_rfl) ?_
    refine then_n ?_
    refine wp_cond_false (by kernel_rfl) ?_
    refine wp_skip ?_
    refine then_n ?_
    refine wp_seq ?_
    refine wp_region_lit ?_
    refine pv (iv n2) ?_
    refine wl_gv rfl (gv_call (args := #[.int .i64 n2, .slice none 0 0]) rfl Try.func31 (by kernel_rfl) rfl rfl (by kernel_rfl) ?_)
    refine Calls.mono (begin_all (A := none) (l := []) (ca := 0) S2 RoT.nil (Nat.zero_le _) (Nat.le_refl _) n2) ?_
    rintro _ w5 (⟨rfl, S6⟩ | ⟨gb, gt, t, rfl, htp, S6⟩)
    · refine ⟨_, rfl, ?_⟩
      refine pv (.tuple #[pn, pn, tv]) ?_
      refine pv pn ?_
      refine pv pn ?_
      refine pv tv ?_
      refine pv pn ?_
      refine pv pn ?_
      refine pv tv ?_
      refine wl_end (fr [iv n, iv n2, .slice A l.length ca, .slice A3 ops.length c3, .slice A4 zs.length c4, ud, ud, ud, ud, ud, fv, pq ga, pq gr, tv, pn, pn, tv, ud, ud, ud, .tuple #[pq ga, pq gr, tv], iv n, .slice A l.length ca, .tuple #[pq ga, pq gr, tv], pq ga, pq gr, tv, tv, fv, .tuple #[pn, pn, tv], iv n2, .tuple #[pn, pn, tv], pn, pn, tv] 67) (by kernel_rfl) ?_
      refine then_n ?_
      refine wp_seq ?_
      refine wp_seq ?_
      refine wp_region_lit ?_
      refine pv tv ?_
      refine pv fv ?_
      refine wl_end (fr [iv n, iv n2, .slice A l.length ca, .slice A3 ops.length c3, .slice A4 zs.length c4, ud, ud, ud, ud, ud, fv, pq ga, pq gr, tv, pn, pn, tv, ud, ud, ud, .tuple #[pq ga, pq gr, tv], iv n, .slice A l.length ca, .tuple #[pq ga, pq gr, tv], pq ga, pq gr, tv, tv, fv, .tuple #[pn, pn, tv], iv n2, .tuple #[pn, pn, tv], pn, pn, tv, tv, fv] 65) (by kernel_rfl) ?_
      refine then_n ?_
      refine wp_cond_false (by kernel_rfl) ?_
      refine wp_skip ?_
      refine then_n ?_
      refine wp_seq ?_
      refine wp_seq ?_
      refine wp_region_lit ?_
      refine pv (pq ga) ?_
      refine pv fv ?_
      refine pv fv ?_
      refine wl_when (by kernel_rfl) (gv_val (v := .pointer none) (w' := w5) (by kernel_rfl) ?_)
      refine wl_when (by kernel_rfl) (gv_val (v := .bool true) (w' := w5) (by kernel_rfl) ?_)
      refine pv tv ?_
      refine wl_end (fr [iv n, iv n2, .slice A l.length ca, .slice A3 ops.length c3, .slice A4 zs.length c4, ud, ud, ud, ud, ud, fv, pq ga, pq gr, tv, pn, pn, tv, ud, ud, ud, .tuple #[pq ga, pq gr, tv], iv n, .slice A l.length ca, .tuple #[pq ga, pq gr, tv], pq ga, pq gr, tv, tv, fv, .tuple #[pn, pn, tv], iv n2, .tuple #[pn, pn, tv], pn, pn, tv, tv, fv, pq ga, fv, fv, pn, tv, tv] 59) (by kernel_rfl) ?_
      refine then_n ?_
      refine wp_cond_true (by kernel_rfl) ?_
      refine wp_seq ?_
      refine wp_region_lit ?_
      refine pv tv ?_
      refine wl_end (fr [iv n, iv n2, .slice A l.length ca, .slice A3 ops.length c3, .slice A4 zs.length c4, ud, ud, ud, ud, ud, tv, pq ga, pq gr, tv, pn, pn, tv, ud, ud, ud, .tuple #[pq ga, pq gr, tv], iv n, .slice A l.length ca, .tuple #[pq ga, pq gr, tv], pq ga, pq gr, tv, tv, fv, .tuple #[pn, pn, tv], iv n2, .tuple #[pn, pn, tv], pn, pn, tv, tv, fv, pq ga, fv, fv, pn, tv, tv] 59) (by kernel_rfl) ?_
      refine then_n ?_
      refine wp_ret ?_
      refine then_r ?_
      refine bodyPost_ret (v := .bool true) (results_t1 rfl (by kernel_rfl)) rfl ?_
      exact ⟨rfl, S6.fr.below⟩
    · refine ⟨_, rfl, ?_⟩
      refine pv (.tuple #[pq gb, pq gt, tv]) ?_
      refine pv (pq gb) ?_
      refine pv (pq gt) ?_
      refine pv tv ?_
      refine pv (pq gb) ?_
      refine pv (pq gt) ?_
      refine pv tv ?_
      refine wl_end (fr [iv n, iv n2, .slice A l.length ca, .slice A3 ops.length c3, .slice A4 zs.length c4, ud, ud, ud, ud, ud, fv, pq ga, pq gr, tv, pq gb, pq gt, tv, ud, ud, ud, .tuple #[pq ga, pq gr, tv], iv n, .slice A l.length ca, .tuple #[pq ga, pq gr, tv], pq ga, pq gr, tv, tv, fv, .tuple #[pq gb, pq gt, tv], iv n2, .tuple #[pq gb, pq gt, tv], pq gb, pq gt, tv] 67) (by kernel_rfl) ?_
      refine then_n ?_
      refine wp_seq ?_
      refine wp_seq ?_
      refine wp_region_lit ?_
      refine pv tv ?_
      refine pv fv ?_
      refine wl_end (fr [iv n, iv n2, .slice A l.length ca, .slice A3 ops.length c3, .slice A4 zs.length c4, ud, ud, ud, ud, ud, fv, pq ga, pq gr, tv, pq gb, pq gt, tv, ud, ud, ud, .tuple #[pq ga, pq gr, tv], iv n, .slice A l.length ca, .tuple #[pq ga, pq gr, tv], pq ga, pq gr, tv, tv, fv, .tuple #[pq gb, pq gt, tv], iv n2, .tuple #[pq gb, pq gt, tv], pq gb, pq gt, tv, tv, fv] 65) (by kernel_rfl) ?_
      refine then_n ?_
      refine wp_cond_false (by kernel_rfl) ?_
      refine wp_skip ?_
      refine then_n ?_
      refine wp_seq ?_
      refine wp_seq ?_
      refine wp_region_lit ?_
      refine pv (pq ga) ?_
      refine pv fv ?_
      refine pv fv ?_
      refine wl_when (by kernel_rfl) (gv_val (v := .pointer (some ⟨gb, 0, none⟩)) (w' := w5) (by kernel_rfl) ?_)
      refine wl_when (by kernel_rfl) (gv_val (v := .bool false) (w' := w5) (by kernel_rfl) ?_)
      refine pv fv ?_
      refine wl_end (fr [iv n, iv n2, .slice A l.length ca, .slice A3 ops.length c3, .slice A4 zs.length c4, ud, ud, ud, ud, ud, fv, pq ga, pq gr, tv, pq gb, pq gt, tv, ud, ud, ud, .tuple #[pq ga, pq gr, tv], iv n, .slice A l.length ca, .tuple #[pq ga, pq gr, tv], pq ga, pq gr, tv, tv, fv, .tuple #[pq gb, pq gt, tv], iv n2, .tuple #[pq gb, pq gt, tv], pq gb, pq gt, tv, tv, fv, pq ga, fv, fv, pq gb, fv, fv] 59) (by kernel_rfl) ?_
      refine then_n ?_
      refine wp_cond_false (by kernel_rfl) ?_
      refine wp_skip ?_
      refine then_n ?_
      refine wp_seq ?_
      refine wp_seq ?_
      refine wp_region_lit ?_
      refine pv (iv 0) ?_
      refine wl_end (fr [iv n, iv n2, .slice A l.length ca, .slice A3 ops.length c3, .slice A4 zs.length c4, ud, ud, ud, ud, ud, fv, pq ga, pq gr, tv, pq gb, pq gt, tv, iv 0, ud, ud, .tuple #[pq ga, pq gr, tv], iv n, .slice A l.length ca, .tuple #[pq ga, pq gr, tv], pq ga, pq gr, tv, tv, fv, .tuple #[pq gb, pq gt, tv], iv n2, .tuple #[pq gb, pq gt, tv], pq gb, pq gt, tv, tv, fv, pq ga, fv, fv, pq gb, fv, fv] 59) (by kernel_rfl) ?_
      refine then_n ?_
      refine wp_block ?_
      have S7 : St none' w w5 [PDisk ga s, RDisk gr s, PDisk gb t, RDisk gt t] := St.permT [PDisk gb t, RDisk gt t, PDisk ga s, RDisk gr s] [2, 3, 0, 1] (by decide) rfl S6
      refine wp_loop_g (G := Nat × Dsk × Dsk) (fun (g_ : Nat × Dsk × Dsk) (a_ : Act) (w_ : World) => ∃ J : Nat → Value, a_ = (fr [iv n, iv n2, .slice A l.length ca, .slice A3 ops.length c3, .slice A4 zs.length c4, ud, ud, ud, ud, ud, J 10, pq ga, pq gr, tv, pq gb, pq gt, tv, iv ((g_.1 : Nat) : Int), J 18, J 19, .tuple #[pq ga, pq gr, tv], iv n, .slice A l.length ca, .tuple #[pq ga, pq gr, tv], pq ga, pq gr, tv, tv, fv, .tuple #[pq gb, pq gt, tv], iv n2, .tuple #[pq gb, pq gt, tv], pq gb, pq gt, tv, tv, fv, pq ga, fv, fv, pq gb, fv, fv, J 43, J 44, J 45, J 46, J 47, J 48, J 49, J 50, J 51, J 52, J 53, J 54, J 55, J 56, J 57, J 58, J 59, J 60, J 61, J 62, J 63, J 64, J 65, J 66, J 67, J 68, J 69, J 70, J 71, J 72, J 73, J 74, J 75, J 76, J 77, J 78, J 79] 22) ∧ St none' w w_ [PDisk ga g_.2.1, RDisk gr g_.2.1, PDisk gb g_.2.2, RDisk gt g_.2.2] ∧ (g_.1 ≤ ops.length ∧ g_.2.1.pend.length ≤ g_.1 ∧ g_.2.2.pend.length ≤ g_.1)) (fun g_ => ops.length - g_.1) (0, s, t) ⟨(jl [ud, ud, ud, ud, ud, ud, ud, ud, ud, ud, fv]), by kernel_rfl, S7, ⟨Nat.zero_le _, by show s.pend.length ≤ 0; rw [hsp]; exact Nat.le_refl _, by show t.pend.length ≤ 0; rw [htp]; exact Nat.le_refl _⟩⟩ ?_
      rintro ⟨i, s1, t1⟩ a_ w8 ⟨J, rfl, S9, hI10⟩
      skip
      have S9 : St none' w w8 [PDisk ga s1, RDisk gr s1, PDisk gb t1, RDisk gt t1] := S9
      have hI10 : (i ≤ ops.length ∧ s1.pend.length ≤ i ∧ t1.pend.length ≤ i) := hI10
      refine wp_seq ?_
      refine wp_seq ?_
      refine wp_region_lit ?_
      refine pv (iv ((i : Nat) : Int)) ?_
      refine pv (.slice A3 ops.length c3) ?_
      refine pv (iv (ops.length : Nat)) ?_
      refine wl_gv rfl (gv_dec (p := (((i : Nat) : Int) : Int) < (ops.length : Nat)) (by kernel_rfl) (fun hb11 => ?_) (fun hb11 => ?_))
      · skip
        have hi : i < ops.length := by omega
        obtain ⟨o, ho⟩ : ∃ o, ops[i]? = some o := ⟨_, List.getElem?_eq_getElem hi⟩
        have hk := hok o (List.mem_of_getElem? ho)
        obtain ⟨ad, hAd, hrs⟩ := (RoV.of_rd hs []).out w8 _ (show St none' w w8 ([PDisk ga s1, RDisk gr s1, PDisk gb t1, RDisk gt t1] ++ []) from S9) (by rw [length_opsV]; omega)
        have hrq : RdV w8 (some ad) (opsV ops) := fun _ => ⟨ad, rfl, hrs⟩
        refine wl_end (fr [iv n, iv n2, .slice A l.length ca, .slice A3 ops.length c3, .slice A4 zs.length c4, ud, ud, ud, ud, ud, J 10, pq ga, pq gr, tv, pq gb, pq gt, tv, iv ((i : Nat) : Int), J 18, J 19, .tuple #[pq ga, pq gr, tv], iv n, .slice A l.length ca, .tuple #[pq ga, pq gr, tv], pq ga, pq gr, tv, tv, fv, .tuple #[pq gb, pq gt, tv], iv n2, .tuple #[pq gb, pq gt, tv], pq gb, pq gt, tv, tv, fv, pq ga, fv, fv, pq gb, fv, fv, iv ((i : Nat) : Int), .slice A3 ops.length c3, iv (ops.length : Nat), tv, J 47, J 48, J 49, J 50, J 51, J 52, J 53, J 54, J 55, J 56, J 57, J 58, J 59, J 60, J 61, J 62, J 63, J 64, J 65, J 66, J 67, J 68, J 69, J 70, J 71, J 72, J 73, J 74, J 75, J 76, J 77, J 78, J 79] 22) (by kernel_rfl) ?_
        refine then_n ?_
        refine wp_cond_true (by kernel_rfl) ?_
        refine wp_skip ?_
        refine then_n ?_
        refine wp_seq ?_
        refine wp_block ?_
        refine wp_seq ?_
        refine wp_region_lit ?_
        refine pv (.slice A4 zs.length c4) ?_
        refine pv (iv (zs.length : Nat)) ?_
        refine wl_gv rfl (gv_dec (p := ((zs.length : Nat) : Int) > 0) (by kernel_rfl) (fun hb12 => ?_) (fun hb12 => ?_))
        · skip
          have hz0 : 0 < zs.length := by omega
          have hn1 : zs.length = zs.length - 1 + 1 := by omega
          have hzi : i % zs.length < zs.length := Nat.mod_lt _ hz0
          obtain ⟨z, hzz⟩ : ∃ z, zs[i % zs.length]? = some z := ⟨_, List.getElem?_eq_getElem hzi⟩
          obtain ⟨ad4, hAd4, hr4⟩ := (RoV.of_rd hz []).out w8 _ (show St none' w w8 ([PDisk ga s1, RDisk gr s1, PDisk gb t1, RDisk gt t1] ++ []) from S9) (by rw [List.length_map]; omega)
          refine pv tv ?_
          refine wl_when (by kernel_rfl) (gv_val (v := .slice A4 zs.length c4) (w' := w8) (by kernel_rfl) ?_)
          refine wl_when (by kernel_rfl) (gv_val (v := .int .i64 ((i : Nat) : Int)) (w' := w8) (by kernel_rfl) ?_)
          refine wl_when (by kernel_rfl) (gv_val (v := .slice A4 zs.length c4) (w' := w8) (by kernel_rfl) ?_)
          refine wl_when (by kernel_rfl) (gv_val (v := .int .i64 (zs.length : Nat)) (w' := w8) (by kernel_rfl) ?_)
          refine wl_when (by kernel_rfl) (gv_int (k := .i64) (z := Int.tmod ((i : Nat) : Int) (zs.length : Nat)) (z' := ((i % zs.length : Nat) : Int)) (by rw [hn1]; kernel_rfl) (tmod_nat' rfl rfl) ?_)
          refine wl_when (by kernel_rfl) (gv_ixB (e := 3) (sz := 1) (n := zs.length) (c := c4) (i := ((i % zs.length : Nat) : Int)) (k := .i64) (ad := ad4) (ad' := (ad4.add (i % zs.length))) (j := (i % zs.length)) rfl (by kernel_rfl) (by kernel_rfl) (by rw [← hAd4]; kernel_rfl) (by kernel_rfl) rfl (by omega) (by rw [Nat.mul_one]) ?_)
          refine wl_when (by kernel_rfl) (gv_ldR (v := .int .i64 z) rfl (by kernel_rfl) (by kernel_rfl) (hr4 (i % zs.length) _ (by rw [List.getElem?_map, hzz]; rfl)) ?_)
          refine wl_when (by kernel_rfl) (gv_int (k := .i64) (z := Int.tmod z 2) (z' := Int.tmod z 2) (by kernel_rfl) rfl ?_)
          refine wl_when (by kernel_rfl) (gv_ne (x := (Int.tmod z 2)) (y := 0) (by kernel_rfl) (fun hb13 => ?_) (fun hb13 => ?_))
          · skip
            refine pv tv ?_
            refine pv tv ?_
            refine wl_end (fr [iv n, iv n2, .slice A l.length ca, .slice A3 ops.length c3, .slice A4 zs.length c4, ud, ud, ud, ud, ud, J 10, pq ga, pq gr, tv, pq gb, pq gt, tv, iv ((i : Nat) : Int), tv, J 19, .tuple #[pq ga, pq gr, tv], iv n, .slice A l.length ca, .tuple #[pq ga, pq gr, tv], pq ga, pq gr, tv, tv, fv, .tuple #[pq gb, pq gt, tv], iv n2, .tuple #[pq gb, pq gt, tv], pq gb, pq gt, tv, tv, fv, pq ga, fv, fv, pq gb, fv, fv, iv ((i : Nat) : Int), .slice A3 ops.length c3, iv (ops.length : Nat), tv, J 47, J 48, .slice A4 zs.length c4, iv (zs.length : Nat), tv, tv, .slice A4 zs.length c4, iv ((i : Nat) : Int), .slice A4 zs.length c4, iv (zs.length : Nat), iv ((i % zs.length : Nat) : Int), .pointer (some (ad4.add (i % zs.length))), iv z, iv (Int.tmod z 2), tv, tv, J 63, J 64, J 65, J 66, J 67, J 68, J 69, J 70, J 71, J 72, J 73, J 74, J 75, J 76, J 77, J 78, J 79] 22) (by kernel_rfl) ?_
            refine then_n ?_
            refine wp_seq ?_
            refine wp_region_lit ?_
            refine pv fv ?_
            refine wl_end (fr [iv n, iv n2, .slice A l.length ca, .slice A3 ops.length c3, .slice A4 zs.length c4, ud, ud, ud, ud, ud, J 10, pq ga, pq gr, tv, pq gb, pq gt, tv, iv ((i : Nat) : Int), tv, fv, .tuple #[pq ga, pq gr, tv], iv n, .slice A l.length ca, .tuple #[pq ga, pq gr, tv], pq ga, pq gr, tv, tv, fv, .tuple #[pq gb, pq gt, tv], iv n2, .tuple #[pq gb, pq gt, tv], pq gb, pq gt, tv, tv, fv, pq ga, fv, fv, pq gb, fv, fv, iv ((i : Nat) : Int), .slice A3 ops.length c3, iv (ops.length : Nat), tv, J 47, J 48, .slice A4 zs.length c4, iv (zs.length : Nat), tv, tv, .slice A4 zs.length c4, iv ((i : Nat) : Int), .slice A4 zs.length c4, iv (zs.length : Nat), iv ((i % zs.length : Nat) : Int), .pointer (some (ad4.add (i % zs.length))), iv z, iv (Int.tmod z 2), tv, tv, J 63, J 64, J 65, J 66, J 67, J 68, J 69, J 70, J 71, J 72, J 73, J 74, J 75, J 76, J 77, J 78, J 79] 22) (by kernel_rfl) ?_
            refine then_n ?_
            refine wp_seq ?_
            refine wp_seq ?_
            refine wp_region_lit ?_
            refine pv tv ?_
            refine wl_end (fr [iv n, iv n2, .slice A l.length ca, .slice A3 ops.length c3, .slice A4 zs.length c4, ud, ud, ud, ud, ud, J 10, pq ga, pq gr, tv, pq gb, pq gt, tv, iv ((i : Nat) : Int), tv, fv, .tuple #[pq ga, pq gr, tv], iv n, .slice A l.length ca, .tuple #[pq ga, pq gr, tv], pq ga, pq gr, tv, tv, fv, .tuple #[pq gb, pq gt, tv], iv n2, .tuple #[pq gb, pq gt, tv], pq gb, pq gt, tv, tv, fv, pq ga, fv, fv, pq gb, fv, fv, iv ((i : Nat) : Int), .slice A3 ops.length c3, iv (ops.length : Nat), tv, J 47, J 48, .slice A4 zs.length c4, iv (zs.length : Nat), tv, tv, .slice A4 zs.length c4, iv ((i : Nat) : Int), .slice A4 zs.length c4, iv (zs.length : Nat), iv ((i % zs.length : Nat) : Int), .pointer (some (ad4.add (i % zs.length))), iv z, iv (Int.tmod z 2), tv, tv, tv, J 64, J 65, J 66, J 67, J 68, J 69, J 70, J 71, J 72, J 73, J 74, J 75, J 76, J 77, J 78, J 79] 22) (by kernel_rfl) ?_
            refine then_n ?_
            refine wp_cond_true (by kernel_rfl) ?_
            refine wp_region_lit ?_
            refine pv (pq gb) ?_
            refine pv (pq gt) ?_
            refine pv (.slice A3 ops.length c3) ?_
            refine pv (iv ((i : Nat) : Int)) ?_
            refine wl_gv rfl (gv_ixB (e := 49) (sz := 4) (n := ops.length) (c := c3) (i := ((i : Nat) : Int)) (k := .i64) (ad := ad) (ad' := (ad.add (i * 4))) (j := i) rfl (by kernel_rfl) (by kernel_rfl) (by rw [← hAd]; kernel_rfl) (by kernel_rfl) rfl (by omega) rfl ?_)
            refine wl_gv rfl (gv_ldRA (ad := ad.add (i * 4)) (vs := [.int .i64 o.kind, .int .i64 o.at_, .slice o.A o.d.length o.cd, .slice o.A2 o.ps.length o.cp]) (n := 4) rfl (by kernel_rfl) (by kernel_rfl) rfl (RoV.cells hrq (i * 4) (fun j u hu => opsV_at ops _ _ ho j u hu) (Nat.succ_pos _)) ?_)
            refine wl_gv rfl (gv_call (args := #[.pointer (some ⟨gb, 0, none⟩), .pointer (some ⟨gt, 0, none⟩), .agg #[.int .i64 o.kind, .int .i64 o.at_, .slice o.A o.d.length o.cd, .slice o.A2 o.ps.length o.cp]]) rfl Try.func32 (by kernel_rfl) rfl rfl (by kernel_rfl) ?_)
            have S14 : St none' w w8 [PDisk gb t1, RDisk gt t1, PDisk ga s1, RDisk gr s1] := St.permT [PDisk ga s1, RDisk gr s1, PDisk gb t1, RDisk gt t1] [2, 3, 0, 1] (by decide) rfl S9
            refine Calls.mono (step_all S14 (Ro.of_C hk.d (fun _ h => h)).T (RoV.of_rd hk.p _) hk.hat hk.dm hk.pm (by have := hI10.2; omega)) ?_
            rintro _ w15 ⟨rfl, d17, S16, hs18⟩
            refine ⟨_, rfl, ?_⟩
            refine pv tv ?_
            refine wl_end (fr [iv n, iv n2, .slice A l.length ca, .slice A3 ops.length c3, .slice A4 zs.length c4, ud, ud, ud, ud, ud, J 10, pq ga, pq gr, tv, pq gb, pq gt, tv, iv ((i : Nat) : Int), tv, tv, .tuple #[pq ga, pq gr, tv], iv n, .slice A l.length ca, .tuple #[pq ga, pq gr, tv], pq ga, pq gr, tv, tv, fv, .tuple #[pq gb, pq gt, tv], iv n2, .tuple #[pq gb, pq gt, tv], pq gb, pq gt, tv, tv, fv, pq ga, fv, fv, pq gb, fv, fv, iv ((i : Nat) : Int), .slice A3 ops.length c3, iv (ops.length : Nat), tv, J 47, J 48, .slice A4 zs.length c4, iv (zs.length : Nat), tv, tv, .slice A4 zs.length c4, iv ((i : Nat) : Int), .slice A4 zs.length c4, iv (zs.length : Nat), iv ((i % zs.length : Nat) : Int), .pointer (some (ad4.add (i % zs.length))), iv z, iv (Int.tmod z 2), tv, tv, tv, pq gb, pq gt, .slice A3 ops.length c3, iv ((i : Nat) : Int), .pointer (some (ad.add (i * 4))), .agg #[iv o.kind, iv o.at_, .slice o.A o.d.length o.cd, .slice o.A2 o.ps.length o.cp], tv, J 71, J 72, J 73, J 74, J 75, J 76, J 77, J 78, J 79] 22) (by kernel_rfl) ?_
            refine then_n ?_
            refine wp_seq ?_
            refine wp_region_lit ?_
            refine pv tv ?_
            refine pv fv ?_
            refine wl_end (fr [iv n, iv n2, .slice A l.length ca, .slice A3 ops.length c3, .slice A4 zs.length c4, ud, ud, ud, ud, ud, J 10, pq ga, pq gr, tv, pq gb, pq gt, tv, iv ((i : Nat) : Int), tv, tv, .tuple #[pq ga, pq gr, tv], iv n, .slice A l.length ca, .tuple #[pq ga, pq gr, tv], pq ga, pq gr, tv, tv, fv, .tuple #[pq gb, pq gt, tv], iv n2, .tuple #[pq gb, pq gt, tv], pq gb, pq gt, tv, tv, fv, pq ga, fv, fv, pq gb, fv, fv, iv ((i : Nat) : Int), .slice A3 ops.length c3, iv (ops.length : Nat), tv, J 47, J 48, .slice A4 zs.length c4, iv (zs.length : Nat), tv, tv, .slice A4 zs.length c4, iv ((i : Nat) : Int), .slice A4 zs.length c4, iv (zs.length : Nat), iv ((i % zs.length : Nat) : Int), .pointer (some (ad4.add (i % zs.length))), iv z, iv (Int.tmod z 2), tv, tv, tv, pq gb, pq gt, .slice A3 ops.length c3, iv ((i : Nat) : Int), .pointer (some (ad.add (i * 4))), .agg #[iv o.kind, iv o.at_, .slice o.A o.d.length o.cd, .slice o.A2 o.ps.length o.cp], tv, J 71, J 72, J 73, J 74, J 75, J 76, J 77, tv, fv] 22) (by kernel_rfl) ?_
            refine then_n ?_
            refine wp_cond_false (by kernel_rfl) ?_
            refine wp_skip ?_
            refine inb_n ?_
            refine then_n ?_
            refine wp_region_lit ?_
            refine pv (iv ((i : Nat) : Int)) ?_
            refine wl_gv rfl (gv_int (k := .i64) (z := IntKind.i64.wrap (((i : Nat) : Int) + 1)) (z' := ((i + 1 : Nat) : Int)) (by kernel_rfl) (wr_eq (by omega) (by omega) (by omega)) ?_)
            refine pv (iv ((i + 1 : Nat) : Int)) ?_
            have S19 : St none' w w15 [PDisk ga s1, RDisk gr s1, PDisk gb d17, RDisk gt d17] := St.permT [PDisk gb d17, RDisk gt d17, PDisk ga s1, RDisk gr s1] [2, 3, 0, 1] (by decide) rfl S16
            refine wl_end (fr [iv n, iv n2, .slice A l.length ca, .slice A3 ops.length c3, .slice A4 zs.length c4, ud, ud, ud, ud, ud, J 10, pq ga, pq gr, tv, pq gb, pq gt, tv, iv ((i + 1 : Nat) : Int), tv, tv, .tuple #[pq ga, pq gr, tv], iv n, .slice A l.length ca, .tuple #[pq ga, pq gr, tv], pq ga, pq gr, tv, tv, fv, .tuple #[pq gb, pq gt, tv], iv n2, .tuple #[pq gb, pq gt, tv], pq gb, pq gt, tv, tv, fv, pq ga, fv, fv, pq gb, fv, fv, iv ((i : Nat) : Int), .slice A3 ops.length c3, iv (ops.length : Nat), tv, iv ((i : Nat) : Int), iv ((i + 1 : Nat) : Int), .slice A4 zs.length c4, iv (zs.length : Nat), tv, tv, .slice A4 zs.length c4, iv ((i : Nat) : Int), .slice A4 zs.length c4, iv (zs.length : Nat), iv ((i % zs.length : Nat) : Int), .pointer (some (ad4.add (i % zs.length))), iv z, iv (Int.tmod z 2), tv, tv, tv, pq gb, pq gt, .slice A3 ops.length c3, iv ((i : Nat) : Int), .pointer (some (ad.add (i * 4))), .agg #[iv o.kind, iv o.at_, .slice o.A o.d.length o.cd, .slice o.A2 o.ps.length o.cp], tv, J 71, J 72, J 73, J 74, J 75, J 76, J 77, tv, fv] 22) (by kernel_rfl) ?_
            refine then_n ?_
            exact ⟨(i + 1, s1, d17), ⟨(jl [ud, ud, ud, ud, ud, ud, ud, ud, ud, ud, J 10, ud, ud, ud, ud, ud, ud, ud, tv, tv, ud, ud, ud, ud, ud, ud, ud, ud, ud, ud, ud, ud, ud, ud, ud, ud, ud, ud, ud, ud, ud, ud, ud, iv ((i : Nat) : Int), .slice A3 ops.length c3, iv (ops.length : Nat), tv, iv ((i : Nat) : Int), iv ((i + 1 : Nat) : Int), .slice A4 zs.length c4, iv (zs.length : Nat), tv, tv, .slice A4 zs.length c4, iv ((i : Nat) : Int), .slice A4 zs.length c4, iv (zs.length : Nat), iv ((i % zs.length : Nat) : Int), .pointer (some (ad4.add (i % zs.length))), iv z, iv (Int.tmod z 2), tv, tv, tv, pq gb, pq gt, .slice A3 ops.length c3, iv ((i : Nat) : Int), .pointer (some (ad.add (i * 4))), .agg #[iv o.kind, iv o.at_, .slice o.A o.d.length o.cd, .slice o.A2 o.ps.length o.cp], tv, J 71, J 72, J 73, J 74, J 75, J 76, J 77, tv, fv]), by kernel_rfl, S19, ⟨by omega, by show (Dsk.pend s1).length ≤ i + 1; have := hI10.2; omega, by show (Dsk.pend d17).length ≤ i + 1; have := hI10.2; omega⟩⟩, (by show ops.length - (i + 1) < ops.length - i; omega)⟩
          · skip
            refine pv fv ?_
            refine pv fv ?_
            refine wl_end (fr [iv n, iv n2, .slice A l.length ca, .slice A3 ops.length c3, .slice A4 zs.length c4, ud, ud, ud, ud, ud, J 10, pq ga, pq gr, tv, pq gb, pq gt, tv, iv ((i : Nat) : Int), fv, J 19, .tuple #[pq ga, pq gr, tv], iv n, .slice A l.length ca, .tuple #[pq ga, pq gr, tv], pq ga, pq gr, tv, tv, fv, .tuple #[pq gb, pq gt, tv], iv n2, .tuple #[pq gb, pq gt, tv], pq gb, pq gt, tv, tv, fv, pq ga, fv, fv, pq gb, fv, fv, iv ((i : Nat) : Int), .slice A3 ops.length c3, iv (ops.length : Nat), tv, J 47, J 48, .slice A4 zs.length c4, iv (zs.length : Nat), tv, tv, .slice A4 zs.length c4, iv ((i : Nat) : Int), .slice A4 zs.length c4, iv (zs.length : Nat), iv ((i % zs.length : Nat) : Int), .pointer (some (ad4.add (i % zs.length))), iv z, iv (Int.tmod z 2), fv, fv, J 63, J 64, J 65, J 66, J 67, J 68, J 69, J 70, J 71, J 72, J 73, J 74, J 75, J 76, J 77, J 78, J 79] 22) (by kernel_rfl) ?_
            refine then_n ?_
            refine wp_seq ?_
            refine wp_region_lit ?_
            refine pv fv ?_
            refine wl_end (fr [iv n, iv n2, .slice A l.length ca, .slice A3 ops.length c3, .slice A4 zs.length c4, ud, ud, ud, ud, ud, J 10, pq ga, pq gr, tv, pq gb, pq gt, tv, iv ((i : Nat) : Int), fv, fv, .tuple #[pq ga, pq gr, tv], iv n, .slice A l.length ca, .tuple #[pq ga, pq gr, tv], pq ga, pq gr, tv, tv, fv, .tuple #[pq gb, pq gt, tv], iv n2, .tuple #[pq gb, pq gt, tv], pq gb, pq gt, tv, tv, fv, pq ga, fv, fv, pq gb, fv, fv, iv ((i : Nat) : Int), .slice A3 ops.length c3, iv (ops.length : Nat), tv, J 47, J 48, .slice A4 zs.length c4, iv (zs.length : Nat), tv, tv, .slice A4 zs.length c4, iv ((i : Nat) : Int), .slice A4 zs.length c4, iv (zs.length : Nat), iv ((i % zs.length : Nat) : Int), .pointer (some (ad4.add (i % zs.length))), iv z, iv (Int.tmod z 2), fv, fv, J 63, J 64, J 65, J 66, J 67, J 68, J 69, J 70, J 71, J 72, J 73, J 74, J 75, J 76, J 77, J 78, J 79] 22) (by kernel_rfl) ?_
            refine then_n ?_
            refine wp_seq ?_
            refine wp_seq ?_
            refine wp_region_lit ?_
            refine pv fv ?_
            refine wl_end (fr [iv n, iv n2, .slice A l.length ca, .slice A3 ops.length c3, .slice A4 zs.length c4, ud, ud, ud, ud, ud, J 10, pq ga, pq gr, tv, pq gb, pq gt, tv, iv ((i : Nat) : Int), fv, fv, .tuple #[pq ga, pq gr, tv], iv n, .slice A l.length ca, .tuple #[pq ga, pq gr, tv], pq ga, pq gr, tv, tv, fv, .tuple #[pq gb, pq gt, tv], iv n2, .tuple #[pq gb, pq gt, tv], pq gb, pq gt, tv, tv, fv, pq ga, fv, fv, pq gb, fv, fv, iv ((i : Nat) : Int), .slice A3 ops.length c3, iv (ops.length : Nat), tv, J 47, J 48, .slice A4 zs.length c4, iv (zs.length : Nat), tv, tv, .slice A4 zs.length c4, iv ((i : Nat) : Int), .slice A4 zs.length c4, iv (zs.length : Nat), iv ((i % zs.length : Nat) : Int), .pointer (some (ad4.add (i % zs.length))), iv z, iv (Int.tmod z 2), fv, fv, fv, J 64, J 65, J 66, J 67, J 68, J 69, J 70, J 71, J 72, J 73, J 74, J 75, J 76, J 77, J 78, J 79] 22) (by kernel_rfl) ?_
            refine then_n ?_
            refine wp_cond_false (by kernel_rfl) ?_
            refine wp_region_lit ?_
            refine pv (pq ga) ?_
            refine pv (pq gr) ?_
            refine pv (.slice A3 ops.length c3) ?_
            refine pv (iv ((i : Nat) : Int)) ?_
            refine wl_gv rfl (gv_ixB (e := 49) (sz := 4) (n := ops.length) (c := c3) (i := ((i : Nat) : Int)) (k := .i64) (ad := ad) (ad' := (ad.add (i * 4))) (j := i) rfl (by kernel_rfl) (by kernel_rfl) (by rw [← hAd]; kernel_rfl) (by kernel_rfl) rfl (by omega) rfl ?_)
            refine wl_gv rfl (gv_ldRA (ad := ad.add (i * 4)) (vs := [.int .i64 o.kind, .int .i64 o.at_, .slice o.A o.d.length o.cd, .slice o.A2 o.ps.length o.cp]) (n := 4) rfl (by kernel_rfl) (by kernel_rfl) rfl (RoV.cells hrq (i * 4) (fun j u hu => opsV_at ops _ _ ho j u hu) (Nat.succ_pos _)) ?_)
            refine wl_gv rfl (gv_call (args := #[.pointer (some ⟨ga, 0, none⟩), .pointer (some ⟨gr, 0, none⟩), .agg #[.int .i64 o.kind, .int .i64 o.at_, .slice o.A o.d.length o.cd, .slice o.A2 o.ps.length o.cp]]) rfl Try.func32 (by kernel_rfl) rfl rfl (by kernel_rfl) ?_)
            have S20 : St none' w w8 [PDisk ga s1, RDisk gr s1, PDisk gb t1, RDisk gt t1] := St.permT [PDisk ga s1, RDisk gr s1, PDisk gb t1, RDisk gt t1] [0, 1, 2, 3] (by decide) rfl S9
            refine Calls.mono (step_all S20 (Ro.of_C hk.d (fun _ h => h)).T (RoV.of_rd hk.p _) hk.hat hk.dm hk.pm (by have := hI10.2; omega)) ?_
            rintro _ w21 ⟨rfl, d23, S22, hs24⟩
            refine ⟨_, rfl, ?_⟩
            refine pv tv ?_
            refine wl_end (fr [iv n, iv n2, .slice A l.length ca, .slice A3 ops.length c3, .slice A4 zs.length c4, ud, ud, ud, ud, ud, J 10, pq ga, pq gr, tv, pq gb, pq gt, tv, iv ((i : Nat) : Int), fv, tv, .tuple #[pq ga, pq gr, tv], iv n, .slice A l.length ca, .tuple #[pq ga, pq gr, tv], pq ga, pq gr, tv, tv, fv, .tuple #[pq gb, pq gt, tv], iv n2, .tuple #[pq gb, pq gt, tv], pq gb, pq gt, tv, tv, fv, pq ga, fv, fv, pq gb, fv, fv, iv ((i : Nat) : Int), .slice A3 ops.length c3, iv (ops.length : Nat), tv, J 47, J 48, .slice A4 zs.length c4, iv (zs.length : Nat), tv, tv, .slice A4 zs.length c4, iv ((i : Nat) : Int), .slice A4 zs.length c4, iv (zs.length : Nat), iv ((i % zs.length : Nat) : Int), .pointer (some (ad4.add (i % zs.length))), iv z, iv (Int.tmod z 2), fv, fv, fv, J 64, J 65, J 66, J 67, J 68, J 69, J 70, pq ga, pq gr, .slice A3 ops.length c3, iv ((i : Nat) : Int), .pointer (some (ad.add (i * 4))), .agg #[iv o.kind, iv o.at_, .slice o.A o.d.length o.cd, .slice o.A2 o.ps.length o.cp], tv, J 78, J 79] 22) (by kernel_rfl) ?_
            refine then_n ?_
            refine wp_seq ?_
            refine wp_region_lit ?_
            refine pv tv ?_
            refine pv fv ?_
            refine wl_end (fr [iv n, iv n2, .slice A l.length ca, .slice A3 ops.length c3, .slice A4 zs.length c4, ud, ud, ud, ud, ud, J 10, pq ga, pq gr, tv, pq gb, pq gt, tv, iv ((i : Nat) : Int), fv, tv, .tuple #[pq ga, pq gr, tv], iv n, .slice A l.length ca, .tuple #[pq ga, pq gr, tv], pq ga, pq gr, tv, tv, fv, .tuple #[pq gb, pq gt, tv], iv n2, .tuple #[pq gb, pq gt, tv], pq gb, pq gt, tv, tv, fv, pq ga, fv, fv, pq gb, fv, fv, iv ((i : Nat) : Int), .slice A3 ops.length c3, iv (ops.length : Nat), tv, J 47, J 48, .slice A4 zs.length c4, iv (zs.length : Nat), tv, tv, .slice A4 zs.length c4, iv ((i : Nat) : Int), .slice A4 zs.length c4, iv (zs.length : Nat), iv ((i % zs.length : Nat) : Int), .pointer (some (ad4.add (i % zs.length))), iv z, iv (Int.tmod z 2), fv, fv, fv, J 64, J 65, J 66, J 67, J 68, J 69, J 70, pq ga, pq gr, .slice A3 ops.length c3, iv ((i : Nat) : Int), .pointer (some (ad.add (i * 4))), .agg #[iv o.kind, iv o.at_, .slice o.A o.d.length o.cd, .slice o.A2 o.ps.length o.cp], tv, tv, fv] 22) (by kernel_rfl) ?_
            refine then_n ?_
            refine wp_cond_false (by kernel_rfl) ?_
            refine wp_skip ?_
            refine inb_n ?_
            refine then_n ?_
            refine wp_region_lit ?_
            refine pv (iv ((i : Nat) : Int)) ?_
            refine wl_gv rfl (gv_int (k := .i64) (z := IntKind.i64.wrap (((i : Nat) : Int) + 1)) (z' := ((i + 1 : Nat) : Int)) (by kernel_rfl) (wr_eq (by omega) (by omega) (by omega)) ?_)
            refine pv (iv ((i + 1 : Nat) : Int)) ?_
            have S25 : St none' w w21 [PDisk ga d23, RDisk gr d23, PDisk gb t1, RDisk gt t1] := St.permT [PDisk ga d23, RDisk gr d23, PDisk gb t1, RDisk gt t1] [0, 1, 2, 3] (by decide) rfl S22
            refine wl_end (fr [iv n, iv n2, .slice A l.length ca, .slice A3 ops.length c3, .slice A4 zs.length c4, ud, ud, ud, ud, ud, J 10, pq ga, pq gr, tv, pq gb, pq gt, tv, iv ((i + 1 : Nat) : Int), fv, tv, .tuple #[pq ga, pq gr, tv], iv n, .slice A l.length ca, .tuple #[pq ga, pq gr, tv], pq ga, pq gr, tv, tv, fv, .tuple #[pq gb, pq gt, tv], iv n2, .tuple #[pq gb, pq gt, tv], pq gb, pq gt, tv, tv, fv, pq ga, fv, fv, pq gb, fv, fv, iv ((i : Nat) : Int), .slice A3 ops.length c3, iv (ops.length : Nat), tv, iv ((i : Nat) : Int), iv ((i + 1 : Nat) : Int), .slice A4 zs.length c4, iv (zs.length : Nat), tv, tv, .slice A4 zs.length c4, iv ((i : Nat) : Int), .slice A4 zs.length c4, iv (zs.length : Nat), iv ((i % zs.length : Nat) : Int), .pointer (some (ad4.add (i % zs.length))), iv z, iv (Int.tmod z 2), fv, fv, fv, J 64, J 65, J 66, J 67, J 68, J 69, J 70, pq ga, pq gr, .slice A3 ops.length c3, iv ((i : Nat) : Int), .pointer (some (ad.add (i * 4))), .agg #[iv o.kind, iv o.at_, .slice o.A o.d.length o.cd, .slice o.A2 o.ps.length o.cp], tv, tv, fv] 22) (by kernel_rfl) ?_
            refine then_n ?_
            exact ⟨(i + 1, d23, t1), ⟨(jl [ud, ud, ud, ud, ud, ud, ud, ud, ud, ud, J 10, ud, ud, ud, ud, ud, ud, ud, fv, tv, ud, ud, ud, ud, ud, ud, ud, ud, ud, ud, ud, ud, ud, ud, ud, ud, ud, ud, ud, ud, ud, ud, ud, iv ((i : Nat) : Int), .slice A3 ops.length c3, iv (ops.length : Nat), tv, iv ((i : Nat) : Int), iv ((i + 1 : Nat) : Int), .slice A4 zs.length c4, iv (zs.length : Nat), tv, tv, .slice A4 zs.length c4, iv ((i : Nat) : Int), .slice A4 zs.length c4, iv (zs.length : Nat), iv ((i % zs.length : Nat) : Int), .pointer (some (ad4.add (i % zs.length))), iv z, iv (Int.tmod z 2), fv, fv, fv, J 64, J 65, J 66, J 67, J 68, J 69, J 70, pq ga, pq gr, .slice A3 ops.length c3, iv ((i : Nat) : Int), .pointer (some (ad.add (i * 4))), .agg #[iv o.kind, iv o.at_, .slice o.A o.d.length o.cd, .slice o.A2 o.ps.length o.cp], tv, tv, fv]), by kernel_rfl, S25, ⟨by omega, by show (Dsk.pend d23).length ≤ i + 1; have := hI10.2; omega, by show (Dsk.pend t1).length ≤ i + 1; have := hI10.2; omega⟩⟩, (by show ops.length - (i + 1) < ops.length - i; omega)⟩
        · skip
          refine pv fv ?_
          refine wl_not (by kernel_rfl) ?_
          refine wl_not (by kernel_rfl) ?_
          refine wl_not (by kernel_rfl) ?_
          refine wl_not (by kernel_rfl) ?_
          refine wl_not (by kernel_rfl) ?_
          refine wl_not (by kernel_rfl) ?_
          refine wl_not (by kernel_rfl) ?_
          refine wl_not (by kernel_rfl) ?_
          refine wl_not (by kernel_rfl) ?_
          refine pv fv ?_
          refine pv fv ?_
          refine wl_end (fr [iv n, iv n2, .slice A l.length ca, .slice A3 ops.length c3, .slice A4 zs.length c4, ud, ud, ud, ud, ud, J 10, pq ga, pq gr, tv, pq gb, pq gt, tv, iv ((i : Nat) : Int), fv, J 19, .tuple #[pq ga, pq gr, tv], iv n, .slice A l.length ca, .tuple #[pq ga, pq gr, tv], pq ga, pq gr, tv, tv, fv, .tuple #[pq gb, pq gt, tv], iv n2, .tuple #[pq gb, pq gt, tv], pq gb, pq gt, tv, tv, fv, pq ga, fv, fv, pq gb, fv, fv, iv ((i : Nat) : Int), .slice A3 ops.length c3, iv (ops.length : Nat), tv, J 47, J 48, .slice A4 zs.length c4, iv (zs.length : Nat), fv, fv, ud, ud, ud, ud, ud, ud, ud, ud, ud, fv, J 63, J 64, J 65, J 66, J 67, J 68, J 69, J 70, J 71, J 72, J 73, J 74, J 75, J 76, J 77, J 78, J 79] 22) (by kernel_rfl) ?_
          refine then_n ?_
          refine wp_seq ?_
          refine wp_region_lit ?_
          refine pv fv ?_
          refine wl_end (fr [iv n, iv n2, .slice A l.length ca, .slice A3 ops.length c3, .slice A4 zs.length c4, ud, ud, ud, ud, ud, J 10, pq ga, pq gr, tv, pq gb, pq gt, tv, iv ((i : Nat) : Int), fv, fv, .tuple #[pq ga, pq gr, tv], iv n, .slice A l.length ca, .tuple #[pq ga, pq gr, tv], pq ga, pq gr, tv, tv, fv, .tuple #[pq gb, pq gt, tv], iv n2, .tuple #[pq gb, pq gt, tv], pq gb, pq gt, tv, tv, fv, pq ga, fv, fv, pq gb, fv, fv, iv ((i : Nat) : Int), .slice A3 ops.length c3, iv (ops.length : Nat), tv, J 47, J 48, .slice A4 zs.length c4, iv (zs.length : Nat), fv, fv, ud, ud, ud, ud, ud, ud, ud, ud, ud, fv, J 63, J 64, J 65, J 66, J 67, J 68, J 69, J 70, J 71, J 72, J 73, J 74, J 75, J 76, J 77, J 78, J 79] 22) (by kernel_rfl) ?_
          refine then_n ?_
          refine wp_seq ?_
          refine wp_seq ?_
          refine wp_region_lit ?_
          refine pv fv ?_
          refine wl_end (fr [iv n, iv n2, .slice A l.length ca, .slice A3 ops.length c3, .slice A4 zs.length c4, ud, ud, ud, ud, ud, J 10, pq ga, pq gr, tv, pq gb, pq gt, tv, iv ((i : Nat) : Int), fv, fv, .tuple #[pq ga, pq gr, tv], iv n, .slice A l.length ca, .tuple #[pq ga, pq gr, tv], pq ga, pq gr, tv, tv, fv, .tuple #[pq gb, pq gt, tv], iv n2, .tuple #[pq gb, pq gt, tv], pq gb, pq gt, tv, tv, fv, pq ga, fv, fv, pq gb, fv, fv, iv ((i : Nat) : Int), .slice A3 ops.length c3, iv (ops.length : Nat), tv, J 47, J 48, .slice A4 zs.length c4, iv (zs.length : Nat), fv, fv, ud, ud, ud, ud, ud, ud, ud, ud, ud, fv, fv, J 64, J 65, J 66, J 67, J 68, J 69, J 70, J 71, J 72, J 73, J 74, J 75, J 76, J 77, J 78, J 79] 22) (by kernel_rfl) ?_
          refine then_n ?_
          refine wp_cond_false (by kernel_rfl) ?_
          refine wp_region_lit ?_
          refine pv (pq ga) ?_
          refine pv (pq gr) ?_
          refine pv (.slice A3 ops.length c3) ?_
          refine pv (iv ((i : Nat) : Int)) ?_
          refine wl_gv rfl (gv_ixB (e := 49) (sz := 4) (n := ops.length) (c := c3) (i := ((i : Nat) : Int)) (k := .i64) (ad := ad) (ad' := (ad.add (i * 4))) (j := i) rfl (by kernel_rfl) (by kernel_rfl) (by rw [← hAd]; kernel_rfl) (by kernel_rfl) rfl (by omega) rfl ?_)
          refine wl_gv rfl (gv_ldRA (ad := ad.add (i * 4)) (vs := [.int .i64 o.kind, .int .i64 o.at_, .slice o.A o.d.length o.cd, .slice o.A2 o.ps.length o.cp]) (n := 4) rfl (by kernel_rfl) (by kernel_rfl) rfl (RoV.cells hrq (i * 4) (fun j u hu => opsV_at ops _ _ ho j u hu) (Nat.succ_pos _)) ?_)
          refine wl_gv rfl (gv_call (args := #[.pointer (some ⟨ga, 0, none⟩), .pointer (some ⟨gr, 0, none⟩), .agg #[.int .i64 o.kind, .int .i64 o.at_, .slice o.A o.d.length o.cd, .slice o.A2 o.ps.length o.cp]]) rfl Try.func32 (by kernel_rfl) rfl rfl (by kernel_rfl) ?_)
          have S26 : St none' w w8 [PDisk ga s1, RDisk gr s1, PDisk gb t1, RDisk gt t1] := St.permT [PDisk ga s1, RDisk gr s1, PDisk gb t1, RDisk gt t1] [0, 1, 2, 3] (by decide) rfl S9
          refine Calls.mono (step_all S26 (Ro.of_C hk.d (fun _ h => h)).T (RoV.of_rd hk.p _) hk.hat hk.dm hk.pm (by have := hI10.2; omega)) ?_
          rintro _ w27 ⟨rfl, d29, S28, hs30⟩
          refine ⟨_, rfl, ?_⟩
          refine pv tv ?_
          refine wl_end (fr [iv n, iv n2, .slice A l.length ca, .slice A3 ops.length c3, .slice A4 zs.length c4, ud, ud, ud, ud, ud, J 10, pq ga, pq gr, tv, pq gb, pq gt, tv, iv ((i : Nat) : Int), fv, tv, .tuple #[pq ga, pq gr, tv], iv n, .slice A l.length ca, .tuple #[pq ga, pq gr, tv], pq ga, pq gr, tv, tv, fv, .tuple #[pq gb, pq gt, tv], iv n2, .tuple #[pq gb, pq gt, tv], pq gb, pq gt, tv, tv, fv, pq ga, fv, fv, pq gb, fv, fv, iv ((i : Nat) : Int), .slice A3 ops.length c3, iv (ops.length : Nat), tv, J 47, J 48, .slice A4 zs.length c4, iv (zs.length : Nat), fv, fv, ud, ud, ud, ud, ud, ud, ud, ud, ud, fv, fv, J 64, J 65, J 66, J 67, J 68, J 69, J 70, pq ga, pq gr, .slice A3 ops.length c3, iv ((i : Nat) : Int), .pointer (some (ad.add (i * 4))), .agg #[iv o.kind, iv o.at_, .slice o.A o.d.length o.cd, .slice o.A2 o.ps.length o.cp], tv, J 78, J 79] 22) (by kernel_rfl) ?_
          refine then_n ?_
          refine wp_seq ?_
          refine wp_region_lit ?_
          refine pv tv ?_
          refine pv fv ?_
          refine wl_end (fr [iv n, iv n2, .slice A l.length ca, .slice A3 ops.length c3, .slice A4 zs.length c4, ud, ud, ud, ud, ud, J 10, pq ga, pq gr, tv, pq gb, pq gt, tv, iv ((i : Nat) : Int), fv, tv, .tuple #[pq ga, pq gr, tv], iv n, .slice A l.length ca, .tuple #[pq ga, pq gr, tv], pq ga, pq gr, tv, tv, fv, .tuple #[pq gb, pq gt, tv], iv n2, .tuple #[pq gb, pq gt, tv], pq gb, pq gt, tv, tv, fv, pq ga, fv, fv, pq gb, fv, fv, iv ((i : Nat) : Int), .slice A3 ops.length c3, iv (ops.length : Nat), tv, J 47, J 48, .slice A4 zs.length c4, iv (zs.length : Nat), fv, fv, ud, ud, ud, ud, ud, ud, ud, ud, ud, fv, fv, J 64, J 65, J 66, J 67, J 68, J 69, J 70, pq ga, pq gr, .slice A3 ops.length c3, iv ((i : Nat) : Int), .pointer (some (ad.add (i * 4))), .agg #[iv o.kind, iv o.at_, .slice o.A o.d.length o.cd, .slice o.A2 o.ps.length o.cp], tv, tv, fv] 22) (by kernel_rfl) ?_
          refine then_n ?_
          refine wp_cond_false (by kernel_rfl) ?_
          refine wp_skip ?_
          refine inb_n ?_
          refine then_n ?_
          refine wp_region_lit ?_
          refine pv (iv ((i : Nat) : Int)) ?_
          refine wl_gv rfl (gv_int (k := .i64) (z := IntKind.i64.wrap (((i : Nat) : Int) + 1)) (z' := ((i + 1 : Nat) : Int)) (by kernel_rfl) (wr_eq (by omega) (by omega) (by omega)) ?_)
          refine pv (iv ((i + 1 : Nat) : Int)) ?_
          have S31 : St none' w w27 [PDisk ga d29, RDisk gr d29, PDisk gb t1, RDisk gt t1] := St.permT [PDisk ga d29, RDisk gr d29, PDisk gb t1, RDisk gt t1] [0, 1, 2, 3] (by decide) rfl S28
          refine wl_end (fr [iv n, iv n2, .slice A l.length ca, .slice A3 ops.length c3, .slice A4 zs.length c4, ud, ud, ud, ud, ud, J 10, pq ga, pq gr, tv, pq gb, pq gt, tv, iv ((i + 1 : Nat) : Int), fv, tv, .tuple #[pq ga, pq gr, tv], iv n, .slice A l.length ca, .tuple #[pq ga, pq gr, tv], pq ga, pq gr, tv, tv, fv, .tuple #[pq gb, pq gt, tv], iv n2, .tuple #[pq gb, pq gt, tv], pq gb, pq gt, tv, tv, fv, pq ga, fv, fv, pq gb, fv, fv, iv ((i : Nat) : Int), .slice A3 ops.length c3, iv (ops.length : Nat), tv, iv ((i : Nat) : Int), iv ((i + 1 : Nat) : Int), .slice A4 zs.length c4, iv (zs.length : Nat), fv, fv, ud, ud, ud, ud, ud, ud, ud, ud, ud, fv, fv, J 64, J 65, J 66, J 67, J 68, J 69, J 70, pq ga, pq gr, .slice A3 ops.length c3, iv ((i : Nat) : Int), .pointer (some (ad.add (i * 4))), .agg #[iv o.kind, iv o.at_, .slice o.A o.d.length o.cd, .slice o.A2 o.ps.length o.cp], tv, tv, fv] 22) (by kernel_rfl) ?_
          refine then_n ?_
          exact ⟨(i + 1, d29, t1), ⟨(jl [ud, ud, ud, ud, ud, ud, ud, ud, ud, ud, J 10, ud, ud, ud, ud, ud, ud, ud, fv, tv, ud, ud, ud, ud, ud, ud, ud, ud, ud, ud, ud, ud, ud, ud, ud, ud, ud, ud, ud, ud, ud, ud, ud, iv ((i : Nat) : Int), .slice A3 ops.length c3, iv (ops.length : Nat), tv, iv ((i : Nat) : Int), iv ((i + 1 : Nat) : Int), .slice A4 zs.length c4, iv (zs.length : Nat), fv, fv, ud, ud, ud, ud, ud, ud, ud, ud, ud, fv, fv, J 64, J 65, J 66, J 67, J 68, J 69, J 70, pq ga, pq gr, .slice A3 ops.length c3, iv ((i : Nat) : Int), .pointer (some (ad.add (i * 4))), .agg #[iv o.kind, iv o.at_, .slice o.A o.d.length o.cd, .slice o.A2 o.ps.length o.cp], tv, tv, fv]), by kernel_rfl, S31, ⟨by omega, by show (Dsk.pend d29).length ≤ i + 1; have := hI10.2; omega, by show (Dsk.pend t1).length ≤ i + 1; have := hI10.2; omega⟩⟩, (by show ops.length - (i + 1) < ops.length - i; omega)⟩
      · skip
        refine wl_end (fr [iv n, iv n2, .slice A l.length ca, .slice A3 ops.length c3, .slice A4 zs.length c4, ud, ud, ud, ud, ud, J 10, pq ga, pq gr, tv, pq gb, pq gt, tv, iv ((i : Nat) : Int), J 18, J 19, .tuple #[pq ga, pq gr, tv], iv n, .slice A l.length ca, .tuple #[pq ga, pq gr, tv], pq ga, pq gr, tv, tv, fv, .tuple #[pq gb, pq gt, tv], iv n2, .tuple #[pq gb, pq gt, tv], pq gb, pq gt, tv, tv, fv, pq ga, fv, fv, pq gb, fv, fv, iv ((i : Nat) : Int), .slice A3 ops.length c3, iv (ops.length : Nat), fv, J 47, J 48, J 49, J 50, J 51, J 52, J 53, J 54, J 55, J 56, J 57, J 58, J 59, J 60, J 61, J 62, J 63, J 64, J 65, J 66, J 67, J 68, J 69, J 70, J 71, J 72, J 73, J 74, J 75, J 76, J 77, J 78, J 79] 22) (by kernel_rfl) ?_
        refine then_n ?_
        refine wp_cond_false (by kernel_rfl) ?_
        refine wp_exit ?_
        refine then_x ?_
        refine then_x ?_
        refine inb_x ?_
        refine then_n ?_
        refine wp_seq ?_
        refine wp_region_lit ?_
        refine pv (pq ga) ?_
        refine pv (pq gr) ?_
        refine pv (.agg #[iv 9, iv 0, .slice none 0 0, .slice none 0 0]) ?_
        refine wl_gv rfl (gv_call (args := #[.pointer (some ⟨ga, 0, none⟩), .pointer (some ⟨gr, 0, none⟩), .agg #[.int .i64 9, .int .i64 0, .slice none 0 0, .slice none 0 0]]) rfl Try.func32 (by kernel_rfl) rfl rfl (by kernel_rfl) ?_)
        have S32 : St none' w w8 [PDisk ga s1, RDisk gr s1, PDisk gb t1, RDisk gt t1] := St.permT [PDisk ga s1, RDisk gr s1, PDisk gb t1, RDisk gt t1] [0, 1, 2, 3] (by decide) rfl S9
        refine Calls.mono (step_all (A := none) (A2 := none) (d := []) (ps := []) (cd := 0) (cp := 0) S32 RoT.nil RoV.nil (by decide) (Nat.zero_le _) (Nat.zero_le _) (by have := hI10; omega)) ?_
        rintro _ w33 ⟨rfl, d35, S34, hs36⟩
        refine ⟨_, rfl, ?_⟩
        refine pv tv ?_
        refine wl_when (by kernel_rfl) (gv_val (v := .pointer (some ⟨gb, 0, none⟩)) (w' := w33) (by kernel_rfl) ?_)
        refine wl_when (by kernel_rfl) (gv_val (v := .pointer (some ⟨gt, 0, none⟩)) (w' := w33) (by kernel_rfl) ?_)
        refine wl_when (by kernel_rfl) (gv_val (v := .agg #[.int .i64 9, .int .i64 0, .slice none 0 0, .slice none 0 0]) (w' := w33) (by kernel_rfl) ?_)
        refine wl_when (by kernel_rfl) (gv_call (args := #[.pointer (some ⟨gb, 0, none⟩), .pointer (some ⟨gt, 0, none⟩), .agg #[.int .i64 9, .int .i64 0, .slice none 0 0, .slice none 0 0]]) rfl Try.func32 (by kernel_rfl) rfl rfl (by kernel_rfl) ?_)
        have S37 : St none' w w33 [PDisk gb t1, RDisk gt t1, PDisk ga d35, RDisk gr d35] := St.permT [PDisk ga d35, RDisk gr d35, PDisk gb t1, RDisk gt t1] [2, 3, 0, 1] (by decide) rfl S34
        refine Calls.mono (step_all (A := none) (A2 := none) (d := []) (ps := []) (cd := 0) (cp := 0) S37 RoT.nil RoV.nil (by decide) (Nat.zero_le _) (Nat.zero_le _) (by have := hI10; omega)) ?_
        rintro _ w38 ⟨rfl, d40, S39, hs41⟩
        refine ⟨_, rfl, ?_⟩
        refine pv tv ?_
        refine pv tv ?_
        refine wl_when (by kernel_rfl) (gv_val (v := .pointer (some ⟨ga, 0, none⟩)) (w' := w38) (by kernel_rfl) ?_)
        refine wl_when (by kernel_rfl) (gv_val (v := .pointer (some ⟨gr, 0, none⟩)) (w' := w38) (by kernel_rfl) ?_)
        refine wl_when (by kernel_rfl) (gv_val (v := .agg #[.int .i64 10, .int .i64 0, .slice none 0 0, .slice none 0 0]) (w' := w38) (by kernel_rfl) ?_)
        refine wl_when (by kernel_rfl) (gv_call (args := #[.pointer (some ⟨ga, 0, none⟩), .pointer (some ⟨gr, 0, none⟩), .agg #[.int .i64 10, .int .i64 0, .slice none 0 0, .slice none 0 0]]) rfl Try.func32 (by kernel_rfl) rfl rfl (by kernel_rfl) ?_)
        have S42 : St none' w w38 [PDisk ga d35, RDisk gr d35, PDisk gb d40, RDisk gt d40] := St.permT [PDisk gb d40, RDisk gt d40, PDisk ga d35, RDisk gr d35] [2, 3, 0, 1] (by decide) rfl S39
        refine Calls.mono (step_all (A := none) (A2 := none) (d := []) (ps := []) (cd := 0) (cp := 0) S42 RoT.nil RoV.nil (by decide) (Nat.zero_le _) (Nat.zero_le _) (by have := hI10; omega)) ?_
        rintro _ w43 ⟨rfl, d45, S44, hs46⟩
        refine ⟨_, rfl, ?_⟩
        refine pv tv ?_
        refine pv tv ?_
        refine wl_when (by kernel_rfl) (gv_val (v := .pointer (some ⟨gb, 0, none⟩)) (w' := w43) (by kernel_rfl) ?_)
        refine wl_when (by kernel_rfl) (gv_val (v := .pointer (some ⟨gt, 0, none⟩)) (w' := w43) (by kernel_rfl) ?_)
        refine wl_when (by kernel_rfl) (gv_val (v := .agg #[.int .i64 10, .int .i64 0, .slice none 0 0, .slice none 0 0]) (w' := w43) (by kernel_rfl) ?_)
        refine wl_when (by kernel_rfl) (gv_call (args := #[.pointer (some ⟨gb, 0, none⟩), .pointer (some ⟨gt, 0, none⟩), .agg #[.int .i64 10, .int .i64 0, .slice none 0 0, .slice none 0 0]]) rfl Try.func32 (by kernel_rfl) rfl rfl (by kernel_rfl) ?_)
        have S47 : St none' w w43 [PDisk gb d40, RDisk gt d40, PDisk ga d45, RDisk gr d45] := St.permT [PDisk ga d45, RDisk gr d45, PDisk gb d40, RDisk gt d40] [2, 3, 0, 1] (by decide) rfl S44
        refine Calls.mono (step_all (A := none) (A2 := none) (d := []) (ps := []) (cd := 0) (cp := 0) S47 RoT.nil RoV.nil (by decide) (Nat.zero_le _) (Nat.zero_le _) (by have := hI10; omega)) ?_
        rintro _ w48 ⟨rfl, d50, S49, hs51⟩
        refine ⟨_, rfl, ?_⟩
        refine pv tv ?_
        refine pv tv ?_
        refine wl_end (fr [iv n, iv n2, .slice A l.length ca, .slice A3 ops.length c3, .slice A4 zs.length c4, ud, ud, ud, ud, ud, tv, pq ga, pq gr, tv, pq gb, pq gt, tv, iv ((i : Nat) : Int), J 18, J 19, .tuple #[pq ga, pq gr, tv], iv n, .slice A l.length ca, .tuple #[pq ga, pq gr, tv], pq ga, pq gr, tv, tv, fv, .tuple #[pq gb, pq gt, tv], iv n2, .tuple #[pq gb, pq gt, tv], pq gb, pq gt, tv, tv, fv, pq ga, fv, fv, pq gb, fv, fv, iv ((i : Nat) : Int), .slice A3 ops.length c3, iv (ops.length : Nat), fv, J 47, J 48, J 49, J 50, J 51, J 52, J 53, J 54, J 55, J 56, J 57, J 58, J 59, J 60, J 61, J 62, J 63, J 64, J 65, J 66, J 67, J 68, J 69, J 70, J 71, J 72, J 73, J 74, J 75, J 76, J 77, J 78, J 79, pq ga, pq gr, .agg #[iv 9, iv 0, .slice none 0 0, .slice none 0 0], tv, tv, pq gb, pq gt, .agg #[iv 9, iv 0, .slice none 0 0, .slice none 0 0], tv, tv, tv, pq ga, pq gr, .agg #[iv 10, iv 0, .slice none 0 0, .slice none 0 0], tv, tv, tv, pq gb, pq gt, .agg #[iv 10, iv 0, .slice none 0 0, .slice none 0 0], tv, tv] 0) (by kernel_rfl) ?_
        refine then_n ?_
        refine wp_ret ?_
        refine bodyPost_ret (v := .bool true) (results_t1 rfl (by kernel_rfl)) rfl ?_
        exact ⟨rfl, S49.fr.below⟩
end Go.Proofs
