/- Burnt, Life, Sectors, Take, Fuse, Counts, spent, Now, Read of the document's disk. -/
import Derived.Test.YtefmefimhiedfaaHRDsk
import Derived.Test.YtefmefimhiedfaaHDisk5
open Go Go.RowKit Go.Proofs.YtefmefimhiedfaaW.PrintWords Go.Proofs.YtefmefimhiedfaaW.PrintMore
namespace Go.Proofs
open Go.Vel
set_option linter.unusedVariables false
set_option maxRecDepth 100000
set_option maxHeartbeats 4000000
attribute [local irreducible] gives wpList Code.wp

theorem rd_burnt {F : Nat → Prop} {w0 w : World} {L : List Ast} {g : Nat} {s : Dsk} (S : St F w0 w (RDisk g s :: L)) : Calls Try.prog 82 #[.pointer (some ⟨g, 0, none⟩)] w fun e w' => e = .returned (.bool (decide (s.left = 0))) ∧ St F w0 w' (RDisk g s :: L) := by
  obtain ⟨gl, cl, c2, A2, junk, LL, PP, pool, hf, hcl, hju, S⟩ := St.ropen S
  have hn2 := hf.n2
  have hll := hf.ll
  have hpp := hf.pp
  have hpn := hf.pn
  change St F w0 w (row g #[.slice (some ⟨gl, 0, none⟩) LL.length cl, .slice A2 PP.length c2, .int .i64 s.left, .int .i64 s.life, .int .i64 s.rd, .int .i64 s.wr, .int .i64 s.fl, .int .i64 s.rf, .int .i64 0] 96 :: row gl ((LL.map PEnt.val ++ junk).toArray) 31 :: vec 99 2 (.slice A2 PP.length c2) PP.length (putsV PP) :: stars (pool.map PEnt.row) :: L) at S
  refine wp_enter (fr [pq g] 7) Try.func82 rfl (by kernel_rfl) ?_
  refine wp_seq ?_
  refine wp_region_lit ?_
  refine pv fv ?_
  refine wl_end (fr [pq g, ud, fv] 5) (by kernel_rfl) ?_
  refine then_n ?_
  refine wp_seq ?_
  refine wp_region_lit ?_
  refine pv (pq g) ?_
  refine pv (pq g) ?_
  refine pv (po g 2) ?_
  refine wl_gv rfl (gv_ldR (v := .int .i64 s.left) rfl (by kernel_rfl) (by kernel_rfl) (((S.blk 0 rfl).cell 2).trans rfl) ?_)
  refine wl_gv rfl (gv_eq (x := s.left) (y := 0) (by kernel_rfl) (fun hb => ?_) (fun hb => ?_))
  · skip
    refine pv tv ?_
    refine wl_end (fr [pq g, ud, tv, pq g, pq g, po g 2, iv s.left, tv] 0) (by kernel_rfl) ?_
    refine then_n ?_
    refine wp_ret ?_
    refine bodyPost_ret (v := .bool true) (results_t1 rfl (by kernel_rfl)) rfl ?_
    exact ⟨by rw [decide_eq_true hb], St.rclose (gl := gl) (cl := cl) (c2 := c2) (A2 := A2) (junk := junk) (LL := LL) (PP := PP) (pool := pool) (s := s) S (hf.upd rfl rfl hf.lb) hcl hju⟩
  · skip
    refine pv fv ?_
    refine wl_end (fr [pq g, ud, fv, pq g, pq g, po g 2, iv s.left, fv] 0) (by kernel_rfl) ?_
    refine then_n ?_
    refine wp_ret ?_
    refine bodyPost_ret (v := .bool false) (results_t1 rfl (by kernel_rfl)) rfl ?_
    exact ⟨by rw [decide_eq_false hb], St.rclose (gl := gl) (cl := cl) (c2 := c2) (A2 := A2) (junk := junk) (LL := LL) (PP := PP) (pool := pool) (s := s) S (hf.upd rfl rfl hf.lb) hcl hju⟩
theorem rd_life {F : Nat → Prop} {w0 w : World} {L : List Ast} {g : Nat} {s : Dsk} (S : St F w0 w (RDisk g s :: L)) : Calls Try.prog 83 #[.pointer (some ⟨g, 0, none⟩)] w fun e w' => e = .returned (.int .i64 s.life) ∧ St F w0 w' (RDisk g s :: L) := by
  obtain ⟨gl, cl, c2, A2, junk, LL, PP, pool, hf, hcl, hju, S⟩ := St.ropen S
  have hn2 := hf.n2
  have hll := hf.ll
  have hpp := hf.pp
  have hpn := hf.pn
  change St F w0 w (row g #[.slice (some ⟨gl, 0, none⟩) LL.length cl, .slice A2 PP.length c2, .int .i64 s.left, .int .i64 s.life, .int .i64 s.rd, .int .i64 s.wr, .int .i64 s.fl, .int .i64 s.rf, .int .i64 0] 96 :: row gl ((LL.map PEnt.val ++ junk).toArray) 31 :: vec 99 2 (.slice A2 PP.length c2) PP.length (putsV PP) :: stars (pool.map PEnt.row) :: L) at S
  refine wp_enter (fr [pq g] 6) Try.func83 rfl (by kernel_rfl) ?_
  refine wp_seq ?_
  refine wp_region_lit ?_
  refine pv (iv 0) ?_
  refine wl_end (fr [pq g, ud, iv 0] 4) (by kernel_rfl) ?_
  refine then_n ?_
  refine wp_seq ?_
  refine wp_region_lit ?_
  refine pv (pq g) ?_
  refine pv (pq g) ?_
  refine pv (po g 3) ?_
  refine wl_gv rfl (gv_ldR (v := .int .i64 s.life) rfl (by kernel_rfl) (by kernel_rfl) (((S.blk 0 rfl).cell 3).trans rfl) ?_)
  refine pv (iv s.life) ?_
  refine wl_end (fr [pq g, ud, iv s.life, pq g, pq g, po g 3, iv s.life] 0) (by kernel_rfl) ?_
  refine then_n ?_
  refine wp_ret ?_
  refine bodyPost_ret (v := .int .i64 s.life) (results_t1 rfl (by kernel_rfl)) rfl ?_
  exact ⟨rfl, St.rclose (gl := gl) (cl := cl) (c2 := c2) (A2 := A2) (junk := junk) (LL := LL) (PP := PP) (pool := pool) (s := s) S (hf.upd rfl rfl hf.lb) hcl hju⟩
theorem rd_sectors {F : Nat → Prop} {w0 w : World} {L : List Ast} {g : Nat} {s : Dsk} (S : St F w0 w (RDisk g s :: L)) : Calls Try.prog 85 #[.pointer (some ⟨g, 0, none⟩)] w fun e w' => e = .returned (.int .i64 (s.last.length : Int)) ∧ St F w0 w' (RDisk g s :: L) := by
  obtain ⟨gl, cl, c2, A2, junk, LL, PP, pool, hf, hcl, hju, S⟩ := St.ropen S
  have hn2 := hf.n2
  have hll := hf.ll
  have hpp := hf.pp
  have hpn := hf.pn
  change St F w0 w (row g #[.slice (some ⟨gl, 0, none⟩) LL.length cl, .slice A2 PP.length c2, .int .i64 s.left, .int .i64 s.life, .int .i64 s.rd, .int .i64 s.wr, .int .i64 s.fl, .int .i64 s.rf, .int .i64 0] 96 :: row gl ((LL.map PEnt.val ++ junk).toArray) 31 :: vec 99 2 (.slice A2 PP.length c2) PP.length (putsV PP) :: stars (pool.map PEnt.row) :: L) at S
  refine wp_enter (fr [pq g] 7) Try.func85 rfl (by kernel_rfl) ?_
  refine wp_seq ?_
  refine wp_region_lit ?_
  refine pv (iv 0) ?_
  refine wl_end (fr [pq g, ud, iv 0] 5) (by kernel_rfl) ?_
  refine then_n ?_
  refine wp_seq ?_
  refine wp_region_lit ?_
  refine pv (pq g) ?_
  refine pv (pq g) ?_
  refine pv (pq g) ?_
  refine wl_gv rfl (gv_ldR (v := .slice (some ⟨gl, 0, none⟩) LL.length cl) rfl (by kernel_rfl) (by kernel_rfl) (((S.blk 0 rfl).cell 0).trans rfl) ?_)
  refine pv (iv (LL.length : Nat)) ?_
  refine pv (iv (LL.length : Nat)) ?_
  refine wl_end (fr [pq g, ud, iv (LL.length : Nat), pq g, pq g, pq g, sl gl 0 LL.length cl, iv (LL.length : Nat)] 0) (by kernel_rfl) ?_
  refine then_n ?_
  refine wp_ret ?_
  refine bodyPost_ret (v := .int .i64 (LL.length : Nat)) (results_t1 rfl (by kernel_rfl)) rfl ?_
  exact ⟨by rw [hll], St.rclose (gl := gl) (cl := cl) (c2 := c2) (A2 := A2) (junk := junk) (LL := LL) (PP := PP) (pool := pool) (s := s) S (hf.upd rfl rfl hf.lb) hcl hju⟩
theorem rd_take {F : Nat → Prop} {w0 w : World} {L : List Ast} {g : Nat} {s : Dsk} (S : St F w0 w (RDisk g s :: L)) : Calls Try.prog 67 #[.pointer (some ⟨g, 0, none⟩)] w fun e w' => e = .returned (.int .i64 (inc s.life)) ∧ St F w0 w' (RDisk g ({ s with life := inc s.life }) :: L) := by
  obtain ⟨gl, cl, c2, A2, junk, LL, PP, pool, hf, hcl, hju, S⟩ := St.ropen S
  have hn2 := hf.n2
  have hll := hf.ll
  have hpp := hf.pp
  have hpn := hf.pn
  change St F w0 w (row g #[.slice (some ⟨gl, 0, none⟩) LL.length cl, .slice A2 PP.length c2, .int .i64 s.left, .int .i64 s.life, .int .i64 s.rd, .int .i64 s.wr, .int .i64 s.fl, .int .i64 s.rf, .int .i64 0] 96 :: row gl ((LL.map PEnt.val ++ junk).toArray) 31 :: vec 99 2 (.slice A2 PP.length c2) PP.length (putsV PP) :: stars (pool.map PEnt.row) :: L) at S
  refine wp_enter (fr [pq g] 13) Try.func67 rfl (by kernel_rfl) ?_
  refine wp_seq ?_
  refine wp_region_lit ?_
  refine pv (iv 0) ?_
  refine wl_end (fr [pq g, ud, iv 0] 11) (by kernel_rfl) ?_
  refine then_n ?_
  refine wp_seq ?_
  refine wp_region_lit ?_
  refine pv (pq g) ?_
  refine pv (pq g) ?_
  refine pv (po g 3) ?_
  refine wl_gv rfl (gv_ldR (v := .int .i64 s.life) rfl (by kernel_rfl) (by kernel_rfl) (((S.blk 0 rfl).cell 3).trans rfl) ?_)
  refine pv (iv (inc s.life)) ?_
  refine pv (pq g) ?_
  refine pv (po g 3) ?_
  refine wl_gv rfl (gv_st (k := 3) (v := .int .i64 (inc s.life)) S 0 rfl rfl (by kernel_rfl) (by kernel_rfl) (by kernel_rfl) rfl rfl (L' := (row g #[.slice (some ⟨gl, 0, none⟩) LL.length cl, .slice A2 PP.length c2, .int .i64 s.left, .int .i64 (inc s.life), .int .i64 s.rd, .int .i64 s.wr, .int .i64 s.fl, .int .i64 s.rf, .int .i64 0] 96 :: row gl ((LL.map PEnt.val ++ junk).toArray) 31 :: vec 99 2 (.slice A2 PP.length c2) PP.length (putsV PP) :: stars (pool.map PEnt.row) :: L)) rfl (fun w1 S2 => ?_))
  refine wl_end (fr [pq g, ud, iv 0, pq g, pq g, po g 3, iv s.life, iv (inc s.life), pq g, po g 3] 4) (by kernel_rfl) ?_
  refine then_n ?_
  refine wp_seq ?_
  refine wp_region_lit ?_
  refine pv (pq g) ?_
  refine pv (pq g) ?_
  refine pv (po g 3) ?_
  refine wl_gv rfl (gv_ldR (v := .int .i64 (inc s.life)) rfl (by kernel_rfl) (by kernel_rfl) (((S2.blk 0 rfl).cell 3).trans rfl) ?_)
  refine pv (iv (inc s.life)) ?_
  refine wl_end (fr [pq g, ud, iv (inc s.life), pq g, pq g, po g 3, iv s.life, iv (inc s.life), pq g, po g 3, pq g, pq g, po g 3, iv (inc s.life)] 0) (by kernel_rfl) ?_
  refine then_n ?_
  refine wp_ret ?_
  refine bodyPost_ret (v := .int .i64 (inc s.life)) (results_t1 rfl (by kernel_rfl)) rfl ?_
  exact ⟨rfl, St.rclose (gl := gl) (cl := cl) (c2 := c2) (A2 := A2) (junk := junk) (LL := LL) (PP := PP) (pool := pool) (s := ({ s with life := inc s.life })) S2 (hf.upd rfl rfl hf.lb) hcl hju⟩
theorem rd_counts {F : Nat → Prop} {w0 w : World} {L : List Ast} {g : Nat} {s : Dsk} (S : St F w0 w (RDisk g s :: L)) : Calls Try.prog 84 #[.pointer (some ⟨g, 0, none⟩)] w fun e w' => e = .returned (.agg #[.int .i64 s.rd, .int .i64 s.wr, .int .i64 s.fl, .int .i64 s.rf, .int .i64 (s.pend.length : Int)]) ∧ St F w0 w' (RDisk g s :: L) := by
  obtain ⟨gl, cl, c2, A2, junk, LL, PP, pool, hf, hcl, hju, S⟩ := St.ropen S
  have hn2 := hf.n2
  have hll := hf.ll
  have hpp := hf.pp
  have hpn := hf.pn
  change St F w0 w (row g #[.slice (some ⟨gl, 0, none⟩) LL.length cl, .slice A2 PP.length c2, .int .i64 s.left, .int .i64 s.life, .int .i64 s.rd, .int .i64 s.wr, .int .i64 s.fl, .int .i64 s.rf, .int .i64 0] 96 :: row gl ((LL.map PEnt.val ++ junk).toArray) 31 :: vec 99 2 (.slice A2 PP.length c2) PP.length (putsV PP) :: stars (pool.map PEnt.row) :: L) at S
  refine wp_enter (fr [pq g] 14) Try.func84 rfl (by kernel_rfl) ?_
  refine wp_seq ?_
  refine wp_region_lit ?_
  refine wl_gv rfl (gv_new (z := .agg #[.int .i64 0, .int .i64 0, .int .i64 0, .int .i64 0, .int .i64 0]) S rfl (by kernel_rfl) (fun g1 w2 hg3 S4 => ?_))
  refine wl_end (fr [pq g, ud, pq g1] 12) (by kernel_rfl) ?_
  refine then_n ?_
  refine wp_seq ?_
  refine wp_region_lit ?_
  refine pv (pq g) ?_
  refine pv (pq g) ?_
  refine pv (po g 4) ?_
  refine wl_gv rfl (gv_ldA (k := 4) (n := 5) (vs := [.int .i64 s.rd, .int .i64 s.wr, .int .i64 s.fl, .int .i64 s.rf, .int .i64 0]) S4 1 rfl rfl (by kernel_rfl) (by kernel_rfl) rfl rfl ?_)
  refine wl_gv rfl (gv_new (z := .agg #[.int .i64 0, .int .i64 0, .int .i64 0, .int .i64 0, .int .i64 0]) S4 rfl (by kernel_rfl) (fun g5 w6 hg7 S8 => ?_))
  refine wl_gv rfl (gv_stA (k := 0) (vs := [.int .i64 s.rd, .int .i64 s.wr, .int .i64 s.fl, .int .i64 s.rf, .int .i64 0]) S8 0 rfl rfl (by kernel_rfl) (by kernel_rfl) (by kernel_rfl) rfl (by simp [Value.oneCell']) (Nat.le_of_ble_eq_true (by kernel_rfl)) (L' := (row g5 #[.int .i64 s.rd, .int .i64 s.wr, .int .i64 s.fl, .int .i64 s.rf, .int .i64 0] 29 :: row g1 #[.int .i64 0, .int .i64 0, .int .i64 0, .int .i64 0, .int .i64 0] 29 :: row g #[.slice (some ⟨gl, 0, none⟩) LL.length cl, .slice A2 PP.length c2, .int .i64 s.left, .int .i64 s.life, .int .i64 s.rd, .int .i64 s.wr, .int .i64 s.fl, .int .i64 s.rf, .int .i64 0] 96 :: row gl ((LL.map PEnt.val ++ junk).toArray) 31 :: vec 99 2 (.slice A2 PP.length c2) PP.length (putsV PP) :: stars (pool.map PEnt.row) :: L)) rfl (fun w9 S10 => ?_))
  refine wl_end (fr [pq g, ud, pq g1, pq g5, pq g, pq g, po g 4, .agg #[iv s.rd, iv s.wr, iv s.fl, iv s.rf, iv 0]] 7) (by kernel_rfl) ?_
  refine then_n ?_
  refine wp_seq ?_
  refine wp_region_lit ?_
  refine pv (pq g) ?_
  refine pv (pq g) ?_
  refine pv (po g 1) ?_
  refine wl_gv rfl (gv_ldR (v := .slice A2 PP.length c2) rfl (by kernel_rfl) (by kernel_rfl) (((S10.blk 2 rfl).cell 1).trans rfl) ?_)
  refine pv (iv (PP.length : Nat)) ?_
  refine pv (po g5 4) ?_
  refine wl_gv rfl (gv_st (k := 4) (v := .int .i64 (PP.length : Nat)) S10 0 rfl rfl (by kernel_rfl) (by kernel_rfl) (by kernel_rfl) rfl rfl (L' := (row g5 #[.int .i64 s.rd, .int .i64 s.wr, .int .i64 s.fl, .int .i64 s.rf, .int .i64 (PP.length : Nat)] 29 :: row g1 #[.int .i64 0, .int .i64 0, .int .i64 0, .int .i64 0, .int .i64 0] 29 :: row g #[.slice (some ⟨gl, 0, none⟩) LL.length cl, .slice A2 PP.length c2, .int .i64 s.left, .int .i64 s.life, .int .i64 s.rd, .int .i64 s.wr, .int .i64 s.fl, .int .i64 s.rf, .int .i64 0] 96 :: row gl ((LL.map PEnt.val ++ junk).toArray) 31 :: vec 99 2 (.slice A2 PP.length c2) PP.length (putsV PP) :: stars (pool.map PEnt.row) :: L)) rfl (fun w11 S12 => ?_))
  refine wl_end (fr [pq g, ud, pq g1, pq g5, pq g, pq g, po g 4, .agg #[iv s.rd, iv s.wr, iv s.fl, iv s.rf, iv 0], pq g, pq g, po g 1, .slice A2 PP.length c2, iv (PP.length : Nat), po g5 4] 1) (by kernel_rfl) ?_
  refine then_n ?_
  refine wp_seq ?_
  refine wp_region_lit ?_
  refine wl_gv rfl (gv_ldA (k := 0) (n := 5) (vs := [.int .i64 s.rd, .int .i64 s.wr, .int .i64 s.fl, .int .i64 s.rf, .int .i64 (PP.length : Nat)]) S12 0 rfl rfl (by kernel_rfl) (by kernel_rfl) rfl rfl ?_)
  refine wl_gv rfl (gv_stA (k := 0) (vs := [.int .i64 s.rd, .int .i64 s.wr, .int .i64 s.fl, .int .i64 s.rf, .int .i64 (PP.length : Nat)]) S12 1 rfl rfl (by kernel_rfl) (by kernel_rfl) (by kernel_rfl) rfl (by simp [Value.oneCell']) (Nat.le_of_ble_eq_true (by kernel_rfl)) (L' := (row g5 #[.int .i64 s.rd, .int .i64 s.wr, .int .i64 s.fl, .int .i64 s.rf, .int .i64 (PP.length : Nat)] 29 :: row g1 #[.int .i64 s.rd, .int .i64 s.wr, .int .i64 s.fl, .int .i64 s.rf, .int .i64 (PP.length : Nat)] 29 :: row g #[.slice (some ⟨gl, 0, none⟩) LL.length cl, .slice A2 PP.length c2, .int .i64 s.left, .int .i64 s.life, .int .i64 s.rd, .int .i64 s.wr, .int .i64 s.fl, .int .i64 s.rf, .int .i64 0] 96 :: row gl ((LL.map PEnt.val ++ junk).toArray) 31 :: vec 99 2 (.slice A2 PP.length c2) PP.length (putsV PP) :: stars (pool.map PEnt.row) :: L)) rfl (fun w13 S14 => ?_))
  refine wl_end (fr [pq g, ud, pq g1, pq g5, pq g, pq g, po g 4, .agg #[iv s.rd, iv s.wr, iv s.fl, iv s.rf, iv 0], pq g, pq g, po g 1, .slice A2 PP.length c2, iv (PP.length : Nat), po g5 4, .agg #[iv s.rd, iv s.wr, iv s.fl, iv s.rf, iv (PP.length : Nat)]] 0) (by kernel_rfl) ?_
  refine then_n ?_
  refine wp_ret ?_
  refine bodyPost_ret (v := .agg #[.int .i64 s.rd, .int .i64 s.wr, .int .i64 s.fl, .int .i64 s.rf, .int .i64 (PP.length : Nat)]) (results_cell1 rfl _ (S14.get 1 rfl) (by kernel_rfl) (by kernel_rfl)) rfl ?_
  exact ⟨by rw [← hpp], St.rclose (gl := gl) (cl := cl) (c2 := c2) (A2 := A2) (junk := junk) (LL := LL) (PP := PP) (pool := pool) (s := s) (St.tail (St.tail S14)) (hf.upd rfl rfl hf.lb) hcl hju⟩
theorem rd_fuse {n : Int} (hn : n ≤ 9223372036854775807) {F : Nat → Prop} {w0 w : World} {L : List Ast} {g : Nat} {s : Dsk} (S : St F w0 w (RDisk g s :: L)) : Calls Try.prog 65 #[.pointer (some ⟨g, 0, none⟩), .int .i64 n] w fun e w' => e = .returned (.tuple #[]) ∧ St F w0 w' (RDisk g (s.fuseR n) :: L) := by
  obtain ⟨gl, cl, c2, A2, junk, LL, PP, pool, hf, hcl, hju, S⟩ := St.ropen S
  have hn2 := hf.n2
  have hll := hf.ll
  have hpp := hf.pp
  have hpn := hf.pn
  by_cases hz : s.left = 0
  · have e : s.fuseR n = s := by unfold Dsk.fuseR; rw [if_pos hz]
    rw [e]
    change St F w0 w (row g #[.slice (some ⟨gl, 0, none⟩) LL.length cl, .slice A2 PP.length c2, .int .i64 s.left, .int .i64 s.life, .int .i64 s.rd, .int .i64 s.wr, .int .i64 s.fl, .int .i64 s.rf, .int .i64 0] 96 :: row gl ((LL.map PEnt.val ++ junk).toArray) 31 :: vec 99 2 (.slice A2 PP.length c2) PP.length (putsV PP) :: stars (pool.map PEnt.row) :: L) at S
    refine wp_enter (fr [pq g, iv n] 16) Try.func65 rfl (by kernel_rfl) ?_
    refine wp_seq ?_
    refine wp_seq ?_
    refine wp_region_lit ?_
    refine pv (pq g) ?_
    refine pv (pq g) ?_
    refine pv (po g 2) ?_
    refine wl_gv rfl (gv_ldR (v := .int .i64 s.left) rfl (by kernel_rfl) (by kernel_rfl) (((S.blk 0 rfl).cell 2).trans rfl) ?_)
    refine wl_gv rfl (gv_eq (x := s.left) (y := 0) (by kernel_rfl) (fun _ => ?_) (fun hd1 => False.elim (absurd hz hd1)))
    refine wl_end (fr [pq g, iv n, ud, ud, pq g, pq g, po g 2, iv s.left, tv] 9) (by kernel_rfl) ?_
    refine then_n ?_
    refine wp_cond_true (by kernel_rfl) ?_
    refine wp_ret ?_
    refine then_r ?_
    refine bodyPost_ret (v := .tuple #[]) (results_none rfl _ _ _) rfl ?_
    exact ⟨rfl, St.rclose (gl := gl) (cl := cl) (c2 := c2) (A2 := A2) (junk := junk) (LL := LL) (PP := PP) (pool := pool) (s := s) S (hf.upd rfl rfl hf.lb) hcl hju⟩
  have e : s.fuseR n = { s with left := if n < 0 then -1 else n } := by unfold Dsk.fuseR; rw [if_neg hz]
  rw [e]
  change St F w0 w (row g #[.slice (some ⟨gl, 0, none⟩) LL.length cl, .slice A2 PP.length c2, .int .i64 s.left, .int .i64 s.life, .int .i64 s.rd, .int .i64 s.wr, .int .i64 s.fl, .int .i64 s.rf, .int .i64 0] 96 :: row gl ((LL.map PEnt.val ++ junk).toArray) 31 :: vec 99 2 (.slice A2 PP.length c2) PP.length (putsV PP) :: stars (pool.map PEnt.row) :: L) at S
  refine wp_enter (fr [pq g, iv n] 16) Try.func65 rfl (by kernel_rfl) ?_
  refine wp_seq ?_
  refine wp_seq ?_
  refine wp_region_lit ?_
  refine pv (pq g) ?_
  refine pv (pq g) ?_
  refine pv (po g 2) ?_
  refine wl_gv rfl (gv_ldR (v := .int .i64 s.left) rfl (by kernel_rfl) (by kernel_rfl) (((S.blk 0 rfl).cell 2).trans rfl) ?_)
  refine wl_gv rfl (gv_eq (x := s.left) (y := 0) (by kernel_rfl) (fun hd1 => False.elim (absurd hd1 hz)) (fun _ => ?_))
  refine wl_end (fr [pq g, iv n, ud, ud, pq g, pq g, po g 2, iv s.left, fv] 9) (by kernel_rfl) ?_
  refine then_n ?_
  refine wp_cond_false (by kernel_rfl) ?_
  refine wp_skip ?_
  refine then_n ?_
  refine wp_seq ?_
  refine wp_region_lit ?_
  refine pv (pq g) ?_
  refine pv (iv n) ?_
  refine pv (pq g) ?_
  refine pv (po g 2) ?_
  refine wl_gv rfl (gv_st (k := 2) (v := .int .i64 n) S 0 rfl rfl (by kernel_rfl) (by kernel_rfl) (by kernel_rfl) rfl rfl (L' := (row g #[.slice (some ⟨gl, 0, none⟩) LL.length cl, .slice A2 PP.length c2, .int .i64 n, .int .i64 s.life, .int .i64 s.rd, .int .i64 s.wr, .int .i64 s.fl, .int .i64 s.rf, .int .i64 0] 96 :: row gl ((LL.map PEnt.val ++ junk).toArray) 31 :: vec 99 2 (.slice A2 PP.length c2) PP.length (putsV PP) :: stars (pool.map PEnt.row) :: L)) rfl (fun w2 S3 => ?_))
  refine wl_end (fr [pq g, iv n, ud, ud, pq g, pq g, po g 2, iv s.left, fv, pq g, iv n, pq g, po g 2] 5) (by kernel_rfl) ?_
  refine then_n ?_
  refine wp_seq ?_
  refine wp_region_lit ?_
  refine pv (iv n) ?_
  refine wl_gv rfl (gv_dec (p := (n : Int) < 0) (by kernel_rfl) (fun hb => ?_) (fun hb => ?_))
  · skip
    refine wl_end (fr [pq g, iv n, ud, ud, pq g, pq g, po g 2, iv s.left, fv, pq g, iv n, pq g, po g 2, iv n, tv] 3) (by kernel_rfl) ?_
    refine then_n ?_
    refine wp_cond_true (by kernel_rfl) ?_
    refine wp_region_lit ?_
    refine pv (pq g) ?_
    refine pv (pq g) ?_
    refine pv (po g 2) ?_
    refine wl_gv rfl (gv_st (k := 2) (v := .int .i64 (-1)) S3 0 rfl rfl (by kernel_rfl) (by kernel_rfl) (by kernel_rfl) rfl rfl (L' := (row g #[.slice (some ⟨gl, 0, none⟩) LL.length cl, .slice A2 PP.length c2, .int .i64 (-1), .int .i64 s.life, .int .i64 s.rd, .int .i64 s.wr, .int .i64 s.fl, .int .i64 s.rf, .int .i64 0] 96 :: row gl ((LL.map PEnt.val ++ junk).toArray) 31 :: vec 99 2 (.slice A2 PP.length c2) PP.length (putsV PP) :: stars (pool.map PEnt.row) :: L)) rfl (fun w4 S5 => ?_))
    refine wl_end (fr [pq g, iv n, ud, ud, pq g, pq g, po g 2, iv s.left, fv, pq g, iv n, pq g, po g 2, iv n, tv, pq g, pq g, po g 2] 0) (by kernel_rfl) ?_
    refine bodyPost_end (v := .tuple #[]) (results_none rfl _ _ _) rfl ?_
    rw [show (if n < 0 then -1 else n : Int) = -1 from if_pos hb]
    exact ⟨rfl, St.rclose (gl := gl) (cl := cl) (c2 := c2) (A2 := A2) (junk := junk) (LL := LL) (PP := PP) (pool := pool) (s := ({ s with left := (-1 : Int) })) S5 (hf.upd rfl rfl (show -1 ≤ (-1 : Int) ∧ (-1 : Int) ≤ 9223372036854775807 by omega)) hcl hju⟩
  · skip
    refine wl_end (fr [pq g, iv n, ud, ud, pq g, pq g, po g 2, iv s.left, fv, pq g, iv n, pq g, po g 2, iv n, fv] 3) (by kernel_rfl) ?_
    refine then_n ?_
    refine wp_cond_false (by kernel_rfl) ?_
    refine wp_skip ?_
    refine bodyPost_end (v := .tuple #[]) (results_none rfl _ _ _) rfl ?_
    rw [show (if n < 0 then -1 else n : Int) = n from if_neg hb]
    exact ⟨rfl, St.rclose (gl := gl) (cl := cl) (c2 := c2) (A2 := A2) (junk := junk) (LL := LL) (PP := PP) (pool := pool) (s := ({ s with left := n })) S3 (hf.upd rfl rfl (show -1 ≤ (n : Int) ∧ (n : Int) ≤ 9223372036854775807 by omega)) hcl hju⟩
theorem rspent {F : Nat → Prop} {w0 w : World} {L : List Ast} {g gl nl cl np c2 : Nat} {A2 : Option Addr} {left life rd wr fl rf : Int} (S : St F w0 w (row g (rcells gl nl cl A2 np c2 left life rd wr fl rf) 96 :: L)) (hz : left ≠ 0) (hl : -1 ≤ left) (hm : left ≤ 9223372036854775807) :
    Calls Try.prog 78 #[.pointer (some ⟨g, 0, none⟩)] w fun e w' => e = .returned (.tuple #[]) ∧ St F w0 w' (row g (rcells gl nl cl A2 np c2 (spent left) life rd wr fl rf) 96 :: L) := by
  change St F w0 w (row g #[.slice (some ⟨gl, 0, none⟩) nl cl, .slice A2 np c2, .int .i64 left, .int .i64 life, .int .i64 rd, .int .i64 wr, .int .i64 fl, .int .i64 rf, .int .i64 0] 96 :: L) at S
  refine wp_enter (fr [pq g] 13) Try.func78 rfl (by kernel_rfl) ?_
  refine wp_seq ?_
  refine wp_region_lit ?_
  refine pv (pq g) ?_
  refine pv (pq g) ?_
  refine pv (po g 2) ?_
  refine wl_gv rfl (gv_ldR (v := .int .i64 left) rfl (by kernel_rfl) (by kernel_rfl) (((S.blk 0 rfl).cell 2).trans rfl) ?_)
  refine wl_gv rfl (gv_dec (p := (left : Int) > 0) (by kernel_rfl) (fun hb => ?_) (fun hb => ?_))
  · skip
    refine wl_end (fr [pq g, ud, pq g, pq g, po g 2, iv left, tv] 7) (by kernel_rfl) ?_
    refine then_n ?_
    refine wp_cond_true (by kernel_rfl) ?_
    refine wp_region_lit ?_
    refine pv (pq g) ?_
    refine pv (pq g) ?_
    refine pv (po g 2) ?_
    refine wl_gv rfl (gv_ldR (v := .int .i64 left) rfl (by kernel_rfl) (by kernel_rfl) (((S.blk 0 rfl).cell 2).trans rfl) ?_)
    refine pv (iv (dec left)) ?_
    refine pv (pq g) ?_
    refine pv (po g 2) ?_
    refine wl_gv rfl (gv_st (k := 2) (v := .int .i64 (dec left)) S 0 rfl rfl (by kernel_rfl) (by kernel_rfl) (by kernel_rfl) rfl rfl (L' := (row g #[.slice (some ⟨gl, 0, none⟩) nl cl, .slice A2 np c2, .int .i64 (dec left), .int .i64 life, .int .i64 rd, .int .i64 wr, .int .i64 fl, .int .i64 rf, .int .i64 0] 96 :: L)) rfl (fun w1 S2 => ?_))
    refine wl_end (fr [pq g, ud, pq g, pq g, po g 2, iv left, tv, pq g, pq g, po g 2, iv left, iv (dec left), pq g, po g 2] 0) (by kernel_rfl) ?_
    refine bodyPost_end (v := .tuple #[]) (results_none rfl _ _ _) rfl ?_
    rw [show spent left = dec left from by unfold spent; rw [if_pos (by omega)]; exact (wr_ok (by omega) (by omega)).symm]
    exact ⟨rfl, S2⟩
  · skip
    refine wl_end (fr [pq g, ud, pq g, pq g, po g 2, iv left, fv] 7) (by kernel_rfl) ?_
    refine then_n ?_
    refine wp_cond_false (by kernel_rfl) ?_
    refine wp_skip ?_
    refine bodyPost_end (v := .tuple #[]) (results_none rfl _ _ _) rfl ?_
    rw [show spent left = left from by unfold spent; rw [if_neg (by omega)]]
    exact ⟨rfl, S⟩
theorem rtwinS {F : Nat → Prop} {w0 w : World} {L : List Ast} {A : Option Addr} {l : List UInt8} {n c : Nat} (S : St F w0 w L) (hr : RoT F w0 L A l) (hn : l.length = n) (hlm : l.length ≤ 140737488355328) : Calls Try.prog 75 #[.slice A n c] w fun e w' => ∃ go, e = .returned (.slice (some ⟨go, 0, none⟩) n n) ∧ St F w0 w' (row go (bvs l) 5 :: L) := by
  subst hn
  refine wp_enter (fr [.slice A l.length c] 10) Try.func75 rfl (by kernel_rfl) ?_
  refine wp_seq ?_
  refine wp_region_lit ?_
  refine pv (.slice none 0 0) ?_
  refine wl_end (fr [.slice A l.length c, ud, .slice none 0 0] 8) (by kernel_rfl) ?_
  refine then_n ?_
  refine wp_seq ?_
  refine wp_region_lit ?_
  refine pv (.slice A l.length c) ?_
  refine pv (iv (l.length : Nat)) ?_
  refine wl_gv rfl (gv_make (e := 5) (u := (l.length : Nat)) (v := (l.length : Nat)) (z := .int .u8 0) (sz := 1) (by_ := 1) (n := l.length) (c := l.length) (cs := (bvs (List.replicate l.length 0))) S rfl (by kernel_rfl) ⟨by kernel_rfl⟩ (by kernel_rfl) (by kernel_rfl) rfl rfl (Nat.le_refl _) (by omega) (by omega) (mk_bytes _) (fun g1 w2 hg3 S4 => ?_))
  refine pv (sl g1 0 l.length l.length) ?_
  refine wl_end (fr [.slice A l.length c, ud, .slice none 0 0, sl g1 0 l.length l.length, .slice A l.length c, iv (l.length : Nat), sl g1 0 l.length l.length] 4) (by kernel_rfl) ?_
  refine then_n ?_
  refine wp_seq ?_
  refine wp_region_lit ?_
  refine pv (sl g1 0 l.length l.length) ?_
  refine pv (.slice A l.length c) ?_
  refine wl_gv rfl (gv_copy (e := 5) (off := 0) (dLen := l.length) (dCap := l.length) (sLen := l.length) (sCap := c) (A := A) (B := (List.replicate l.length 0)) (l := l) S4 0 rfl rfl (by kernel_rfl) (by kernel_rfl) (by kernel_rfl) (by kernel_rfl) rfl (hr.out _ [row g1 (bvs (List.replicate l.length 0)) 5] S4) (by simp) (L' := (row g1 (bvs l) 5 :: L)) (by rw [copy_all rfl]; rfl) (fun w5 m7 S6 => ?_))
  refine wl_end (fr [.slice A l.length c, ud, .slice none 0 0, sl g1 0 l.length l.length, .slice A l.length c, iv (l.length : Nat), sl g1 0 l.length l.length, sl g1 0 l.length l.length, .slice A l.length c, goInt m7] 1) (by kernel_rfl) ?_
  refine then_n ?_
  refine wp_seq ?_
  refine wp_region_lit ?_
  refine pv (sl g1 0 l.length l.length) ?_
  refine pv (sl g1 0 l.length l.length) ?_
  refine wl_end (fr [.slice A l.length c, ud, sl g1 0 l.length l.length, sl g1 0 l.length l.length, .slice A l.length c, iv (l.length : Nat), sl g1 0 l.length l.length, sl g1 0 l.length l.length, .slice A l.length c, goInt m7, sl g1 0 l.length l.length] 0) (by kernel_rfl) ?_
  refine then_n ?_
  refine wp_ret ?_
  refine bodyPost_ret (v := .slice (some ⟨g1, 0, none⟩) l.length l.length) (results_t1 rfl (by kernel_rfl)) rfl ?_
  exact ⟨_, rfl, S6⟩
theorem pend_last {l : List (Nat × List UInt8)} {k i : Nat} {x : Nat × List UInt8} (hx : l[i]? = some x) (hk : x.1 = k) (hi : ∀ (j : Nat) (y : Nat × List UInt8), i < j → l[j]? = some y → y.1 ≠ k) : ((l.filter (fun x => x.1 == k)).map (·.2)).getLast? = some x.2 := by
  have hl := (List.getElem?_eq_some_iff.1 hx).1
  have e : l = l.take i ++ (x :: l.drop (i + 1)) := by
    have h1 : l.drop i = x :: l.drop (i + 1) := by rw [List.drop_eq_getElem_cons hl]; congr 1; exact (List.getElem?_eq_some_iff.1 hx).2
    rw [← h1, List.take_append_drop]
  have h2 : (l.drop (i + 1)).filter (fun x => x.1 == k) = [] := by
    rw [List.filter_eq_nil_iff]
    intro y hy hyk
    obtain ⟨m, hm⟩ := List.getElem?_of_mem hy
    rw [List.getElem?_drop] at hm
    exact hi _ y (by omega) hm (by simpa using hyk)
  rw [e, List.filter_append, List.filter_cons, h2]
  simp [hk]
theorem pend_none {l : List (Nat × List UInt8)} {k : Nat} (h : ∀ (j : Nat) (y : Nat × List UInt8), l[j]? = some y → y.1 ≠ k) : (l.filter (fun x => x.1 == k)).map (·.2) = [] := by
  rw [List.map_eq_nil_iff, List.filter_eq_nil_iff]
  intro y hy hyk
  obtain ⟨m, hm⟩ := List.getElem?_of_mem hy
  exact h m y hm (by simpa using hyk)
theorem rnow_own {F : Nat → Prop} {w0 w : World} {L : List Ast} {g gl cl c2 : Nat} {A2 : Option Addr} {junk : List Value} {LL : List (Nat × List UInt8)} {PP : List RPut} {pool : List (Nat × List UInt8)} {s : Dsk} (S : St F w0 w (rdParts g gl cl c2 A2 junk LL PP pool s ++ L)) (hf : RFacts s LL PP pool) {k : Nat} (hk : k < s.last.length) :
    Calls Try.prog 76 #[.pointer (some ⟨g, 0, none⟩), .int .i64 ((k : Nat) : Int)] w fun e w' => ∃ b, e = .returned (.slice (some ⟨b, 0, none⟩) 512 512) ∧ (b, s.now k) ∈ pool ∧ St F w0 w' (rdParts g gl cl c2 A2 junk LL PP pool s ++ L) := by
  have hn2 := hf.n2
  have hll := hf.ll
  have hpp := hf.pp
  have hpn := hf.pn
  change St F w0 w (row g #[.slice (some ⟨gl, 0, none⟩) LL.length cl, .slice A2 PP.length c2, .int .i64 s.left, .int .i64 s.life, .int .i64 s.rd, .int .i64 s.wr, .int .i64 s.fl, .int .i64 s.rf, .int .i64 0] 96 :: row gl ((LL.map PEnt.val ++ junk).toArray) 31 :: vec 99 2 (.slice A2 PP.length c2) PP.length (putsV PP) :: stars (pool.map PEnt.row) :: L) at S
  refine wp_enter (fr [pq g, iv ((k : Nat) : Int)] 39) Try.func76 rfl (by kernel_rfl) ?_
  refine wp_seq ?_
  refine wp_region_lit ?_
  refine pv (.slice none 0 0) ?_
  refine wl_end (fr [pq g, iv ((k : Nat) : Int), ud, ud, .slice none 0 0] 36) (by kernel_rfl) ?_
  refine then_n ?_
  refine wp_seq ?_
  refine wp_seq ?_
  refine wp_region_lit ?_
  refine pv (pq g) ?_
  refine pv (pq g) ?_
  refine pv (po g 1) ?_
  refine wl_gv rfl (gv_ldR (v := .slice A2 PP.length c2) rfl (by kernel_rfl) (by kernel_rfl) (((S.blk 0 rfl).cell 1).trans rfl) ?_)
  refine pv (iv (PP.length : Nat)) ?_
  refine wl_gv rfl (gv_int (k := .i64) (z := IntKind.i64.wrap ((PP.length : Nat) - 1)) (z' := ((PP.length : Nat) : Int) - 1) (by kernel_rfl) (wr_ok (by omega) (by omega)) ?_)
  refine pv (iv (((PP.length : Nat) : Int) - 1)) ?_
  refine wl_end (fr [pq g, iv ((k : Nat) : Int), ud, ud, .slice none 0 0, iv (((PP.length : Nat) : Int) - 1), pq g, pq g, po g 1, .slice A2 PP.length c2, iv (PP.length : Nat), iv (((PP.length : Nat) : Int) - 1)] 29) (by kernel_rfl) ?_
  refine then_n ?_
  refine wp_block ?_
  refine wp_loop_g (G := Nat) (fun (g_ : Nat) (a_ : Act) (w_ : World) => ∃ J : Nat → Value, a_ = (fr [pq g, iv ((k : Nat) : Int), ud, ud, J 4, iv (((g_ : Nat) : Int) - 1), pq g, pq g, po g 1, .slice A2 PP.length c2, iv (PP.length : Nat), iv (((PP.length : Nat) : Int) - 1), J 12, J 13, J 14, J 15, J 16, J 17, J 18, J 19, J 20, J 21, J 22, J 23, J 24, J 25, J 26, J 27, J 28, J 29, J 30, J 31, J 32, J 33] 7) ∧ St F w0 w_ (row g #[.slice (some ⟨gl, 0, none⟩) LL.length cl, .slice A2 PP.length c2, .int .i64 s.left, .int .i64 s.life, .int .i64 s.rd, .int .i64 s.wr, .int .i64 s.fl, .int .i64 s.rf, .int .i64 0] 96 :: row gl ((LL.map PEnt.val ++ junk).toArray) 31 :: vec 99 2 (.slice A2 PP.length c2) PP.length (putsV PP) :: stars (pool.map PEnt.row) :: L) ∧ (g_ ≤ PP.length ∧ (∀ j y, g_ ≤ j → s.pend[j]? = some y → y.1 ≠ k))) (fun g_ => g_) PP.length ⟨(jl [ud, ud, ud, ud, .slice none 0 0]), by kernel_rfl, S, ⟨Nat.le_refl _, fun j y hj hy => absurd (List.getElem?_eq_some_iff.1 hy).1 (by omega)⟩⟩ ?_
  rintro i a_ w1 ⟨J, rfl, S2, hI3⟩
  skip
  have S2 : St F w0 w1 (row g #[.slice (some ⟨gl, 0, none⟩) LL.length cl, .slice A2 PP.length c2, .int .i64 s.left, .int .i64 s.life, .int .i64 s.rd, .int .i64 s.wr, .int .i64 s.fl, .int .i64 s.rf, .int .i64 0] 96 :: row gl ((LL.map PEnt.val ++ junk).toArray) 31 :: vec 99 2 (.slice A2 PP.length c2) PP.length (putsV PP) :: stars (pool.map PEnt.row) :: L) := S2
  have hI3 : (i ≤ PP.length ∧ (∀ j y, i ≤ j → s.pend[j]? = some y → y.1 ≠ k)) := hI3
  refine wp_seq ?_
  refine wp_seq ?_
  refine wp_region_lit ?_
  refine pv (iv (((i : Nat) : Int) - 1)) ?_
  refine wl_gv rfl (gv_dec (p := (((i : Nat) : Int) - 1 : Int) ≥ 0) (by kernel_rfl) (fun hb4 => ?_) (fun hb4 => ?_))
  · skip
    have hi0 : i - 1 < PP.length := by have := hI3.1; omega
    obtain ⟨x, hx, hxp, hxs, hx5, hxk⟩ := hf.pat hi0
    obtain ⟨ad2, hAd2, hrd⟩ := (St.vec_rd S2 2 rfl) (by rw [length_putsV]; omega)
    refine wl_end (fr [pq g, iv ((k : Nat) : Int), ud, ud, J 4, iv (((i : Nat) : Int) - 1), pq g, pq g, po g 1, .slice A2 PP.length c2, iv (PP.length : Nat), iv (((PP.length : Nat) : Int) - 1), iv (((i : Nat) : Int) - 1), tv, J 14, J 15, J 16, J 17, J 18, J 19, J 20, J 21, J 22, J 23, J 24, J 25, J 26, J 27, J 28, J 29, J 30, J 31, J 32, J 33] 7) (by kernel_rfl) ?_
    refine then_n ?_
    refine wp_cond_true (by kernel_rfl) ?_
    refine wp_skip ?_
    refine then_n ?_
    refine wp_seq ?_
    refine wp_block ?_
    refine wp_seq ?_
    refine wp_region_lit ?_
    refine pv (pq g) ?_
    refine pv (pq g) ?_
    refine pv (po g 1) ?_
    refine wl_gv rfl (gv_ldR (v := .slice A2 PP.length c2) rfl (by kernel_rfl) (by kernel_rfl) (((S2.blk 0 rfl).cell 1).trans rfl) ?_)
    refine pv (iv (((i : Nat) : Int) - 1)) ?_
    refine wl_gv rfl (gv_ixB (e := 99) (sz := 2) (n := PP.length) (c := c2) (i := (((i : Nat) : Int) - 1)) (k := .i64) (ad := ad2) (ad' := (ad2.add ((i - 1) * 2))) (j := (i - 1)) rfl (by kernel_rfl) (by kernel_rfl) (by rw [← hAd2]; kernel_rfl) (by kernel_rfl) (by omega) (by omega) rfl ?_)
    refine pv (.pointer (some (ad2.add ((i - 1) * 2)))) ?_
    refine wl_gv rfl (gv_ldR (v := .int .i64 ((x.2.1 : Nat) : Int)) rfl (by kernel_rfl) (by kernel_rfl) (put_at hrd hx) ?_)
    refine pv (iv ((k : Nat) : Int)) ?_
    refine wl_gv rfl (gv_eq (x := ((x.2.1 : Nat) : Int)) (y := ((k : Nat) : Int)) (by kernel_rfl) (fun hb9 => ?_) (fun hb9 => ?_))
    · skip
      refine wl_end (fr [pq g, iv ((k : Nat) : Int), ud, ud, J 4, iv (((i : Nat) : Int) - 1), pq g, pq g, po g 1, .slice A2 PP.length c2, iv (PP.length : Nat), iv (((PP.length : Nat) : Int) - 1), iv (((i : Nat) : Int) - 1), tv, J 14, J 15, pq g, pq g, po g 1, .slice A2 PP.length c2, iv (((i : Nat) : Int) - 1), .pointer (some (ad2.add ((i - 1) * 2))), .pointer (some (ad2.add ((i - 1) * 2))), iv ((x.2.1 : Nat) : Int), iv ((k : Nat) : Int), tv, J 26, J 27, J 28, J 29, J 30, J 31, J 32, J 33] 7) (by kernel_rfl) ?_
      refine then_n ?_
      refine wp_cond_true (by kernel_rfl) ?_
      refine wp_seq ?_
      refine wp_region_lit ?_
      refine pv (pq g) ?_
      refine pv (pq g) ?_
      refine pv (po g 1) ?_
      refine wl_gv rfl (gv_ldR (v := .slice A2 PP.length c2) rfl (by kernel_rfl) (by kernel_rfl) (((S2.blk 0 rfl).cell 1).trans rfl) ?_)
      refine pv (iv (((i : Nat) : Int) - 1)) ?_
      refine wl_gv rfl (gv_ixB (e := 99) (sz := 2) (n := PP.length) (c := c2) (i := (((i : Nat) : Int) - 1)) (k := .i64) (ad := ad2) (ad' := (ad2.add ((i - 1) * 2))) (j := (i - 1)) rfl (by kernel_rfl) (by kernel_rfl) (by rw [← hAd2]; kernel_rfl) (by kernel_rfl) (by omega) (by omega) rfl ?_)
      refine pv (.pointer (some ((ad2.add ((i - 1) * 2)).add 1))) ?_
      refine wl_gv rfl (gv_ldR (v := PEnt.val x.ref) rfl (by kernel_rfl) (by kernel_rfl) (put_data hrd hx) ?_)
      refine pv (sl x.1 0 512 512) ?_
      refine wl_end (fr [pq g, iv ((k : Nat) : Int), ud, ud, sl x.1 0 512 512, iv (((i : Nat) : Int) - 1), pq g, pq g, po g 1, .slice A2 PP.length c2, iv (PP.length : Nat), iv (((PP.length : Nat) : Int) - 1), iv (((i : Nat) : Int) - 1), tv, J 14, J 15, pq g, pq g, po g 1, .slice A2 PP.length c2, iv (((i : Nat) : Int) - 1), .pointer (some (ad2.add ((i - 1) * 2))), .pointer (some (ad2.add ((i - 1) * 2))), iv ((x.2.1 : Nat) : Int), iv ((k : Nat) : Int), tv, pq g, pq g, po g 1, .slice A2 PP.length c2, iv (((i : Nat) : Int) - 1), .pointer (some (ad2.add ((i - 1) * 2))), .pointer (some ((ad2.add ((i - 1) * 2)).add 1)), sl x.1 0 512 512] 7) (by kernel_rfl) ?_
      refine then_n ?_
      refine wp_ret ?_
      refine inb_r ?_
      refine then_r ?_
      refine then_r ?_
      refine inb_r ?_
      refine then_r ?_
      refine bodyPost_ret (v := .slice (some ⟨x.1, 0, none⟩) 512 512) (results_t1 rfl (by kernel_rfl)) rfl ?_
      exact ⟨_, rfl, (by have hl := pend_last (l := s.pend) (k := k) hxs (by omega) (fun j y hj hy => hI3.2 j y (by omega) hy); rw [Dsk.now_some (s := s) (a := k) rfl hl]; exact hxp), S2⟩
    · skip
      have hne9 : ¬ x.2.1 = k := by omega
      refine wl_end (fr [pq g, iv ((k : Nat) : Int), ud, ud, J 4, iv (((i : Nat) : Int) - 1), pq g, pq g, po g 1, .slice A2 PP.length c2, iv (PP.length : Nat), iv (((PP.length : Nat) : Int) - 1), iv (((i : Nat) : Int) - 1), tv, J 14, J 15, pq g, pq g, po g 1, .slice A2 PP.length c2, iv (((i : Nat) : Int) - 1), .pointer (some (ad2.add ((i - 1) * 2))), .pointer (some (ad2.add ((i - 1) * 2))), iv ((x.2.1 : Nat) : Int), iv ((k : Nat) : Int), fv, J 26, J 27, J 28, J 29, J 30, J 31, J 32, J 33] 7) (by kernel_rfl) ?_
      refine then_n ?_
      refine wp_cond_false (by kernel_rfl) ?_
      refine wp_skip ?_
      refine inb_n ?_
      refine then_n ?_
      refine wp_region_lit ?_
      refine pv (iv (((i : Nat) : Int) - 1)) ?_
      refine wl_gv rfl (gv_int (k := .i64) (z := IntKind.i64.wrap ((((i : Nat) : Int) - 1) - 1)) (z' := ((i - 1 : Nat) : Int) - 1) (by kernel_rfl) (wr_eq (by omega) (by omega) (by omega)) ?_)
      refine pv (iv (((i - 1 : Nat) : Int) - 1)) ?_
      refine wl_end (fr [pq g, iv ((k : Nat) : Int), ud, ud, J 4, iv (((i - 1 : Nat) : Int) - 1), pq g, pq g, po g 1, .slice A2 PP.length c2, iv (PP.length : Nat), iv (((PP.length : Nat) : Int) - 1), iv (((i : Nat) : Int) - 1), tv, iv (((i : Nat) : Int) - 1), iv (((i - 1 : Nat) : Int) - 1), pq g, pq g, po g 1, .slice A2 PP.length c2, iv (((i : Nat) : Int) - 1), .pointer (some (ad2.add ((i - 1) * 2))), .pointer (some (ad2.add ((i - 1) * 2))), iv ((x.2.1 : Nat) : Int), iv ((k : Nat) : Int), fv, J 26, J 27, J 28, J 29, J 30, J 31, J 32, J 33] 7) (by kernel_rfl) ?_
      refine then_n ?_
      exact ⟨i - 1, ⟨(jl [ud, ud, ud, ud, J 4, ud, ud, ud, ud, ud, ud, ud, iv (((i : Nat) : Int) - 1), tv, iv (((i : Nat) : Int) - 1), iv (((i - 1 : Nat) : Int) - 1), pq g, pq g, po g 1, .slice A2 PP.length c2, iv (((i : Nat) : Int) - 1), .pointer (some (ad2.add ((i - 1) * 2))), .pointer (some (ad2.add ((i - 1) * 2))), iv ((x.2.1 : Nat) : Int), iv ((k : Nat) : Int), fv, J 26, J 27, J 28, J 29, J 30, J 31, J 32, J 33]), by kernel_rfl, S2, ⟨by omega, fun j y hj hy => if e : j = i - 1 then (by subst e; rw [hxs] at hy; cases hy; exact fun e => hne9 (by omega)) else hI3.2 j y (by omega) hy⟩⟩, (by omega)⟩
  · skip
    obtain ⟨x, hx, hxp, hxl, hx5⟩ := hf.at hk
    refine wl_end (fr [pq g, iv ((k : Nat) : Int), ud, ud, J 4, iv (((i : Nat) : Int) - 1), pq g, pq g, po g 1, .slice A2 PP.length c2, iv (PP.length : Nat), iv (((PP.length : Nat) : Int) - 1), iv (((i : Nat) : Int) - 1), fv, J 14, J 15, J 16, J 17, J 18, J 19, J 20, J 21, J 22, J 23, J 24, J 25, J 26, J 27, J 28, J 29, J 30, J 31, J 32, J 33] 7) (by kernel_rfl) ?_
    refine then_n ?_
    refine wp_cond_false (by kernel_rfl) ?_
    refine wp_exit ?_
    refine then_x ?_
    refine then_x ?_
    refine inb_x ?_
    refine then_n ?_
    refine wp_seq ?_
    refine wp_region_lit ?_
    refine pv (pq g) ?_
    refine pv (pq g) ?_
    refine pv (pq g) ?_
    refine wl_gv rfl (gv_ldR (v := .slice (some ⟨gl, 0, none⟩) LL.length cl) rfl (by kernel_rfl) (by kernel_rfl) (((S2.blk 0 rfl).cell 0).trans rfl) ?_)
    refine pv (iv ((k : Nat) : Int)) ?_
    refine wl_gv rfl (gv_ixE (e := 31) (sz := 1) (g := gl) (off := 0) (n := LL.length) (c := cl) (i := ((k : Nat) : Int)) (k := .i64) (j := k) (off' := k) rfl (by kernel_rfl) (by kernel_rfl) (by kernel_rfl) (by kernel_rfl) rfl (by omega) (by omega) ?_)
    refine wl_gv rfl (gv_ldR (v := PEnt.val x) rfl (by kernel_rfl) (by kernel_rfl) (((S2.blk 1 rfl).cell k).trans (ll_at hx)) ?_)
    refine pv (sl x.1 0 512 512) ?_
    refine wl_end (fr [pq g, iv ((k : Nat) : Int), ud, ud, sl x.1 0 512 512, iv (((i : Nat) : Int) - 1), pq g, pq g, po g 1, .slice A2 PP.length c2, iv (PP.length : Nat), iv (((PP.length : Nat) : Int) - 1), iv (((i : Nat) : Int) - 1), fv, J 14, J 15, J 16, J 17, J 18, J 19, J 20, J 21, J 22, J 23, J 24, J 25, J 26, J 27, J 28, J 29, J 30, J 31, J 32, J 33, pq g, pq g, pq g, sl gl 0 LL.length cl, iv ((k : Nat) : Int), po gl k, sl x.1 0 512 512] 0) (by kernel_rfl) ?_
    refine then_n ?_
    refine wp_ret ?_
    refine bodyPost_ret (v := .slice (some ⟨x.1, 0, none⟩) 512 512) (results_t1 rfl (by kernel_rfl)) rfl ?_
    exact ⟨_, rfl, (by rw [Dsk.now_none (pend_none fun j y hy => hI3.2 j y (by omega) hy), hxl]; exact hxp), S2⟩
end Go.Proofs
