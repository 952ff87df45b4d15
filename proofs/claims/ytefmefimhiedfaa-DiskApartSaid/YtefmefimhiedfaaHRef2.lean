/- Read, Write, Flush of the document's disk. -/
import Derived.Test.YtefmefimhiedfaaHRef1
open Go Go.RowKit Go.Proofs.YtefmefimhiedfaaW.PrintWords Go.Proofs.YtefmefimhiedfaaW.PrintMore
namespace Go.Proofs
open Go.Vel
set_option linter.unusedVariables false
set_option maxRecDepth 100000
set_option maxHeartbeats 4000000
attribute [local irreducible] gives wpList Code.wp

theorem rd_read {at_ : Int} {F : Nat → Prop} {w0 w : World} {L : List Ast} {g : Nat} {s : Dsk} (S : St F w0 w (RDisk g s :: L)) : Calls Try.prog 50 #[.pointer (some ⟨g, 0, none⟩), .int .i64 at_] w fun e w' => ∃ v, e = .returned (.tuple #[v, .int .i64 (s.readR at_).2.2]) ∧ St F w0 w' (bytesA v (s.readR at_).2.1 :: RDisk g (s.readR at_).1 :: L) := by
  obtain ⟨gl, cl, c2, A2, junk, LL, PP, pool, hf, hcl, hju, S⟩ := St.ropen S
  have hn2 := hf.n2
  have hll := hf.ll
  have hpp := hf.pp
  have hpn := hf.pn
  by_cases hz : s.left = 0
  · have e : s.readR at_ = (s, [], 3) := by unfold Dsk.readR; rw [if_pos hz]
    rw [e]
    change St F w0 w (row g #[.slice (some ⟨gl, 0, none⟩) LL.length cl, .slice A2 PP.length c2, .int .i64 s.left, .int .i64 s.life, .int .i64 s.rd, .int .i64 s.wr, .int .i64 s.fl, .int .i64 s.rf, .int .i64 0] 96 :: row gl ((LL.map PEnt.val ++ junk).toArray) 31 :: vec 99 2 (.slice A2 PP.length c2) PP.length (putsV PP) :: stars (pool.map PEnt.row) :: L) at S
    refine wp_enter (fr [pq g, iv at_] 44) Try.func50 rfl (by kernel_rfl) ?_
    refine wp_seq ?_
    refine wp_region_lit ?_
    refine pv (.slice none 0 0) ?_
    refine pv (iv 0) ?_
    refine wl_end (fr [pq g, iv at_, ud, ud, .slice none 0 0, iv 0] 40) (by kernel_rfl) ?_
    refine then_n ?_
    refine wp_seq ?_
    refine wp_seq ?_
    refine wp_region_lit ?_
    refine pv (pq g) ?_
    refine pv (pq g) ?_
    refine pv (po g 2) ?_
    refine wl_gv rfl (gv_ldR (v := .int .i64 s.left) rfl (by kernel_rfl) (by kernel_rfl) (((S.blk 0 rfl).cell 2).trans rfl) ?_)
    refine wl_gv rfl (gv_eq (x := s.left) (y := 0) (by kernel_rfl) (fun _ => ?_) (fun hd1 => False.elim (absurd hz hd1)))
    refine wl_end (fr [pq g, iv at_, ud, ud, .slice none 0 0, iv 0, ud, pq g, pq g, po g 2, iv s.left, tv] 34) (by kernel_rfl) ?_
    refine then_n ?_
    refine wp_cond_true (by kernel_rfl) ?_
    refine wp_seq ?_
    refine wp_region_lit ?_
    refine pv (.slice none 0 0) ?_
    refine pv (iv 3) ?_
    refine wl_end (fr [pq g, iv at_, ud, ud, .slice none 0 0, iv 3, ud, pq g, pq g, po g 2, iv s.left, tv] 34) (by kernel_rfl) ?_
    refine then_n ?_
    refine wp_ret ?_
    refine then_r ?_
    refine bodyPost_ret (v := .tuple #[.slice none 0 0, .int .i64 3]) (results_t2 rfl (by kernel_rfl) (by kernel_rfl)) rfl ?_
    exact ⟨_, rfl, St.bytes_nil (St.rclose (gl := gl) (cl := cl) (c2 := c2) (A2 := A2) (junk := junk) (LL := LL) (PP := PP) (pool := pool) (s := s) S (hf.upd rfl rfl hf.lb) hcl hju)⟩
  by_cases ho : at_ < 0 ∨ (s.last.length : Int) ≤ at_
  · have e : s.readR at_ = ({ s with rf := inc s.rf }, [], 11) := by unfold Dsk.readR; rw [if_neg hz, if_pos ho]
    rw [e]
    change St F w0 w (row g #[.slice (some ⟨gl, 0, none⟩) LL.length cl, .slice A2 PP.length c2, .int .i64 s.left, .int .i64 s.life, .int .i64 s.rd, .int .i64 s.wr, .int .i64 s.fl, .int .i64 s.rf, .int .i64 0] 96 :: row gl ((LL.map PEnt.val ++ junk).toArray) 31 :: vec 99 2 (.slice A2 PP.length c2) PP.length (putsV PP) :: stars (pool.map PEnt.row) :: L) at S
    refine wp_enter (fr [pq g, iv at_] 44) Try.func50 rfl (by kernel_rfl) ?_
    refine wp_seq ?_
    refine wp_region_lit ?_
    refine pv (.slice none 0 0) ?_
    refine pv (iv 0) ?_
    refine wl_end (fr [pq g, iv at_, ud, ud, .slice none 0 0, iv 0] 40) (by kernel_rfl) ?_
    refine then_n ?_
    refine wp_seq ?_
    refine wp_seq ?_
    refine wp_region_lit ?_
    refine pv (pq g) ?_
    refine pv (pq g) ?_
    refine pv (po g 2) ?_
    refine wl_gv rfl (gv_ldR (v := .int .i64 s.left) rfl (by kernel_rfl) (by kernel_rfl) (((S.blk 0 rfl).cell 2).trans rfl) ?_)
    refine wl_gv rfl (gv_eq (x := s.left) (y := 0) (by kernel_rfl) (fun hd1 => False.elim (absurd hd1 hz)) (fun _ => ?_))
    refine wl_end (fr [pq g, iv at_, ud, ud, .slice none 0 0, iv 0, ud, pq g, pq g, po g 2, iv s.left, fv] 34) (by kernel_rfl) ?_
    refine then_n ?_
    refine wp_cond_false (by kernel_rfl) ?_
    refine wp_skip ?_
    refine then_n ?_
    refine wp_seq ?_
    refine wp_seq ?_
    refine wp_region_lit ?_
    refine pv (iv at_) ?_
    refine wl_gv rfl (gv_dec (p := (at_ : Int) < 0) (by kernel_rfl) (fun hb2 => ?_) (fun hb2 => ?_))
    · skip
      refine pv tv ?_
      refine wl_not (by kernel_rfl) ?_
      refine wl_not (by kernel_rfl) ?_
      refine wl_not (by kernel_rfl) ?_
      refine wl_not (by kernel_rfl) ?_
      refine wl_not (by kernel_rfl) ?_
      refine wl_not (by kernel_rfl) ?_
      refine wl_not (by kernel_rfl) ?_
      refine pv tv ?_
      refine wl_end (fr [pq g, iv at_, ud, ud, .slice none 0 0, iv 0, ud, pq g, pq g, po g 2, iv s.left, fv, iv at_, tv, tv, ud, ud, ud, ud, ud, ud, ud, tv] 23) (by kernel_rfl) ?_
      refine then_n ?_
      refine wp_cond_true (by kernel_rfl) ?_
      refine wp_seq ?_
      refine wp_region_lit ?_
      refine pv (pq g) ?_
      refine pv (pq g) ?_
      refine pv (po g 4) ?_
      refine pv (po g 7) ?_
      refine wl_gv rfl (gv_ldR (v := .int .i64 s.rf) rfl (by kernel_rfl) (by kernel_rfl) (((S.blk 0 rfl).cell 7).trans rfl) ?_)
      refine pv (iv (inc s.rf)) ?_
      refine pv (pq g) ?_
      refine pv (po g 4) ?_
      refine pv (po g 7) ?_
      refine wl_gv rfl (gv_st (k := 7) (v := .int .i64 (inc s.rf)) S 0 rfl rfl (by kernel_rfl) (by kernel_rfl) (by kernel_rfl) rfl rfl (L' := (row g #[.slice (some ⟨gl, 0, none⟩) LL.length cl, .slice A2 PP.length c2, .int .i64 s.left, .int .i64 s.life, .int .i64 s.rd, .int .i64 s.wr, .int .i64 s.fl, .int .i64 (inc s.rf), .int .i64 0] 96 :: row gl ((LL.map PEnt.val ++ junk).toArray) 31 :: vec 99 2 (.slice A2 PP.length c2) PP.length (putsV PP) :: stars (pool.map PEnt.row) :: L)) rfl (fun w3 S4 => ?_))
      refine wl_end (fr [pq g, iv at_, ud, ud, .slice none 0 0, iv 0, ud, pq g, pq g, po g 2, iv s.left, fv, iv at_, tv, tv, ud, ud, ud, ud, ud, ud, ud, tv, pq g, pq g, po g 4, po g 7, iv s.rf, iv (inc s.rf), pq g, po g 4, po g 7] 14) (by kernel_rfl) ?_
      refine then_n ?_
      refine wp_seq ?_
      refine wp_region_lit ?_
      refine pv (.slice none 0 0) ?_
      refine pv (iv 11) ?_
      refine wl_end (fr [pq g, iv at_, ud, ud, .slice none 0 0, iv 11, ud, pq g, pq g, po g 2, iv s.left, fv, iv at_, tv, tv, ud, ud, ud, ud, ud, ud, ud, tv, pq g, pq g, po g 4, po g 7, iv s.rf, iv (inc s.rf), pq g, po g 4, po g 7] 14) (by kernel_rfl) ?_
      refine then_n ?_
      refine wp_ret ?_
      refine then_r ?_
      refine bodyPost_ret (v := .tuple #[.slice none 0 0, .int .i64 11]) (results_t2 rfl (by kernel_rfl) (by kernel_rfl)) rfl ?_
      exact ⟨_, rfl, St.bytes_nil (St.rclose (gl := gl) (cl := cl) (c2 := c2) (A2 := A2) (junk := junk) (LL := LL) (PP := PP) (pool := pool) (s := { s with rf := inc s.rf }) S4 (hf.upd rfl rfl hf.lb) hcl hju)⟩
    · skip
      refine pv fv ?_
      refine wl_when (by kernel_rfl) (gv_val (v := .int .i64 at_) (w' := w) (by kernel_rfl) ?_)
      refine wl_when (by kernel_rfl) (gv_val (v := .pointer (some ⟨g, 0, none⟩)) (w' := w) (by kernel_rfl) ?_)
      refine wl_when (by kernel_rfl) (gv_val (v := .pointer (some ⟨g, 0, none⟩)) (w' := w) (by kernel_rfl) ?_)
      refine wl_when (by kernel_rfl) (gv_val (v := .pointer (some ⟨g, 0, none⟩)) (w' := w) (by kernel_rfl) ?_)
      refine wl_when (by kernel_rfl) (gv_ldR (v := .slice (some ⟨gl, 0, none⟩) LL.length cl) rfl (by kernel_rfl) (by kernel_rfl) (((S.blk 0 rfl).cell 0).trans rfl) ?_)
      refine wl_when (by kernel_rfl) (gv_val (v := .int .i64 (LL.length : Nat)) (w' := w) (by kernel_rfl) ?_)
      refine wl_when (by kernel_rfl) (gv_dec (p := (at_ : Int) ≥ (LL.length : Nat)) (by kernel_rfl) (fun _ => ?_) (fun hd5 => False.elim (by omega)))
      refine pv tv ?_
      refine wl_end (fr [pq g, iv at_, ud, ud, .slice none 0 0, iv 0, ud, pq g, pq g, po g 2, iv s.left, fv, iv at_, fv, fv, iv at_, pq g, pq g, pq g, sl gl 0 LL.length cl, iv (LL.length : Nat), tv, tv] 23) (by kernel_rfl) ?_
      refine then_n ?_
      refine wp_cond_true (by kernel_rfl) ?_
      refine wp_seq ?_
      refine wp_region_lit ?_
      refine pv (pq g) ?_
      refine pv (pq g) ?_
      refine pv (po g 4) ?_
      refine pv (po g 7) ?_
      refine wl_gv rfl (gv_ldR (v := .int .i64 s.rf) rfl (by kernel_rfl) (by kernel_rfl) (((S.blk 0 rfl).cell 7).trans rfl) ?_)
      refine pv (iv (inc s.rf)) ?_
      refine pv (pq g) ?_
      refine pv (po g 4) ?_
      refine pv (po g 7) ?_
      refine wl_gv rfl (gv_st (k := 7) (v := .int .i64 (inc s.rf)) S 0 rfl rfl (by kernel_rfl) (by kernel_rfl) (by kernel_rfl) rfl rfl (L' := (row g #[.slice (some ⟨gl, 0, none⟩) LL.length cl, .slice A2 PP.length c2, .int .i64 s.left, .int .i64 s.life, .int .i64 s.rd, .int .i64 s.wr, .int .i64 s.fl, .int .i64 (inc s.rf), .int .i64 0] 96 :: row gl ((LL.map PEnt.val ++ junk).toArray) 31 :: vec 99 2 (.slice A2 PP.length c2) PP.length (putsV PP) :: stars (pool.map PEnt.row) :: L)) rfl (fun w6 S7 => ?_))
      refine wl_end (fr [pq g, iv at_, ud, ud, .slice none 0 0, iv 0, ud, pq g, pq g, po g 2, iv s.left, fv, iv at_, fv, fv, iv at_, pq g, pq g, pq g, sl gl 0 LL.length cl, iv (LL.length : Nat), tv, tv, pq g, pq g, po g 4, po g 7, iv s.rf, iv (inc s.rf), pq g, po g 4, po g 7] 14) (by kernel_rfl) ?_
      refine then_n ?_
      refine wp_seq ?_
      refine wp_region_lit ?_
      refine pv (.slice none 0 0) ?_
      refine pv (iv 11) ?_
      refine wl_end (fr [pq g, iv at_, ud, ud, .slice none 0 0, iv 11, ud, pq g, pq g, po g 2, iv s.left, fv, iv at_, fv, fv, iv at_, pq g, pq g, pq g, sl gl 0 LL.length cl, iv (LL.length : Nat), tv, tv, pq g, pq g, po g 4, po g 7, iv s.rf, iv (inc s.rf), pq g, po g 4, po g 7] 14) (by kernel_rfl) ?_
      refine then_n ?_
      refine wp_ret ?_
      refine then_r ?_
      refine bodyPost_ret (v := .tuple #[.slice none 0 0, .int .i64 11]) (results_t2 rfl (by kernel_rfl) (by kernel_rfl)) rfl ?_
      exact ⟨_, rfl, St.bytes_nil (St.rclose (gl := gl) (cl := cl) (c2 := c2) (A2 := A2) (junk := junk) (LL := LL) (PP := PP) (pool := pool) (s := { s with rf := inc s.rf }) S7 (hf.upd rfl rfl hf.lb) hcl hju)⟩
  obtain ⟨k, rfl⟩ : ∃ k : Nat, at_ = (k : Int) := ⟨at_.toNat, by omega⟩
  have hk : k < s.last.length := by omega
  have e : s.readR (k : Int) = ({ s with rd := inc s.rd }, s.now k, 0) := by unfold Dsk.readR; rw [if_neg hz, if_neg ho, Int.toNat_natCast]
  rw [e]
  have hnl := hf.now_len hk
  change St F w0 w (row g #[.slice (some ⟨gl, 0, none⟩) LL.length cl, .slice A2 PP.length c2, .int .i64 s.left, .int .i64 s.life, .int .i64 s.rd, .int .i64 s.wr, .int .i64 s.fl, .int .i64 s.rf, .int .i64 0] 96 :: row gl ((LL.map PEnt.val ++ junk).toArray) 31 :: vec 99 2 (.slice A2 PP.length c2) PP.length (putsV PP) :: stars (pool.map PEnt.row) :: L) at S
  refine wp_enter (fr [pq g, iv ((k : Nat) : Int)] 44) Try.func50 rfl (by kernel_rfl) ?_
  refine wp_seq ?_
  refine wp_region_lit ?_
  refine pv (.slice none 0 0) ?_
  refine pv (iv 0) ?_
  refine wl_end (fr [pq g, iv ((k : Nat) : Int), ud, ud, .slice none 0 0, iv 0] 40) (by kernel_rfl) ?_
  refine then_n ?_
  refine wp_seq ?_
  refine wp_seq ?_
  refine wp_region_lit ?_
  refine pv (pq g) ?_
  refine pv (pq g) ?_
  refine pv (po g 2) ?_
  refine wl_gv rfl (gv_ldR (v := .int .i64 s.left) rfl (by kernel_rfl) (by kernel_rfl) (((S.blk 0 rfl).cell 2).trans rfl) ?_)
  refine wl_gv rfl (gv_eq (x := s.left) (y := 0) (by kernel_rfl) (fun hd1 => False.elim (absurd hd1 hz)) (fun _ => ?_))
  refine wl_end (fr [pq g, iv ((k : Nat) : Int), ud, ud, .slice none 0 0, iv 0, ud, pq g, pq g, po g 2, iv s.left, fv] 34) (by kernel_rfl) ?_
  refine then_n ?_
  refine wp_cond_false (by kernel_rfl) ?_
  refine wp_skip ?_
  refine then_n ?_
  refine wp_seq ?_
  refine wp_seq ?_
  refine wp_region_lit ?_
  refine pv (iv ((k : Nat) : Int)) ?_
  refine wl_gv rfl (gv_dec (p := (((k : Nat) : Int) : Int) < 0) (by kernel_rfl) (fun hd2 => False.elim (by omega)) (fun _ => ?_))
  refine pv fv ?_
  refine wl_when (by kernel_rfl) (gv_val (v := .int .i64 ((k : Nat) : Int)) (w' := w) (by kernel_rfl) ?_)
  refine wl_when (by kernel_rfl) (gv_val (v := .pointer (some ⟨g, 0, none⟩)) (w' := w) (by kernel_rfl) ?_)
  refine wl_when (by kernel_rfl) (gv_val (v := .pointer (some ⟨g, 0, none⟩)) (w' := w) (by kernel_rfl) ?_)
  refine wl_when (by kernel_rfl) (gv_val (v := .pointer (some ⟨g, 0, none⟩)) (w' := w) (by kernel_rfl) ?_)
  refine wl_when (by kernel_rfl) (gv_ldR (v := .slice (some ⟨gl, 0, none⟩) LL.length cl) rfl (by kernel_rfl) (by kernel_rfl) (((S.blk 0 rfl).cell 0).trans rfl) ?_)
  refine wl_when (by kernel_rfl) (gv_val (v := .int .i64 (LL.length : Nat)) (w' := w) (by kernel_rfl) ?_)
  refine wl_when (by kernel_rfl) (gv_dec (p := (((k : Nat) : Int) : Int) ≥ (LL.length : Nat)) (by kernel_rfl) (fun hd3 => False.elim (by omega)) (fun _ => ?_))
  refine pv fv ?_
  refine wl_end (fr [pq g, iv ((k : Nat) : Int), ud, ud, .slice none 0 0, iv 0, ud, pq g, pq g, po g 2, iv s.left, fv, iv ((k : Nat) : Int), fv, fv, iv ((k : Nat) : Int), pq g, pq g, pq g, sl gl 0 LL.length cl, iv (LL.length : Nat), fv, fv] 23) (by kernel_rfl) ?_
  refine then_n ?_
  refine wp_cond_false (by kernel_rfl) ?_
  refine wp_skip ?_
  refine then_n ?_
  refine wp_seq ?_
  refine wp_region_lit ?_
  refine pv (pq g) ?_
  refine pv (pq g) ?_
  refine pv (po g 4) ?_
  refine pv (po g 4) ?_
  refine wl_gv rfl (gv_ldR (v := .int .i64 s.rd) rfl (by kernel_rfl) (by kernel_rfl) (((S.blk 0 rfl).cell 4).trans rfl) ?_)
  refine pv (iv (inc s.rd)) ?_
  refine pv (pq g) ?_
  refine pv (po g 4) ?_
  refine pv (po g 4) ?_
  refine wl_gv rfl (gv_st (k := 4) (v := .int .i64 (inc s.rd)) S 0 rfl rfl (by kernel_rfl) (by kernel_rfl) (by kernel_rfl) rfl rfl (L' := (row g #[.slice (some ⟨gl, 0, none⟩) LL.length cl, .slice A2 PP.length c2, .int .i64 s.left, .int .i64 s.life, .int .i64 (inc s.rd), .int .i64 s.wr, .int .i64 s.fl, .int .i64 s.rf, .int .i64 0] 96 :: row gl ((LL.map PEnt.val ++ junk).toArray) 31 :: vec 99 2 (.slice A2 PP.length c2) PP.length (putsV PP) :: stars (pool.map PEnt.row) :: L)) rfl (fun w4 S5 => ?_))
  refine wl_end (fr [pq g, iv ((k : Nat) : Int), ud, ud, .slice none 0 0, iv 0, ud, pq g, pq g, po g 2, iv s.left, fv, iv ((k : Nat) : Int), fv, fv, iv ((k : Nat) : Int), pq g, pq g, pq g, sl gl 0 LL.length cl, iv (LL.length : Nat), fv, fv, ud, ud, ud, ud, ud, ud, ud, ud, ud, pq g, pq g, po g 4, po g 4, iv s.rd, iv (inc s.rd), pq g, po g 4, po g 4] 5) (by kernel_rfl) ?_
  refine then_n ?_
  refine wp_seq ?_
  refine wp_region_lit ?_
  refine pv (pq g) ?_
  refine pv (iv ((k : Nat) : Int)) ?_
  refine wl_gv rfl (gv_call (args := #[.pointer (some ⟨g, 0, none⟩), .int .i64 ((k : Nat) : Int)]) rfl Try.func76 (by kernel_rfl) rfl rfl (by kernel_rfl) ?_)
  refine Calls.mono (rnow_own (s := { s with rd := inc s.rd }) S5 (hf.upd rfl rfl hf.lb) hk) ?_
  rintro _ w7 ⟨b6, rfl, hm9, S8⟩
  refine ⟨_, rfl, ?_⟩
  change St F w0 w7 (row g #[.slice (some ⟨gl, 0, none⟩) LL.length cl, .slice A2 PP.length c2, .int .i64 s.left, .int .i64 s.life, .int .i64 (inc s.rd), .int .i64 s.wr, .int .i64 s.fl, .int .i64 s.rf, .int .i64 0] 96 :: row gl ((LL.map PEnt.val ++ junk).toArray) 31 :: vec 99 2 (.slice A2 PP.length c2) PP.length (putsV PP) :: stars (pool.map PEnt.row) :: L) at S8
  change (b6, s.now k) ∈ pool at hm9
  refine pv (sl b6 0 512 512) ?_
  refine wl_end (fr [pq g, iv ((k : Nat) : Int), ud, ud, .slice none 0 0, iv 0, sl b6 0 512 512, pq g, pq g, po g 2, iv s.left, fv, iv ((k : Nat) : Int), fv, fv, iv ((k : Nat) : Int), pq g, pq g, pq g, sl gl 0 LL.length cl, iv (LL.length : Nat), fv, fv, ud, ud, ud, ud, ud, ud, ud, ud, ud, pq g, pq g, po g 4, po g 4, iv s.rd, iv (inc s.rd), pq g, po g 4, po g 4, pq g, iv ((k : Nat) : Int), sl b6 0 512 512] 2) (by kernel_rfl) ?_
  refine then_n ?_
  refine wp_seq ?_
  refine wp_region_lit ?_
  refine pv (sl b6 0 512 512) ?_
  refine wl_gv rfl (gv_call (args := #[.slice (some ⟨b6, 0, none⟩) 512 512]) rfl Try.func75 (by kernel_rfl) rfl rfl (by kernel_rfl) ?_)
  refine Calls.mono (rtwinS (l := s.now k) S8 (rot_pool 3 rfl hm9 hnl) hnl (by omega)) ?_
  rintro _ w11 ⟨g10, rfl, S12⟩
  refine ⟨_, rfl, ?_⟩
  refine pv (sl g10 0 512 512) ?_
  refine pv (iv 0) ?_
  refine wl_end (fr [pq g, iv ((k : Nat) : Int), ud, ud, sl g10 0 512 512, iv 0, sl b6 0 512 512, pq g, pq g, po g 2, iv s.left, fv, iv ((k : Nat) : Int), fv, fv, iv ((k : Nat) : Int), pq g, pq g, pq g, sl gl 0 LL.length cl, iv (LL.length : Nat), fv, fv, ud, ud, ud, ud, ud, ud, ud, ud, ud, pq g, pq g, po g 4, po g 4, iv s.rd, iv (inc s.rd), pq g, po g 4, po g 4, pq g, iv ((k : Nat) : Int), sl b6 0 512 512, sl b6 0 512 512, sl g10 0 512 512] 0) (by kernel_rfl) ?_
  refine then_n ?_
  refine wp_ret ?_
  refine bodyPost_ret (v := .tuple #[.slice (some ⟨g10, 0, none⟩) 512 512, .int .i64 0]) (results_t2 rfl (by kernel_rfl) (by kernel_rfl)) rfl ?_
  exact ⟨_, rfl, St.bytes_row (St.swap (St.rclose (gl := gl) (cl := cl) (c2 := c2) (A2 := A2) (junk := junk) (LL := LL) (PP := PP) (pool := pool) (s := { s with rd := inc s.rd }) (St.rot (LA := rdParts g gl cl c2 A2 junk LL PP pool ({ s with rd := inc s.rd })) S12) (hf.upd rfl rfl hf.lb) hcl hju)) hnl.symm hnl.symm⟩
theorem rd_write {at_ : Int} {A : Option Addr} {d : List UInt8} {cd : Nat} {F : Nat → Prop} {w0 w : World} {L : List Ast} {g : Nat} {s : Dsk} (S : St F w0 w (RDisk g s :: L)) (hr : RoT F w0 L A d) (hdm : d.length ≤ 9223372036854775807) (hpn' : s.pend.length < 4398046511104) : Calls Try.prog 56 #[.pointer (some ⟨g, 0, none⟩), .int .i64 at_, .slice A d.length cd] w fun e w' => e = .returned (.int .i64 (s.writeR at_ d).2) ∧ St F w0 w' (RDisk g (s.writeR at_ d).1 :: L) := by
  obtain ⟨gl, cl, c2, A2, junk, LL, PP, pool, hf, hcl, hju, S⟩ := St.ropen S
  have hn2 := hf.n2
  have hll := hf.ll
  have hpp := hf.pp
  have hpn := hf.pn
  by_cases hz : s.left = 0
  · have e : s.writeR at_ d = (s, 3) := by unfold Dsk.writeR; rw [if_pos hz]
    rw [e]
    change St F w0 w (row g #[.slice (some ⟨gl, 0, none⟩) LL.length cl, .slice A2 PP.length c2, .int .i64 s.left, .int .i64 s.life, .int .i64 s.rd, .int .i64 s.wr, .int .i64 s.fl, .int .i64 s.rf, .int .i64 0] 96 :: row gl ((LL.map PEnt.val ++ junk).toArray) 31 :: vec 99 2 (.slice A2 PP.length c2) PP.length (putsV PP) :: stars (pool.map PEnt.row) :: L) at S
    refine wp_enter (fr [pq g, iv at_, .slice A d.length cd] 65) Try.func56 rfl (by kernel_rfl) ?_
    refine wp_seq ?_
    refine wp_region_lit ?_
    refine pv (iv 0) ?_
    refine wl_end (fr [pq g, iv at_, .slice A d.length cd, ud, ud, ud, iv 0] 61) (by kernel_rfl) ?_
    refine then_n ?_
    refine wp_seq ?_
    refine wp_seq ?_
    refine wp_region_lit ?_
    refine pv (pq g) ?_
    refine pv (pq g) ?_
    refine pv (po g 2) ?_
    refine wl_gv rfl (gv_ldR (v := .int .i64 s.left) rfl (by kernel_rfl) (by kernel_rfl) (((S.blk 0 rfl).cell 2).trans rfl) ?_)
    refine wl_gv rfl (gv_eq (x := s.left) (y := 0) (by kernel_rfl) (fun _ => ?_) (fun hd1 => False.elim (absurd hz hd1)))
    refine wl_end (fr [pq g, iv at_, .slice A d.length cd, ud, ud, ud, iv 0, pq g, pq g, po g 2, iv s.left, tv] 56) (by kernel_rfl) ?_
    refine then_n ?_
    refine wp_cond_true (by kernel_rfl) ?_
    refine wp_seq ?_
    refine wp_region_lit ?_
    refine pv (iv 3) ?_
    refine wl_end (fr [pq g, iv at_, .slice A d.length cd, ud, ud, ud, iv 3, pq g, pq g, po g 2, iv s.left, tv] 56) (by kernel_rfl) ?_
    refine then_n ?_
    refine wp_ret ?_
    refine then_r ?_
    refine bodyPost_ret (v := .int .i64 3) (results_t1 rfl (by kernel_rfl)) rfl ?_
    exact ⟨rfl, St.rclose (gl := gl) (cl := cl) (c2 := c2) (A2 := A2) (junk := junk) (LL := LL) (PP := PP) (pool := pool) (s := s) S (hf.upd rfl rfl hf.lb) hcl hju⟩
  by_cases ho : at_ < 0 ∨ (s.last.length : Int) ≤ at_
  · have e : s.writeR at_ d = ({ s with rf := inc s.rf }, 11) := by unfold Dsk.writeR; rw [if_neg hz, if_pos ho]
    rw [e]
    change St F w0 w (row g #[.slice (some ⟨gl, 0, none⟩) LL.length cl, .slice A2 PP.length c2, .int .i64 s.left, .int .i64 s.life, .int .i64 s.rd, .int .i64 s.wr, .int .i64 s.fl, .int .i64 s.rf, .int .i64 0] 96 :: row gl ((LL.map PEnt.val ++ junk).toArray) 31 :: vec 99 2 (.slice A2 PP.length c2) PP.length (putsV PP) :: stars (pool.map PEnt.row) :: L) at S
    refine wp_enter (fr [pq g, iv at_, .slice A d.length cd] 65) Try.func56 rfl (by kernel_rfl) ?_
    refine wp_seq ?_
    refine wp_region_lit ?_
    refine pv (iv 0) ?_
    refine wl_end (fr [pq g, iv at_, .slice A d.length cd, ud, ud, ud, iv 0] 61) (by kernel_rfl) ?_
    refine then_n ?_
    refine wp_seq ?_
    refine wp_seq ?_
    refine wp_region_lit ?_
    refine pv (pq g) ?_
    refine pv (pq g) ?_
    refine pv (po g 2) ?_
    refine wl_gv rfl (gv_ldR (v := .int .i64 s.left) rfl (by kernel_rfl) (by kernel_rfl) (((S.blk 0 rfl).cell 2).trans rfl) ?_)
    refine wl_gv rfl (gv_eq (x := s.left) (y := 0) (by kernel_rfl) (fun hd1 => False.elim (absurd hd1 hz)) (fun _ => ?_))
    refine wl_end (fr [pq g, iv at_, .slice A d.length cd, ud, ud, ud, iv 0, pq g, pq g, po g 2, iv s.left, fv] 56) (by kernel_rfl) ?_
    refine then_n ?_
    refine wp_cond_false (by kernel_rfl) ?_
    refine wp_skip ?_
    refine then_n ?_
    refine wp_seq ?_
    refine wp_seq ?_
    refine wp_region_lit ?_
    refine pv (iv at_) ?_
    refine wl_gv rfl (gv_dec (p := (at_ : Int) < 0) (by kernel_rfl) (fun hb2 => ?_) (fun hb2 => ?_))
    · skip
      refine pv tv ?_
      refine wl_not (by kernel_rfl) ?_
      refine wl_not (by kernel_rfl) ?_
      refine wl_not (by kernel_rfl) ?_
      refine wl_not (by kernel_rfl) ?_
      refine wl_not (by kernel_rfl) ?_
      refine wl_not (by kernel_rfl) ?_
      refine wl_not (by kernel_rfl) ?_
      refine pv tv ?_
      refine wl_end (fr [pq g, iv at_, .slice A d.length cd, ud, ud, ud, iv 0, pq g, pq g, po g 2, iv s.left, fv, iv at_, tv, tv, ud, ud, ud, ud, ud, ud, ud, tv] 45) (by kernel_rfl) ?_
      refine then_n ?_
      refine wp_cond_true (by kernel_rfl) ?_
      refine wp_seq ?_
      refine wp_region_lit ?_
      refine pv (pq g) ?_
      refine pv (pq g) ?_
      refine pv (po g 4) ?_
      refine pv (po g 7) ?_
      refine wl_gv rfl (gv_ldR (v := .int .i64 s.rf) rfl (by kernel_rfl) (by kernel_rfl) (((S.blk 0 rfl).cell 7).trans rfl) ?_)
      refine pv (iv (inc s.rf)) ?_
      refine pv (pq g) ?_
      refine pv (po g 4) ?_
      refine pv (po g 7) ?_
      refine wl_gv rfl (gv_st (k := 7) (v := .int .i64 (inc s.rf)) S 0 rfl rfl (by kernel_rfl) (by kernel_rfl) (by kernel_rfl) rfl rfl (L' := (row g #[.slice (some ⟨gl, 0, none⟩) LL.length cl, .slice A2 PP.length c2, .int .i64 s.left, .int .i64 s.life, .int .i64 s.rd, .int .i64 s.wr, .int .i64 s.fl, .int .i64 (inc s.rf), .int .i64 0] 96 :: row gl ((LL.map PEnt.val ++ junk).toArray) 31 :: vec 99 2 (.slice A2 PP.length c2) PP.length (putsV PP) :: stars (pool.map PEnt.row) :: L)) rfl (fun w3 S4 => ?_))
      refine wl_end (fr [pq g, iv at_, .slice A d.length cd, ud, ud, ud, iv 0, pq g, pq g, po g 2, iv s.left, fv, iv at_, tv, tv, ud, ud, ud, ud, ud, ud, ud, tv, pq g, pq g, po g 4, po g 7, iv s.rf, iv (inc s.rf), pq g, po g 4, po g 7] 36) (by kernel_rfl) ?_
      refine then_n ?_
      refine wp_seq ?_
      refine wp_region_lit ?_
      refine pv (iv 11) ?_
      refine wl_end (fr [pq g, iv at_, .slice A d.length cd, ud, ud, ud, iv 11, pq g, pq g, po g 2, iv s.left, fv, iv at_, tv, tv, ud, ud, ud, ud, ud, ud, ud, tv, pq g, pq g, po g 4, po g 7, iv s.rf, iv (inc s.rf), pq g, po g 4, po g 7] 36) (by kernel_rfl) ?_
      refine then_n ?_
      refine wp_ret ?_
      refine then_r ?_
      refine bodyPost_ret (v := .int .i64 11) (results_t1 rfl (by kernel_rfl)) rfl ?_
      exact ⟨rfl, St.rclose (gl := gl) (cl := cl) (c2 := c2) (A2 := A2) (junk := junk) (LL := LL) (PP := PP) (pool := pool) (s := { s with rf := inc s.rf }) S4 (hf.upd rfl rfl hf.lb) hcl hju⟩
    · skip
      refine pv fv ?_
      refine wl_when (by kernel_rfl) (gv_val (v := .int .i64 at_) (w' := w) (by kernel_rfl) ?_)
      refine wl_when (by kernel_rfl) (gv_val (v := .pointer (some ⟨g, 0, none⟩)) (w' := w) (by kernel_rfl) ?_)
      refine wl_when (by kernel_rfl) (gv_val (v := .pointer (some ⟨g, 0, none⟩)) (w' := w) (by kernel_rfl) ?_)
      refine wl_when (by kernel_rfl) (gv_val (v := .pointer (some ⟨g, 0, none⟩)) (w' := w) (by kernel_rfl) ?_)
      refine wl_when (by kernel_rfl) (gv_ldR (v := .slice (some ⟨gl, 0, none⟩) LL.length cl) rfl (by kernel_rfl) (by kernel_rfl) (((S.blk 0 rfl).cell 0).trans rfl) ?_)
      refine wl_when (by kernel_rfl) (gv_val (v := .int .i64 (LL.length : Nat)) (w' := w) (by kernel_rfl) ?_)
      refine wl_when (by kernel_rfl) (gv_dec (p := (at_ : Int) ≥ (LL.length : Nat)) (by kernel_rfl) (fun _ => ?_) (fun hd5 => False.elim (by omega)))
      refine pv tv ?_
      refine wl_end (fr [pq g, iv at_, .slice A d.length cd, ud, ud, ud, iv 0, pq g, pq g, po g 2, iv s.left, fv, iv at_, fv, fv, iv at_, pq g, pq g, pq g, sl gl 0 LL.length cl, iv (LL.length : Nat), tv, tv] 45) (by kernel_rfl) ?_
      refine then_n ?_
      refine wp_cond_true (by kernel_rfl) ?_
      refine wp_seq ?_
      refine wp_region_lit ?_
      refine pv (pq g) ?_
      refine pv (pq g) ?_
      refine pv (po g 4) ?_
      refine pv (po g 7) ?_
      refine wl_gv rfl (gv_ldR (v := .int .i64 s.rf) rfl (by kernel_rfl) (by kernel_rfl) (((S.blk 0 rfl).cell 7).trans rfl) ?_)
      refine pv (iv (inc s.rf)) ?_
      refine pv (pq g) ?_
      refine pv (po g 4) ?_
      refine pv (po g 7) ?_
      refine wl_gv rfl (gv_st (k := 7) (v := .int .i64 (inc s.rf)) S 0 rfl rfl (by kernel_rfl) (by kernel_rfl) (by kernel_rfl) rfl rfl (L' := (row g #[.slice (some ⟨gl, 0, none⟩) LL.length cl, .slice A2 PP.length c2, .int .i64 s.left, .int .i64 s.life, .int .i64 s.rd, .int .i64 s.wr, .int .i64 s.fl, .int .i64 (inc s.rf), .int .i64 0] 96 :: row gl ((LL.map PEnt.val ++ junk).toArray) 31 :: vec 99 2 (.slice A2 PP.length c2) PP.length (putsV PP) :: stars (pool.map PEnt.row) :: L)) rfl (fun w6 S7 => ?_))
      refine wl_end (fr [pq g, iv at_, .slice A d.length cd, ud, ud, ud, iv 0, pq g, pq g, po g 2, iv s.left, fv, iv at_, fv, fv, iv at_, pq g, pq g, pq g, sl gl 0 LL.length cl, iv (LL.length : Nat), tv, tv, pq g, pq g, po g 4, po g 7, iv s.rf, iv (inc s.rf), pq g, po g 4, po g 7] 36) (by kernel_rfl) ?_
      refine then_n ?_
      refine wp_seq ?_
      refine wp_region_lit ?_
      refine pv (iv 11) ?_
      refine wl_end (fr [pq g, iv at_, .slice A d.length cd, ud, ud, ud, iv 11, pq g, pq g, po g 2, iv s.left, fv, iv at_, fv, fv, iv at_, pq g, pq g, pq g, sl gl 0 LL.length cl, iv (LL.length : Nat), tv, tv, pq g, pq g, po g 4, po g 7, iv s.rf, iv (inc s.rf), pq g, po g 4, po g 7] 36) (by kernel_rfl) ?_
      refine then_n ?_
      refine wp_ret ?_
      refine then_r ?_
      refine bodyPost_ret (v := .int .i64 11) (results_t1 rfl (by kernel_rfl)) rfl ?_
      exact ⟨rfl, St.rclose (gl := gl) (cl := cl) (c2 := c2) (A2 := A2) (junk := junk) (LL := LL) (PP := PP) (pool := pool) (s := { s with rf := inc s.rf }) S7 (hf.upd rfl rfl hf.lb) hcl hju⟩
  obtain ⟨k, rfl⟩ : ∃ k : Nat, at_ = (k : Int) := ⟨at_.toNat, by omega⟩
  have hk : k < s.last.length := by omega
  by_cases hd5 : d.length ≠ 512
  · have e : s.writeR (k : Int) d = ({ s with rf := inc s.rf }, 2) := by unfold Dsk.writeR; rw [if_neg hz, if_neg ho, if_pos hd5]
    rw [e]
    change St F w0 w (row g #[.slice (some ⟨gl, 0, none⟩) LL.length cl, .slice A2 PP.length c2, .int .i64 s.left, .int .i64 s.life, .int .i64 s.rd, .int .i64 s.wr, .int .i64 s.fl, .int .i64 s.rf, .int .i64 0] 96 :: row gl ((LL.map PEnt.val ++ junk).toArray) 31 :: vec 99 2 (.slice A2 PP.length c2) PP.length (putsV PP) :: stars (pool.map PEnt.row) :: L) at S
    refine wp_enter (fr [pq g, iv ((k : Nat) : Int), .slice A d.length cd] 65) Try.func56 rfl (by kernel_rfl) ?_
    refine wp_seq ?_
    refine wp_region_lit ?_
    refine pv (iv 0) ?_
    refine wl_end (fr [pq g, iv ((k : Nat) : Int), .slice A d.length cd, ud, ud, ud, iv 0] 61) (by kernel_rfl) ?_
    refine then_n ?_
    refine wp_seq ?_
    refine wp_seq ?_
    refine wp_region_lit ?_
    refine pv (pq g) ?_
    refine pv (pq g) ?_
    refine pv (po g 2) ?_
    refine wl_gv rfl (gv_ldR (v := .int .i64 s.left) rfl (by kernel_rfl) (by kernel_rfl) (((S.blk 0 rfl).cell 2).trans rfl) ?_)
    refine wl_gv rfl (gv_eq (x := s.left) (y := 0) (by kernel_rfl) (fun hd1 => False.elim (absurd hd1 hz)) (fun _ => ?_))
    refine wl_end (fr [pq g, iv ((k : Nat) : Int), .slice A d.length cd, ud, ud, ud, iv 0, pq g, pq g, po g 2, iv s.left, fv] 56) (by kernel_rfl) ?_
    refine then_n ?_
    refine wp_cond_false (by kernel_rfl) ?_
    refine wp_skip ?_
    refine then_n ?_
    refine wp_seq ?_
    refine wp_seq ?_
    refine wp_region_lit ?_
    refine pv (iv ((k : Nat) : Int)) ?_
    refine wl_gv rfl (gv_dec (p := (((k : Nat) : Int) : Int) < 0) (by kernel_rfl) (fun hd2 => False.elim (by omega)) (fun _ => ?_))
    refine pv fv ?_
    refine wl_when (by kernel_rfl) (gv_val (v := .int .i64 ((k : Nat) : Int)) (w' := w) (by kernel_rfl) ?_)
    refine wl_when (by kernel_rfl) (gv_val (v := .pointer (some ⟨g, 0, none⟩)) (w' := w) (by kernel_rfl) ?_)
    refine wl_when (by kernel_rfl) (gv_val (v := .pointer (some ⟨g, 0, none⟩)) (w' := w) (by kernel_rfl) ?_)
    refine wl_when (by kernel_rfl) (gv_val (v := .pointer (some ⟨g, 0, none⟩)) (w' := w) (by kernel_rfl) ?_)
    refine wl_when (by kernel_rfl) (gv_ldR (v := .slice (some ⟨gl, 0, none⟩) LL.length cl) rfl (by kernel_rfl) (by kernel_rfl) (((S.blk 0 rfl).cell 0).trans rfl) ?_)
    refine wl_when (by kernel_rfl) (gv_val (v := .int .i64 (LL.length : Nat)) (w' := w) (by kernel_rfl) ?_)
    refine wl_when (by kernel_rfl) (gv_dec (p := (((k : Nat) : Int) : Int) ≥ (LL.length : Nat)) (by kernel_rfl) (fun hd3 => False.elim (by omega)) (fun _ => ?_))
    refine pv fv ?_
    refine wl_end (fr [pq g, iv ((k : Nat) : Int), .slice A d.length cd, ud, ud, ud, iv 0, pq g, pq g, po g 2, iv s.left, fv, iv ((k : Nat) : Int), fv, fv, iv ((k : Nat) : Int), pq g, pq g, pq g, sl gl 0 LL.length cl, iv (LL.length : Nat), fv, fv] 45) (by kernel_rfl) ?_
    refine then_n ?_
    refine wp_cond_false (by kernel_rfl) ?_
    refine wp_skip ?_
    refine then_n ?_
    refine wp_seq ?_
    refine wp_seq ?_
    refine wp_region_lit ?_
    refine pv (.slice A d.length cd) ?_
    refine pv (iv (d.length : Nat)) ?_
    refine wl_gv rfl (gv_ne (x := (d.length : Nat)) (y := 512) (by kernel_rfl) (fun _ => ?_) (fun hd4 => False.elim (by omega)))
    refine wl_end (fr [pq g, iv ((k : Nat) : Int), .slice A d.length cd, ud, ud, ud, iv 0, pq g, pq g, po g 2, iv s.left, fv, iv ((k : Nat) : Int), fv, fv, iv ((k : Nat) : Int), pq g, pq g, pq g, sl gl 0 LL.length cl, iv (LL.length : Nat), fv, fv, ud, ud, ud, ud, ud, ud, ud, ud, ud, .slice A d.length cd, iv (d.length : Nat), tv] 33) (by kernel_rfl) ?_
    refine then_n ?_
    refine wp_cond_true (by kernel_rfl) ?_
    refine wp_seq ?_
    refine wp_region_lit ?_
    refine pv (pq g) ?_
    refine pv (pq g) ?_
    refine pv (po g 4) ?_
    refine pv (po g 7) ?_
    refine wl_gv rfl (gv_ldR (v := .int .i64 s.rf) rfl (by kernel_rfl) (by kernel_rfl) (((S.blk 0 rfl).cell 7).trans rfl) ?_)
    refine pv (iv (inc s.rf)) ?_
    refine pv (pq g) ?_
    refine pv (po g 4) ?_
    refine pv (po g 7) ?_
    refine wl_gv rfl (gv_st (k := 7) (v := .int .i64 (inc s.rf)) S 0 rfl rfl (by kernel_rfl) (by kernel_rfl) (by kernel_rfl) rfl rfl (L' := (row g #[.slice (some ⟨gl, 0, none⟩) LL.length cl, .slice A2 PP.length c2, .int .i64 s.left, .int .i64 s.life, .int .i64 s.rd, .int .i64 s.wr, .int .i64 s.fl, .int .i64 (inc s.rf), .int .i64 0] 96 :: row gl ((LL.map PEnt.val ++ junk).toArray) 31 :: vec 99 2 (.slice A2 PP.length c2) PP.length (putsV PP) :: stars (pool.map PEnt.row) :: L)) rfl (fun w5 S6 => ?_))
    refine wl_end (fr [pq g, iv ((k : Nat) : Int), .slice A d.length cd, ud, ud, ud, iv 0, pq g, pq g, po g 2, iv s.left, fv, iv ((k : Nat) : Int), fv, fv, iv ((k : Nat) : Int), pq g, pq g, pq g, sl gl 0 LL.length cl, iv (LL.length : Nat), fv, fv, ud, ud, ud, ud, ud, ud, ud, ud, ud, .slice A d.length cd, iv (d.length : Nat), tv, pq g, pq g, po g 4, po g 7, iv s.rf, iv (inc s.rf), pq g, po g 4, po g 7] 24) (by kernel_rfl) ?_
    refine then_n ?_
    refine wp_seq ?_
    refine wp_region_lit ?_
    refine pv (iv 2) ?_
    refine wl_end (fr [pq g, iv ((k : Nat) : Int), .slice A d.length cd, ud, ud, ud, iv 2, pq g, pq g, po g 2, iv s.left, fv, iv ((k : Nat) : Int), fv, fv, iv ((k : Nat) : Int), pq g, pq g, pq g, sl gl 0 LL.length cl, iv (LL.length : Nat), fv, fv, ud, ud, ud, ud, ud, ud, ud, ud, ud, .slice A d.length cd, iv (d.length : Nat), tv, pq g, pq g, po g 4, po g 7, iv s.rf, iv (inc s.rf), pq g, po g 4, po g 7] 24) (by kernel_rfl) ?_
    refine then_n ?_
    refine wp_ret ?_
    refine then_r ?_
    refine bodyPost_ret (v := .int .i64 2) (results_t1 rfl (by kernel_rfl)) rfl ?_
    exact ⟨rfl, St.rclose (gl := gl) (cl := cl) (c2 := c2) (A2 := A2) (junk := junk) (LL := LL) (PP := PP) (pool := pool) (s := { s with rf := inc s.rf }) S6 (hf.upd rfl rfl hf.lb) hcl hju⟩
  have hd : d.length = 512 := by omega
  have e : s.writeR (k : Int) d = ({ s with pend := s.pend ++ [(k, d)], wr := inc s.wr, left := spent s.left }, 0) := by unfold Dsk.writeR; rw [if_neg hz, if_neg ho, if_neg hd5, Int.toNat_natCast]
  rw [e]
  have hlb := spent_lb hf.lb hz
  change St F w0 w (row g #[.slice (some ⟨gl, 0, none⟩) LL.length cl, .slice A2 PP.length c2, .int .i64 s.left, .int .i64 s.life, .int .i64 s.rd, .int .i64 s.wr, .int .i64 s.fl, .int .i64 s.rf, .int .i64 0] 96 :: row gl ((LL.map PEnt.val ++ junk).toArray) 31 :: vec 99 2 (.slice A2 PP.length c2) PP.length (putsV PP) :: stars (pool.map PEnt.row) :: L) at S
  refine wp_enter (fr [pq g, iv ((k : Nat) : Int), .slice A d.length cd] 65) Try.func56 rfl (by kernel_rfl) ?_
  refine wp_seq ?_
  refine wp_region_lit ?_
  refine pv (iv 0) ?_
  refine wl_end (fr [pq g, iv ((k : Nat) : Int), .slice A d.length cd, ud, ud, ud, iv 0] 61) (by kernel_rfl) ?_
  refine then_n ?_
  refine wp_seq ?_
  refine wp_seq ?_
  refine wp_region_lit ?_
  refine pv (pq g) ?_
  refine pv (pq g) ?_
  refine pv (po g 2) ?_
  refine wl_gv rfl (gv_ldR (v := .int .i64 s.left) rfl (by kernel_rfl) (by kernel_rfl) (((S.blk 0 rfl).cell 2).trans rfl) ?_)
  refine wl_gv rfl (gv_eq (x := s.left) (y := 0) (by kernel_rfl) (fun hd1 => False.elim (absurd hd1 hz)) (fun _ => ?_))
  refine wl_end (fr [pq g, iv ((k : Nat) : Int), .slice A d.length cd, ud, ud, ud, iv 0, pq g, pq g, po g 2, iv s.left, fv] 56) (by kernel_rfl) ?_
  refine then_n ?_
  refine wp_cond_false (by kernel_rfl) ?_
  refine wp_skip ?_
  refine then_n ?_
  refine wp_seq ?_
  refine wp_seq ?_
  refine wp_region_lit ?_
  refine pv (iv ((k : Nat) : Int)) ?_
  refine wl_gv rfl (gv_dec (p := (((k : Nat) : Int) : Int) < 0) (by kernel_rfl) (fun hd2 => False.elim (by omega)) (fun _ => ?_))
  refine pv fv ?_
  refine wl_when (by kernel_rfl) (gv_val (v := .int .i64 ((k : Nat) : Int)) (w' := w) (by kernel_rfl) ?_)
  refine wl_when (by kernel_rfl) (gv_val (v := .pointer (some ⟨g, 0, none⟩)) (w' := w) (by kernel_rfl) ?_)
  refine wl_when (by kernel_rfl) (gv_val (v := .pointer (some ⟨g, 0, none⟩)) (w' := w) (by kernel_rfl) ?_)
  refine wl_when (by kernel_rfl) (gv_val (v := .pointer (some ⟨g, 0, none⟩)) (w' := w) (by kernel_rfl) ?_)
  refine wl_when (by kernel_rfl) (gv_ldR (v := .slice (some ⟨gl, 0, none⟩) LL.length cl) rfl (by kernel_rfl) (by kernel_rfl) (((S.blk 0 rfl).cell 0).trans rfl) ?_)
  refine wl_when (by kernel_rfl) (gv_val (v := .int .i64 (LL.length : Nat)) (w' := w) (by kernel_rfl) ?_)
  refine wl_when (by kernel_rfl) (gv_dec (p := (((k : Nat) : Int) : Int) ≥ (LL.length : Nat)) (by kernel_rfl) (fun hd3 => False.elim (by omega)) (fun _ => ?_))
  refine pv fv ?_
  refine wl_end (fr [pq g, iv ((k : Nat) : Int), .slice A d.length cd, ud, ud, ud, iv 0, pq g, pq g, po g 2, iv s.left, fv, iv ((k : Nat) : Int), fv, fv, iv ((k : Nat) : Int), pq g, pq g, pq g, sl gl 0 LL.length cl, iv (LL.length : Nat), fv, fv] 45) (by kernel_rfl) ?_
  refine then_n ?_
  refine wp_cond_false (by kernel_rfl) ?_
  refine wp_skip ?_
  refine then_n ?_
  refine wp_seq ?_
  refine wp_seq ?_
  refine wp_region_lit ?_
  refine pv (.slice A d.length cd) ?_
  refine pv (iv (d.length : Nat)) ?_
  refine wl_gv rfl (gv_ne (x := (d.length : Nat)) (y := 512) (by kernel_rfl) (fun hd4 => False.elim (by omega)) (fun _ => ?_))
  refine wl_end (fr [pq g, iv ((k : Nat) : Int), .slice A d.length cd, ud, ud, ud, iv 0, pq g, pq g, po g 2, iv s.left, fv, iv ((k : Nat) : Int), fv, fv, iv ((k : Nat) : Int), pq g, pq g, pq g, sl gl 0 LL.length cl, iv (LL.length : Nat), fv, fv, ud, ud, ud, ud, ud, ud, ud, ud, ud, .slice A d.length cd, iv (d.length : Nat), fv] 33) (by kernel_rfl) ?_
  refine then_n ?_
  refine wp_cond_false (by kernel_rfl) ?_
  refine wp_skip ?_
  refine then_n ?_
  refine wp_seq ?_
  have S5 : St F w0 w (vec 99 2 (.slice A2 PP.length c2) PP.length (putsV PP) :: row g #[.slice (some ⟨gl, 0, none⟩) LL.length cl, .slice A2 PP.length c2, .int .i64 s.left, .int .i64 s.life, .int .i64 s.rd, .int .i64 s.wr, .int .i64 s.fl, .int .i64 s.rf, .int .i64 0] 96 :: row gl ((LL.map PEnt.val ++ junk).toArray) 31 :: stars (pool.map PEnt.row) :: L) := St.permT [row g #[.slice (some ⟨gl, 0, none⟩) LL.length cl, .slice A2 PP.length c2, .int .i64 s.left, .int .i64 s.life, .int .i64 s.rd, .int .i64 s.wr, .int .i64 s.fl, .int .i64 s.rf, .int .i64 0] 96, row gl ((LL.map PEnt.val ++ junk).toArray) 31, vec 99 2 (.slice A2 PP.length c2) PP.length (putsV PP), stars (pool.map PEnt.row)] [2, 0, 1, 3] (by decide) rfl S
  refine wp_region_phu (γ := Nat × Nat × Value) 14 [7, 9, 10, 13] (fun (c_ : Nat × Nat × Value) (i_ : Nat) => (match i_ with | 0 => .pointer (some ⟨g, 0, none⟩) | 1 => .pointer (some ⟨g, 0, none⟩) | 2 => .pointer (some ⟨g, 0, none⟩) | 3 => .pointer (some ⟨g, 1, none⟩) | 4 => .slice A2 PP.length c2 | 5 => .int .i64 ((k : Nat) : Int) | 6 => .slice A d.length cd | 7 => .slice (some ⟨c_.1, 0, none⟩) d.length d.length | 8 => .agg #[.int .i64 ((k : Nat) : Int), .slice (some ⟨c_.1, 0, none⟩) d.length d.length] | 9 => .slice (some ⟨c_.2.1, 0, none⟩) 1 1 | 10 => c_.2.2 | 11 => .pointer (some ⟨g, 0, none⟩) | 12 => .pointer (some ⟨g, 1, none⟩) | 13 => undef | _ => undef : Value)) (fun (c_ : Nat × Nat × Value) (p_ : Nat) (w_ : World) => (match p_ with | 0 => St F w0 w_ (vec 99 2 (.slice A2 PP.length c2) PP.length (putsV PP) :: row g #[.slice (some ⟨gl, 0, none⟩) LL.length cl, .slice A2 PP.length c2, .int .i64 s.left, .int .i64 s.life, .int .i64 s.rd, .int .i64 s.wr, .int .i64 s.fl, .int .i64 s.rf, .int .i64 0] 96 :: row gl ((LL.map PEnt.val ++ junk).toArray) 31 :: stars (pool.map PEnt.row) :: L) | 1 => St F w0 w_ (row c_.1 (bvs d) 5 :: vec 99 2 (.slice A2 PP.length c2) PP.length (putsV PP) :: row g #[.slice (some ⟨gl, 0, none⟩) LL.length cl, .slice A2 PP.length c2, .int .i64 s.left, .int .i64 s.life, .int .i64 s.rd, .int .i64 s.wr, .int .i64 s.fl, .int .i64 s.rf, .int .i64 0] 96 :: row gl ((LL.map PEnt.val ++ junk).toArray) 31 :: stars (pool.map PEnt.row) :: L) | 2 => St F w0 w_ (row c_.2.1 #[.int .i64 ((k : Nat) : Int), .slice (some ⟨c_.1, 0, none⟩) d.length d.length] 99 :: row c_.1 (bvs d) 5 :: vec 99 2 (.slice A2 PP.length c2) PP.length (putsV PP) :: row g #[.slice (some ⟨gl, 0, none⟩) LL.length cl, .slice A2 PP.length c2, .int .i64 s.left, .int .i64 s.life, .int .i64 s.rd, .int .i64 s.wr, .int .i64 s.fl, .int .i64 s.rf, .int .i64 0] 96 :: row gl ((LL.map PEnt.val ++ junk).toArray) 31 :: stars (pool.map PEnt.row) :: L) | 3 => St F w0 w_ (vec 99 2 c_.2.2 (PP.length + 1) (putsV PP ++ [.int .i64 ((k : Nat) : Int), .slice (some ⟨c_.1, 0, none⟩) d.length d.length]) :: row c_.2.1 #[.int .i64 ((k : Nat) : Int), .slice (some ⟨c_.1, 0, none⟩) d.length d.length] 99 :: row c_.1 (bvs d) 5 :: row g #[.slice (some ⟨gl, 0, none⟩) LL.length cl, .slice A2 PP.length c2, .int .i64 s.left, .int .i64 s.life, .int .i64 s.rd, .int .i64 s.wr, .int .i64 s.fl, .int .i64 s.rf, .int .i64 0] 96 :: row gl ((LL.map PEnt.val ++ junk).toArray) 31 :: stars (pool.map PEnt.row) :: L) | _ => St F w0 w_ (vec 99 2 c_.2.2 (PP.length + 1) (putsV PP ++ [.int .i64 ((k : Nat) : Int), .slice (some ⟨c_.1, 0, none⟩) d.length d.length]) :: row c_.2.1 #[.int .i64 ((k : Nat) : Int), .slice (some ⟨c_.1, 0, none⟩) d.length d.length] 99 :: row c_.1 (bvs d) 5 :: row g #[.slice (some ⟨gl, 0, none⟩) LL.length cl, c_.2.2, .int .i64 s.left, .int .i64 s.life, .int .i64 s.rd, .int .i64 s.wr, .int .i64 s.fl, .int .i64 s.rf, .int .i64 0] 96 :: row gl ((LL.map PEnt.val ++ junk).toArray) 31 :: stars (pool.map PEnt.row) :: L) : Prop)) (0, 0, undef) (by kernel_rfl) (by kernel_rfl) (by kernel_rfl) (by kernel_rfl) (S5.drew) ?_ ?_ ?_
  · intro i_ c_ p_ vals_ w1 hi_ hiE_ hp_ hk_ hu_ hPh_ hd_
    rcases i_ with _ | _ | _ | _ | _ | _ | _ | _ | _ | _ | _ | _ | _ | _ | i_
    · skip
      refine told_free rfl rfl (gv_env ((⟨Array.replicate 68 undef, []⟩ : Act).put (some 0) (.pointer (some ⟨g, 0, none⟩))) (by kernel_rfl) (xs := [.tmp 0]) (by kernel_rfl) (alike_cons (fill_past (by kernel_rfl) (by kernel_rfl)) alike_nil) (gv_val (v := .pointer (some ⟨g, 0, none⟩)) (w' := w1) (by kernel_rfl) ?_))
      exact ⟨rfl, rfl⟩
    · skip
      refine told_free rfl rfl (gv_env ((⟨Array.replicate 68 undef, []⟩ : Act).put (some 0) (.pointer (some ⟨g, 0, none⟩))) (by kernel_rfl) (xs := [.tmp 0]) (by kernel_rfl) (alike_cons (fill_past (by kernel_rfl) (by kernel_rfl)) alike_nil) (gv_val (v := .pointer (some ⟨g, 0, none⟩)) (w' := w1) (by kernel_rfl) ?_))
      exact ⟨rfl, rfl⟩
    · skip
      refine told_free rfl rfl (gv_env ((⟨Array.replicate 68 undef, []⟩ : Act).put (some 45) (.pointer (some ⟨g, 0, none⟩))) (by kernel_rfl) (xs := [.tmp 45]) (by kernel_rfl) (alike_cons (fill_at (k := 1) (by kernel_rfl) (by kernel_rfl) ((hd_ 1 (by kernel_rfl)).trans (by kernel_rfl))) alike_nil) (gv_val (v := .pointer (some ⟨g, 0, none⟩)) (w' := w1) (by kernel_rfl) ?_))
      exact ⟨rfl, rfl⟩
    · skip
      refine told_free rfl rfl (gv_env ((⟨Array.replicate 68 undef, []⟩ : Act).put (some 46) (.pointer (some ⟨g, 0, none⟩))) (by kernel_rfl) (xs := [.tmp 46]) (by kernel_rfl) (alike_cons (fill_at (k := 2) (by kernel_rfl) (by kernel_rfl) ((hd_ 2 (by kernel_rfl)).trans (by kernel_rfl))) alike_nil) (gv_val (v := .pointer (some ⟨g, 1, none⟩)) (w' := w1) (by kernel_rfl) ?_))
      exact ⟨rfl, rfl⟩
    · skip
      rcases p_ with _ | _ | _ | _ | _ | p_
      · skip
        have S10 : St F w0 w1 (vec 99 2 (.slice A2 PP.length c2) PP.length (putsV PP) :: row g #[.slice (some ⟨gl, 0, none⟩) LL.length cl, .slice A2 PP.length c2, .int .i64 s.left, .int .i64 s.life, .int .i64 s.rd, .int .i64 s.wr, .int .i64 s.fl, .int .i64 s.rf, .int .i64 0] 96 :: row gl ((LL.map PEnt.val ++ junk).toArray) 31 :: stars (pool.map PEnt.row) :: L) := hPh_
        refine told_free rfl rfl (gv_env ((⟨Array.replicate 68 undef, []⟩ : Act).put (some 47) (.pointer (some ⟨g, 1, none⟩))) (by kernel_rfl) (xs := [.tmp 47]) (by kernel_rfl) (alike_cons (fill_at (k := 3) (by kernel_rfl) (by kernel_rfl) ((hd_ 3 (by kernel_rfl)).trans (by kernel_rfl))) alike_nil) (gv_ldR (v := .slice A2 PP.length c2) rfl (by kernel_rfl) (by kernel_rfl) (((S10.blk 1 rfl).cell 1).trans rfl) ?_))
        exact ⟨rfl, rfl⟩
      · skip
        have S11 : St F w0 w1 (row c_.1 (bvs d) 5 :: vec 99 2 (.slice A2 PP.length c2) PP.length (putsV PP) :: row g #[.slice (some ⟨gl, 0, none⟩) LL.length cl, .slice A2 PP.length c2, .int .i64 s.left, .int .i64 s.life, .int .i64 s.rd, .int .i64 s.wr, .int .i64 s.fl, .int .i64 s.rf, .int .i64 0] 96 :: row gl ((LL.map PEnt.val ++ junk).toArray) 31 :: stars (pool.map PEnt.row) :: L) := hPh_
        refine told_free rfl rfl (gv_env ((⟨Array.replicate 68 undef, []⟩ : Act).put (some 47) (.pointer (some ⟨g, 1, none⟩))) (by kernel_rfl) (xs := [.tmp 47]) (by kernel_rfl) (alike_cons (fill_at (k := 3) (by kernel_rfl) (by kernel_rfl) ((hd_ 3 (by kernel_rfl)).trans (by kernel_rfl))) alike_nil) (gv_ldR (v := .slice A2 PP.length c2) rfl (by kernel_rfl) (by kernel_rfl) (((S11.blk 2 rfl).cell 1).trans rfl) ?_))
        exact ⟨rfl, rfl⟩
      · skip
        have S12 : St F w0 w1 (row c_.2.1 #[.int .i64 ((k : Nat) : Int), .slice (some ⟨c_.1, 0, none⟩) d.length d.length] 99 :: row c_.1 (bvs d) 5 :: vec 99 2 (.slice A2 PP.length c2) PP.length (putsV PP) :: row g #[.slice (some ⟨gl, 0, none⟩) LL.length cl, .slice A2 PP.length c2, .int .i64 s.left, .int .i64 s.life, .int .i64 s.rd, .int .i64 s.wr, .int .i64 s.fl, .int .i64 s.rf, .int .i64 0] 96 :: row gl ((LL.map PEnt.val ++ junk).toArray) 31 :: stars (pool.map PEnt.row) :: L) := hPh_
        refine told_free rfl rfl (gv_env ((⟨Array.replicate 68 undef, []⟩ : Act).put (some 47) (.pointer (some ⟨g, 1, none⟩))) (by kernel_rfl) (xs := [.tmp 47]) (by kernel_rfl) (alike_cons (fill_at (k := 3) (by kernel_rfl) (by kernel_rfl) ((hd_ 3 (by kernel_rfl)).trans (by kernel_rfl))) alike_nil) (gv_ldR (v := .slice A2 PP.length c2) rfl (by kernel_rfl) (by kernel_rfl) (((S12.blk 3 rfl).cell 1).trans rfl) ?_))
        exact ⟨rfl, rfl⟩
      · skip
        exact absurd (hu_ 2 (by decide) (by kernel_rfl)) (by decide)
      · skip
        exact absurd (hu_ 2 (by decide) (by kernel_rfl)) (by decide)
      · exact absurd hp_ (by simp)
    · skip
      refine told_free rfl rfl (gv_env ((⟨Array.replicate 68 undef, []⟩ : Act).put (some 1) (.int .i64 ((k : Nat) : Int))) (by kernel_rfl) (xs := [.tmp 1]) (by kernel_rfl) (alike_cons (fill_past (by kernel_rfl) (by kernel_rfl)) alike_nil) (gv_val (v := .int .i64 ((k : Nat) : Int)) (w' := w1) (by kernel_rfl) ?_))
      exact ⟨rfl, rfl⟩
    · skip
      refine told_free rfl rfl (gv_env ((⟨Array.replicate 68 undef, []⟩ : Act).put (some 2) (.slice A d.length cd)) (by kernel_rfl) (xs := [.tmp 2]) (by kernel_rfl) (alike_cons (fill_past (by kernel_rfl) (by kernel_rfl)) alike_nil) (gv_val (v := .slice A d.length cd) (w' := w1) (by kernel_rfl) ?_))
      exact ⟨rfl, rfl⟩
    · skip
      exact absurd hiE_ (by decide)
    · skip
      refine told_free rfl rfl (gv_env (((⟨Array.replicate 68 undef, []⟩ : Act).put (some 49) (.int .i64 ((k : Nat) : Int))).put (some 51) (.slice (some ⟨c_.1, 0, none⟩) d.length d.length)) (by kernel_rfl) (xs := [.tmp 49, .tmp 51]) (by kernel_rfl) (alike_cons (fill_at (k := 5) (by kernel_rfl) (by kernel_rfl) ((hd_ 5 (by kernel_rfl)).trans (by kernel_rfl))) (alike_cons (fill_at (k := 7) (by kernel_rfl) (by kernel_rfl) ((hd_ 7 (by kernel_rfl)).trans (by kernel_rfl))) alike_nil)) (gv_val (v := .agg #[.int .i64 ((k : Nat) : Int), .slice (some ⟨c_.1, 0, none⟩) d.length d.length]) (w' := w1) (by kernel_rfl) ?_))
      exact ⟨rfl, rfl⟩
    · skip
      exact absurd hiE_ (by decide)
    · skip
      exact absurd hiE_ (by decide)
    · skip
      refine told_free rfl rfl (gv_env ((⟨Array.replicate 68 undef, []⟩ : Act).put (some 44) (.pointer (some ⟨g, 0, none⟩))) (by kernel_rfl) (xs := [.tmp 44]) (by kernel_rfl) (alike_cons (fill_at (k := 0) (by kernel_rfl) (by kernel_rfl) ((hd_ 0 (by kernel_rfl)).trans (by kernel_rfl))) alike_nil) (gv_val (v := .pointer (some ⟨g, 0, none⟩)) (w' := w1) (by kernel_rfl) ?_))
      exact ⟨rfl, rfl⟩
    · skip
      refine told_free rfl rfl (gv_env ((⟨Array.replicate 68 undef, []⟩ : Act).put (some 55) (.pointer (some ⟨g, 0, none⟩))) (by kernel_rfl) (xs := [.tmp 55]) (by kernel_rfl) (alike_cons (fill_at (k := 11) (by kernel_rfl) (by kernel_rfl) ((hd_ 11 (by kernel_rfl)).trans (by kernel_rfl))) alike_nil) (gv_val (v := .pointer (some ⟨g, 1, none⟩)) (w' := w1) (by kernel_rfl) ?_))
      exact ⟨rfl, rfl⟩
    · skip
      exact absurd hiE_ (by decide)
    · exact absurd hi_ (by omega)
  · intro k_ c_ vals_ w1 hk_ hPh_ hd_
    rcases k_ with _ | _ | _ | _ | k_
    · skip
      have S18 : St F w0 w1 (vec 99 2 (.slice A2 PP.length c2) PP.length (putsV PP) :: row g #[.slice (some ⟨gl, 0, none⟩) LL.length cl, .slice A2 PP.length c2, .int .i64 s.left, .int .i64 s.life, .int .i64 s.rd, .int .i64 s.wr, .int .i64 s.fl, .int .i64 s.rf, .int .i64 0] 96 :: row gl ((LL.map PEnt.val ++ junk).toArray) 31 :: stars (pool.map PEnt.row) :: L) := hPh_
      refine told_free rfl rfl (gv_env ((⟨Array.replicate 68 undef, []⟩ : Act).put (some 50) (.slice A d.length cd)) (by kernel_rfl) (xs := [.func 75, .tmp 50]) (by kernel_rfl) (alike_cons eval_fn (alike_cons (fill_at (k := 6) (by kernel_rfl) (by kernel_rfl) ((hd_ 6 (by kernel_rfl)).trans (by kernel_rfl))) alike_nil)) (gv_call (args := #[.slice A d.length cd]) rfl Try.func75 (by kernel_rfl) rfl rfl (by kernel_rfl) ?_))
      refine Calls.mono (rtwinS (l := d) S18 (RoT.more (RoT.more (RoT.more (RoT.more hr)))) rfl (by omega)) ?_
      rintro _ w20 ⟨g19, rfl, S21⟩
      refine ⟨_, rfl, ?_⟩
      refine ⟨(g19, c_.2.1, c_.2.2), rfl, ?_, S21⟩
      intro i_ hi_ hne_ hdp_
      rcases i_ with _ | _ | _ | _ | _ | _ | _ | _ | _ | _ | _ | _ | _ | _ | i_
      · rfl
      · rfl
      · rfl
      · rfl
      · rfl
      · rfl
      · rfl
      · exact absurd rfl hne_
      · exact (dep_no hdp_ (by kernel_rfl)).elim
      · exact (dep_no hdp_ (by kernel_rfl)).elim
      · exact (dep_no hdp_ (by kernel_rfl)).elim
      · exact (dep_no hdp_ (by kernel_rfl)).elim
      · exact (dep_no hdp_ (by kernel_rfl)).elim
      · exact (dep_no hdp_ (by kernel_rfl)).elim
      · exact absurd hi_ (by omega)
    · skip
      have S22 : St F w0 w1 (row c_.1 (bvs d) 5 :: vec 99 2 (.slice A2 PP.length c2) PP.length (putsV PP) :: row g #[.slice (some ⟨gl, 0, none⟩) LL.length cl, .slice A2 PP.length c2, .int .i64 s.left, .int .i64 s.life, .int .i64 s.rd, .int .i64 s.wr, .int .i64 s.fl, .int .i64 s.rf, .int .i64 0] 96 :: row gl ((LL.map PEnt.val ++ junk).toArray) 31 :: stars (pool.map PEnt.row) :: L) := hPh_
      refine told_free rfl rfl (gv_env ((⟨Array.replicate 68 undef, []⟩ : Act).put (some 52) (.agg #[.int .i64 ((k : Nat) : Int), .slice (some ⟨c_.1, 0, none⟩) d.length d.length])) (by kernel_rfl) (xs := [.tmp 52]) (by kernel_rfl) (alike_cons (fill_at (k := 8) (by kernel_rfl) (by kernel_rfl) ((hd_ 8 (by kernel_rfl)).trans (by kernel_rfl))) alike_nil) (gv_slit (e := 99) (sz := 2) (z := .agg #[.int .i64 0, .slice none 0 0]) (by_ := 32) (vs := #[(0, .agg #[.int .i64 ((k : Nat) : Int), .slice (some ⟨c_.1, 0, none⟩) d.length d.length])]) (cells := #[.int .i64 ((k : Nat) : Int), .slice (some ⟨c_.1, 0, none⟩) d.length d.length]) S22 rfl (by kernel_rfl) ⟨by kernel_rfl⟩ (by kernel_rfl) (by kernel_rfl) (by kernel_rfl) (by kernel_rfl) (fun g23 w24 hg25 S26 => ?_)))
      refine ⟨(c_.1, g23, c_.2.2), rfl, ?_, S26⟩
      intro i_ hi_ hne_ hdp_
      rcases i_ with _ | _ | _ | _ | _ | _ | _ | _ | _ | _ | _ | _ | _ | _ | i_
      · rfl
      · rfl
      · rfl
      · rfl
      · rfl
      · rfl
      · rfl
      · rfl
      · rfl
      · exact absurd rfl hne_
      · exact (dep_no hdp_ (by kernel_rfl)).elim
      · exact (dep_no hdp_ (by kernel_rfl)).elim
      · exact (dep_no hdp_ (by kernel_rfl)).elim
      · exact (dep_no hdp_ (by kernel_rfl)).elim
      · exact absurd hi_ (by omega)
    · skip
      have S27 : St F w0 w1 (row c_.2.1 #[.int .i64 ((k : Nat) : Int), .slice (some ⟨c_.1, 0, none⟩) d.length d.length] 99 :: row c_.1 (bvs d) 5 :: vec 99 2 (.slice A2 PP.length c2) PP.length (putsV PP) :: row g #[.slice (some ⟨gl, 0, none⟩) LL.length cl, .slice A2 PP.length c2, .int .i64 s.left, .int .i64 s.life, .int .i64 s.rd, .int .i64 s.wr, .int .i64 s.fl, .int .i64 s.rf, .int .i64 0] 96 :: row gl ((LL.map PEnt.val ++ junk).toArray) 31 :: stars (pool.map PEnt.row) :: L) := hPh_
      have S28 : St F w0 w1 (row c_.2.1 #[.int .i64 ((k : Nat) : Int), .slice (some ⟨c_.1, 0, none⟩) d.length d.length] 99 :: vec 99 2 (.slice A2 PP.length c2) PP.length (putsV PP) :: row c_.1 (bvs d) 5 :: row g #[.slice (some ⟨gl, 0, none⟩) LL.length cl, .slice A2 PP.length c2, .int .i64 s.left, .int .i64 s.life, .int .i64 s.rd, .int .i64 s.wr, .int .i64 s.fl, .int .i64 s.rf, .int .i64 0] 96 :: row gl ((LL.map PEnt.val ++ junk).toArray) 31 :: stars (pool.map PEnt.row) :: L) := St.permT [row c_.2.1 #[.int .i64 ((k : Nat) : Int), .slice (some ⟨c_.1, 0, none⟩) d.length d.length] 99, row c_.1 (bvs d) 5, vec 99 2 (.slice A2 PP.length c2) PP.length (putsV PP), row g #[.slice (some ⟨gl, 0, none⟩) LL.length cl, .slice A2 PP.length c2, .int .i64 s.left, .int .i64 s.life, .int .i64 s.rd, .int .i64 s.wr, .int .i64 s.fl, .int .i64 s.rf, .int .i64 0] 96, row gl ((LL.map PEnt.val ++ junk).toArray) 31, stars (pool.map PEnt.row)] [0, 2, 1, 3, 4, 5] (by decide) rfl S27
      refine told_free rfl rfl (gv_env (((⟨Array.replicate 68 undef, []⟩ : Act).put (some 48) (.slice A2 PP.length c2)).put (some 53) (.slice (some ⟨c_.2.1, 0, none⟩) 1 1)) (by kernel_rfl) (xs := [.tmp 48, .tmp 53]) (by kernel_rfl) (alike_cons (fill_at (k := 4) (by kernel_rfl) (by kernel_rfl) ((hd_ 4 (by kernel_rfl)).trans (by kernel_rfl))) (alike_cons (fill_at (k := 9) (by kernel_rfl) (by kernel_rfl) ((hd_ 9 (by kernel_rfl)).trans (by kernel_rfl))) alike_nil)) (gv_append (e := 99) (sz := 2) (n := PP.length) (v := (.slice A2 PP.length c2)) (vals := (putsV PP)) (z := .agg #[.int .i64 0, .slice none 0 0]) (by_ := 32) (m := 1) (c' := 1) (ad := ⟨c_.2.1, 0, none⟩) (news := [.int .i64 ((k : Nat) : Int), .slice (some ⟨c_.1, 0, none⟩) d.length d.length]) (St.swap S28) rfl (by kernel_rfl) ⟨by kernel_rfl⟩ rfl (by kernel_rfl) (by kernel_rfl) (by decide) rfl (row_news (S28.blk 0 rfl)) (by intro u hu; simp at hu; rcases hu with rfl | rfl <;> rfl) (by omega) (by omega) (fun v30 w29 S31 => ?_)))
      refine ⟨(c_.1, c_.2.1, v30), rfl, ?_, S31⟩
      intro i_ hi_ hne_ hdp_
      rcases i_ with _ | _ | _ | _ | _ | _ | _ | _ | _ | _ | _ | _ | _ | _ | i_
      · rfl
      · rfl
      · rfl
      · rfl
      · rfl
      · rfl
      · rfl
      · rfl
      · rfl
      · rfl
      · exact absurd rfl hne_
      · exact (dep_no hdp_ (by kernel_rfl)).elim
      · exact (dep_no hdp_ (by kernel_rfl)).elim
      · exact (dep_no hdp_ (by kernel_rfl)).elim
      · exact absurd hi_ (by omega)
    · skip
      have S32 : St F w0 w1 (vec 99 2 c_.2.2 (PP.length + 1) (putsV PP ++ [.int .i64 ((k : Nat) : Int), .slice (some ⟨c_.1, 0, none⟩) d.length d.length]) :: row c_.2.1 #[.int .i64 ((k : Nat) : Int), .slice (some ⟨c_.1, 0, none⟩) d.length d.length] 99 :: row c_.1 (bvs d) 5 :: row g #[.slice (some ⟨gl, 0, none⟩) LL.length cl, .slice A2 PP.length c2, .int .i64 s.left, .int .i64 s.life, .int .i64 s.rd, .int .i64 s.wr, .int .i64 s.fl, .int .i64 s.rf, .int .i64 0] 96 :: row gl ((LL.map PEnt.val ++ junk).toArray) 31 :: stars (pool.map PEnt.row) :: L) := hPh_
      refine told_free rfl rfl (gv_env (((⟨Array.replicate 68 undef, []⟩ : Act).put (some 56) (.pointer (some ⟨g, 1, none⟩))).put (some 54) (c_.2.2)) (by kernel_rfl) (xs := [.tmp 56, .tmp 54]) (by kernel_rfl) (alike_cons (fill_at (k := 12) (by kernel_rfl) (by kernel_rfl) ((hd_ 12 (by kernel_rfl)).trans (by kernel_rfl))) (alike_cons (fill_at (k := 10) (by kernel_rfl) (by kernel_rfl) ((hd_ 10 (by kernel_rfl)).trans (by kernel_rfl))) alike_nil)) (gv_st (k := 1) (v := c_.2.2) S32 3 rfl rfl (by kernel_rfl) (by kernel_rfl) (by kernel_rfl) (St.vec_one S32 0 rfl) rfl (L' := (vec 99 2 c_.2.2 (PP.length + 1) (putsV PP ++ [.int .i64 ((k : Nat) : Int), .slice (some ⟨c_.1, 0, none⟩) d.length d.length]) :: row c_.2.1 #[.int .i64 ((k : Nat) : Int), .slice (some ⟨c_.1, 0, none⟩) d.length d.length] 99 :: row c_.1 (bvs d) 5 :: row g #[.slice (some ⟨gl, 0, none⟩) LL.length cl, c_.2.2, .int .i64 s.left, .int .i64 s.life, .int .i64 s.rd, .int .i64 s.wr, .int .i64 s.fl, .int .i64 s.rf, .int .i64 0] 96 :: row gl ((LL.map PEnt.val ++ junk).toArray) 31 :: stars (pool.map PEnt.row) :: L)) rfl (fun w33 S34 => ?_)))
      refine ⟨(c_.1, c_.2.1, c_.2.2), rfl, ?_, S34⟩
      intro i_ hi_ hne_ hdp_
      rcases i_ with _ | _ | _ | _ | _ | _ | _ | _ | _ | _ | _ | _ | _ | _ | i_
      · rfl
      · rfl
      · rfl
      · rfl
      · rfl
      · rfl
      · rfl
      · rfl
      · rfl
      · rfl
      · rfl
      · rfl
      · rfl
      · exact absurd rfl hne_
      · exact absurd hi_ (by omega)
    · exact absurd hk_ (by simp)
  · intro c_ w1 hPh_
    have S35 : St F w0 w1 (vec 99 2 c_.2.2 (PP.length + 1) (putsV PP ++ [.int .i64 ((k : Nat) : Int), .slice (some ⟨c_.1, 0, none⟩) d.length d.length]) :: row c_.2.1 #[.int .i64 ((k : Nat) : Int), .slice (some ⟨c_.1, 0, none⟩) d.length d.length] 99 :: row c_.1 (bvs d) 5 :: row g #[.slice (some ⟨gl, 0, none⟩) LL.length cl, c_.2.2, .int .i64 s.left, .int .i64 s.life, .int .i64 s.rd, .int .i64 s.wr, .int .i64 s.fl, .int .i64 s.rf, .int .i64 0] 96 :: row gl ((LL.map PEnt.val ++ junk).toArray) 31 :: stars (pool.map PEnt.row) :: L) := hPh_
    refine wl_frame (fr [pq g, iv ((k : Nat) : Int), .slice A d.length cd, ud, ud, ud, iv 0, pq g, pq g, po g 2, iv s.left, fv, iv ((k : Nat) : Int), fv, fv, iv ((k : Nat) : Int), pq g, pq g, pq g, sl gl 0 LL.length cl, iv (LL.length : Nat), fv, fv, ud, ud, ud, ud, ud, ud, ud, ud, ud, .slice A d.length cd, iv (d.length : Nat), fv, ud, ud, ud, ud, ud, ud, ud, ud, ud, pq g, pq g, pq g, po g 1, .slice A2 PP.length c2, iv ((k : Nat) : Int), .slice A d.length cd, sl c_.1 0 d.length d.length, .agg #[iv ((k : Nat) : Int), sl c_.1 0 d.length d.length], sl c_.2.1 0 1 1, c_.2.2, pq g, po g 1] 11) (by kernel_rfl) ?_
    refine wl_end (fr [pq g, iv ((k : Nat) : Int), .slice A d.length cd, ud, ud, ud, iv 0, pq g, pq g, po g 2, iv s.left, fv, iv ((k : Nat) : Int), fv, fv, iv ((k : Nat) : Int), pq g, pq g, pq g, sl gl 0 LL.length cl, iv (LL.length : Nat), fv, fv, ud, ud, ud, ud, ud, ud, ud, ud, ud, .slice A d.length cd, iv (d.length : Nat), fv, ud, ud, ud, ud, ud, ud, ud, ud, ud, pq g, pq g, pq g, po g 1, .slice A2 PP.length c2, iv ((k : Nat) : Int), .slice A d.length cd, sl c_.1 0 d.length d.length, .agg #[iv ((k : Nat) : Int), sl c_.1 0 d.length d.length], sl c_.2.1 0 1 1, c_.2.2, pq g, po g 1] 11) (by kernel_rfl) ?_
    refine then_n ?_
    refine wp_seq ?_
    refine wp_region_lit ?_
    refine pv (pq g) ?_
    refine pv (pq g) ?_
    refine pv (po g 4) ?_
    refine pv (po g 5) ?_
    refine wl_gv rfl (gv_ldR (v := .int .i64 s.wr) rfl (by kernel_rfl) (by kernel_rfl) (((S35.blk 3 rfl).cell 5).trans rfl) ?_)
    refine pv (iv (inc s.wr)) ?_
    refine pv (pq g) ?_
    refine pv (po g 4) ?_
    refine pv (po g 5) ?_
    refine wl_gv rfl (gv_st (k := 5) (v := .int .i64 (inc s.wr)) S35 3 rfl rfl (by kernel_rfl) (by kernel_rfl) (by kernel_rfl) rfl rfl (L' := (vec 99 2 c_.2.2 (PP.length + 1) (putsV PP ++ [.int .i64 ((k : Nat) : Int), .slice (some ⟨c_.1, 0, none⟩) d.length d.length]) :: row c_.2.1 #[.int .i64 ((k : Nat) : Int), .slice (some ⟨c_.1, 0, none⟩) d.length d.length] 99 :: row c_.1 (bvs d) 5 :: row g #[.slice (some ⟨gl, 0, none⟩) LL.length cl, c_.2.2, .int .i64 s.left, .int .i64 s.life, .int .i64 s.rd, .int .i64 (inc s.wr), .int .i64 s.fl, .int .i64 s.rf, .int .i64 0] 96 :: row gl ((LL.map PEnt.val ++ junk).toArray) 31 :: stars (pool.map PEnt.row) :: L)) rfl (fun w36 S37 => ?_))
    refine wl_end (fr [pq g, iv ((k : Nat) : Int), .slice A d.length cd, ud, ud, ud, iv 0, pq g, pq g, po g 2, iv s.left, fv, iv ((k : Nat) : Int), fv, fv, iv ((k : Nat) : Int), pq g, pq g, pq g, sl gl 0 LL.length cl, iv (LL.length : Nat), fv, fv, ud, ud, ud, ud, ud, ud, ud, ud, ud, .slice A d.length cd, iv (d.length : Nat), fv, ud, ud, ud, ud, ud, ud, ud, ud, ud, pq g, pq g, pq g, po g 1, .slice A2 PP.length c2, iv ((k : Nat) : Int), .slice A d.length cd, sl c_.1 0 d.length d.length, .agg #[iv ((k : Nat) : Int), sl c_.1 0 d.length d.length], sl c_.2.1 0 1 1, c_.2.2, pq g, po g 1, pq g, pq g, po g 4, po g 5, iv s.wr, iv (inc s.wr), pq g, po g 4, po g 5] 2) (by kernel_rfl) ?_
    refine then_n ?_
    refine wp_seq ?_
    refine wp_region_lit ?_
    refine pv (pq g) ?_
    refine wl_gv rfl (gv_call (args := #[.pointer (some ⟨g, 0, none⟩)]) rfl Try.func78 (by kernel_rfl) rfl rfl (by kernel_rfl) ?_)
    obtain ⟨A3, c3, e3⟩ := St.vec_v S37 0 rfl
    have S38 : St F w0 w36 (row c_.1 (bvs d) 5 :: stars (pool.map PEnt.row) :: row g #[.slice (some ⟨gl, 0, none⟩) LL.length cl, c_.2.2, .int .i64 s.left, .int .i64 s.life, .int .i64 s.rd, .int .i64 (inc s.wr), .int .i64 s.fl, .int .i64 s.rf, .int .i64 0] 96 :: row gl ((LL.map PEnt.val ++ junk).toArray) 31 :: vec 99 2 c_.2.2 (PP.length + 1) (putsV PP ++ [.int .i64 ((k : Nat) : Int), .slice (some ⟨c_.1, 0, none⟩) d.length d.length]) :: L) := St.permT [vec 99 2 c_.2.2 (PP.length + 1) (putsV PP ++ [.int .i64 ((k : Nat) : Int), .slice (some ⟨c_.1, 0, none⟩) d.length d.length]), row c_.2.1 #[.int .i64 ((k : Nat) : Int), .slice (some ⟨c_.1, 0, none⟩) d.length d.length] 99, row c_.1 (bvs d) 5, row g #[.slice (some ⟨gl, 0, none⟩) LL.length cl, c_.2.2, .int .i64 s.left, .int .i64 s.life, .int .i64 s.rd, .int .i64 (inc s.wr), .int .i64 s.fl, .int .i64 s.rf, .int .i64 0] 96, row gl ((LL.map PEnt.val ++ junk).toArray) 31, stars (pool.map PEnt.row)] [2, 5, 3, 4, 0] (by decide) rfl S37
    have S39 : St F w0 w36 (stars (((c_.1, d) :: pool).map PEnt.row) :: row g #[.slice (some ⟨gl, 0, none⟩) LL.length cl, c_.2.2, .int .i64 s.left, .int .i64 s.life, .int .i64 s.rd, .int .i64 (inc s.wr), .int .i64 s.fl, .int .i64 s.rf, .int .i64 0] 96 :: row gl ((LL.map PEnt.val ++ junk).toArray) 31 :: vec 99 2 c_.2.2 (PP.length + 1) (putsV PP ++ [.int .i64 ((k : Nat) : Int), .slice (some ⟨c_.1, 0, none⟩) d.length d.length]) :: L) := St.pool_add S38
    have S40 : St F w0 w36 (row g #[.slice (some ⟨gl, 0, none⟩) LL.length cl, c_.2.2, .int .i64 s.left, .int .i64 s.life, .int .i64 s.rd, .int .i64 (inc s.wr), .int .i64 s.fl, .int .i64 s.rf, .int .i64 0] 96 :: row gl ((LL.map PEnt.val ++ junk).toArray) 31 :: vec 99 2 c_.2.2 (PP.length + 1) (putsV PP ++ [.int .i64 ((k : Nat) : Int), .slice (some ⟨c_.1, 0, none⟩) d.length d.length]) :: stars (((c_.1, d) :: pool).map PEnt.row) :: L) := St.permT [stars (((c_.1, d) :: pool).map PEnt.row), row g #[.slice (some ⟨gl, 0, none⟩) LL.length cl, c_.2.2, .int .i64 s.left, .int .i64 s.life, .int .i64 s.rd, .int .i64 (inc s.wr), .int .i64 s.fl, .int .i64 s.rf, .int .i64 0] 96, row gl ((LL.map PEnt.val ++ junk).toArray) 31, vec 99 2 c_.2.2 (PP.length + 1) (putsV PP ++ [.int .i64 ((k : Nat) : Int), .slice (some ⟨c_.1, 0, none⟩) d.length d.length])] [1, 2, 3, 0] (by decide) rfl S39
    rw [e3, hd, show PP.length + 1 = (PP ++ [((c_.1, k, d) : RPut)]).length from by rw [List.length_append]; rfl] at S40
    change St F w0 w36 (row g (rcells gl LL.length cl A3 (PP ++ [((c_.1, k, d) : RPut)]).length c3 s.left s.life s.rd (inc s.wr) s.fl s.rf) 96 :: row gl (LL.map PEnt.val ++ junk).toArray 31 :: vec 99 2 (.slice A3 (PP ++ [((c_.1, k, d) : RPut)]).length c3) (PP ++ [((c_.1, k, d) : RPut)]).length (putsV PP ++ putCells (c_.1, k, d)) :: stars (((c_.1, d) :: pool).map PEnt.row) :: L) at S40
    rw [putsV_snoc] at S40
    refine Calls.mono (rspent S40 hz hf.lb.1 hf.lb.2) ?_
    rintro _ w41 ⟨rfl, S42⟩
    refine ⟨_, rfl, ?_⟩
    refine wl_end (fr [pq g, iv ((k : Nat) : Int), .slice A d.length cd, ud, ud, ud, iv 0, pq g, pq g, po g 2, iv s.left, fv, iv ((k : Nat) : Int), fv, fv, iv ((k : Nat) : Int), pq g, pq g, pq g, sl gl 0 LL.length cl, iv (LL.length : Nat), fv, fv, ud, ud, ud, ud, ud, ud, ud, ud, ud, .slice A d.length cd, iv (d.length : Nat), fv, ud, ud, ud, ud, ud, ud, ud, ud, ud, pq g, pq g, pq g, po g 1, .slice A2 PP.length c2, iv ((k : Nat) : Int), .slice A d.length cd, sl c_.1 0 d.length d.length, .agg #[iv ((k : Nat) : Int), sl c_.1 0 d.length d.length], sl c_.2.1 0 1 1, c_.2.2, pq g, po g 1, pq g, pq g, po g 4, po g 5, iv s.wr, iv (inc s.wr), pq g, po g 4, po g 5, pq g, .tuple #[]] 0) (by kernel_rfl) ?_
    refine then_n ?_
    refine wp_seq ?_
    refine wp_region_lit ?_
    refine pv (iv 0) ?_
    refine wl_end (fr [pq g, iv ((k : Nat) : Int), .slice A d.length cd, ud, ud, ud, iv 0, pq g, pq g, po g 2, iv s.left, fv, iv ((k : Nat) : Int), fv, fv, iv ((k : Nat) : Int), pq g, pq g, pq g, sl gl 0 LL.length cl, iv (LL.length : Nat), fv, fv, ud, ud, ud, ud, ud, ud, ud, ud, ud, .slice A d.length cd, iv (d.length : Nat), fv, ud, ud, ud, ud, ud, ud, ud, ud, ud, pq g, pq g, pq g, po g 1, .slice A2 PP.length c2, iv ((k : Nat) : Int), .slice A d.length cd, sl c_.1 0 d.length d.length, .agg #[iv ((k : Nat) : Int), sl c_.1 0 d.length d.length], sl c_.2.1 0 1 1, c_.2.2, pq g, po g 1, pq g, pq g, po g 4, po g 5, iv s.wr, iv (inc s.wr), pq g, po g 4, po g 5, pq g, .tuple #[]] 0) (by kernel_rfl) ?_
    refine then_n ?_
    refine wp_ret ?_
    refine bodyPost_ret (v := .int .i64 0) (results_t1 rfl (by kernel_rfl)) rfl ?_
    exact ⟨rfl, St.rclose (gl := gl) (cl := cl) (c2 := c3) (A2 := A3) (junk := junk) (LL := LL) (PP := (PP ++ [((c_.1, k, d) : RPut)])) (pool := ((c_.1, d) :: pool)) (s := { s with pend := s.pend ++ [(k, d)], wr := inc s.wr, left := spent s.left }) S42 (hf.put rfl rfl hlb hk hd hpn') hcl hju⟩
theorem rd_flush {F : Nat → Prop} {w0 w : World} {L : List Ast} {g : Nat} {s : Dsk} (S : St F w0 w (RDisk g s :: L)) : Calls Try.prog 64 #[.pointer (some ⟨g, 0, none⟩)] w fun e w' => e = .returned (.int .i64 s.flushR.2) ∧ St F w0 w' (RDisk g s.flushR.1 :: L) := by
  obtain ⟨gl, cl, c2, A2, junk, LL, PP, pool, hf, hcl, hju, S⟩ := St.ropen S
  have hn2 := hf.n2
  have hll := hf.ll
  have hpp := hf.pp
  have hpn := hf.pn
  by_cases hz : s.left = 0
  · have e : s.flushR = (s, 3) := by unfold Dsk.flushR; rw [if_pos hz]
    rw [e]
    change St F w0 w (row g #[.slice (some ⟨gl, 0, none⟩) LL.length cl, .slice A2 PP.length c2, .int .i64 s.left, .int .i64 s.life, .int .i64 s.rd, .int .i64 s.wr, .int .i64 s.fl, .int .i64 s.rf, .int .i64 0] 96 :: row gl ((LL.map PEnt.val ++ junk).toArray) 31 :: vec 99 2 (.slice A2 PP.length c2) PP.length (putsV PP) :: stars (pool.map PEnt.row) :: L) at S
    refine wp_enter (fr [pq g] 52) Try.func64 rfl (by kernel_rfl) ?_
    refine wp_seq ?_
    refine wp_region_lit ?_
    refine pv (iv 0) ?_
    refine wl_end (fr [pq g, ud, iv 0] 50) (by kernel_rfl) ?_
    refine then_n ?_
    refine wp_seq ?_
    refine wp_seq ?_
    refine wp_region_lit ?_
    refine pv (pq g) ?_
    refine pv (pq g) ?_
    refine pv (po g 2) ?_
    refine wl_gv rfl (gv_ldR (v := .int .i64 s.left) rfl (by kernel_rfl) (by kernel_rfl) (((S.blk 0 rfl).cell 2).trans rfl) ?_)
    refine wl_gv rfl (gv_eq (x := s.left) (y := 0) (by kernel_rfl) (fun _ => ?_) (fun hd1 => False.elim (absurd hz hd1)))
    refine wl_end (fr [pq g, ud, iv 0, ud, pq g, pq g, po g 2, iv s.left, tv] 44) (by kernel_rfl) ?_
    refine then_n ?_
    refine wp_cond_true (by kernel_rfl) ?_
    refine wp_seq ?_
    refine wp_region_lit ?_
    refine pv (iv 3) ?_
    refine wl_end (fr [pq g, ud, iv 3, ud, pq g, pq g, po g 2, iv s.left, tv] 44) (by kernel_rfl) ?_
    refine then_n ?_
    refine wp_ret ?_
    refine then_r ?_
    refine bodyPost_ret (v := .int .i64 3) (results_t1 rfl (by kernel_rfl)) rfl ?_
    exact ⟨rfl, St.rclose (gl := gl) (cl := cl) (c2 := c2) (A2 := A2) (junk := junk) (LL := LL) (PP := PP) (pool := pool) (s := s) S (hf.upd rfl rfl hf.lb) hcl hju⟩
  have e : s.flushR = ({ s with last := applyP s.last s.pend, pend := [], fl := inc s.fl, left := spent s.left }, 0) := by unfold Dsk.flushR; rw [if_neg hz]
  rw [e]
  have hlb := spent_lb hf.lb hz
  change St F w0 w (row g #[.slice (some ⟨gl, 0, none⟩) LL.length cl, .slice A2 PP.length c2, .int .i64 s.left, .int .i64 s.life, .int .i64 s.rd, .int .i64 s.wr, .int .i64 s.fl, .int .i64 s.rf, .int .i64 0] 96 :: row gl ((LL.map PEnt.val ++ junk).toArray) 31 :: vec 99 2 (.slice A2 PP.length c2) PP.length (putsV PP) :: stars (pool.map PEnt.row) :: L) at S
  refine wp_enter (fr [pq g] 52) Try.func64 rfl (by kernel_rfl) ?_
  refine wp_seq ?_
  refine wp_region_lit ?_
  refine pv (iv 0) ?_
  refine wl_end (fr [pq g, ud, iv 0] 50) (by kernel_rfl) ?_
  refine then_n ?_
  refine wp_seq ?_
  refine wp_seq ?_
  refine wp_region_lit ?_
  refine pv (pq g) ?_
  refine pv (pq g) ?_
  refine pv (po g 2) ?_
  refine wl_gv rfl (gv_ldR (v := .int .i64 s.left) rfl (by kernel_rfl) (by kernel_rfl) (((S.blk 0 rfl).cell 2).trans rfl) ?_)
  refine wl_gv rfl (gv_eq (x := s.left) (y := 0) (by kernel_rfl) (fun hd1 => False.elim (absurd hd1 hz)) (fun _ => ?_))
  refine wl_end (fr [pq g, ud, iv 0, ud, pq g, pq g, po g 2, iv s.left, fv] 44) (by kernel_rfl) ?_
  refine then_n ?_
  refine wp_cond_false (by kernel_rfl) ?_
  refine wp_skip ?_
  refine then_n ?_
  refine wp_seq ?_
  refine wp_seq ?_
  refine wp_region_lit ?_
  refine pv (iv 0) ?_
  refine wl_end (fr [pq g, ud, iv 0, iv 0, pq g, pq g, po g 2, iv s.left, fv] 44) (by kernel_rfl) ?_
  refine then_n ?_
  refine wp_block ?_
  refine wp_loop_g (G := Nat × List (Nat × List UInt8)) (fun (g_ : Nat × List (Nat × List UInt8)) (a_ : Act) (w_ : World) => ∃ J : Nat → Value, a_ = (fr [pq g, ud, iv 0, iv ((g_.1 : Nat) : Int), pq g, pq g, po g 2, iv s.left, fv, J 9, J 10, J 11, J 12, J 13, J 14, J 15, J 16, J 17, J 18, J 19, J 20, J 21, J 22, J 23, J 24, J 25, J 26, J 27, J 28, J 29, J 30, J 31, J 32, J 33, J 34, J 35, J 36, J 37, J 38] 14) ∧ St F w0 w_ (row g #[.slice (some ⟨gl, 0, none⟩) LL.length cl, .slice A2 PP.length c2, .int .i64 s.left, .int .i64 s.life, .int .i64 s.rd, .int .i64 s.wr, .int .i64 s.fl, .int .i64 s.rf, .int .i64 0] 96 :: row gl ((g_.2.map PEnt.val ++ junk).toArray) 31 :: vec 99 2 (.slice A2 PP.length c2) PP.length (putsV PP) :: stars (pool.map PEnt.row) :: L) ∧ (g_.1 ≤ PP.length ∧ g_.2.map (·.2) = applyP s.last (s.pend.take g_.1) ∧ (∀ x ∈ g_.2, x ∈ pool))) (fun g_ => PP.length - g_.1) (0, LL) ⟨(jl []), by kernel_rfl, S, ⟨Nat.zero_le _, (by rw [List.take_zero]; exact hf.last), hf.lin⟩⟩ ?_
  rintro ⟨i, LL1⟩ a_ w2 ⟨J, rfl, S3, hI4⟩
  skip
  have S3 : St F w0 w2 (row g #[.slice (some ⟨gl, 0, none⟩) LL.length cl, .slice A2 PP.length c2, .int .i64 s.left, .int .i64 s.life, .int .i64 s.rd, .int .i64 s.wr, .int .i64 s.fl, .int .i64 s.rf, .int .i64 0] 96 :: row gl ((LL1.map PEnt.val ++ junk).toArray) 31 :: vec 99 2 (.slice A2 PP.length c2) PP.length (putsV PP) :: stars (pool.map PEnt.row) :: L) := S3
  have hI4 : (i ≤ PP.length ∧ LL1.map (·.2) = applyP s.last (s.pend.take i) ∧ (∀ x ∈ LL1, x ∈ pool)) := hI4
  refine wp_seq ?_
  refine wp_seq ?_
  refine wp_region_lit ?_
  refine pv (iv ((i : Nat) : Int)) ?_
  refine pv (pq g) ?_
  refine pv (pq g) ?_
  refine pv (po g 1) ?_
  refine wl_gv rfl (gv_ldR (v := .slice A2 PP.length c2) rfl (by kernel_rfl) (by kernel_rfl) (((S3.blk 0 rfl).cell 1).trans rfl) ?_)
  refine pv (iv (PP.length : Nat)) ?_
  refine wl_gv rfl (gv_dec (p := (((i : Nat) : Int) : Int) < (PP.length : Nat)) (by kernel_rfl) (fun hb5 => ?_) (fun hb5 => ?_))
  · skip
    obtain ⟨x, hx, hxp, hxs, hx5, hxk⟩ := hf.pat (i := i) (by omega)
    have hl1 := turn_len (LL := LL) hI4.2.1
    obtain ⟨ad2, hAd2, hrd⟩ := (St.vec_rd S3 2 rfl) (by rw [length_putsV]; omega)
    refine wl_end (fr [pq g, ud, iv 0, iv ((i : Nat) : Int), pq g, pq g, po g 2, iv s.left, fv, iv ((i : Nat) : Int), pq g, pq g, po g 1, .slice A2 PP.length c2, iv (PP.length : Nat), tv, J 16, J 17, J 18, J 19, J 20, J 21, J 22, J 23, J 24, J 25, J 26, J 27, J 28, J 29, J 30, J 31, J 32, J 33, J 34, J 35, J 36, J 37, J 38] 14) (by kernel_rfl) ?_
    refine then_n ?_
    refine wp_cond_true (by kernel_rfl) ?_
    refine wp_skip ?_
    refine then_n ?_
    refine wp_seq ?_
    refine wp_block ?_
    refine wp_region_phu (γ := Unit) 20 [] (fun (c_ : Unit) (i_ : Nat) => (match i_ with | 0 => .pointer (some ⟨g, 0, none⟩) | 1 => .pointer (some ⟨g, 0, none⟩) | 2 => .pointer (some ⟨g, 0, none⟩) | 3 => .slice (some ⟨gl, 0, none⟩) LL.length cl | 4 => .pointer (some ⟨g, 0, none⟩) | 5 => .pointer (some ⟨g, 0, none⟩) | 6 => .pointer (some ⟨g, 1, none⟩) | 7 => .slice A2 PP.length c2 | 8 => .int .i64 ((i : Nat) : Int) | 9 => .pointer (some (ad2.add (i * 2))) | 10 => .pointer (some (ad2.add (i * 2))) | 11 => .int .i64 ((x.2.1 : Nat) : Int) | 12 => .pointer (some ⟨g, 0, none⟩) | 13 => .pointer (some ⟨g, 0, none⟩) | 14 => .pointer (some ⟨g, 1, none⟩) | 15 => .slice A2 PP.length c2 | 16 => .int .i64 ((i : Nat) : Int) | 17 => .pointer (some (ad2.add (i * 2))) | 18 => .pointer (some ((ad2.add (i * 2)).add 1)) | 19 => .slice (some ⟨x.1, 0, none⟩) 512 512 | _ => undef : Value)) (fun (c_ : Unit) (p_ : Nat) (w_ : World) => (match p_ with  | _ => St F w0 w_ (row g #[.slice (some ⟨gl, 0, none⟩) LL.length cl, .slice A2 PP.length c2, .int .i64 s.left, .int .i64 s.life, .int .i64 s.rd, .int .i64 s.wr, .int .i64 s.fl, .int .i64 s.rf, .int .i64 0] 96 :: row gl ((LL1.map PEnt.val ++ junk).toArray) 31 :: vec 99 2 (.slice A2 PP.length c2) PP.length (putsV PP) :: stars (pool.map PEnt.row) :: L) : Prop)) () (by kernel_rfl) (by kernel_rfl) (by kernel_rfl) (by kernel_rfl) (S3.drew) ?_ ?_ ?_
    · intro i_ c_ p_ vals_ w1 hi_ hiE_ hp_ hk_ hu_ hPh_ hd_
      rcases i_ with _ | _ | _ | _ | _ | _ | _ | _ | _ | _ | _ | _ | _ | _ | _ | _ | _ | _ | _ | _ | i_
      · skip
        refine told_free rfl rfl (gv_env ((⟨Array.replicate 53 undef, []⟩ : Act).put (some 0) (.pointer (some ⟨g, 0, none⟩))) (by kernel_rfl) (xs := [.tmp 0]) (by kernel_rfl) (alike_cons (fill_past (by kernel_rfl) (by kernel_rfl)) alike_nil) (gv_val (v := .pointer (some ⟨g, 0, none⟩)) (w' := w1) (by kernel_rfl) ?_))
        exact ⟨rfl, rfl⟩
      · skip
        refine told_free rfl rfl (gv_env ((⟨Array.replicate 53 undef, []⟩ : Act).put (some 18) (.pointer (some ⟨g, 0, none⟩))) (by kernel_rfl) (xs := [.tmp 18]) (by kernel_rfl) (alike_cons (fill_at (k := 0) (by kernel_rfl) (by kernel_rfl) ((hd_ 0 (by kernel_rfl)).trans (by kernel_rfl))) alike_nil) (gv_val (v := .pointer (some ⟨g, 0, none⟩)) (w' := w1) (by kernel_rfl) ?_))
        exact ⟨rfl, rfl⟩
      · skip
        refine told_free rfl rfl (gv_env ((⟨Array.replicate 53 undef, []⟩ : Act).put (some 19) (.pointer (some ⟨g, 0, none⟩))) (by kernel_rfl) (xs := [.tmp 19]) (by kernel_rfl) (alike_cons (fill_at (k := 1) (by kernel_rfl) (by kernel_rfl) ((hd_ 1 (by kernel_rfl)).trans (by kernel_rfl))) alike_nil) (gv_val (v := .pointer (some ⟨g, 0, none⟩)) (w' := w1) (by kernel_rfl) ?_))
        exact ⟨rfl, rfl⟩
      · skip
        have S9 : St F w0 w1 (row g #[.slice (some ⟨gl, 0, none⟩) LL.length cl, .slice A2 PP.length c2, .int .i64 s.left, .int .i64 s.life, .int .i64 s.rd, .int .i64 s.wr, .int .i64 s.fl, .int .i64 s.rf, .int .i64 0] 96 :: row gl ((LL1.map PEnt.val ++ junk).toArray) 31 :: vec 99 2 (.slice A2 PP.length c2) PP.length (putsV PP) :: stars (pool.map PEnt.row) :: L) := hPh_
        refine told_free rfl rfl (gv_env ((⟨Array.replicate 53 undef, []⟩ : Act).put (some 20) (.pointer (some ⟨g, 0, none⟩))) (by kernel_rfl) (xs := [.tmp 20]) (by kernel_rfl) (alike_cons (fill_at (k := 2) (by kernel_rfl) (by kernel_rfl) ((hd_ 2 (by kernel_rfl)).trans (by kernel_rfl))) alike_nil) (gv_ldR (v := .slice (some ⟨gl, 0, none⟩) LL.length cl) rfl (by kernel_rfl) (by kernel_rfl) (((S9.blk 0 rfl).cell 0).trans rfl) ?_))
        exact ⟨rfl, rfl⟩
      · skip
        refine told_free rfl rfl (gv_env ((⟨Array.replicate 53 undef, []⟩ : Act).put (some 0) (.pointer (some ⟨g, 0, none⟩))) (by kernel_rfl) (xs := [.tmp 0]) (by kernel_rfl) (alike_cons (fill_past (by kernel_rfl) (by kernel_rfl)) alike_nil) (gv_val (v := .pointer (some ⟨g, 0, none⟩)) (w' := w1) (by kernel_rfl) ?_))
        exact ⟨rfl, rfl⟩
      · skip
        refine told_free rfl rfl (gv_env ((⟨Array.replicate 53 undef, []⟩ : Act).put (some 22) (.pointer (some ⟨g, 0, none⟩))) (by kernel_rfl) (xs := [.tmp 22]) (by kernel_rfl) (alike_cons (fill_at (k := 4) (by kernel_rfl) (by kernel_rfl) ((hd_ 4 (by kernel_rfl)).trans (by kernel_rfl))) alike_nil) (gv_val (v := .pointer (some ⟨g, 0, none⟩)) (w' := w1) (by kernel_rfl) ?_))
        exact ⟨rfl, rfl⟩
      · skip
        refine told_free rfl rfl (gv_env ((⟨Array.replicate 53 undef, []⟩ : Act).put (some 23) (.pointer (some ⟨g, 0, none⟩))) (by kernel_rfl) (xs := [.tmp 23]) (by kernel_rfl) (alike_cons (fill_at (k := 5) (by kernel_rfl) (by kernel_rfl) ((hd_ 5 (by kernel_rfl)).trans (by kernel_rfl))) alike_nil) (gv_val (v := .pointer (some ⟨g, 1, none⟩)) (w' := w1) (by kernel_rfl) ?_))
        exact ⟨rfl, rfl⟩
      · skip
        have S13 : St F w0 w1 (row g #[.slice (some ⟨gl, 0, none⟩) LL.length cl, .slice A2 PP.length c2, .int .i64 s.left, .int .i64 s.life, .int .i64 s.rd, .int .i64 s.wr, .int .i64 s.fl, .int .i64 s.rf, .int .i64 0] 96 :: row gl ((LL1.map PEnt.val ++ junk).toArray) 31 :: vec 99 2 (.slice A2 PP.length c2) PP.length (putsV PP) :: stars (pool.map PEnt.row) :: L) := hPh_
        refine told_free rfl rfl (gv_env ((⟨Array.replicate 53 undef, []⟩ : Act).put (some 24) (.pointer (some ⟨g, 1, none⟩))) (by kernel_rfl) (xs := [.tmp 24]) (by kernel_rfl) (alike_cons (fill_at (k := 6) (by kernel_rfl) (by kernel_rfl) ((hd_ 6 (by kernel_rfl)).trans (by kernel_rfl))) alike_nil) (gv_ldR (v := .slice A2 PP.length c2) rfl (by kernel_rfl) (by kernel_rfl) (((S13.blk 0 rfl).cell 1).trans rfl) ?_))
        exact ⟨rfl, rfl⟩
      · skip
        refine told_free rfl rfl (gv_env ((⟨Array.replicate 53 undef, []⟩ : Act).put (some 3) (.int .i64 ((i : Nat) : Int))) (by kernel_rfl) (xs := [.tmp 3]) (by kernel_rfl) (alike_cons (fill_past (by kernel_rfl) (by kernel_rfl)) alike_nil) (gv_val (v := .int .i64 ((i : Nat) : Int)) (w' := w1) (by kernel_rfl) ?_))
        exact ⟨rfl, rfl⟩
      · skip
        refine told_free rfl rfl (gv_env (((⟨Array.replicate 53 undef, []⟩ : Act).put (some 25) (.slice A2 PP.length c2)).put (some 26) (.int .i64 ((i : Nat) : Int))) (by kernel_rfl) (xs := [.tmp 25, .tmp 26]) (by kernel_rfl) (alike_cons (fill_at (k := 7) (by kernel_rfl) (by kernel_rfl) ((hd_ 7 (by kernel_rfl)).trans (by kernel_rfl))) (alike_cons (fill_at (k := 8) (by kernel_rfl) (by kernel_rfl) ((hd_ 8 (by kernel_rfl)).trans (by kernel_rfl))) alike_nil)) (gv_ixB (e := 99) (sz := 2) (n := PP.length) (c := c2) (i := ((i : Nat) : Int)) (k := .i64) (ad := ad2) (ad' := (ad2.add (i * 2))) (j := i) rfl (by kernel_rfl) (by kernel_rfl) (by rw [← hAd2]; kernel_rfl) (by kernel_rfl) rfl (by omega) rfl ?_))
        exact ⟨rfl, rfl⟩
      · skip
        refine told_free rfl rfl (gv_env ((⟨Array.replicate 53 undef, []⟩ : Act).put (some 27) (.pointer (some (ad2.add (i * 2))))) (by kernel_rfl) (xs := [.tmp 27]) (by kernel_rfl) (alike_cons (fill_at (k := 9) (by kernel_rfl) (by kernel_rfl) ((hd_ 9 (by kernel_rfl)).trans (by kernel_rfl))) alike_nil) (gv_val (v := .pointer (some (ad2.add (i * 2)))) (w' := w1) (by kernel_rfl) ?_))
        exact ⟨rfl, rfl⟩
      · skip
        have S17 : St F w0 w1 (row g #[.slice (some ⟨gl, 0, none⟩) LL.length cl, .slice A2 PP.length c2, .int .i64 s.left, .int .i64 s.life, .int .i64 s.rd, .int .i64 s.wr, .int .i64 s.fl, .int .i64 s.rf, .int .i64 0] 96 :: row gl ((LL1.map PEnt.val ++ junk).toArray) 31 :: vec 99 2 (.slice A2 PP.length c2) PP.length (putsV PP) :: stars (pool.map PEnt.row) :: L) := hPh_
        refine told_free rfl rfl (gv_env ((⟨Array.replicate 53 undef, []⟩ : Act).put (some 28) (.pointer (some (ad2.add (i * 2))))) (by kernel_rfl) (xs := [.tmp 28]) (by kernel_rfl) (alike_cons (fill_at (k := 10) (by kernel_rfl) (by kernel_rfl) ((hd_ 10 (by kernel_rfl)).trans (by kernel_rfl))) alike_nil) (gv_ldR (v := .int .i64 ((x.2.1 : Nat) : Int)) rfl (by kernel_rfl) (by kernel_rfl) (put_at (rdv_at (St.vec_rd S17 2 rfl) hAd2 (by rw [length_putsV]; omega)) hx) ?_))
        exact ⟨rfl, rfl⟩
      · skip
        refine told_free rfl rfl (gv_env ((⟨Array.replicate 53 undef, []⟩ : Act).put (some 0) (.pointer (some ⟨g, 0, none⟩))) (by kernel_rfl) (xs := [.tmp 0]) (by kernel_rfl) (alike_cons (fill_past (by kernel_rfl) (by kernel_rfl)) alike_nil) (gv_val (v := .pointer (some ⟨g, 0, none⟩)) (w' := w1) (by kernel_rfl) ?_))
        exact ⟨rfl, rfl⟩
      · skip
        refine told_free rfl rfl (gv_env ((⟨Array.replicate 53 undef, []⟩ : Act).put (some 30) (.pointer (some ⟨g, 0, none⟩))) (by kernel_rfl) (xs := [.tmp 30]) (by kernel_rfl) (alike_cons (fill_at (k := 12) (by kernel_rfl) (by kernel_rfl) ((hd_ 12 (by kernel_rfl)).trans (by kernel_rfl))) alike_nil) (gv_val (v := .pointer (some ⟨g, 0, none⟩)) (w' := w1) (by kernel_rfl) ?_))
        exact ⟨rfl, rfl⟩
      · skip
        refine told_free rfl rfl (gv_env ((⟨Array.replicate 53 undef, []⟩ : Act).put (some 31) (.pointer (some ⟨g, 0, none⟩))) (by kernel_rfl) (xs := [.tmp 31]) (by kernel_rfl) (alike_cons (fill_at (k := 13) (by kernel_rfl) (by kernel_rfl) ((hd_ 13 (by kernel_rfl)).trans (by kernel_rfl))) alike_nil) (gv_val (v := .pointer (some ⟨g, 1, none⟩)) (w' := w1) (by kernel_rfl) ?_))
        exact ⟨rfl, rfl⟩
      · skip
        have S21 : St F w0 w1 (row g #[.slice (some ⟨gl, 0, none⟩) LL.length cl, .slice A2 PP.length c2, .int .i64 s.left, .int .i64 s.life, .int .i64 s.rd, .int .i64 s.wr, .int .i64 s.fl, .int .i64 s.rf, .int .i64 0] 96 :: row gl ((LL1.map PEnt.val ++ junk).toArray) 31 :: vec 99 2 (.slice A2 PP.length c2) PP.length (putsV PP) :: stars (pool.map PEnt.row) :: L) := hPh_
        refine told_free rfl rfl (gv_env ((⟨Array.replicate 53 undef, []⟩ : Act).put (some 32) (.pointer (some ⟨g, 1, none⟩))) (by kernel_rfl) (xs := [.tmp 32]) (by kernel_rfl) (alike_cons (fill_at (k := 14) (by kernel_rfl) (by kernel_rfl) ((hd_ 14 (by kernel_rfl)).trans (by kernel_rfl))) alike_nil) (gv_ldR (v := .slice A2 PP.length c2) rfl (by kernel_rfl) (by kernel_rfl) (((S21.blk 0 rfl).cell 1).trans rfl) ?_))
        exact ⟨rfl, rfl⟩
      · skip
        refine told_free rfl rfl (gv_env ((⟨Array.replicate 53 undef, []⟩ : Act).put (some 3) (.int .i64 ((i : Nat) : Int))) (by kernel_rfl) (xs := [.tmp 3]) (by kernel_rfl) (alike_cons (fill_past (by kernel_rfl) (by kernel_rfl)) alike_nil) (gv_val (v := .int .i64 ((i : Nat) : Int)) (w' := w1) (by kernel_rfl) ?_))
        exact ⟨rfl, rfl⟩
      · skip
        refine told_free rfl rfl (gv_env (((⟨Array.replicate 53 undef, []⟩ : Act).put (some 33) (.slice A2 PP.length c2)).put (some 34) (.int .i64 ((i : Nat) : Int))) (by kernel_rfl) (xs := [.tmp 33, .tmp 34]) (by kernel_rfl) (alike_cons (fill_at (k := 15) (by kernel_rfl) (by kernel_rfl) ((hd_ 15 (by kernel_rfl)).trans (by kernel_rfl))) (alike_cons (fill_at (k := 16) (by kernel_rfl) (by kernel_rfl) ((hd_ 16 (by kernel_rfl)).trans (by kernel_rfl))) alike_nil)) (gv_ixB (e := 99) (sz := 2) (n := PP.length) (c := c2) (i := ((i : Nat) : Int)) (k := .i64) (ad := ad2) (ad' := (ad2.add (i * 2))) (j := i) rfl (by kernel_rfl) (by kernel_rfl) (by rw [← hAd2]; kernel_rfl) (by kernel_rfl) rfl (by omega) rfl ?_))
        exact ⟨rfl, rfl⟩
      · skip
        refine told_free rfl rfl (gv_env ((⟨Array.replicate 53 undef, []⟩ : Act).put (some 35) (.pointer (some (ad2.add (i * 2))))) (by kernel_rfl) (xs := [.tmp 35]) (by kernel_rfl) (alike_cons (fill_at (k := 17) (by kernel_rfl) (by kernel_rfl) ((hd_ 17 (by kernel_rfl)).trans (by kernel_rfl))) alike_nil) (gv_val (v := .pointer (some ((ad2.add (i * 2)).add 1))) (w' := w1) (by kernel_rfl) ?_))
        exact ⟨rfl, rfl⟩
      · skip
        have S25 : St F w0 w1 (row g #[.slice (some ⟨gl, 0, none⟩) LL.length cl, .slice A2 PP.length c2, .int .i64 s.left, .int .i64 s.life, .int .i64 s.rd, .int .i64 s.wr, .int .i64 s.fl, .int .i64 s.rf, .int .i64 0] 96 :: row gl ((LL1.map PEnt.val ++ junk).toArray) 31 :: vec 99 2 (.slice A2 PP.length c2) PP.length (putsV PP) :: stars (pool.map PEnt.row) :: L) := hPh_
        refine told_free rfl rfl (gv_env ((⟨Array.replicate 53 undef, []⟩ : Act).put (some 36) (.pointer (some ((ad2.add (i * 2)).add 1)))) (by kernel_rfl) (xs := [.tmp 36]) (by kernel_rfl) (alike_cons (fill_at (k := 18) (by kernel_rfl) (by kernel_rfl) ((hd_ 18 (by kernel_rfl)).trans (by kernel_rfl))) alike_nil) (gv_ldR (v := PEnt.val x.ref) rfl (by kernel_rfl) (by kernel_rfl) (put_data (rdv_at (St.vec_rd S25 2 rfl) hAd2 (by rw [length_putsV]; omega)) hx) ?_))
        exact ⟨rfl, rfl⟩
      · exact absurd hi_ (by omega)
    · intro k_ c_ vals_ w1 hk_ hPh_ hd_
      exact absurd hk_ (Nat.not_lt_zero _)
    · intro c_ w1 hPh_
      have S26 : St F w0 w1 (row g #[.slice (some ⟨gl, 0, none⟩) LL.length cl, .slice A2 PP.length c2, .int .i64 s.left, .int .i64 s.life, .int .i64 s.rd, .int .i64 s.wr, .int .i64 s.fl, .int .i64 s.rf, .int .i64 0] 96 :: row gl ((LL1.map PEnt.val ++ junk).toArray) 31 :: vec 99 2 (.slice A2 PP.length c2) PP.length (putsV PP) :: stars (pool.map PEnt.row) :: L) := hPh_
      refine wl_frame (fr [pq g, ud, iv 0, iv ((i : Nat) : Int), pq g, pq g, po g 2, iv s.left, fv, iv ((i : Nat) : Int), pq g, pq g, po g 1, .slice A2 PP.length c2, iv (PP.length : Nat), tv, J 16, J 17, pq g, pq g, pq g, sl gl 0 LL.length cl, pq g, pq g, po g 1, .slice A2 PP.length c2, iv ((i : Nat) : Int), .pointer (some (ad2.add (i * 2))), .pointer (some (ad2.add (i * 2))), iv ((x.2.1 : Nat) : Int), pq g, pq g, po g 1, .slice A2 PP.length c2, iv ((i : Nat) : Int), .pointer (some (ad2.add (i * 2))), .pointer (some ((ad2.add (i * 2)).add 1)), sl x.1 0 512 512, J 38] 14) (by kernel_rfl) ?_
      refine wl_gv rfl (gv_ixE (e := 31) (sz := 1) (g := gl) (off := 0) (n := LL.length) (c := cl) (i := ((x.2.1 : Nat) : Int)) (k := .i64) (j := x.2.1) (off' := x.2.1) rfl (by kernel_rfl) (by kernel_rfl) (by kernel_rfl) (by kernel_rfl) rfl (by omega) (by omega) ?_)
      refine wl_gv rfl (gv_st (k := x.2.1) (v := PEnt.val x.ref) S26 1 rfl rfl (by kernel_rfl) (by kernel_rfl) (by kernel_rfl) rfl (ll_blt (by omega)) (L' := (row g #[.slice (some ⟨gl, 0, none⟩) LL.length cl, .slice A2 PP.length c2, .int .i64 s.left, .int .i64 s.life, .int .i64 s.rd, .int .i64 s.wr, .int .i64 s.fl, .int .i64 s.rf, .int .i64 0] 96 :: row gl (((LL1.set x.2.1 x.ref).map PEnt.val ++ junk).toArray) 31 :: vec 99 2 (.slice A2 PP.length c2) PP.length (putsV PP) :: stars (pool.map PEnt.row) :: L)) (by rw [ll_set (by omega)]; rfl) (fun w27 S28 => ?_))
      refine wl_end (fr [pq g, ud, iv 0, iv ((i : Nat) : Int), pq g, pq g, po g 2, iv s.left, fv, iv ((i : Nat) : Int), pq g, pq g, po g 1, .slice A2 PP.length c2, iv (PP.length : Nat), tv, J 16, J 17, pq g, pq g, pq g, sl gl 0 LL.length cl, pq g, pq g, po g 1, .slice A2 PP.length c2, iv ((i : Nat) : Int), .pointer (some (ad2.add (i * 2))), .pointer (some (ad2.add (i * 2))), iv ((x.2.1 : Nat) : Int), pq g, pq g, po g 1, .slice A2 PP.length c2, iv ((i : Nat) : Int), .pointer (some (ad2.add (i * 2))), .pointer (some ((ad2.add (i * 2)).add 1)), sl x.1 0 512 512, po gl x.2.1] 14) (by kernel_rfl) ?_
      refine inb_n ?_
      refine then_n ?_
      refine wp_region_lit ?_
      refine pv (iv ((i : Nat) : Int)) ?_
      refine wl_gv rfl (gv_int (k := .i64) (z := IntKind.i64.wrap (((i : Nat) : Int) + 1)) (z' := ((i + 1 : Nat) : Int)) (by kernel_rfl) (wr_eq (by omega) (by omega) (by omega)) ?_)
      refine pv (iv ((i + 1 : Nat) : Int)) ?_
      refine wl_end (fr [pq g, ud, iv 0, iv ((i + 1 : Nat) : Int), pq g, pq g, po g 2, iv s.left, fv, iv ((i : Nat) : Int), pq g, pq g, po g 1, .slice A2 PP.length c2, iv (PP.length : Nat), tv, iv ((i : Nat) : Int), iv ((i + 1 : Nat) : Int), pq g, pq g, pq g, sl gl 0 LL.length cl, pq g, pq g, po g 1, .slice A2 PP.length c2, iv ((i : Nat) : Int), .pointer (some (ad2.add (i * 2))), .pointer (some (ad2.add (i * 2))), iv ((x.2.1 : Nat) : Int), pq g, pq g, po g 1, .slice A2 PP.length c2, iv ((i : Nat) : Int), .pointer (some (ad2.add (i * 2))), .pointer (some ((ad2.add (i * 2)).add 1)), sl x.1 0 512 512, po gl x.2.1] 14) (by kernel_rfl) ?_
      refine then_n ?_
      exact ⟨(i + 1, LL1.set x.2.1 x.ref), ⟨(jl [ud, ud, ud, ud, ud, ud, ud, ud, ud, iv ((i : Nat) : Int), pq g, pq g, po g 1, .slice A2 PP.length c2, iv (PP.length : Nat), tv, iv ((i : Nat) : Int), iv ((i + 1 : Nat) : Int), pq g, pq g, pq g, sl gl 0 LL.length cl, pq g, pq g, po g 1, .slice A2 PP.length c2, iv ((i : Nat) : Int), .pointer (some (ad2.add (i * 2))), .pointer (some (ad2.add (i * 2))), iv ((x.2.1 : Nat) : Int), pq g, pq g, po g 1, .slice A2 PP.length c2, iv ((i : Nat) : Int), .pointer (some (ad2.add (i * 2))), .pointer (some ((ad2.add (i * 2)).add 1)), sl x.1 0 512 512, po gl x.2.1]), by kernel_rfl, S28, ⟨by omega, (by rw [List.take_add_one, hxs]; exact turn_one hI4.2.1), mem_set' hI4.2.2 hxp⟩⟩, (by show PP.length - (i + 1) < PP.length - i; omega)⟩
  · skip
    refine wl_end (fr [pq g, ud, iv 0, iv ((i : Nat) : Int), pq g, pq g, po g 2, iv s.left, fv, iv ((i : Nat) : Int), pq g, pq g, po g 1, .slice A2 PP.length c2, iv (PP.length : Nat), fv, J 16, J 17, J 18, J 19, J 20, J 21, J 22, J 23, J 24, J 25, J 26, J 27, J 28, J 29, J 30, J 31, J 32, J 33, J 34, J 35, J 36, J 37, J 38] 14) (by kernel_rfl) ?_
    refine then_n ?_
    refine wp_cond_false (by kernel_rfl) ?_
    refine wp_exit ?_
    refine then_x ?_
    refine then_x ?_
    refine inb_x ?_
    refine then_n ?_
    refine wp_seq ?_
    refine wp_region_lit ?_
    refine pv (pq g) ?_
    refine pv (pq g) ?_
    refine pv (po g 1) ?_
    refine wl_gv rfl (gv_st (k := 1) (v := .slice none 0 0) S3 0 rfl rfl (by kernel_rfl) (by kernel_rfl) (by kernel_rfl) rfl rfl (L' := (row g #[.slice (some ⟨gl, 0, none⟩) LL.length cl, .slice none 0 0, .int .i64 s.left, .int .i64 s.life, .int .i64 s.rd, .int .i64 s.wr, .int .i64 s.fl, .int .i64 s.rf, .int .i64 0] 96 :: row gl ((LL1.map PEnt.val ++ junk).toArray) 31 :: vec 99 2 (.slice A2 PP.length c2) PP.length (putsV PP) :: stars (pool.map PEnt.row) :: L)) rfl (fun w29 S30 => ?_))
    refine wl_end (fr [pq g, ud, iv 0, iv ((i : Nat) : Int), pq g, pq g, po g 2, iv s.left, fv, iv ((i : Nat) : Int), pq g, pq g, po g 1, .slice A2 PP.length c2, iv (PP.length : Nat), fv, J 16, J 17, J 18, J 19, J 20, J 21, J 22, J 23, J 24, J 25, J 26, J 27, J 28, J 29, J 30, J 31, J 32, J 33, J 34, J 35, J 36, J 37, J 38, pq g, pq g, po g 1] 11) (by kernel_rfl) ?_
    refine then_n ?_
    refine wp_seq ?_
    refine wp_region_lit ?_
    refine pv (pq g) ?_
    refine pv (pq g) ?_
    refine pv (po g 4) ?_
    refine pv (po g 6) ?_
    refine wl_gv rfl (gv_ldR (v := .int .i64 s.fl) rfl (by kernel_rfl) (by kernel_rfl) (((S30.blk 0 rfl).cell 6).trans rfl) ?_)
    refine pv (iv (inc s.fl)) ?_
    refine pv (pq g) ?_
    refine pv (po g 4) ?_
    refine pv (po g 6) ?_
    refine wl_gv rfl (gv_st (k := 6) (v := .int .i64 (inc s.fl)) S30 0 rfl rfl (by kernel_rfl) (by kernel_rfl) (by kernel_rfl) rfl rfl (L' := (row g #[.slice (some ⟨gl, 0, none⟩) LL.length cl, .slice none 0 0, .int .i64 s.left, .int .i64 s.life, .int .i64 s.rd, .int .i64 s.wr, .int .i64 (inc s.fl), .int .i64 s.rf, .int .i64 0] 96 :: row gl ((LL1.map PEnt.val ++ junk).toArray) 31 :: vec 99 2 (.slice A2 PP.length c2) PP.length (putsV PP) :: stars (pool.map PEnt.row) :: L)) rfl (fun w31 S32 => ?_))
    refine wl_end (fr [pq g, ud, iv 0, iv ((i : Nat) : Int), pq g, pq g, po g 2, iv s.left, fv, iv ((i : Nat) : Int), pq g, pq g, po g 1, .slice A2 PP.length c2, iv (PP.length : Nat), fv, J 16, J 17, J 18, J 19, J 20, J 21, J 22, J 23, J 24, J 25, J 26, J 27, J 28, J 29, J 30, J 31, J 32, J 33, J 34, J 35, J 36, J 37, J 38, pq g, pq g, po g 1, pq g, pq g, po g 4, po g 6, iv s.fl, iv (inc s.fl), pq g, po g 4, po g 6] 2) (by kernel_rfl) ?_
    refine then_n ?_
    refine wp_seq ?_
    refine wp_region_lit ?_
    refine pv (pq g) ?_
    refine wl_gv rfl (gv_call (args := #[.pointer (some ⟨g, 0, none⟩)]) rfl Try.func78 (by kernel_rfl) rfl rfl (by kernel_rfl) ?_)
    have S33 : St F w0 w31 (row g #[.slice (some ⟨gl, 0, none⟩) LL.length cl, .slice none 0 0, .int .i64 s.left, .int .i64 s.life, .int .i64 s.rd, .int .i64 s.wr, .int .i64 (inc s.fl), .int .i64 s.rf, .int .i64 0] 96 :: row gl ((LL1.map PEnt.val ++ junk).toArray) 31 :: stars (pool.map PEnt.row) :: L) := St.permT [row g #[.slice (some ⟨gl, 0, none⟩) LL.length cl, .slice none 0 0, .int .i64 s.left, .int .i64 s.life, .int .i64 s.rd, .int .i64 s.wr, .int .i64 (inc s.fl), .int .i64 s.rf, .int .i64 0] 96, row gl ((LL1.map PEnt.val ++ junk).toArray) 31, vec 99 2 (.slice A2 PP.length c2) PP.length (putsV PP), stars (pool.map PEnt.row)] [0, 1, 3] (by decide) rfl S32
    have hiP : i = PP.length := by omega
    have htk : s.pend.take i = s.pend := List.take_of_length_le (by omega)
    rw [htk] at hI4
    have hl1 : LL.length = LL1.length := by rw [turn_len (LL := LL) hI4.2.1]; exact hll
    rw [hl1] at S33
    refine Calls.mono (rspent (np := 0) (c2 := 0) (A2 := none) S33 hz hf.lb.1 hf.lb.2) ?_
    rintro _ w34 ⟨rfl, S35⟩
    refine ⟨_, rfl, ?_⟩
    refine wl_end (fr [pq g, ud, iv 0, iv ((i : Nat) : Int), pq g, pq g, po g 2, iv s.left, fv, iv ((i : Nat) : Int), pq g, pq g, po g 1, .slice A2 PP.length c2, iv (PP.length : Nat), fv, J 16, J 17, J 18, J 19, J 20, J 21, J 22, J 23, J 24, J 25, J 26, J 27, J 28, J 29, J 30, J 31, J 32, J 33, J 34, J 35, J 36, J 37, J 38, pq g, pq g, po g 1, pq g, pq g, po g 4, po g 6, iv s.fl, iv (inc s.fl), pq g, po g 4, po g 6, pq g, .tuple #[]] 0) (by kernel_rfl) ?_
    refine then_n ?_
    refine wp_seq ?_
    refine wp_region_lit ?_
    refine pv (iv 0) ?_
    refine wl_end (fr [pq g, ud, iv 0, iv ((i : Nat) : Int), pq g, pq g, po g 2, iv s.left, fv, iv ((i : Nat) : Int), pq g, pq g, po g 1, .slice A2 PP.length c2, iv (PP.length : Nat), fv, J 16, J 17, J 18, J 19, J 20, J 21, J 22, J 23, J 24, J 25, J 26, J 27, J 28, J 29, J 30, J 31, J 32, J 33, J 34, J 35, J 36, J 37, J 38, pq g, pq g, po g 1, pq g, pq g, po g 4, po g 6, iv s.fl, iv (inc s.fl), pq g, po g 4, po g 6, pq g, .tuple #[]] 0) (by kernel_rfl) ?_
    refine then_n ?_
    refine wp_ret ?_
    refine bodyPost_ret (v := .int .i64 0) (results_t1 rfl (by kernel_rfl)) rfl ?_
    have S9 := St.permT [_, _, _, _] [1, 2, 0, 3] (by decide) rfl (St.vec_nil (e := 99) (sz := 2) S35)
    exact ⟨rfl, St.rclose (gl := gl) (cl := cl) (c2 := 0) (A2 := none) (junk := junk) (LL := LL1) (PP := ([] : List RPut)) (pool := pool) (s := { s with last := applyP s.last s.pend, pend := [], fl := inc s.fl, left := spent s.left }) S9 (hf.turned hI4.2.1 (fun x hx => (hf.plen x hx).1) hI4.2.2 rfl rfl hlb) (by rw [← hl1]; exact hcl) (by rw [List.length_append, List.length_map, ← hl1]; rw [List.length_append, List.length_map] at hju; exact hju)⟩
end Go.Proofs
