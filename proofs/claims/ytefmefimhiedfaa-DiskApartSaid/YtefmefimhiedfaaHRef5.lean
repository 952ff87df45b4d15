/- Crash of the document's disk. -/
import Derived.Test.YtefmefimhiedfaaHRef4
open Go Go.RowKit Go.Proofs.YtefmefimhiedfaaW.PrintWords Go.Proofs.YtefmefimhiedfaaW.PrintMore
namespace Go.Proofs
open Go.Vel
set_option linter.unusedVariables false
set_option maxRecDepth 100000
set_option maxHeartbeats 4000000
attribute [local irreducible] gives wpList Code.wp

theorem crash_none {s : Dsk} {ps : List Pick} (h : s.pend = []) : crashOuts s ps = [] := by
  have : crashKeys s = [] := by
    unfold crashKeys keysTo
    rw [List.filter_eq_nil_iff]
    intro a _
    simp [pendOf, h]
  unfold crashOuts; rw [this]; rfl
theorem keys_in {s : Dsk} {k : Nat} (h : pendOf s k ≠ []) : keysTo s (k + 1) = keysTo s k ++ [k] := by
  rw [keysTo_succ]
  cases hp : pendOf s k with
  | nil => exact absurd hp h
  | cons _ _ => rfl
theorem keys_out {s : Dsk} {k : Nat} (h : pendOf s k = []) : keysTo s (k + 1) = keysTo s k := by rw [keysTo_succ, h]; simp
theorem outs_in {s : Dsk} {ps : List Pick} {k : Nat} (h : pendOf s k ≠ []) : (keysTo s (k + 1)).mapIdx (outOf s ps) = (keysTo s k).mapIdx (outOf s ps) ++ [outOf s ps (keysTo s k).length k] := by
  rw [keys_in h, List.mapIdx_append]; simp
theorem RFacts.more {s : Dsk} {LL : List (Nat × List UInt8)} {PP : List RPut} {pool : List (Nat × List UInt8)} (h : RFacts s LL PP pool) (x : Nat × List UInt8) : RFacts s LL PP (x :: pool) :=
  ⟨h.last, h.pend, fun y hy => List.mem_cons_of_mem _ (h.lin y hy), fun y hy => List.mem_cons_of_mem _ (h.pin y hy), h.len, h.plen, h.n1, h.n2, h.lb, h.pn⟩
theorem RFacts.cand5 {s : Dsk} {LL : List (Nat × List UInt8)} {PP : List RPut} {pool : List (Nat × List UInt8)} (h : RFacts s LL PP pool) {a : Nat} (ha : a < s.last.length) : ∀ x ∈ candS s a, x.length = 512 := fun x hx => by
  rcases List.mem_cons.1 hx with rfl | hx
  · exact h.len _ (List.mem_of_getElem? (mem_getD ha))
  · unfold pendOf at hx
    obtain ⟨y, hy, rfl⟩ := List.mem_map.1 hx
    exact (h.plen y (List.mem_filter.1 hy).1).1
theorem RFacts.outs5 {s : Dsk} {LL : List (Nat × List UInt8)} {PP : List RPut} {pool : List (Nat × List UInt8)} (h : RFacts s LL PP pool) (ps : List Pick) : ∀ x ∈ crashOuts s ps, x.2.length = 512 ∧ x.1 < s.last.length := fun x hx => by
  unfold crashOuts at hx
  obtain ⟨i, hi, rfl⟩ := List.mem_mapIdx.1 hx
  have hm : (crashKeys s)[i] ∈ crashKeys s := List.getElem_mem hi
  have hk := (keysTo_mem.1 hm).1
  exact ⟨tornS_len (h.cand5 hk) (by simp [candS]), hk⟩
theorem rd_crash {F : Nat → Prop} {w0 w : World} {L : List Ast} {g : Nat} {s : Dsk} {A : Option Addr} {ps : List Pick} {n c : Nat} (S : St F w0 w (RDisk g s :: L)) (hr : RoV F w0 L A (picksV ps)) (hn : n = ps.length) (hpm : ps.length ≤ 9223372036854775807) (hpn' : s.pend.length < 4398046511104) :
    Calls Try.prog 59 #[.pointer (some ⟨g, 0, none⟩), .slice A n c] w fun e w' => e = .returned (.tuple #[]) ∧ St F w0 w' (RDisk g (s.crashR ps) :: L) := by
  obtain ⟨gl, cl, c2, A2, junk, LL, PP, pool, hf, hcl, hju, S⟩ := St.ropen S
  have hn2 := hf.n2
  have hll := hf.ll
  have hpp := hf.pp
  have hpn := hf.pn
  by_cases he : s.pend = []
  · have ec : s.crashR ps = { s with pend := [], left := -1, life := inc s.life } := by unfold Dsk.crashR; rw [crash_none he]; rfl
    have h0 : PP.length = 0 := by rw [hpp, he]; rfl
    rw [ec]
    change St F w0 w (row g #[.slice (some ⟨gl, 0, none⟩) LL.length cl, .slice A2 PP.length c2, .int .i64 s.left, .int .i64 s.life, .int .i64 s.rd, .int .i64 s.wr, .int .i64 s.fl, .int .i64 s.rf, .int .i64 0] 96 :: row gl ((LL.map PEnt.val ++ junk).toArray) 31 :: vec 99 2 (.slice A2 PP.length c2) PP.length (putsV PP) :: stars (pool.map PEnt.row) :: L) at S
    refine wp_enter (fr [pq g, .slice A n c] 84) Try.func59 rfl (by kernel_rfl) ?_
    refine wp_seq ?_
    refine wp_region_lit ?_
    refine pv (iv 0) ?_
    refine wl_end (fr [pq g, .slice A n c, ud, ud, iv 0] 81) (by kernel_rfl) ?_
    refine then_n ?_
    refine wp_seq ?_
    refine wp_region_lit ?_
    refine pv (.slice none 0 0) ?_
    refine wl_end (fr [pq g, .slice A n c, ud, ud, iv 0, .slice none 0 0] 80) (by kernel_rfl) ?_
    refine then_n ?_
    refine wp_seq ?_
    refine wp_seq ?_
    refine wp_region_lit ?_
    refine pv (pq g) ?_
    refine pv (pq g) ?_
    refine pv (po g 1) ?_
    refine wl_gv rfl (gv_ldR (v := .slice A2 PP.length c2) rfl (by kernel_rfl) (by kernel_rfl) (((S.blk 0 rfl).cell 1).trans rfl) ?_)
    refine pv (iv (PP.length : Nat)) ?_
    refine wl_gv rfl (gv_dec (p := ((PP.length : Nat) : Int) > 0) (by kernel_rfl) (fun hd1 => False.elim (by omega)) (fun _ => ?_))
    refine wl_end (fr [pq g, .slice A n c, ud, ud, iv 0, .slice none 0 0, ud, ud, ud, ud, pq g, pq g, po g 1, .slice A2 PP.length c2, iv (PP.length : Nat), fv] 70) (by kernel_rfl) ?_
    refine then_n ?_
    refine wp_cond_false (by kernel_rfl) ?_
    refine wp_skip ?_
    refine then_n ?_
    refine wp_seq ?_
    refine wp_seq ?_
    refine wp_region_lit ?_
    refine pv (iv 0) ?_
    refine wl_end (fr [pq g, .slice A n c, ud, ud, iv 0, .slice none 0 0, ud, ud, ud, iv 0, pq g, pq g, po g 1, .slice A2 PP.length c2, iv (PP.length : Nat), fv] 70) (by kernel_rfl) ?_
    refine then_n ?_
    refine wp_block ?_
    refine wp_loop_g (G := Nat) (fun (g_ : Nat) (a_ : Act) (w_ : World) => ∃ J : Nat → Value, a_ = (fr [pq g, .slice A n c, ud, ud, iv 0, .slice none 0 0, ud, ud, ud, iv ((g_ : Nat) : Int), pq g, pq g, po g 1, .slice A2 PP.length c2, iv (PP.length : Nat), fv, ud, ud, ud, ud, ud, ud, ud, ud, ud, ud, ud, ud, ud, ud, ud, ud, ud, ud, ud, ud, ud, ud, ud, ud, ud, ud, ud, ud, ud, ud, ud, ud, ud, ud, ud, ud, J 52, J 53, J 54, J 55, J 56, J 57, J 58, J 59, J 60, J 61, J 62, J 63, J 64, J 65, J 66, J 67, J 68, J 69, J 70, J 71, J 72] 13) ∧ St F w0 w_ (row g #[.slice (some ⟨gl, 0, none⟩) LL.length cl, .slice A2 PP.length c2, .int .i64 s.left, .int .i64 s.life, .int .i64 s.rd, .int .i64 s.wr, .int .i64 s.fl, .int .i64 s.rf, .int .i64 0] 96 :: row gl ((LL.map PEnt.val ++ junk).toArray) 31 :: vec 99 2 (.slice A2 PP.length c2) PP.length (putsV PP) :: stars (pool.map PEnt.row) :: L) ∧ (g_ = 0)) (fun g_ => 0) 0 ⟨(jl []), by kernel_rfl, S, rfl⟩ ?_
    rintro i a_ w2 ⟨J, rfl, S3, hI4⟩
    skip
    have S3 : St F w0 w2 (row g #[.slice (some ⟨gl, 0, none⟩) LL.length cl, .slice A2 PP.length c2, .int .i64 s.left, .int .i64 s.life, .int .i64 s.rd, .int .i64 s.wr, .int .i64 s.fl, .int .i64 s.rf, .int .i64 0] 96 :: row gl ((LL.map PEnt.val ++ junk).toArray) 31 :: vec 99 2 (.slice A2 PP.length c2) PP.length (putsV PP) :: stars (pool.map PEnt.row) :: L) := S3
    have hI4 : (i = 0) := hI4
    refine wp_seq ?_
    refine wp_seq ?_
    refine wp_region_lit ?_
    refine pv (iv ((i : Nat) : Int)) ?_
    refine pv (.slice none 0 0) ?_
    refine pv (iv 0) ?_
    refine wl_gv rfl (gv_dec (p := (((i : Nat) : Int) : Int) < 0) (by kernel_rfl) (fun hd5 => False.elim (by omega)) (fun _ => ?_))
    refine wl_end (fr [pq g, .slice A n c, ud, ud, iv 0, .slice none 0 0, ud, ud, ud, iv ((i : Nat) : Int), pq g, pq g, po g 1, .slice A2 PP.length c2, iv (PP.length : Nat), fv, ud, ud, ud, ud, ud, ud, ud, ud, ud, ud, ud, ud, ud, ud, ud, ud, ud, ud, ud, ud, ud, ud, ud, ud, ud, ud, ud, ud, ud, ud, ud, ud, ud, ud, ud, ud, iv ((i : Nat) : Int), .slice none 0 0, iv 0, fv, J 56, J 57, J 58, J 59, J 60, J 61, J 62, J 63, J 64, J 65, J 66, J 67, J 68, J 69, J 70, J 71, J 72] 13) (by kernel_rfl) ?_
    refine then_n ?_
    refine wp_cond_false (by kernel_rfl) ?_
    refine wp_exit ?_
    refine then_x ?_
    refine then_x ?_
    refine inb_x ?_
    refine then_n ?_
    refine wp_seq ?_
    refine wp_region_lit ?_
    refine pv (pq g) ?_
    refine pv (pq g) ?_
    refine pv (po g 1) ?_
    refine wl_gv rfl (gv_st (k := 1) (v := .slice none 0 0) S3 0 rfl rfl (by kernel_rfl) (by kernel_rfl) (by kernel_rfl) rfl rfl (L' := (row g #[.slice (some ⟨gl, 0, none⟩) LL.length cl, .slice none 0 0, .int .i64 s.left, .int .i64 s.life, .int .i64 s.rd, .int .i64 s.wr, .int .i64 s.fl, .int .i64 s.rf, .int .i64 0] 96 :: row gl ((LL.map PEnt.val ++ junk).toArray) 31 :: vec 99 2 (.slice A2 PP.length c2) PP.length (putsV PP) :: stars (pool.map PEnt.row) :: L)) rfl (fun w6 S7 => ?_))
    refine wl_end (fr [pq g, .slice A n c, ud, ud, iv 0, .slice none 0 0, ud, ud, ud, iv ((i : Nat) : Int), pq g, pq g, po g 1, .slice A2 PP.length c2, iv (PP.length : Nat), fv, ud, ud, ud, ud, ud, ud, ud, ud, ud, ud, ud, ud, ud, ud, ud, ud, ud, ud, ud, ud, ud, ud, ud, ud, ud, ud, ud, ud, ud, ud, ud, ud, ud, ud, ud, ud, iv ((i : Nat) : Int), .slice none 0 0, iv 0, fv, J 56, J 57, J 58, J 59, J 60, J 61, J 62, J 63, J 64, J 65, J 66, J 67, J 68, J 69, J 70, J 71, J 72, pq g, pq g, po g 1] 10) (by kernel_rfl) ?_
    refine then_n ?_
    refine wp_seq ?_
    refine wp_region_lit ?_
    refine pv (pq g) ?_
    refine pv (pq g) ?_
    refine pv (po g 2) ?_
    refine wl_gv rfl (gv_st (k := 2) (v := .int .i64 (-1)) S7 0 rfl rfl (by kernel_rfl) (by kernel_rfl) (by kernel_rfl) rfl rfl (L' := (row g #[.slice (some ⟨gl, 0, none⟩) LL.length cl, .slice none 0 0, .int .i64 (-1), .int .i64 s.life, .int .i64 s.rd, .int .i64 s.wr, .int .i64 s.fl, .int .i64 s.rf, .int .i64 0] 96 :: row gl ((LL.map PEnt.val ++ junk).toArray) 31 :: vec 99 2 (.slice A2 PP.length c2) PP.length (putsV PP) :: stars (pool.map PEnt.row) :: L)) rfl (fun w8 S9 => ?_))
    refine wl_end (fr [pq g, .slice A n c, ud, ud, iv 0, .slice none 0 0, ud, ud, ud, iv ((i : Nat) : Int), pq g, pq g, po g 1, .slice A2 PP.length c2, iv (PP.length : Nat), fv, ud, ud, ud, ud, ud, ud, ud, ud, ud, ud, ud, ud, ud, ud, ud, ud, ud, ud, ud, ud, ud, ud, ud, ud, ud, ud, ud, ud, ud, ud, ud, ud, ud, ud, ud, ud, iv ((i : Nat) : Int), .slice none 0 0, iv 0, fv, J 56, J 57, J 58, J 59, J 60, J 61, J 62, J 63, J 64, J 65, J 66, J 67, J 68, J 69, J 70, J 71, J 72, pq g, pq g, po g 1, pq g, pq g, po g 2] 7) (by kernel_rfl) ?_
    refine then_n ?_
    refine wp_region_lit ?_
    refine pv (pq g) ?_
    refine pv (pq g) ?_
    refine pv (po g 3) ?_
    refine wl_gv rfl (gv_ldR (v := .int .i64 s.life) rfl (by kernel_rfl) (by kernel_rfl) (((S9.blk 0 rfl).cell 3).trans rfl) ?_)
    refine pv (iv (inc s.life)) ?_
    refine pv (pq g) ?_
    refine pv (po g 3) ?_
    refine wl_gv rfl (gv_st (k := 3) (v := .int .i64 (inc s.life)) S9 0 rfl rfl (by kernel_rfl) (by kernel_rfl) (by kernel_rfl) rfl rfl (L' := (row g #[.slice (some ⟨gl, 0, none⟩) LL.length cl, .slice none 0 0, .int .i64 (-1), .int .i64 (inc s.life), .int .i64 s.rd, .int .i64 s.wr, .int .i64 s.fl, .int .i64 s.rf, .int .i64 0] 96 :: row gl ((LL.map PEnt.val ++ junk).toArray) 31 :: vec 99 2 (.slice A2 PP.length c2) PP.length (putsV PP) :: stars (pool.map PEnt.row) :: L)) rfl (fun w10 S11 => ?_))
    refine wl_end (fr [pq g, .slice A n c, ud, ud, iv 0, .slice none 0 0, ud, ud, ud, iv ((i : Nat) : Int), pq g, pq g, po g 1, .slice A2 PP.length c2, iv (PP.length : Nat), fv, ud, ud, ud, ud, ud, ud, ud, ud, ud, ud, ud, ud, ud, ud, ud, ud, ud, ud, ud, ud, ud, ud, ud, ud, ud, ud, ud, ud, ud, ud, ud, ud, ud, ud, ud, ud, iv ((i : Nat) : Int), .slice none 0 0, iv 0, fv, J 56, J 57, J 58, J 59, J 60, J 61, J 62, J 63, J 64, J 65, J 66, J 67, J 68, J 69, J 70, J 71, J 72, pq g, pq g, po g 1, pq g, pq g, po g 2, pq g, pq g, po g 3, iv s.life, iv (inc s.life), pq g, po g 3] 0) (by kernel_rfl) ?_
    refine bodyPost_end (v := .tuple #[]) (results_none rfl _ _ _) rfl ?_
    have S12 : St F w0 w10 (row g #[.slice (some ⟨gl, 0, none⟩) LL.length cl, .slice none 0 0, .int .i64 (-1), .int .i64 (inc s.life), .int .i64 s.rd, .int .i64 s.wr, .int .i64 s.fl, .int .i64 s.rf, .int .i64 0] 96 :: row gl ((LL.map PEnt.val ++ junk).toArray) 31 :: stars (pool.map PEnt.row) :: L) := St.permT [row g #[.slice (some ⟨gl, 0, none⟩) LL.length cl, .slice none 0 0, .int .i64 (-1), .int .i64 (inc s.life), .int .i64 s.rd, .int .i64 s.wr, .int .i64 s.fl, .int .i64 s.rf, .int .i64 0] 96, row gl ((LL.map PEnt.val ++ junk).toArray) 31, vec 99 2 (.slice A2 PP.length c2) PP.length (putsV PP), stars (pool.map PEnt.row)] [0, 1, 3] (by decide) rfl S11
    have S9 := St.permT [_, _, _, _] [1, 2, 0, 3] (by decide) rfl (St.vec_nil (e := 99) (sz := 2) S12)
    exact ⟨rfl, St.rclose (gl := gl) (cl := cl) (c2 := 0) (A2 := none) (junk := junk) (LL := LL) (PP := ([] : List RPut)) (pool := pool) (s := { s with pend := [], left := -1, life := inc s.life }) S9 (⟨hf.last, rfl, hf.lin, fun x hx => (by cases hx), hf.len, fun x hx => (by cases hx), hf.n1, hf.n2, show (-1 : Int) ≤ -1 ∧ (-1 : Int) ≤ 9223372036854775807 by decide, Nat.zero_le _⟩) hcl hju⟩
  have hpos : 0 < PP.length := by rw [hpp]; exact List.length_pos_iff.2 he
  change St F w0 w (row g #[.slice (some ⟨gl, 0, none⟩) LL.length cl, .slice A2 PP.length c2, .int .i64 s.left, .int .i64 s.life, .int .i64 s.rd, .int .i64 s.wr, .int .i64 s.fl, .int .i64 s.rf, .int .i64 0] 96 :: row gl ((LL.map PEnt.val ++ junk).toArray) 31 :: vec 99 2 (.slice A2 PP.length c2) PP.length (putsV PP) :: stars (pool.map PEnt.row) :: L) at S
  refine wp_enter (fr [pq g, .slice A n c] 84) Try.func59 rfl (by kernel_rfl) ?_
  refine wp_seq ?_
  refine wp_region_lit ?_
  refine pv (iv 0) ?_
  refine wl_end (fr [pq g, .slice A n c, ud, ud, iv 0] 81) (by kernel_rfl) ?_
  refine then_n ?_
  refine wp_seq ?_
  refine wp_region_lit ?_
  refine pv (.slice none 0 0) ?_
  refine wl_end (fr [pq g, .slice A n c, ud, ud, iv 0, .slice none 0 0] 80) (by kernel_rfl) ?_
  refine then_n ?_
  refine wp_seq ?_
  refine wp_seq ?_
  refine wp_region_lit ?_
  refine pv (pq g) ?_
  refine pv (pq g) ?_
  refine pv (po g 1) ?_
  refine wl_gv rfl (gv_ldR (v := .slice A2 PP.length c2) rfl (by kernel_rfl) (by kernel_rfl) (((S.blk 0 rfl).cell 1).trans rfl) ?_)
  refine pv (iv (PP.length : Nat)) ?_
  refine wl_gv rfl (gv_dec (p := ((PP.length : Nat) : Int) > 0) (by kernel_rfl) (fun _ => ?_) (fun hd1 => False.elim (by omega)))
  refine wl_end (fr [pq g, .slice A n c, ud, ud, iv 0, .slice none 0 0, ud, ud, ud, ud, pq g, pq g, po g 1, .slice A2 PP.length c2, iv (PP.length : Nat), tv] 70) (by kernel_rfl) ?_
  refine then_n ?_
  refine wp_cond_true (by kernel_rfl) ?_
  refine wp_seq ?_
  refine wp_region_lit ?_
  refine pv (iv 0) ?_
  refine wl_end (fr [pq g, .slice A n c, ud, ud, iv 0, .slice none 0 0, iv 0, ud, ud, ud, pq g, pq g, po g 1, .slice A2 PP.length c2, iv (PP.length : Nat), tv] 70) (by kernel_rfl) ?_
  refine then_n ?_
  refine wp_block ?_
  have S2 : St F w0 w (vec 99 2 (.slice none 0 0) ([] : List RPut).length (putsV ([] : List RPut)) :: row g #[.slice (some ⟨gl, 0, none⟩) LL.length cl, .slice A2 PP.length c2, .int .i64 s.left, .int .i64 s.life, .int .i64 s.rd, .int .i64 s.wr, .int .i64 s.fl, .int .i64 s.rf, .int .i64 0] 96 :: row gl ((LL.map PEnt.val ++ junk).toArray) 31 :: vec 99 2 (.slice A2 PP.length c2) PP.length (putsV PP) :: stars (pool.map PEnt.row) :: L) := St.vec_nil S
  have S3 : St F w0 w (row g #[.slice (some ⟨gl, 0, none⟩) LL.length cl, .slice A2 PP.length c2, .int .i64 s.left, .int .i64 s.life, .int .i64 s.rd, .int .i64 s.wr, .int .i64 s.fl, .int .i64 s.rf, .int .i64 0] 96 :: row gl ((LL.map PEnt.val ++ junk).toArray) 31 :: vec 99 2 (.slice A2 PP.length c2) PP.length (putsV PP) :: stars (pool.map PEnt.row) :: vec 99 2 (.slice none 0 0) ([] : List RPut).length (putsV ([] : List RPut)) :: L) := St.permT [vec 99 2 (.slice none 0 0) ([] : List RPut).length (putsV ([] : List RPut)), row g #[.slice (some ⟨gl, 0, none⟩) LL.length cl, .slice A2 PP.length c2, .int .i64 s.left, .int .i64 s.life, .int .i64 s.rd, .int .i64 s.wr, .int .i64 s.fl, .int .i64 s.rf, .int .i64 0] 96, row gl ((LL.map PEnt.val ++ junk).toArray) 31, vec 99 2 (.slice A2 PP.length c2) PP.length (putsV PP), stars (pool.map PEnt.row)] [1, 2, 3, 4, 0] (by decide) rfl S2
  refine wp_loop_g (G := Nat × Value × List RPut × List (Nat × List UInt8)) (fun (g_ : Nat × Value × List RPut × List (Nat × List UInt8)) (a_ : Act) (w_ : World) => ∃ J : Nat → Value, a_ = (fr [pq g, .slice A n c, ud, ud, iv (((keysTo s g_.1).length : Nat) : Int), g_.2.1, iv ((g_.1 : Nat) : Int), J 7, J 8, ud, pq g, pq g, po g 1, .slice A2 PP.length c2, iv (PP.length : Nat), tv, J 16, J 17, J 18, J 19, J 20, J 21, J 22, J 23, J 24, J 25, J 26, J 27, J 28, J 29, J 30, J 31, J 32, J 33, J 34, J 35, J 36, J 37, J 38, J 39, J 40, J 41, J 42, J 43, J 44, J 45, J 46, J 47, J 48, J 49, J 50, J 51] 34) ∧ St F w0 w_ (row g #[.slice (some ⟨gl, 0, none⟩) LL.length cl, .slice A2 PP.length c2, .int .i64 s.left, .int .i64 s.life, .int .i64 s.rd, .int .i64 s.wr, .int .i64 s.fl, .int .i64 s.rf, .int .i64 0] 96 :: row gl ((LL.map PEnt.val ++ junk).toArray) 31 :: vec 99 2 (.slice A2 PP.length c2) PP.length (putsV PP) :: stars (g_.2.2.2.map PEnt.row) :: vec 99 2 g_.2.1 g_.2.2.1.length (putsV g_.2.2.1) :: L) ∧ (g_.1 ≤ LL.length ∧ g_.2.2.1.map (·.2) = (keysTo s g_.1).mapIdx (outOf s ps) ∧ RFacts s LL PP g_.2.2.2 ∧ ∀ x ∈ g_.2.2.1, x.ref ∈ g_.2.2.2)) (fun g_ => LL.length - g_.1) (0, .slice none 0 0, [], pool) ⟨(jl []), by kernel_rfl, S3, ⟨Nat.zero_le _, rfl, hf, fun x hx => by cases hx⟩⟩ ?_
  rintro ⟨at_, v, FF, pool2⟩ a_ w4 ⟨J, rfl, S5, hI6⟩
  skip
  have S5 : St F w0 w4 (row g #[.slice (some ⟨gl, 0, none⟩) LL.length cl, .slice A2 PP.length c2, .int .i64 s.left, .int .i64 s.life, .int .i64 s.rd, .int .i64 s.wr, .int .i64 s.fl, .int .i64 s.rf, .int .i64 0] 96 :: row gl ((LL.map PEnt.val ++ junk).toArray) 31 :: vec 99 2 (.slice A2 PP.length c2) PP.length (putsV PP) :: stars (pool2.map PEnt.row) :: vec 99 2 v FF.length (putsV FF) :: L) := S5
  have hI6 : (at_ ≤ LL.length ∧ FF.map (·.2) = (keysTo s at_).mapIdx (outOf s ps) ∧ RFacts s LL PP pool2 ∧ ∀ x ∈ FF, x.ref ∈ pool2) := hI6
  refine wp_seq ?_
  refine wp_seq ?_
  refine wp_region_lit ?_
  refine pv (iv ((at_ : Nat) : Int)) ?_
  refine pv (pq g) ?_
  refine pv (pq g) ?_
  refine pv (pq g) ?_
  refine wl_gv rfl (gv_ldR (v := .slice (some ⟨gl, 0, none⟩) LL.length cl) rfl (by kernel_rfl) (by kernel_rfl) (((S5.blk 0 rfl).cell 0).trans rfl) ?_)
  refine pv (iv (LL.length : Nat)) ?_
  refine wl_gv rfl (gv_dec (p := (((at_ : Nat) : Int) : Int) < (LL.length : Nat)) (by kernel_rfl) (fun hb7 => ?_) (fun hb7 => ?_))
  · skip
    have hk : at_ < s.last.length := by omega
    have hkl := keysTo_len s at_
    have hFl : FF.length = (keysTo s at_).length := by have := congrArg List.length hI6.2.1; rw [List.length_map, List.length_mapIdx] at this; exact this
    refine wl_end (fr [pq g, .slice A n c, ud, ud, iv (((keysTo s at_).length : Nat) : Int), v, iv ((at_ : Nat) : Int), J 7, J 8, ud, pq g, pq g, po g 1, .slice A2 PP.length c2, iv (PP.length : Nat), tv, iv ((at_ : Nat) : Int), pq g, pq g, pq g, sl gl 0 LL.length cl, iv (LL.length : Nat), tv, J 23, J 24, J 25, J 26, J 27, J 28, J 29, J 30, J 31, J 32, J 33, J 34, J 35, J 36, J 37, J 38, J 39, J 40, J 41, J 42, J 43, J 44, J 45, J 46, J 47, J 48, J 49, J 50, J 51] 34) (by kernel_rfl) ?_
    refine then_n ?_
    refine wp_cond_true (by kernel_rfl) ?_
    refine wp_skip ?_
    refine then_n ?_
    refine wp_seq ?_
    refine wp_block ?_
    refine wp_seq ?_
    refine wp_region_lit ?_
    refine pv (pq g) ?_
    refine pv (iv ((at_ : Nat) : Int)) ?_
    refine wl_gv rfl (gv_call (args := #[.pointer (some ⟨g, 0, none⟩), .int .i64 ((at_ : Nat) : Int)]) rfl Try.func79 (by kernel_rfl) rfl rfl (by kernel_rfl) ?_)
    refine Calls.mono (rcand S5 hI6.2.2.1 hk hpn') ?_
    rintro _ w8 ⟨v2, CC, rfl, hCC, hCp, S9⟩
    refine ⟨_, rfl, ?_⟩
    obtain ⟨A1, c1, rfl⟩ := St.vec_v S9 0 rfl
    have hCl : CC.length = (pendOf s at_).length + 1 := by have := congrArg List.length hCC; rw [List.length_map] at this; exact this
    have hpl : (pendOf s at_).length ≤ s.pend.length := by unfold pendOf; rw [List.length_map]; exact List.length_filter_le _ _
    have hC5 : ∀ x ∈ CC, x.2.length = 512 := fun x hx => hI6.2.2.1.cand5 hk _ (by rw [← hCC]; exact List.mem_map.2 ⟨x, hx, rfl⟩)
    change St F w0 w8 (vec 31 1 (.slice A1 CC.length c1) CC.length (CC.map PEnt.val) :: row g #[.slice (some ⟨gl, 0, none⟩) LL.length cl, .slice A2 PP.length c2, .int .i64 s.left, .int .i64 s.life, .int .i64 s.rd, .int .i64 s.wr, .int .i64 s.fl, .int .i64 s.rf, .int .i64 0] 96 :: row gl ((LL.map PEnt.val ++ junk).toArray) 31 :: vec 99 2 (.slice A2 PP.length c2) PP.length (putsV PP) :: stars (pool2.map PEnt.row) :: vec 99 2 v FF.length (putsV FF) :: L) at S9
    refine pv (.slice A1 CC.length c1) ?_
    refine wl_end (fr [pq g, .slice A n c, ud, ud, iv (((keysTo s at_).length : Nat) : Int), v, iv ((at_ : Nat) : Int), .slice A1 CC.length c1, J 8, ud, pq g, pq g, po g 1, .slice A2 PP.length c2, iv (PP.length : Nat), tv, iv ((at_ : Nat) : Int), pq g, pq g, pq g, sl gl 0 LL.length cl, iv (LL.length : Nat), tv, J 23, J 24, pq g, iv ((at_ : Nat) : Int), .slice A1 CC.length c1, J 28, J 29, J 30, J 31, J 32, J 33, J 34, J 35, J 36, J 37, J 38, J 39, J 40, J 41, J 42, J 43, J 44, J 45, J 46, J 47, J 48, J 49, J 50, J 51] 34) (by kernel_rfl) ?_
    refine then_n ?_
    refine wp_seq ?_
    refine wp_seq ?_
    refine wp_region_lit ?_
    refine pv (.slice A1 CC.length c1) ?_
    refine pv (iv (CC.length : Nat)) ?_
    refine wl_gv rfl (gv_eq (x := (CC.length : Nat)) (y := 1) (by kernel_rfl) (fun hb7 => ?_) (fun hb7 => ?_))
    · skip
      have hp0 : pendOf s at_ = [] := List.eq_nil_of_length_eq_zero (by omega)
      refine wl_end (fr [pq g, .slice A n c, ud, ud, iv (((keysTo s at_).length : Nat) : Int), v, iv ((at_ : Nat) : Int), .slice A1 CC.length c1, J 8, ud, pq g, pq g, po g 1, .slice A2 PP.length c2, iv (PP.length : Nat), tv, iv ((at_ : Nat) : Int), pq g, pq g, pq g, sl gl 0 LL.length cl, iv (LL.length : Nat), tv, J 23, J 24, pq g, iv ((at_ : Nat) : Int), .slice A1 CC.length c1, .slice A1 CC.length c1, iv (CC.length : Nat), tv, J 31, J 32, J 33, J 34, J 35, J 36, J 37, J 38, J 39, J 40, J 41, J 42, J 43, J 44, J 45, J 46, J 47, J 48, J 49, J 50, J 51] 34) (by kernel_rfl) ?_
      refine then_n ?_
      refine wp_cond_true (by kernel_rfl) ?_
      refine wp_exit ?_
      refine then_x ?_
      refine inb_x ?_
      refine then_n ?_
      refine wp_region_lit ?_
      refine pv (iv ((at_ : Nat) : Int)) ?_
      refine wl_gv rfl (gv_int (k := .i64) (z := IntKind.i64.wrap (((at_ : Nat) : Int) + 1)) (z' := ((at_ + 1 : Nat) : Int)) (by kernel_rfl) (wr_eq (by omega) (by omega) (by omega)) ?_)
      refine pv (iv ((at_ + 1 : Nat) : Int)) ?_
      refine wl_end (fr [pq g, .slice A n c, ud, ud, iv (((keysTo s at_).length : Nat) : Int), v, iv ((at_ + 1 : Nat) : Int), .slice A1 CC.length c1, J 8, ud, pq g, pq g, po g 1, .slice A2 PP.length c2, iv (PP.length : Nat), tv, iv ((at_ : Nat) : Int), pq g, pq g, pq g, sl gl 0 LL.length cl, iv (LL.length : Nat), tv, iv ((at_ : Nat) : Int), iv ((at_ + 1 : Nat) : Int), pq g, iv ((at_ : Nat) : Int), .slice A1 CC.length c1, .slice A1 CC.length c1, iv (CC.length : Nat), tv, J 31, J 32, J 33, J 34, J 35, J 36, J 37, J 38, J 39, J 40, J 41, J 42, J 43, J 44, J 45, J 46, J 47, J 48, J 49, J 50, J 51] 34) (by kernel_rfl) ?_
      refine then_n ?_
      have S10 : St F w0 w8 (row g #[.slice (some ⟨gl, 0, none⟩) LL.length cl, .slice A2 PP.length c2, .int .i64 s.left, .int .i64 s.life, .int .i64 s.rd, .int .i64 s.wr, .int .i64 s.fl, .int .i64 s.rf, .int .i64 0] 96 :: row gl ((LL.map PEnt.val ++ junk).toArray) 31 :: vec 99 2 (.slice A2 PP.length c2) PP.length (putsV PP) :: stars (pool2.map PEnt.row) :: vec 99 2 v FF.length (putsV FF) :: L) := St.permT [vec 31 1 (.slice A1 CC.length c1) CC.length (CC.map PEnt.val), row g #[.slice (some ⟨gl, 0, none⟩) LL.length cl, .slice A2 PP.length c2, .int .i64 s.left, .int .i64 s.life, .int .i64 s.rd, .int .i64 s.wr, .int .i64 s.fl, .int .i64 s.rf, .int .i64 0] 96, row gl ((LL.map PEnt.val ++ junk).toArray) 31, vec 99 2 (.slice A2 PP.length c2) PP.length (putsV PP), stars (pool2.map PEnt.row), vec 99 2 v FF.length (putsV FF)] [1, 2, 3, 4, 5] (by decide) rfl S9
      exact ⟨(at_ + 1, v, FF, pool2), ⟨(jl [ud, ud, ud, ud, ud, ud, ud, .slice A1 CC.length c1, J 8, ud, ud, ud, ud, ud, ud, ud, iv ((at_ : Nat) : Int), pq g, pq g, pq g, sl gl 0 LL.length cl, iv (LL.length : Nat), tv, iv ((at_ : Nat) : Int), iv ((at_ + 1 : Nat) : Int), pq g, iv ((at_ : Nat) : Int), .slice A1 CC.length c1, .slice A1 CC.length c1, iv (CC.length : Nat), tv, J 31, J 32, J 33, J 34, J 35, J 36, J 37, J 38, J 39, J 40, J 41, J 42, J 43, J 44, J 45, J 46, J 47, J 48, J 49, J 50, J 51]), (Eq.trans (b := (fr [pq g, .slice A n c, ud, ud, iv (((keysTo s at_).length : Nat) : Int), v, iv ((at_ + 1 : Nat) : Int), .slice A1 CC.length c1, J 8, ud, pq g, pq g, po g 1, .slice A2 PP.length c2, iv (PP.length : Nat), tv, iv ((at_ : Nat) : Int), pq g, pq g, pq g, sl gl 0 LL.length cl, iv (LL.length : Nat), tv, iv ((at_ : Nat) : Int), iv ((at_ + 1 : Nat) : Int), pq g, iv ((at_ : Nat) : Int), .slice A1 CC.length c1, .slice A1 CC.length c1, iv (CC.length : Nat), tv, J 31, J 32, J 33, J 34, J 35, J 36, J 37, J 38, J 39, J 40, J 41, J 42, J 43, J 44, J 45, J 46, J 47, J 48, J 49, J 50, J 51] 34)) (by kernel_rfl) (Eq.trans (b := (fr [pq g, .slice A n c, ud, ud, iv (((keysTo s (at_ + 1)).length : Nat) : Int), v, iv ((at_ + 1 : Nat) : Int), .slice A1 CC.length c1, J 8, ud, pq g, pq g, po g 1, .slice A2 PP.length c2, iv (PP.length : Nat), tv, iv ((at_ : Nat) : Int), pq g, pq g, pq g, sl gl 0 LL.length cl, iv (LL.length : Nat), tv, iv ((at_ : Nat) : Int), iv ((at_ + 1 : Nat) : Int), pq g, iv ((at_ : Nat) : Int), .slice A1 CC.length c1, .slice A1 CC.length c1, iv (CC.length : Nat), tv, J 31, J 32, J 33, J 34, J 35, J 36, J 37, J 38, J 39, J 40, J 41, J 42, J 43, J 44, J 45, J 46, J 47, J 48, J 49, J 50, J 51] 34)) (congrArg (fun z_ : Nat => (fr [pq g, .slice A n c, ud, ud, iv ((z_ : Nat) : Int), v, iv ((at_ + 1 : Nat) : Int), .slice A1 CC.length c1, J 8, ud, pq g, pq g, po g 1, .slice A2 PP.length c2, iv (PP.length : Nat), tv, iv ((at_ : Nat) : Int), pq g, pq g, pq g, sl gl 0 LL.length cl, iv (LL.length : Nat), tv, iv ((at_ : Nat) : Int), iv ((at_ + 1 : Nat) : Int), pq g, iv ((at_ : Nat) : Int), .slice A1 CC.length c1, .slice A1 CC.length c1, iv (CC.length : Nat), tv, J 31, J 32, J 33, J 34, J 35, J 36, J 37, J 38, J 39, J 40, J 41, J 42, J 43, J 44, J 45, J 46, J 47, J 48, J 49, J 50, J 51] 34)) (congrArg List.length (keys_out hp0)).symm) (by kernel_rfl))), S10, ⟨(by show at_ + 1 ≤ LL.length; omega), by rw [keys_out hp0]; exact hI6.2.1, hI6.2.2.1, hI6.2.2.2⟩⟩, (by show LL.length - (at_ + 1) < LL.length - at_; omega)⟩
    · skip
      have hp0 : pendOf s at_ ≠ [] := fun h => hb7 (by rw [hCl, h]; rfl)
      refine wl_end (fr [pq g, .slice A n c, ud, ud, iv (((keysTo s at_).length : Nat) : Int), v, iv ((at_ : Nat) : Int), .slice A1 CC.length c1, J 8, ud, pq g, pq g, po g 1, .slice A2 PP.length c2, iv (PP.length : Nat), tv, iv ((at_ : Nat) : Int), pq g, pq g, pq g, sl gl 0 LL.length cl, iv (LL.length : Nat), tv, J 23, J 24, pq g, iv ((at_ : Nat) : Int), .slice A1 CC.length c1, .slice A1 CC.length c1, iv (CC.length : Nat), fv, J 31, J 32, J 33, J 34, J 35, J 36, J 37, J 38, J 39, J 40, J 41, J 42, J 43, J 44, J 45, J 46, J 47, J 48, J 49, J 50, J 51] 34) (by kernel_rfl) ?_
      refine then_n ?_
      refine wp_cond_false (by kernel_rfl) ?_
      refine wp_skip ?_
      refine then_n ?_
      refine wp_seq ?_
      refine wp_region_lit ?_
      refine pv (.agg #[iv 0, iv 0, iv 0]) ?_
      refine wl_gv rfl (gv_new (z := .agg #[.int .i64 0, .int .i64 0, .int .i64 0]) S9 rfl (by kernel_rfl) (fun g11 w12 hg13 S14 => ?_))
      refine wl_gv rfl (gv_stA (k := 0) (vs := [.int .i64 0, .int .i64 0, .int .i64 0]) S14 0 rfl rfl (by kernel_rfl) (by kernel_rfl) (by kernel_rfl) rfl (by simp [Value.oneCell']) (Nat.le_of_ble_eq_true (by kernel_rfl)) (L' := (row g11 #[.int .i64 0, .int .i64 0, .int .i64 0] 66 :: vec 31 1 (.slice A1 CC.length c1) CC.length (CC.map PEnt.val) :: row g #[.slice (some ⟨gl, 0, none⟩) LL.length cl, .slice A2 PP.length c2, .int .i64 s.left, .int .i64 s.life, .int .i64 s.rd, .int .i64 s.wr, .int .i64 s.fl, .int .i64 s.rf, .int .i64 0] 96 :: row gl ((LL.map PEnt.val ++ junk).toArray) 31 :: vec 99 2 (.slice A2 PP.length c2) PP.length (putsV PP) :: stars (pool2.map PEnt.row) :: vec 99 2 v FF.length (putsV FF) :: L)) rfl (fun w15 S16 => ?_))
      refine wl_end (fr [pq g, .slice A n c, ud, ud, iv (((keysTo s at_).length : Nat) : Int), v, iv ((at_ : Nat) : Int), .slice A1 CC.length c1, pq g11, ud, pq g, pq g, po g 1, .slice A2 PP.length c2, iv (PP.length : Nat), tv, iv ((at_ : Nat) : Int), pq g, pq g, pq g, sl gl 0 LL.length cl, iv (LL.length : Nat), tv, J 23, J 24, pq g, iv ((at_ : Nat) : Int), .slice A1 CC.length c1, .slice A1 CC.length c1, iv (CC.length : Nat), fv, .agg #[iv 0, iv 0, iv 0], J 32, J 33, J 34, J 35, J 36, J 37, J 38, J 39, J 40, J 41, J 42, J 43, J 44, J 45, J 46, J 47, J 48, J 49, J 50, J 51] 34) (by kernel_rfl) ?_
      refine then_n ?_
      refine wp_seq ?_
      refine wp_seq ?_
      refine wp_region_lit ?_
      refine pv (.slice A n c) ?_
      refine pv (iv (n : Nat)) ?_
      refine wl_gv rfl (gv_dec (p := ((n : Nat) : Int) > 0) (by kernel_rfl) (fun hb17 => ?_) (fun hb17 => ?_))
      · skip
        have hp1 : 0 < ps.length := by omega
        have hn1 : n = n - 1 + 1 := by omega
        obtain ⟨ad, hAd, hrp⟩ := hr.out _ [row g11 #[.int .i64 0, .int .i64 0, .int .i64 0] 66, vec 31 1 (.slice A1 CC.length c1) CC.length (CC.map PEnt.val), row g #[.slice (some ⟨gl, 0, none⟩) LL.length cl, .slice A2 PP.length c2, .int .i64 s.left, .int .i64 s.life, .int .i64 s.rd, .int .i64 s.wr, .int .i64 s.fl, .int .i64 s.rf, .int .i64 0] 96, row gl ((LL.map PEnt.val ++ junk).toArray) 31, vec 99 2 (.slice A2 PP.length c2) PP.length (putsV PP), stars (pool2.map PEnt.row), vec 99 2 v FF.length (putsV FF)] S16 (by rw [length_picksV]; omega)
        have hrq : RdV w15 (some ad) (picksV ps) := fun _ => ⟨ad, rfl, hrp⟩
        have hkm : (keysTo s at_).length % ps.length < ps.length := Nat.mod_lt _ hp1
        have hpk : ps[(keysTo s at_).length % ps.length]? = some (pickAt ps (keysTo s at_).length) := by unfold pickAt; rw [if_neg (by omega), List.getD_eq_getElem?_getD, List.getElem?_eq_getElem hkm]; rfl
        refine wl_end (fr [pq g, .slice A n c, ud, ud, iv (((keysTo s at_).length : Nat) : Int), v, iv ((at_ : Nat) : Int), .slice A1 CC.length c1, pq g11, ud, pq g, pq g, po g 1, .slice A2 PP.length c2, iv (PP.length : Nat), tv, iv ((at_ : Nat) : Int), pq g, pq g, pq g, sl gl 0 LL.length cl, iv (LL.length : Nat), tv, J 23, J 24, pq g, iv ((at_ : Nat) : Int), .slice A1 CC.length c1, .slice A1 CC.length c1, iv (CC.length : Nat), fv, .agg #[iv 0, iv 0, iv 0], .slice A n c, iv (n : Nat), tv, J 35, J 36, J 37, J 38, J 39, J 40, J 41, J 42, J 43, J 44, J 45, J 46, J 47, J 48, J 49, J 50, J 51] 34) (by kernel_rfl) ?_
        refine then_n ?_
        refine wp_cond_true (by kernel_rfl) ?_
        refine wp_region_lit ?_
        refine pv (.slice A n c) ?_
        refine pv (iv (((keysTo s at_).length : Nat) : Int)) ?_
        refine pv (.slice A n c) ?_
        refine pv (iv (n : Nat)) ?_
        refine wl_gv rfl (gv_int (k := .i64) (z := Int.tmod (((keysTo s at_).length : Nat) : Int) (n : Nat)) (z' := (((keysTo s at_).length % ps.length : Nat) : Int)) (by rw [hn1]; kernel_rfl) (tmod_nat' rfl (by omega)) ?_)
        refine wl_gv rfl (gv_ixB (e := 66) (sz := 3) (n := n) (c := c) (i := (((keysTo s at_).length % ps.length : Nat) : Int)) (k := .i64) (ad := ad) (ad' := (ad.add (((keysTo s at_).length % ps.length) * 3))) (j := ((keysTo s at_).length % ps.length)) rfl (by kernel_rfl) (by kernel_rfl) (by rw [← hAd]; kernel_rfl) (by kernel_rfl) rfl (by omega) rfl ?_)
        refine wl_gv rfl (gv_ldRA (ad := ad.add ((keysTo s at_).length % ps.length * 3)) (vs := [.int .i64 ((pickAt ps (keysTo s at_).length).1), .int .i64 ((pickAt ps (keysTo s at_).length).2.1), .int .i64 ((pickAt ps (keysTo s at_).length).2.2)]) (n := 3) rfl (by kernel_rfl) (by kernel_rfl) rfl (RoV.cells hrq ((keysTo s at_).length % ps.length * 3) (fun j u hu => picksV_at ps _ _ hpk j u hu) (Nat.succ_pos _)) ?_)
        refine wl_gv rfl (gv_stA (k := 0) (vs := [.int .i64 ((pickAt ps (keysTo s at_).length).1), .int .i64 ((pickAt ps (keysTo s at_).length).2.1), .int .i64 ((pickAt ps (keysTo s at_).length).2.2)]) S16 0 rfl rfl (by kernel_rfl) (by kernel_rfl) (by kernel_rfl) rfl (by simp [Value.oneCell']) (Nat.le_of_ble_eq_true (by kernel_rfl)) (L' := (row g11 #[.int .i64 ((pickAt ps (keysTo s at_).length).1), .int .i64 ((pickAt ps (keysTo s at_).length).2.1), .int .i64 ((pickAt ps (keysTo s at_).length).2.2)] 66 :: vec 31 1 (.slice A1 CC.length c1) CC.length (CC.map PEnt.val) :: row g #[.slice (some ⟨gl, 0, none⟩) LL.length cl, .slice A2 PP.length c2, .int .i64 s.left, .int .i64 s.life, .int .i64 s.rd, .int .i64 s.wr, .int .i64 s.fl, .int .i64 s.rf, .int .i64 0] 96 :: row gl ((LL.map PEnt.val ++ junk).toArray) 31 :: vec 99 2 (.slice A2 PP.length c2) PP.length (putsV PP) :: stars (pool2.map PEnt.row) :: vec 99 2 v FF.length (putsV FF) :: L)) rfl (fun w18 S19 => ?_))
        refine wl_end (fr [pq g, .slice A n c, ud, ud, iv (((keysTo s at_).length : Nat) : Int), v, iv ((at_ : Nat) : Int), .slice A1 CC.length c1, pq g11, ud, pq g, pq g, po g 1, .slice A2 PP.length c2, iv (PP.length : Nat), tv, iv ((at_ : Nat) : Int), pq g, pq g, pq g, sl gl 0 LL.length cl, iv (LL.length : Nat), tv, J 23, J 24, pq g, iv ((at_ : Nat) : Int), .slice A1 CC.length c1, .slice A1 CC.length c1, iv (CC.length : Nat), fv, .agg #[iv 0, iv 0, iv 0], .slice A n c, iv (n : Nat), tv, .slice A n c, iv (((keysTo s at_).length : Nat) : Int), .slice A n c, iv (n : Nat), iv (((keysTo s at_).length % ps.length : Nat) : Int), .pointer (some (ad.add (((keysTo s at_).length % ps.length) * 3))), .agg #[iv ((pickAt ps (keysTo s at_).length).1), iv ((pickAt ps (keysTo s at_).length).2.1), iv ((pickAt ps (keysTo s at_).length).2.2)], J 42, J 43, J 44, J 45, J 46, J 47, J 48, J 49, J 50, J 51] 34) (by kernel_rfl) ?_
        refine then_n ?_
        refine wp_seq ?_
        refine wp_region_lit ?_
        refine pv v ?_
        refine pv (iv ((at_ : Nat) : Int)) ?_
        refine pv (.slice A1 CC.length c1) ?_
        refine wl_gv rfl (gv_ldA (k := 0) (n := 3) (vs := [.int .i64 ((pickAt ps (keysTo s at_).length).1), .int .i64 ((pickAt ps (keysTo s at_).length).2.1), .int .i64 ((pickAt ps (keysTo s at_).length).2.2)]) S19 0 rfl rfl (by kernel_rfl) (by kernel_rfl) rfl rfl ?_)
        refine wl_gv rfl (gv_call (args := #[.slice A1 CC.length c1, .agg #[.int .i64 ((pickAt ps (keysTo s at_).length).1), .int .i64 ((pickAt ps (keysTo s at_).length).2.1), .int .i64 ((pickAt ps (keysTo s at_).length).2.2)]]) rfl Try.func80 (by kernel_rfl) rfl rfl (by kernel_rfl) ?_)
        have S23 : St F w0 w18 (vec 31 1 (.slice A1 CC.length c1) CC.length (CC.map PEnt.val) :: stars (pool2.map PEnt.row) :: row g11 #[.int .i64 ((pickAt ps (keysTo s at_).length).1), .int .i64 ((pickAt ps (keysTo s at_).length).2.1), .int .i64 ((pickAt ps (keysTo s at_).length).2.2)] 66 :: row g #[.slice (some ⟨gl, 0, none⟩) LL.length cl, .slice A2 PP.length c2, .int .i64 s.left, .int .i64 s.life, .int .i64 s.rd, .int .i64 s.wr, .int .i64 s.fl, .int .i64 s.rf, .int .i64 0] 96 :: row gl ((LL.map PEnt.val ++ junk).toArray) 31 :: vec 99 2 (.slice A2 PP.length c2) PP.length (putsV PP) :: vec 99 2 v FF.length (putsV FF) :: L) := St.permT [row g11 #[.int .i64 ((pickAt ps (keysTo s at_).length).1), .int .i64 ((pickAt ps (keysTo s at_).length).2.1), .int .i64 ((pickAt ps (keysTo s at_).length).2.2)] 66, vec 31 1 (.slice A1 CC.length c1) CC.length (CC.map PEnt.val), row g #[.slice (some ⟨gl, 0, none⟩) LL.length cl, .slice A2 PP.length c2, .int .i64 s.left, .int .i64 s.life, .int .i64 s.rd, .int .i64 s.wr, .int .i64 s.fl, .int .i64 s.rf, .int .i64 0] 96, row gl ((LL.map PEnt.val ++ junk).toArray) 31, vec 99 2 (.slice A2 PP.length c2) PP.length (putsV PP), stars (pool2.map PEnt.row), vec 99 2 v FF.length (putsV FF)] [1, 5, 0, 2, 3, 4, 6] (by decide) rfl S19
        refine Calls.mono (rtorn S23 hCp hC5 (by omega) (by omega)) ?_
        rintro _ w20 ⟨g22, rfl, S21⟩
        rw [hCC] at S21
        refine ⟨_, rfl, ?_⟩
        change St F w0 w20 (row g22 (bvs (tornS (candS s at_) (pickAt ps (keysTo s at_).length))) 5 :: vec 31 1 (.slice A1 CC.length c1) CC.length (CC.map PEnt.val) :: stars (pool2.map PEnt.row) :: row g11 #[.int .i64 ((pickAt ps (keysTo s at_).length).1), .int .i64 ((pickAt ps (keysTo s at_).length).2.1), .int .i64 ((pickAt ps (keysTo s at_).length).2.2)] 66 :: row g #[.slice (some ⟨gl, 0, none⟩) LL.length cl, .slice A2 PP.length c2, .int .i64 s.left, .int .i64 s.life, .int .i64 s.rd, .int .i64 s.wr, .int .i64 s.fl, .int .i64 s.rf, .int .i64 0] 96 :: row gl ((LL.map PEnt.val ++ junk).toArray) 31 :: vec 99 2 (.slice A2 PP.length c2) PP.length (putsV PP) :: vec 99 2 v FF.length (putsV FF) :: L) at S21
        refine pv (.agg #[iv ((at_ : Nat) : Int), sl g22 0 512 512]) ?_
        refine wl_gv rfl (gv_slit (e := 99) (sz := 2) (z := .agg #[.int .i64 0, .slice none 0 0]) (by_ := 32) (vs := #[(0, .agg #[.int .i64 ((at_ : Nat) : Int), .slice (some ⟨g22, 0, none⟩) 512 512])]) (cells := #[.int .i64 ((at_ : Nat) : Int), .slice (some ⟨g22, 0, none⟩) 512 512]) S21 rfl (by kernel_rfl) ⟨by kernel_rfl⟩ (by kernel_rfl) (by kernel_rfl) (by kernel_rfl) (by kernel_rfl) (fun g24 w25 hg26 S27 => ?_))
        have S28 : St F w0 w25 (row g24 #[.int .i64 ((at_ : Nat) : Int), .slice (some ⟨g22, 0, none⟩) 512 512] 99 :: vec 99 2 v FF.length (putsV FF) :: row g22 (bvs (tornS (candS s at_) (pickAt ps (keysTo s at_).length))) 5 :: vec 31 1 (.slice A1 CC.length c1) CC.length (CC.map PEnt.val) :: stars (pool2.map PEnt.row) :: row g11 #[.int .i64 ((pickAt ps (keysTo s at_).length).1), .int .i64 ((pickAt ps (keysTo s at_).length).2.1), .int .i64 ((pickAt ps (keysTo s at_).length).2.2)] 66 :: row g #[.slice (some ⟨gl, 0, none⟩) LL.length cl, .slice A2 PP.length c2, .int .i64 s.left, .int .i64 s.life, .int .i64 s.rd, .int .i64 s.wr, .int .i64 s.fl, .int .i64 s.rf, .int .i64 0] 96 :: row gl ((LL.map PEnt.val ++ junk).toArray) 31 :: vec 99 2 (.slice A2 PP.length c2) PP.length (putsV PP) :: L) := St.permT [row g24 #[.int .i64 ((at_ : Nat) : Int), .slice (some ⟨g22, 0, none⟩) 512 512] 99, row g22 (bvs (tornS (candS s at_) (pickAt ps (keysTo s at_).length))) 5, vec 31 1 (.slice A1 CC.length c1) CC.length (CC.map PEnt.val), stars (pool2.map PEnt.row), row g11 #[.int .i64 ((pickAt ps (keysTo s at_).length).1), .int .i64 ((pickAt ps (keysTo s at_).length).2.1), .int .i64 ((pickAt ps (keysTo s at_).length).2.2)] 66, row g #[.slice (some ⟨gl, 0, none⟩) LL.length cl, .slice A2 PP.length c2, .int .i64 s.left, .int .i64 s.life, .int .i64 s.rd, .int .i64 s.wr, .int .i64 s.fl, .int .i64 s.rf, .int .i64 0] 96, row gl ((LL.map PEnt.val ++ junk).toArray) 31, vec 99 2 (.slice A2 PP.length c2) PP.length (putsV PP), vec 99 2 v FF.length (putsV FF)] [0, 8, 1, 2, 3, 4, 5, 6, 7] (by decide) rfl S27
        refine wl_gv rfl (gv_append (e := 99) (sz := 2) (n := FF.length) (v := v) (vals := (putsV FF)) (z := .agg #[.int .i64 0, .slice none 0 0]) (by_ := 32) (m := 1) (c' := 1) (ad := ⟨g24, 0, none⟩) (news := [.int .i64 ((at_ : Nat) : Int), .slice (some ⟨g22, 0, none⟩) 512 512]) (St.swap S28) rfl (by kernel_rfl) ⟨by kernel_rfl⟩ rfl (by kernel_rfl) (by kernel_rfl) (by decide) rfl (row_news (S28.blk 0 rfl)) (by intro u hu; simp at hu; rcases hu with rfl | rfl <;> rfl) (by omega) (by omega) (fun v30 w29 S31 => ?_))
        refine pv v30 ?_
        refine wl_end (fr [pq g, .slice A n c, ud, ud, iv (((keysTo s at_).length : Nat) : Int), v30, iv ((at_ : Nat) : Int), .slice A1 CC.length c1, pq g11, ud, pq g, pq g, po g 1, .slice A2 PP.length c2, iv (PP.length : Nat), tv, iv ((at_ : Nat) : Int), pq g, pq g, pq g, sl gl 0 LL.length cl, iv (LL.length : Nat), tv, J 23, J 24, pq g, iv ((at_ : Nat) : Int), .slice A1 CC.length c1, .slice A1 CC.length c1, iv (CC.length : Nat), fv, .agg #[iv 0, iv 0, iv 0], .slice A n c, iv (n : Nat), tv, .slice A n c, iv (((keysTo s at_).length : Nat) : Int), .slice A n c, iv (n : Nat), iv (((keysTo s at_).length % ps.length : Nat) : Int), .pointer (some (ad.add (((keysTo s at_).length % ps.length) * 3))), .agg #[iv ((pickAt ps (keysTo s at_).length).1), iv ((pickAt ps (keysTo s at_).length).2.1), iv ((pickAt ps (keysTo s at_).length).2.2)], v, iv ((at_ : Nat) : Int), .slice A1 CC.length c1, .agg #[iv ((pickAt ps (keysTo s at_).length).1), iv ((pickAt ps (keysTo s at_).length).2.1), iv ((pickAt ps (keysTo s at_).length).2.2)], sl g22 0 512 512, .agg #[iv ((at_ : Nat) : Int), sl g22 0 512 512], sl g24 0 1 1, v30, J 50, J 51] 34) (by kernel_rfl) ?_
        refine then_n ?_
        refine wp_region_lit ?_
        refine pv (iv (((keysTo s at_).length : Nat) : Int)) ?_
        refine wl_gv rfl (gv_int (k := .i64) (z := IntKind.i64.wrap ((((keysTo s at_).length : Nat) : Int) + 1)) (z' := (((keysTo s at_).length + 1 : Nat) : Int)) (by kernel_rfl) (wr_eq (by omega) (by omega) (by omega)) ?_)
        refine pv (iv (((keysTo s at_).length + 1 : Nat) : Int)) ?_
        refine wl_end (fr [pq g, .slice A n c, ud, ud, iv (((keysTo s at_).length + 1 : Nat) : Int), v30, iv ((at_ : Nat) : Int), .slice A1 CC.length c1, pq g11, ud, pq g, pq g, po g 1, .slice A2 PP.length c2, iv (PP.length : Nat), tv, iv ((at_ : Nat) : Int), pq g, pq g, pq g, sl gl 0 LL.length cl, iv (LL.length : Nat), tv, J 23, J 24, pq g, iv ((at_ : Nat) : Int), .slice A1 CC.length c1, .slice A1 CC.length c1, iv (CC.length : Nat), fv, .agg #[iv 0, iv 0, iv 0], .slice A n c, iv (n : Nat), tv, .slice A n c, iv (((keysTo s at_).length : Nat) : Int), .slice A n c, iv (n : Nat), iv (((keysTo s at_).length % ps.length : Nat) : Int), .pointer (some (ad.add (((keysTo s at_).length % ps.length) * 3))), .agg #[iv ((pickAt ps (keysTo s at_).length).1), iv ((pickAt ps (keysTo s at_).length).2.1), iv ((pickAt ps (keysTo s at_).length).2.2)], v, iv ((at_ : Nat) : Int), .slice A1 CC.length c1, .agg #[iv ((pickAt ps (keysTo s at_).length).1), iv ((pickAt ps (keysTo s at_).length).2.1), iv ((pickAt ps (keysTo s at_).length).2.2)], sl g22 0 512 512, .agg #[iv ((at_ : Nat) : Int), sl g22 0 512 512], sl g24 0 1 1, v30, iv (((keysTo s at_).length : Nat) : Int), iv (((keysTo s at_).length + 1 : Nat) : Int)] 34) (by kernel_rfl) ?_
        refine inb_n ?_
        refine then_n ?_
        refine wp_region_lit ?_
        refine pv (iv ((at_ : Nat) : Int)) ?_
        refine wl_gv rfl (gv_int (k := .i64) (z := IntKind.i64.wrap (((at_ : Nat) : Int) + 1)) (z' := ((at_ + 1 : Nat) : Int)) (by kernel_rfl) (wr_eq (by omega) (by omega) (by omega)) ?_)
        refine pv (iv ((at_ + 1 : Nat) : Int)) ?_
        refine wl_end (fr [pq g, .slice A n c, ud, ud, iv (((keysTo s at_).length + 1 : Nat) : Int), v30, iv ((at_ + 1 : Nat) : Int), .slice A1 CC.length c1, pq g11, ud, pq g, pq g, po g 1, .slice A2 PP.length c2, iv (PP.length : Nat), tv, iv ((at_ : Nat) : Int), pq g, pq g, pq g, sl gl 0 LL.length cl, iv (LL.length : Nat), tv, iv ((at_ : Nat) : Int), iv ((at_ + 1 : Nat) : Int), pq g, iv ((at_ : Nat) : Int), .slice A1 CC.length c1, .slice A1 CC.length c1, iv (CC.length : Nat), fv, .agg #[iv 0, iv 0, iv 0], .slice A n c, iv (n : Nat), tv, .slice A n c, iv (((keysTo s at_).length : Nat) : Int), .slice A n c, iv (n : Nat), iv (((keysTo s at_).length % ps.length : Nat) : Int), .pointer (some (ad.add (((keysTo s at_).length % ps.length) * 3))), .agg #[iv ((pickAt ps (keysTo s at_).length).1), iv ((pickAt ps (keysTo s at_).length).2.1), iv ((pickAt ps (keysTo s at_).length).2.2)], v, iv ((at_ : Nat) : Int), .slice A1 CC.length c1, .agg #[iv ((pickAt ps (keysTo s at_).length).1), iv ((pickAt ps (keysTo s at_).length).2.1), iv ((pickAt ps (keysTo s at_).length).2.2)], sl g22 0 512 512, .agg #[iv ((at_ : Nat) : Int), sl g22 0 512 512], sl g24 0 1 1, v30, iv (((keysTo s at_).length : Nat) : Int), iv (((keysTo s at_).length + 1 : Nat) : Int)] 34) (by kernel_rfl) ?_
        refine then_n ?_
        have S32 : St F w0 w29 (row g22 (bvs (tornS (candS s at_) (pickAt ps (keysTo s at_).length))) 5 :: stars (pool2.map PEnt.row) :: row g #[.slice (some ⟨gl, 0, none⟩) LL.length cl, .slice A2 PP.length c2, .int .i64 s.left, .int .i64 s.life, .int .i64 s.rd, .int .i64 s.wr, .int .i64 s.fl, .int .i64 s.rf, .int .i64 0] 96 :: row gl ((LL.map PEnt.val ++ junk).toArray) 31 :: vec 99 2 (.slice A2 PP.length c2) PP.length (putsV PP) :: vec 99 2 v30 (FF.length + 1) (putsV FF ++ [.int .i64 ((at_ : Nat) : Int), .slice (some ⟨g22, 0, none⟩) 512 512]) :: L) := St.permT [vec 99 2 v30 (FF.length + 1) (putsV FF ++ [.int .i64 ((at_ : Nat) : Int), .slice (some ⟨g22, 0, none⟩) 512 512]), row g24 #[.int .i64 ((at_ : Nat) : Int), .slice (some ⟨g22, 0, none⟩) 512 512] 99, row g22 (bvs (tornS (candS s at_) (pickAt ps (keysTo s at_).length))) 5, vec 31 1 (.slice A1 CC.length c1) CC.length (CC.map PEnt.val), stars (pool2.map PEnt.row), row g11 #[.int .i64 ((pickAt ps (keysTo s at_).length).1), .int .i64 ((pickAt ps (keysTo s at_).length).2.1), .int .i64 ((pickAt ps (keysTo s at_).length).2.2)] 66, row g #[.slice (some ⟨gl, 0, none⟩) LL.length cl, .slice A2 PP.length c2, .int .i64 s.left, .int .i64 s.life, .int .i64 s.rd, .int .i64 s.wr, .int .i64 s.fl, .int .i64 s.rf, .int .i64 0] 96, row gl ((LL.map PEnt.val ++ junk).toArray) 31, vec 99 2 (.slice A2 PP.length c2) PP.length (putsV PP)] [2, 4, 6, 7, 8, 0] (by decide) rfl S31
        have S33 : St F w0 w29 (stars (((g22, tornS (candS s at_) (pickAt ps (keysTo s at_).length)) :: pool2).map PEnt.row) :: row g #[.slice (some ⟨gl, 0, none⟩) LL.length cl, .slice A2 PP.length c2, .int .i64 s.left, .int .i64 s.life, .int .i64 s.rd, .int .i64 s.wr, .int .i64 s.fl, .int .i64 s.rf, .int .i64 0] 96 :: row gl ((LL.map PEnt.val ++ junk).toArray) 31 :: vec 99 2 (.slice A2 PP.length c2) PP.length (putsV PP) :: vec 99 2 v30 (FF.length + 1) (putsV FF ++ [.int .i64 ((at_ : Nat) : Int), .slice (some ⟨g22, 0, none⟩) 512 512]) :: L) := St.pool_add S32
        have S34 : St F w0 w29 (row g #[.slice (some ⟨gl, 0, none⟩) LL.length cl, .slice A2 PP.length c2, .int .i64 s.left, .int .i64 s.life, .int .i64 s.rd, .int .i64 s.wr, .int .i64 s.fl, .int .i64 s.rf, .int .i64 0] 96 :: row gl ((LL.map PEnt.val ++ junk).toArray) 31 :: vec 99 2 (.slice A2 PP.length c2) PP.length (putsV PP) :: stars (((g22, tornS (candS s at_) (pickAt ps (keysTo s at_).length)) :: pool2).map PEnt.row) :: vec 99 2 v30 (FF.length + 1) (putsV FF ++ [.int .i64 ((at_ : Nat) : Int), .slice (some ⟨g22, 0, none⟩) 512 512]) :: L) := St.permT [stars (((g22, tornS (candS s at_) (pickAt ps (keysTo s at_).length)) :: pool2).map PEnt.row), row g #[.slice (some ⟨gl, 0, none⟩) LL.length cl, .slice A2 PP.length c2, .int .i64 s.left, .int .i64 s.life, .int .i64 s.rd, .int .i64 s.wr, .int .i64 s.fl, .int .i64 s.rf, .int .i64 0] 96, row gl ((LL.map PEnt.val ++ junk).toArray) 31, vec 99 2 (.slice A2 PP.length c2) PP.length (putsV PP), vec 99 2 v30 (FF.length + 1) (putsV FF ++ [.int .i64 ((at_ : Nat) : Int), .slice (some ⟨g22, 0, none⟩) 512 512])] [1, 2, 3, 0, 4] (by decide) rfl S33
        have hv9 : putsV FF ++ [.int .i64 ((at_ : Nat) : Int), .slice (some ⟨g22, 0, none⟩) 512 512] = putsV (FF ++ [((g22, at_, tornS (candS s at_) (pickAt ps (keysTo s at_).length)) : RPut)]) := putsV_snoc FF ((g22, at_, tornS (candS s at_) (pickAt ps (keysTo s at_).length)) : RPut)
        have hn9 : FF.length + 1 = (FF ++ [((g22, at_, tornS (candS s at_) (pickAt ps (keysTo s at_).length)) : RPut)]).length := by rw [List.length_append]; rfl
        rw [hv9, hn9] at S34
        exact ⟨(at_ + 1, v30, FF ++ [((g22, at_, tornS (candS s at_) (pickAt ps (keysTo s at_).length)) : RPut)], (g22, tornS (candS s at_) (pickAt ps (keysTo s at_).length)) :: pool2), ⟨(jl [ud, ud, ud, ud, ud, ud, ud, .slice A1 CC.length c1, pq g11, ud, ud, ud, ud, ud, ud, ud, iv ((at_ : Nat) : Int), pq g, pq g, pq g, sl gl 0 LL.length cl, iv (LL.length : Nat), tv, iv ((at_ : Nat) : Int), iv ((at_ + 1 : Nat) : Int), pq g, iv ((at_ : Nat) : Int), .slice A1 CC.length c1, .slice A1 CC.length c1, iv (CC.length : Nat), fv, .agg #[iv 0, iv 0, iv 0], .slice A n c, iv (n : Nat), tv, .slice A n c, iv (((keysTo s at_).length : Nat) : Int), .slice A n c, iv (n : Nat), iv (((keysTo s at_).length % ps.length : Nat) : Int), .pointer (some (ad.add (((keysTo s at_).length % ps.length) * 3))), .agg #[iv ((pickAt ps (keysTo s at_).length).1), iv ((pickAt ps (keysTo s at_).length).2.1), iv ((pickAt ps (keysTo s at_).length).2.2)], v, iv ((at_ : Nat) : Int), .slice A1 CC.length c1, .agg #[iv ((pickAt ps (keysTo s at_).length).1), iv ((pickAt ps (keysTo s at_).length).2.1), iv ((pickAt ps (keysTo s at_).length).2.2)], sl g22 0 512 512, .agg #[iv ((at_ : Nat) : Int), sl g22 0 512 512], sl g24 0 1 1, v30, iv (((keysTo s at_).length : Nat) : Int), iv (((keysTo s at_).length + 1 : Nat) : Int)]), (Eq.trans (b := (fr [pq g, .slice A n c, ud, ud, iv (((keysTo s at_).length + 1 : Nat) : Int), v30, iv ((at_ + 1 : Nat) : Int), .slice A1 CC.length c1, pq g11, ud, pq g, pq g, po g 1, .slice A2 PP.length c2, iv (PP.length : Nat), tv, iv ((at_ : Nat) : Int), pq g, pq g, pq g, sl gl 0 LL.length cl, iv (LL.length : Nat), tv, iv ((at_ : Nat) : Int), iv ((at_ + 1 : Nat) : Int), pq g, iv ((at_ : Nat) : Int), .slice A1 CC.length c1, .slice A1 CC.length c1, iv (CC.length : Nat), fv, .agg #[iv 0, iv 0, iv 0], .slice A n c, iv (n : Nat), tv, .slice A n c, iv (((keysTo s at_).length : Nat) : Int), .slice A n c, iv (n : Nat), iv (((keysTo s at_).length % ps.length : Nat) : Int), .pointer (some (ad.add (((keysTo s at_).length % ps.length) * 3))), .agg #[iv ((pickAt ps (keysTo s at_).length).1), iv ((pickAt ps (keysTo s at_).length).2.1), iv ((pickAt ps (keysTo s at_).length).2.2)], v, iv ((at_ : Nat) : Int), .slice A1 CC.length c1, .agg #[iv ((pickAt ps (keysTo s at_).length).1), iv ((pickAt ps (keysTo s at_).length).2.1), iv ((pickAt ps (keysTo s at_).length).2.2)], sl g22 0 512 512, .agg #[iv ((at_ : Nat) : Int), sl g22 0 512 512], sl g24 0 1 1, v30, iv (((keysTo s at_).length : Nat) : Int), iv (((keysTo s at_).length + 1 : Nat) : Int)] 34)) (by kernel_rfl) (Eq.trans (b := (fr [pq g, .slice A n c, ud, ud, iv (((keysTo s (at_ + 1)).length : Nat) : Int), v30, iv ((at_ + 1 : Nat) : Int), .slice A1 CC.length c1, pq g11, ud, pq g, pq g, po g 1, .slice A2 PP.length c2, iv (PP.length : Nat), tv, iv ((at_ : Nat) : Int), pq g, pq g, pq g, sl gl 0 LL.length cl, iv (LL.length : Nat), tv, iv ((at_ : Nat) : Int), iv ((at_ + 1 : Nat) : Int), pq g, iv ((at_ : Nat) : Int), .slice A1 CC.length c1, .slice A1 CC.length c1, iv (CC.length : Nat), fv, .agg #[iv 0, iv 0, iv 0], .slice A n c, iv (n : Nat), tv, .slice A n c, iv (((keysTo s at_).length : Nat) : Int), .slice A n c, iv (n : Nat), iv (((keysTo s at_).length % ps.length : Nat) : Int), .pointer (some (ad.add (((keysTo s at_).length % ps.length) * 3))), .agg #[iv ((pickAt ps (keysTo s at_).length).1), iv ((pickAt ps (keysTo s at_).length).2.1), iv ((pickAt ps (keysTo s at_).length).2.2)], v, iv ((at_ : Nat) : Int), .slice A1 CC.length c1, .agg #[iv ((pickAt ps (keysTo s at_).length).1), iv ((pickAt ps (keysTo s at_).length).2.1), iv ((pickAt ps (keysTo s at_).length).2.2)], sl g22 0 512 512, .agg #[iv ((at_ : Nat) : Int), sl g22 0 512 512], sl g24 0 1 1, v30, iv (((keysTo s at_).length : Nat) : Int), iv (((keysTo s at_).length + 1 : Nat) : Int)] 34)) (congrArg (fun z_ : Nat => (fr [pq g, .slice A n c, ud, ud, iv ((z_ : Nat) : Int), v30, iv ((at_ + 1 : Nat) : Int), .slice A1 CC.length c1, pq g11, ud, pq g, pq g, po g 1, .slice A2 PP.length c2, iv (PP.length : Nat), tv, iv ((at_ : Nat) : Int), pq g, pq g, pq g, sl gl 0 LL.length cl, iv (LL.length : Nat), tv, iv ((at_ : Nat) : Int), iv ((at_ + 1 : Nat) : Int), pq g, iv ((at_ : Nat) : Int), .slice A1 CC.length c1, .slice A1 CC.length c1, iv (CC.length : Nat), fv, .agg #[iv 0, iv 0, iv 0], .slice A n c, iv (n : Nat), tv, .slice A n c, iv (((keysTo s at_).length : Nat) : Int), .slice A n c, iv (n : Nat), iv (((keysTo s at_).length % ps.length : Nat) : Int), .pointer (some (ad.add (((keysTo s at_).length % ps.length) * 3))), .agg #[iv ((pickAt ps (keysTo s at_).length).1), iv ((pickAt ps (keysTo s at_).length).2.1), iv ((pickAt ps (keysTo s at_).length).2.2)], v, iv ((at_ : Nat) : Int), .slice A1 CC.length c1, .agg #[iv ((pickAt ps (keysTo s at_).length).1), iv ((pickAt ps (keysTo s at_).length).2.1), iv ((pickAt ps (keysTo s at_).length).2.2)], sl g22 0 512 512, .agg #[iv ((at_ : Nat) : Int), sl g22 0 512 512], sl g24 0 1 1, v30, iv (((keysTo s at_).length : Nat) : Int), iv (((keysTo s at_).length + 1 : Nat) : Int)] 34)) (by rw [keys_in hp0, List.length_append]; rfl)) (by kernel_rfl))), S34, ⟨(by show at_ + 1 ≤ LL.length; omega), by rw [outs_in hp0, List.map_append, hI6.2.1]; rfl, hI6.2.2.1.more _, fun z hz => (List.mem_append.1 hz).elim (fun h => List.mem_cons_of_mem _ (hI6.2.2.2 z h)) (fun h => by rw [List.mem_singleton] at h; subst h; exact List.mem_cons_self)⟩⟩, (by show LL.length - (at_ + 1) < LL.length - at_; omega)⟩
      · skip
        have hpk : pickAt ps (keysTo s at_).length = (0, 0, 0) := if_pos (by omega)
        have S35 : St F w0 w15 (row g11 #[.int .i64 ((pickAt ps (keysTo s at_).length).1), .int .i64 ((pickAt ps (keysTo s at_).length).2.1), .int .i64 ((pickAt ps (keysTo s at_).length).2.2)] 66 :: vec 31 1 (.slice A1 CC.length c1) CC.length (CC.map PEnt.val) :: row g #[.slice (some ⟨gl, 0, none⟩) LL.length cl, .slice A2 PP.length c2, .int .i64 s.left, .int .i64 s.life, .int .i64 s.rd, .int .i64 s.wr, .int .i64 s.fl, .int .i64 s.rf, .int .i64 0] 96 :: row gl ((LL.map PEnt.val ++ junk).toArray) 31 :: vec 99 2 (.slice A2 PP.length c2) PP.length (putsV PP) :: stars (pool2.map PEnt.row) :: vec 99 2 v FF.length (putsV FF) :: L) := (by rw [hpk]; exact S16)
        refine wl_end (fr [pq g, .slice A n c, ud, ud, iv (((keysTo s at_).length : Nat) : Int), v, iv ((at_ : Nat) : Int), .slice A1 CC.length c1, pq g11, ud, pq g, pq g, po g 1, .slice A2 PP.length c2, iv (PP.length : Nat), tv, iv ((at_ : Nat) : Int), pq g, pq g, pq g, sl gl 0 LL.length cl, iv (LL.length : Nat), tv, J 23, J 24, pq g, iv ((at_ : Nat) : Int), .slice A1 CC.length c1, .slice A1 CC.length c1, iv (CC.length : Nat), fv, .agg #[iv 0, iv 0, iv 0], .slice A n c, iv (n : Nat), fv, J 35, J 36, J 37, J 38, J 39, J 40, J 41, J 42, J 43, J 44, J 45, J 46, J 47, J 48, J 49, J 50, J 51] 34) (by kernel_rfl) ?_
        refine then_n ?_
        refine wp_cond_false (by kernel_rfl) ?_
        refine wp_skip ?_
        refine then_n ?_
        refine wp_seq ?_
        refine wp_region_lit ?_
        refine pv v ?_
        refine pv (iv ((at_ : Nat) : Int)) ?_
        refine pv (.slice A1 CC.length c1) ?_
        refine wl_gv rfl (gv_ldA (k := 0) (n := 3) (vs := [.int .i64 ((pickAt ps (keysTo s at_).length).1), .int .i64 ((pickAt ps (keysTo s at_).length).2.1), .int .i64 ((pickAt ps (keysTo s at_).length).2.2)]) S35 0 rfl rfl (by kernel_rfl) (by kernel_rfl) rfl rfl ?_)
        refine wl_gv rfl (gv_call (args := #[.slice A1 CC.length c1, .agg #[.int .i64 ((pickAt ps (keysTo s at_).length).1), .int .i64 ((pickAt ps (keysTo s at_).length).2.1), .int .i64 ((pickAt ps (keysTo s at_).length).2.2)]]) rfl Try.func80 (by kernel_rfl) rfl rfl (by kernel_rfl) ?_)
        have S39 : St F w0 w15 (vec 31 1 (.slice A1 CC.length c1) CC.length (CC.map PEnt.val) :: stars (pool2.map PEnt.row) :: row g11 #[.int .i64 ((pickAt ps (keysTo s at_).length).1), .int .i64 ((pickAt ps (keysTo s at_).length).2.1), .int .i64 ((pickAt ps (keysTo s at_).length).2.2)] 66 :: row g #[.slice (some ⟨gl, 0, none⟩) LL.length cl, .slice A2 PP.length c2, .int .i64 s.left, .int .i64 s.life, .int .i64 s.rd, .int .i64 s.wr, .int .i64 s.fl, .int .i64 s.rf, .int .i64 0] 96 :: row gl ((LL.map PEnt.val ++ junk).toArray) 31 :: vec 99 2 (.slice A2 PP.length c2) PP.length (putsV PP) :: vec 99 2 v FF.length (putsV FF) :: L) := St.permT [row g11 #[.int .i64 ((pickAt ps (keysTo s at_).length).1), .int .i64 ((pickAt ps (keysTo s at_).length).2.1), .int .i64 ((pickAt ps (keysTo s at_).length).2.2)] 66, vec 31 1 (.slice A1 CC.length c1) CC.length (CC.map PEnt.val), row g #[.slice (some ⟨gl, 0, none⟩) LL.length cl, .slice A2 PP.length c2, .int .i64 s.left, .int .i64 s.life, .int .i64 s.rd, .int .i64 s.wr, .int .i64 s.fl, .int .i64 s.rf, .int .i64 0] 96, row gl ((LL.map PEnt.val ++ junk).toArray) 31, vec 99 2 (.slice A2 PP.length c2) PP.length (putsV PP), stars (pool2.map PEnt.row), vec 99 2 v FF.length (putsV FF)] [1, 5, 0, 2, 3, 4, 6] (by decide) rfl S35
        refine Calls.mono (rtorn S39 hCp hC5 (by omega) (by omega)) ?_
        rintro _ w36 ⟨g38, rfl, S37⟩
        rw [hCC] at S37
        refine ⟨_, rfl, ?_⟩
        change St F w0 w36 (row g38 (bvs (tornS (candS s at_) (pickAt ps (keysTo s at_).length))) 5 :: vec 31 1 (.slice A1 CC.length c1) CC.length (CC.map PEnt.val) :: stars (pool2.map PEnt.row) :: row g11 #[.int .i64 ((pickAt ps (keysTo s at_).length).1), .int .i64 ((pickAt ps (keysTo s at_).length).2.1), .int .i64 ((pickAt ps (keysTo s at_).length).2.2)] 66 :: row g #[.slice (some ⟨gl, 0, none⟩) LL.length cl, .slice A2 PP.length c2, .int .i64 s.left, .int .i64 s.life, .int .i64 s.rd, .int .i64 s.wr, .int .i64 s.fl, .int .i64 s.rf, .int .i64 0] 96 :: row gl ((LL.map PEnt.val ++ junk).toArray) 31 :: vec 99 2 (.slice A2 PP.length c2) PP.length (putsV PP) :: vec 99 2 v FF.length (putsV FF) :: L) at S37
        refine pv (.agg #[iv ((at_ : Nat) : Int), sl g38 0 512 512]) ?_
        refine wl_gv rfl (gv_slit (e := 99) (sz := 2) (z := .agg #[.int .i64 0, .slice none 0 0]) (by_ := 32) (vs := #[(0, .agg #[.int .i64 ((at_ : Nat) : Int), .slice (some ⟨g38, 0, none⟩) 512 512])]) (cells := #[.int .i64 ((at_ : Nat) : Int), .slice (some ⟨g38, 0, none⟩) 512 512]) S37 rfl (by kernel_rfl) ⟨by kernel_rfl⟩ (by kernel_rfl) (by kernel_rfl) (by kernel_rfl) (by kernel_rfl) (fun g40 w41 hg42 S43 => ?_))
        have S44 : St F w0 w41 (row g40 #[.int .i64 ((at_ : Nat) : Int), .slice (some ⟨g38, 0, none⟩) 512 512] 99 :: vec 99 2 v FF.length (putsV FF) :: row g38 (bvs (tornS (candS s at_) (pickAt ps (keysTo s at_).length))) 5 :: vec 31 1 (.slice A1 CC.length c1) CC.length (CC.map PEnt.val) :: stars (pool2.map PEnt.row) :: row g11 #[.int .i64 ((pickAt ps (keysTo s at_).length).1), .int .i64 ((pickAt ps (keysTo s at_).length).2.1), .int .i64 ((pickAt ps (keysTo s at_).length).2.2)] 66 :: row g #[.slice (some ⟨gl, 0, none⟩) LL.length cl, .slice A2 PP.length c2, .int .i64 s.left, .int .i64 s.life, .int .i64 s.rd, .int .i64 s.wr, .int .i64 s.fl, .int .i64 s.rf, .int .i64 0] 96 :: row gl ((LL.map PEnt.val ++ junk).toArray) 31 :: vec 99 2 (.slice A2 PP.length c2) PP.length (putsV PP) :: L) := St.permT [row g40 #[.int .i64 ((at_ : Nat) : Int), .slice (some ⟨g38, 0, none⟩) 512 512] 99, row g38 (bvs (tornS (candS s at_) (pickAt ps (keysTo s at_).length))) 5, vec 31 1 (.slice A1 CC.length c1) CC.length (CC.map PEnt.val), stars (pool2.map PEnt.row), row g11 #[.int .i64 ((pickAt ps (keysTo s at_).length).1), .int .i64 ((pickAt ps (keysTo s at_).length).2.1), .int .i64 ((pickAt ps (keysTo s at_).length).2.2)] 66, row g #[.slice (some ⟨gl, 0, none⟩) LL.length cl, .slice A2 PP.length c2, .int .i64 s.left, .int .i64 s.life, .int .i64 s.rd, .int .i64 s.wr, .int .i64 s.fl, .int .i64 s.rf, .int .i64 0] 96, row gl ((LL.map PEnt.val ++ junk).toArray) 31, vec 99 2 (.slice A2 PP.length c2) PP.length (putsV PP), vec 99 2 v FF.length (putsV FF)] [0, 8, 1, 2, 3, 4, 5, 6, 7] (by decide) rfl S43
        refine wl_gv rfl (gv_append (e := 99) (sz := 2) (n := FF.length) (v := v) (vals := (putsV FF)) (z := .agg #[.int .i64 0, .slice none 0 0]) (by_ := 32) (m := 1) (c' := 1) (ad := ⟨g40, 0, none⟩) (news := [.int .i64 ((at_ : Nat) : Int), .slice (some ⟨g38, 0, none⟩) 512 512]) (St.swap S44) rfl (by kernel_rfl) ⟨by kernel_rfl⟩ rfl (by kernel_rfl) (by kernel_rfl) (by decide) rfl (row_news (S44.blk 0 rfl)) (by intro u hu; simp at hu; rcases hu with rfl | rfl <;> rfl) (by omega) (by omega) (fun v46 w45 S47 => ?_))
        refine pv v46 ?_
        refine wl_end (fr [pq g, .slice A n c, ud, ud, iv (((keysTo s at_).length : Nat) : Int), v46, iv ((at_ : Nat) : Int), .slice A1 CC.length c1, pq g11, ud, pq g, pq g, po g 1, .slice A2 PP.length c2, iv (PP.length : Nat), tv, iv ((at_ : Nat) : Int), pq g, pq g, pq g, sl gl 0 LL.length cl, iv (LL.length : Nat), tv, J 23, J 24, pq g, iv ((at_ : Nat) : Int), .slice A1 CC.length c1, .slice A1 CC.length c1, iv (CC.length : Nat), fv, .agg #[iv 0, iv 0, iv 0], .slice A n c, iv (n : Nat), fv, J 35, J 36, J 37, J 38, J 39, J 40, J 41, v, iv ((at_ : Nat) : Int), .slice A1 CC.length c1, .agg #[iv ((pickAt ps (keysTo s at_).length).1), iv ((pickAt ps (keysTo s at_).length).2.1), iv ((pickAt ps (keysTo s at_).length).2.2)], sl g38 0 512 512, .agg #[iv ((at_ : Nat) : Int), sl g38 0 512 512], sl g40 0 1 1, v46, J 50, J 51] 34) (by kernel_rfl) ?_
        refine then_n ?_
        refine wp_region_lit ?_
        refine pv (iv (((keysTo s at_).length : Nat) : Int)) ?_
        refine wl_gv rfl (gv_int (k := .i64) (z := IntKind.i64.wrap ((((keysTo s at_).length : Nat) : Int) + 1)) (z' := (((keysTo s at_).length + 1 : Nat) : Int)) (by kernel_rfl) (wr_eq (by omega) (by omega) (by omega)) ?_)
        refine pv (iv (((keysTo s at_).length + 1 : Nat) : Int)) ?_
        refine wl_end (fr [pq g, .slice A n c, ud, ud, iv (((keysTo s at_).length + 1 : Nat) : Int), v46, iv ((at_ : Nat) : Int), .slice A1 CC.length c1, pq g11, ud, pq g, pq g, po g 1, .slice A2 PP.length c2, iv (PP.length : Nat), tv, iv ((at_ : Nat) : Int), pq g, pq g, pq g, sl gl 0 LL.length cl, iv (LL.length : Nat), tv, J 23, J 24, pq g, iv ((at_ : Nat) : Int), .slice A1 CC.length c1, .slice A1 CC.length c1, iv (CC.length : Nat), fv, .agg #[iv 0, iv 0, iv 0], .slice A n c, iv (n : Nat), fv, J 35, J 36, J 37, J 38, J 39, J 40, J 41, v, iv ((at_ : Nat) : Int), .slice A1 CC.length c1, .agg #[iv ((pickAt ps (keysTo s at_).length).1), iv ((pickAt ps (keysTo s at_).length).2.1), iv ((pickAt ps (keysTo s at_).length).2.2)], sl g38 0 512 512, .agg #[iv ((at_ : Nat) : Int), sl g38 0 512 512], sl g40 0 1 1, v46, iv (((keysTo s at_).length : Nat) : Int), iv (((keysTo s at_).length + 1 : Nat) : Int)] 34) (by kernel_rfl) ?_
        refine inb_n ?_
        refine then_n ?_
        refine wp_region_lit ?_
        refine pv (iv ((at_ : Nat) : Int)) ?_
        refine wl_gv rfl (gv_int (k := .i64) (z := IntKind.i64.wrap (((at_ : Nat) : Int) + 1)) (z' := ((at_ + 1 : Nat) : Int)) (by kernel_rfl) (wr_eq (by omega) (by omega) (by omega)) ?_)
        refine pv (iv ((at_ + 1 : Nat) : Int)) ?_
        refine wl_end (fr [pq g, .slice A n c, ud, ud, iv (((keysTo s at_).length + 1 : Nat) : Int), v46, iv ((at_ + 1 : Nat) : Int), .slice A1 CC.length c1, pq g11, ud, pq g, pq g, po g 1, .slice A2 PP.length c2, iv (PP.length : Nat), tv, iv ((at_ : Nat) : Int), pq g, pq g, pq g, sl gl 0 LL.length cl, iv (LL.length : Nat), tv, iv ((at_ : Nat) : Int), iv ((at_ + 1 : Nat) : Int), pq g, iv ((at_ : Nat) : Int), .slice A1 CC.length c1, .slice A1 CC.length c1, iv (CC.length : Nat), fv, .agg #[iv 0, iv 0, iv 0], .slice A n c, iv (n : Nat), fv, J 35, J 36, J 37, J 38, J 39, J 40, J 41, v, iv ((at_ : Nat) : Int), .slice A1 CC.length c1, .agg #[iv ((pickAt ps (keysTo s at_).length).1), iv ((pickAt ps (keysTo s at_).length).2.1), iv ((pickAt ps (keysTo s at_).length).2.2)], sl g38 0 512 512, .agg #[iv ((at_ : Nat) : Int), sl g38 0 512 512], sl g40 0 1 1, v46, iv (((keysTo s at_).length : Nat) : Int), iv (((keysTo s at_).length + 1 : Nat) : Int)] 34) (by kernel_rfl) ?_
        refine then_n ?_
        have S48 : St F w0 w45 (row g38 (bvs (tornS (candS s at_) (pickAt ps (keysTo s at_).length))) 5 :: stars (pool2.map PEnt.row) :: row g #[.slice (some ⟨gl, 0, none⟩) LL.length cl, .slice A2 PP.length c2, .int .i64 s.left, .int .i64 s.life, .int .i64 s.rd, .int .i64 s.wr, .int .i64 s.fl, .int .i64 s.rf, .int .i64 0] 96 :: row gl ((LL.map PEnt.val ++ junk).toArray) 31 :: vec 99 2 (.slice A2 PP.length c2) PP.length (putsV PP) :: vec 99 2 v46 (FF.length + 1) (putsV FF ++ [.int .i64 ((at_ : Nat) : Int), .slice (some ⟨g38, 0, none⟩) 512 512]) :: L) := St.permT [vec 99 2 v46 (FF.length + 1) (putsV FF ++ [.int .i64 ((at_ : Nat) : Int), .slice (some ⟨g38, 0, none⟩) 512 512]), row g40 #[.int .i64 ((at_ : Nat) : Int), .slice (some ⟨g38, 0, none⟩) 512 512] 99, row g38 (bvs (tornS (candS s at_) (pickAt ps (keysTo s at_).length))) 5, vec 31 1 (.slice A1 CC.length c1) CC.length (CC.map PEnt.val), stars (pool2.map PEnt.row), row g11 #[.int .i64 ((pickAt ps (keysTo s at_).length).1), .int .i64 ((pickAt ps (keysTo s at_).length).2.1), .int .i64 ((pickAt ps (keysTo s at_).length).2.2)] 66, row g #[.slice (some ⟨gl, 0, none⟩) LL.length cl, .slice A2 PP.length c2, .int .i64 s.left, .int .i64 s.life, .int .i64 s.rd, .int .i64 s.wr, .int .i64 s.fl, .int .i64 s.rf, .int .i64 0] 96, row gl ((LL.map PEnt.val ++ junk).toArray) 31, vec 99 2 (.slice A2 PP.length c2) PP.length (putsV PP)] [2, 4, 6, 7, 8, 0] (by decide) rfl S47
        have S49 : St F w0 w45 (stars (((g38, tornS (candS s at_) (pickAt ps (keysTo s at_).length)) :: pool2).map PEnt.row) :: row g #[.slice (some ⟨gl, 0, none⟩) LL.length cl, .slice A2 PP.length c2, .int .i64 s.left, .int .i64 s.life, .int .i64 s.rd, .int .i64 s.wr, .int .i64 s.fl, .int .i64 s.rf, .int .i64 0] 96 :: row gl ((LL.map PEnt.val ++ junk).toArray) 31 :: vec 99 2 (.slice A2 PP.length c2) PP.length (putsV PP) :: vec 99 2 v46 (FF.length + 1) (putsV FF ++ [.int .i64 ((at_ : Nat) : Int), .slice (some ⟨g38, 0, none⟩) 512 512]) :: L) := St.pool_add S48
        have S50 : St F w0 w45 (row g #[.slice (some ⟨gl, 0, none⟩) LL.length cl, .slice A2 PP.length c2, .int .i64 s.left, .int .i64 s.life, .int .i64 s.rd, .int .i64 s.wr, .int .i64 s.fl, .int .i64 s.rf, .int .i64 0] 96 :: row gl ((LL.map PEnt.val ++ junk).toArray) 31 :: vec 99 2 (.slice A2 PP.length c2) PP.length (putsV PP) :: stars (((g38, tornS (candS s at_) (pickAt ps (keysTo s at_).length)) :: pool2).map PEnt.row) :: vec 99 2 v46 (FF.length + 1) (putsV FF ++ [.int .i64 ((at_ : Nat) : Int), .slice (some ⟨g38, 0, none⟩) 512 512]) :: L) := St.permT [stars (((g38, tornS (candS s at_) (pickAt ps (keysTo s at_).length)) :: pool2).map PEnt.row), row g #[.slice (some ⟨gl, 0, none⟩) LL.length cl, .slice A2 PP.length c2, .int .i64 s.left, .int .i64 s.life, .int .i64 s.rd, .int .i64 s.wr, .int .i64 s.fl, .int .i64 s.rf, .int .i64 0] 96, row gl ((LL.map PEnt.val ++ junk).toArray) 31, vec 99 2 (.slice A2 PP.length c2) PP.length (putsV PP), vec 99 2 v46 (FF.length + 1) (putsV FF ++ [.int .i64 ((at_ : Nat) : Int), .slice (some ⟨g38, 0, none⟩) 512 512])] [1, 2, 3, 0, 4] (by decide) rfl S49
        have hv9 : putsV FF ++ [.int .i64 ((at_ : Nat) : Int), .slice (some ⟨g38, 0, none⟩) 512 512] = putsV (FF ++ [((g38, at_, tornS (candS s at_) (pickAt ps (keysTo s at_).length)) : RPut)]) := putsV_snoc FF ((g38, at_, tornS (candS s at_) (pickAt ps (keysTo s at_).length)) : RPut)
        have hn9 : FF.length + 1 = (FF ++ [((g38, at_, tornS (candS s at_) (pickAt ps (keysTo s at_).length)) : RPut)]).length := by rw [List.length_append]; rfl
        rw [hv9, hn9] at S50
        exact ⟨(at_ + 1, v46, FF ++ [((g38, at_, tornS (candS s at_) (pickAt ps (keysTo s at_).length)) : RPut)], (g38, tornS (candS s at_) (pickAt ps (keysTo s at_).length)) :: pool2), ⟨(jl [ud, ud, ud, ud, ud, ud, ud, .slice A1 CC.length c1, pq g11, ud, ud, ud, ud, ud, ud, ud, iv ((at_ : Nat) : Int), pq g, pq g, pq g, sl gl 0 LL.length cl, iv (LL.length : Nat), tv, iv ((at_ : Nat) : Int), iv ((at_ + 1 : Nat) : Int), pq g, iv ((at_ : Nat) : Int), .slice A1 CC.length c1, .slice A1 CC.length c1, iv (CC.length : Nat), fv, .agg #[iv 0, iv 0, iv 0], .slice A n c, iv (n : Nat), fv, J 35, J 36, J 37, J 38, J 39, J 40, J 41, v, iv ((at_ : Nat) : Int), .slice A1 CC.length c1, .agg #[iv ((pickAt ps (keysTo s at_).length).1), iv ((pickAt ps (keysTo s at_).length).2.1), iv ((pickAt ps (keysTo s at_).length).2.2)], sl g38 0 512 512, .agg #[iv ((at_ : Nat) : Int), sl g38 0 512 512], sl g40 0 1 1, v46, iv (((keysTo s at_).length : Nat) : Int), iv (((keysTo s at_).length + 1 : Nat) : Int)]), (Eq.trans (b := (fr [pq g, .slice A n c, ud, ud, iv (((keysTo s at_).length + 1 : Nat) : Int), v46, iv ((at_ + 1 : Nat) : Int), .slice A1 CC.length c1, pq g11, ud, pq g, pq g, po g 1, .slice A2 PP.length c2, iv (PP.length : Nat), tv, iv ((at_ : Nat) : Int), pq g, pq g, pq g, sl gl 0 LL.length cl, iv (LL.length : Nat), tv, iv ((at_ : Nat) : Int), iv ((at_ + 1 : Nat) : Int), pq g, iv ((at_ : Nat) : Int), .slice A1 CC.length c1, .slice A1 CC.length c1, iv (CC.length : Nat), fv, .agg #[iv 0, iv 0, iv 0], .slice A n c, iv (n : Nat), fv, J 35, J 36, J 37, J 38, J 39, J 40, J 41, v, iv ((at_ : Nat) : Int), .slice A1 CC.length c1, .agg #[iv ((pickAt ps (keysTo s at_).length).1), iv ((pickAt ps (keysTo s at_).length).2.1), iv ((pickAt ps (keysTo s at_).length).2.2)], sl g38 0 512 512, .agg #[iv ((at_ : Nat) : Int), sl g38 0 512 512], sl g40 0 1 1, v46, iv (((keysTo s at_).length : Nat) : Int), iv (((keysTo s at_).length + 1 : Nat) : Int)] 34)) (by kernel_rfl) (Eq.trans (b := (fr [pq g, .slice A n c, ud, ud, iv (((keysTo s (at_ + 1)).length : Nat) : Int), v46, iv ((at_ + 1 : Nat) : Int), .slice A1 CC.length c1, pq g11, ud, pq g, pq g, po g 1, .slice A2 PP.length c2, iv (PP.length : Nat), tv, iv ((at_ : Nat) : Int), pq g, pq g, pq g, sl gl 0 LL.length cl, iv (LL.length : Nat), tv, iv ((at_ : Nat) : Int), iv ((at_ + 1 : Nat) : Int), pq g, iv ((at_ : Nat) : Int), .slice A1 CC.length c1, .slice A1 CC.length c1, iv (CC.length : Nat), fv, .agg #[iv 0, iv 0, iv 0], .slice A n c, iv (n : Nat), fv, J 35, J 36, J 37, J 38, J 39, J 40, J 41, v, iv ((at_ : Nat) : Int), .slice A1 CC.length c1, .agg #[iv ((pickAt ps (keysTo s at_).length).1), iv ((pickAt ps (keysTo s at_).length).2.1), iv ((pickAt ps (keysTo s at_).length).2.2)], sl g38 0 512 512, .agg #[iv ((at_ : Nat) : Int), sl g38 0 512 512], sl g40 0 1 1, v46, iv (((keysTo s at_).length : Nat) : Int), iv (((keysTo s at_).length + 1 : Nat) : Int)] 34)) (congrArg (fun z_ : Nat => (fr [pq g, .slice A n c, ud, ud, iv ((z_ : Nat) : Int), v46, iv ((at_ + 1 : Nat) : Int), .slice A1 CC.length c1, pq g11, ud, pq g, pq g, po g 1, .slice A2 PP.length c2, iv (PP.length : Nat), tv, iv ((at_ : Nat) : Int), pq g, pq g, pq g, sl gl 0 LL.length cl, iv (LL.length : Nat), tv, iv ((at_ : Nat) : Int), iv ((at_ + 1 : Nat) : Int), pq g, iv ((at_ : Nat) : Int), .slice A1 CC.length c1, .slice A1 CC.length c1, iv (CC.length : Nat), fv, .agg #[iv 0, iv 0, iv 0], .slice A n c, iv (n : Nat), fv, J 35, J 36, J 37, J 38, J 39, J 40, J 41, v, iv ((at_ : Nat) : Int), .slice A1 CC.length c1, .agg #[iv ((pickAt ps (keysTo s at_).length).1), iv ((pickAt ps (keysTo s at_).length).2.1), iv ((pickAt ps (keysTo s at_).length).2.2)], sl g38 0 512 512, .agg #[iv ((at_ : Nat) : Int), sl g38 0 512 512], sl g40 0 1 1, v46, iv (((keysTo s at_).length : Nat) : Int), iv (((keysTo s at_).length + 1 : Nat) : Int)] 34)) (by rw [keys_in hp0, List.length_append]; rfl)) (by kernel_rfl))), S50, ⟨(by show at_ + 1 ≤ LL.length; omega), by rw [outs_in hp0, List.map_append, hI6.2.1]; rfl, hI6.2.2.1.more _, fun z hz => (List.mem_append.1 hz).elim (fun h => List.mem_cons_of_mem _ (hI6.2.2.2 z h)) (fun h => by rw [List.mem_singleton] at h; subst h; exact List.mem_cons_self)⟩⟩, (by show LL.length - (at_ + 1) < LL.length - at_; omega)⟩
  · skip
    have hFo : FF.map (·.2) = crashOuts s ps := by rw [hI6.2.1, show at_ = s.last.length by omega]; rfl
    have hf2 := hI6.2.2.1
    have hFp := hI6.2.2.2
    have hFl : FF.length ≤ 2048 := by have := congrArg List.length hI6.2.1; rw [List.length_map, List.length_mapIdx] at this; have := keysTo_len s at_; omega
    have hFn : FF.length = (crashOuts s ps).length := by rw [← hFo, List.length_map]
    have ho5 := hf2.outs5 ps
    have hFx : ∀ i, i < FF.length → ∃ x, FF[i]? = some x ∧ x.ref ∈ pool2 ∧ (crashOuts s ps)[i]? = some x.2 ∧ x.2.1 < s.last.length := fun i hi => ⟨FF[i], List.getElem?_eq_getElem hi, hFp _ (List.getElem_mem hi), by rw [← hFo, List.getElem?_map, List.getElem?_eq_getElem hi]; rfl, (ho5 _ (by rw [← hFo]; exact List.mem_map.2 ⟨_, List.getElem_mem hi, rfl⟩)).2⟩
    obtain ⟨A3, c3, rfl⟩ := St.vec_v S5 4 rfl
    refine wl_end (fr [pq g, .slice A n c, ud, ud, iv (((keysTo s at_).length : Nat) : Int), .slice A3 FF.length c3, iv ((at_ : Nat) : Int), J 7, J 8, ud, pq g, pq g, po g 1, .slice A2 PP.length c2, iv (PP.length : Nat), tv, iv ((at_ : Nat) : Int), pq g, pq g, pq g, sl gl 0 LL.length cl, iv (LL.length : Nat), fv, J 23, J 24, J 25, J 26, J 27, J 28, J 29, J 30, J 31, J 32, J 33, J 34, J 35, J 36, J 37, J 38, J 39, J 40, J 41, J 42, J 43, J 44, J 45, J 46, J 47, J 48, J 49, J 50, J 51] 34) (by kernel_rfl) ?_
    refine then_n ?_
    refine wp_cond_false (by kernel_rfl) ?_
    refine wp_exit ?_
    refine then_x ?_
    refine then_x ?_
    refine inb_x ?_
    refine then_n ?_
    refine wp_seq ?_
    refine wp_seq ?_
    refine wp_region_lit ?_
    refine pv (iv 0) ?_
    refine wl_end (fr [pq g, .slice A n c, ud, ud, iv (((keysTo s at_).length : Nat) : Int), .slice A3 FF.length c3, iv ((at_ : Nat) : Int), J 7, J 8, iv 0, pq g, pq g, po g 1, .slice A2 PP.length c2, iv (PP.length : Nat), tv, iv ((at_ : Nat) : Int), pq g, pq g, pq g, sl gl 0 LL.length cl, iv (LL.length : Nat), fv, J 23, J 24, J 25, J 26, J 27, J 28, J 29, J 30, J 31, J 32, J 33, J 34, J 35, J 36, J 37, J 38, J 39, J 40, J 41, J 42, J 43, J 44, J 45, J 46, J 47, J 48, J 49, J 50, J 51] 34) (by kernel_rfl) ?_
    refine then_n ?_
    refine wp_block ?_
    refine wp_loop_g (G := Nat × List (Nat × List UInt8)) (fun (g_ : Nat × List (Nat × List UInt8)) (a_ : Act) (w_ : World) => ∃ J : Nat → Value, a_ = (fr [pq g, .slice A n c, ud, ud, iv (((keysTo s at_).length : Nat) : Int), .slice A3 FF.length c3, iv ((at_ : Nat) : Int), J 7, J 8, iv ((g_.1 : Nat) : Int), pq g, pq g, po g 1, .slice A2 PP.length c2, iv (PP.length : Nat), tv, iv ((at_ : Nat) : Int), pq g, pq g, pq g, sl gl 0 LL.length cl, iv (LL.length : Nat), fv, J 23, J 24, J 25, J 26, J 27, J 28, J 29, J 30, J 31, J 32, J 33, J 34, J 35, J 36, J 37, J 38, J 39, J 40, J 41, J 42, J 43, J 44, J 45, J 46, J 47, J 48, J 49, J 50, J 51, J 52, J 53, J 54, J 55, J 56, J 57, J 58, J 59, J 60, J 61, J 62, J 63, J 64, J 65, J 66, J 67, J 68, J 69, J 70, J 71, J 72] 13) ∧ St F w0 w_ (row g #[.slice (some ⟨gl, 0, none⟩) LL.length cl, .slice A2 PP.length c2, .int .i64 s.left, .int .i64 s.life, .int .i64 s.rd, .int .i64 s.wr, .int .i64 s.fl, .int .i64 s.rf, .int .i64 0] 96 :: row gl ((g_.2.map PEnt.val ++ junk).toArray) 31 :: vec 99 2 (.slice A2 PP.length c2) PP.length (putsV PP) :: stars (pool2.map PEnt.row) :: vec 99 2 (.slice A3 FF.length c3) FF.length (putsV FF) :: L) ∧ (g_.1 ≤ FF.length ∧ g_.2.map (·.2) = applyP s.last ((crashOuts s ps).take g_.1) ∧ (∀ x ∈ g_.2, x ∈ pool2))) (fun g_ => FF.length - g_.1) (0, LL) ⟨(jl [ud, ud, ud, ud, ud, ud, ud, J 7, J 8, ud, ud, ud, ud, ud, ud, ud, ud, ud, ud, ud, ud, ud, ud, J 23, J 24, J 25, J 26, J 27, J 28, J 29, J 30, J 31, J 32, J 33, J 34, J 35, J 36, J 37, J 38, J 39, J 40, J 41, J 42, J 43, J 44, J 45, J 46, J 47, J 48, J 49, J 50, J 51]), by kernel_rfl, S5, ⟨Nat.zero_le _, (by rw [List.take_zero]; exact hf2.last), hf2.lin⟩⟩ ?_
    rintro ⟨i, LL1⟩ a_ w51 ⟨J, rfl, S52, hI53⟩
    skip
    have S52 : St F w0 w51 (row g #[.slice (some ⟨gl, 0, none⟩) LL.length cl, .slice A2 PP.length c2, .int .i64 s.left, .int .i64 s.life, .int .i64 s.rd, .int .i64 s.wr, .int .i64 s.fl, .int .i64 s.rf, .int .i64 0] 96 :: row gl ((LL1.map PEnt.val ++ junk).toArray) 31 :: vec 99 2 (.slice A2 PP.length c2) PP.length (putsV PP) :: stars (pool2.map PEnt.row) :: vec 99 2 (.slice A3 FF.length c3) FF.length (putsV FF) :: L) := S52
    have hI53 : (i ≤ FF.length ∧ LL1.map (·.2) = applyP s.last ((crashOuts s ps).take i) ∧ (∀ x ∈ LL1, x ∈ pool2)) := hI53
    refine wp_seq ?_
    refine wp_seq ?_
    refine wp_region_lit ?_
    refine pv (iv ((i : Nat) : Int)) ?_
    refine pv (.slice A3 FF.length c3) ?_
    refine pv (iv (FF.length : Nat)) ?_
    refine wl_gv rfl (gv_dec (p := (((i : Nat) : Int) : Int) < (FF.length : Nat)) (by kernel_rfl) (fun hb54 => ?_) (fun hb54 => ?_))
    · skip
      obtain ⟨x, hx, hxp, hxs, hxk⟩ := hFx i (by omega)
      have hl1 := turn_len (LL := LL) hI53.2.1
      obtain ⟨ad2, hAd2, hrd⟩ := (St.vec_rd S52 4 rfl) (by rw [length_putsV]; omega)
      refine wl_end (fr [pq g, .slice A n c, ud, ud, iv (((keysTo s at_).length : Nat) : Int), .slice A3 FF.length c3, iv ((at_ : Nat) : Int), J 7, J 8, iv ((i : Nat) : Int), pq g, pq g, po g 1, .slice A2 PP.length c2, iv (PP.length : Nat), tv, iv ((at_ : Nat) : Int), pq g, pq g, pq g, sl gl 0 LL.length cl, iv (LL.length : Nat), fv, J 23, J 24, J 25, J 26, J 27, J 28, J 29, J 30, J 31, J 32, J 33, J 34, J 35, J 36, J 37, J 38, J 39, J 40, J 41, J 42, J 43, J 44, J 45, J 46, J 47, J 48, J 49, J 50, J 51, iv ((i : Nat) : Int), .slice A3 FF.length c3, iv (FF.length : Nat), tv, J 56, J 57, J 58, J 59, J 60, J 61, J 62, J 63, J 64, J 65, J 66, J 67, J 68, J 69, J 70, J 71, J 72] 13) (by kernel_rfl) ?_
      refine then_n ?_
      refine wp_cond_true (by kernel_rfl) ?_
      refine wp_skip ?_
      refine then_n ?_
      refine wp_seq ?_
      refine wp_block ?_
      refine wp_region_phu (γ := Unit) 14 [] (fun (c_ : Unit) (i_ : Nat) => (match i_ with | 0 => .pointer (some ⟨g, 0, none⟩) | 1 => .pointer (some ⟨g, 0, none⟩) | 2 => .pointer (some ⟨g, 0, none⟩) | 3 => .slice (some ⟨gl, 0, none⟩) LL.length cl | 4 => .slice A3 FF.length c3 | 5 => .int .i64 ((i : Nat) : Int) | 6 => .pointer (some (ad2.add (i * 2))) | 7 => .pointer (some (ad2.add (i * 2))) | 8 => .int .i64 ((x.2.1 : Nat) : Int) | 9 => .slice A3 FF.length c3 | 10 => .int .i64 ((i : Nat) : Int) | 11 => .pointer (some (ad2.add (i * 2))) | 12 => .pointer (some ((ad2.add (i * 2)).add 1)) | 13 => .slice (some ⟨x.1, 0, none⟩) 512 512 | _ => undef : Value)) (fun (c_ : Unit) (p_ : Nat) (w_ : World) => (match p_ with  | _ => St F w0 w_ (row g #[.slice (some ⟨gl, 0, none⟩) LL.length cl, .slice A2 PP.length c2, .int .i64 s.left, .int .i64 s.life, .int .i64 s.rd, .int .i64 s.wr, .int .i64 s.fl, .int .i64 s.rf, .int .i64 0] 96 :: row gl ((LL1.map PEnt.val ++ junk).toArray) 31 :: vec 99 2 (.slice A2 PP.length c2) PP.length (putsV PP) :: stars (pool2.map PEnt.row) :: vec 99 2 (.slice A3 FF.length c3) FF.length (putsV FF) :: L) : Prop)) () (by kernel_rfl) (by kernel_rfl) (by kernel_rfl) (by kernel_rfl) (S52.drew) ?_ ?_ ?_
      · intro i_ c_ p_ vals_ w1 hi_ hiE_ hp_ hk_ hu_ hPh_ hd_
        rcases i_ with _ | _ | _ | _ | _ | _ | _ | _ | _ | _ | _ | _ | _ | _ | i_
        · skip
          refine told_free rfl rfl (gv_env ((⟨Array.replicate 86 undef, []⟩ : Act).put (some 0) (.pointer (some ⟨g, 0, none⟩))) (by kernel_rfl) (xs := [.tmp 0]) (by kernel_rfl) (alike_cons (fill_past (by kernel_rfl) (by kernel_rfl)) alike_nil) (gv_val (v := .pointer (some ⟨g, 0, none⟩)) (w' := w1) (by kernel_rfl) ?_))
          exact ⟨rfl, rfl⟩
        · skip
          refine told_free rfl rfl (gv_env ((⟨Array.replicate 86 undef, []⟩ : Act).put (some 58) (.pointer (some ⟨g, 0, none⟩))) (by kernel_rfl) (xs := [.tmp 58]) (by kernel_rfl) (alike_cons (fill_at (k := 0) (by kernel_rfl) (by kernel_rfl) ((hd_ 0 (by kernel_rfl)).trans (by kernel_rfl))) alike_nil) (gv_val (v := .pointer (some ⟨g, 0, none⟩)) (w' := w1) (by kernel_rfl) ?_))
          exact ⟨rfl, rfl⟩
        · skip
          refine told_free rfl rfl (gv_env ((⟨Array.replicate 86 undef, []⟩ : Act).put (some 59) (.pointer (some ⟨g, 0, none⟩))) (by kernel_rfl) (xs := [.tmp 59]) (by kernel_rfl) (alike_cons (fill_at (k := 1) (by kernel_rfl) (by kernel_rfl) ((hd_ 1 (by kernel_rfl)).trans (by kernel_rfl))) alike_nil) (gv_val (v := .pointer (some ⟨g, 0, none⟩)) (w' := w1) (by kernel_rfl) ?_))
          exact ⟨rfl, rfl⟩
        · skip
          have S58 : St F w0 w1 (row g #[.slice (some ⟨gl, 0, none⟩) LL.length cl, .slice A2 PP.length c2, .int .i64 s.left, .int .i64 s.life, .int .i64 s.rd, .int .i64 s.wr, .int .i64 s.fl, .int .i64 s.rf, .int .i64 0] 96 :: row gl ((LL1.map PEnt.val ++ junk).toArray) 31 :: vec 99 2 (.slice A2 PP.length c2) PP.length (putsV PP) :: stars (pool2.map PEnt.row) :: vec 99 2 (.slice A3 FF.length c3) FF.length (putsV FF) :: L) := hPh_
          refine told_free rfl rfl (gv_env ((⟨Array.replicate 86 undef, []⟩ : Act).put (some 60) (.pointer (some ⟨g, 0, none⟩))) (by kernel_rfl) (xs := [.tmp 60]) (by kernel_rfl) (alike_cons (fill_at (k := 2) (by kernel_rfl) (by kernel_rfl) ((hd_ 2 (by kernel_rfl)).trans (by kernel_rfl))) alike_nil) (gv_ldR (v := .slice (some ⟨gl, 0, none⟩) LL.length cl) rfl (by kernel_rfl) (by kernel_rfl) (((S58.blk 0 rfl).cell 0).trans rfl) ?_))
          exact ⟨rfl, rfl⟩
        · skip
          refine told_free rfl rfl (gv_env ((⟨Array.replicate 86 undef, []⟩ : Act).put (some 5) (.slice A3 FF.length c3)) (by kernel_rfl) (xs := [.tmp 5]) (by kernel_rfl) (alike_cons (fill_past (by kernel_rfl) (by kernel_rfl)) alike_nil) (gv_val (v := .slice A3 FF.length c3) (w' := w1) (by kernel_rfl) ?_))
          exact ⟨rfl, rfl⟩
        · skip
          refine told_free rfl rfl (gv_env ((⟨Array.replicate 86 undef, []⟩ : Act).put (some 9) (.int .i64 ((i : Nat) : Int))) (by kernel_rfl) (xs := [.tmp 9]) (by kernel_rfl) (alike_cons (fill_past (by kernel_rfl) (by kernel_rfl)) alike_nil) (gv_val (v := .int .i64 ((i : Nat) : Int)) (w' := w1) (by kernel_rfl) ?_))
          exact ⟨rfl, rfl⟩
        · skip
          refine told_free rfl rfl (gv_env (((⟨Array.replicate 86 undef, []⟩ : Act).put (some 62) (.slice A3 FF.length c3)).put (some 63) (.int .i64 ((i : Nat) : Int))) (by kernel_rfl) (xs := [.tmp 62, .tmp 63]) (by kernel_rfl) (alike_cons (fill_at (k := 4) (by kernel_rfl) (by kernel_rfl) ((hd_ 4 (by kernel_rfl)).trans (by kernel_rfl))) (alike_cons (fill_at (k := 5) (by kernel_rfl) (by kernel_rfl) ((hd_ 5 (by kernel_rfl)).trans (by kernel_rfl))) alike_nil)) (gv_ixB (e := 99) (sz := 2) (n := FF.length) (c := c3) (i := ((i : Nat) : Int)) (k := .i64) (ad := ad2) (ad' := (ad2.add (i * 2))) (j := i) rfl (by kernel_rfl) (by kernel_rfl) (by rw [← hAd2]; kernel_rfl) (by kernel_rfl) rfl (by omega) rfl ?_))
          exact ⟨rfl, rfl⟩
        · skip
          refine told_free rfl rfl (gv_env ((⟨Array.replicate 86 undef, []⟩ : Act).put (some 64) (.pointer (some (ad2.add (i * 2))))) (by kernel_rfl) (xs := [.tmp 64]) (by kernel_rfl) (alike_cons (fill_at (k := 6) (by kernel_rfl) (by kernel_rfl) ((hd_ 6 (by kernel_rfl)).trans (by kernel_rfl))) alike_nil) (gv_val (v := .pointer (some (ad2.add (i * 2)))) (w' := w1) (by kernel_rfl) ?_))
          exact ⟨rfl, rfl⟩
        · skip
          have S63 : St F w0 w1 (row g #[.slice (some ⟨gl, 0, none⟩) LL.length cl, .slice A2 PP.length c2, .int .i64 s.left, .int .i64 s.life, .int .i64 s.rd, .int .i64 s.wr, .int .i64 s.fl, .int .i64 s.rf, .int .i64 0] 96 :: row gl ((LL1.map PEnt.val ++ junk).toArray) 31 :: vec 99 2 (.slice A2 PP.length c2) PP.length (putsV PP) :: stars (pool2.map PEnt.row) :: vec 99 2 (.slice A3 FF.length c3) FF.length (putsV FF) :: L) := hPh_
          refine told_free rfl rfl (gv_env ((⟨Array.replicate 86 undef, []⟩ : Act).put (some 65) (.pointer (some (ad2.add (i * 2))))) (by kernel_rfl) (xs := [.tmp 65]) (by kernel_rfl) (alike_cons (fill_at (k := 7) (by kernel_rfl) (by kernel_rfl) ((hd_ 7 (by kernel_rfl)).trans (by kernel_rfl))) alike_nil) (gv_ldR (v := .int .i64 ((x.2.1 : Nat) : Int)) rfl (by kernel_rfl) (by kernel_rfl) (put_at (rdv_at (St.vec_rd S63 4 rfl) hAd2 (by rw [length_putsV]; omega)) hx) ?_))
          exact ⟨rfl, rfl⟩
        · skip
          refine told_free rfl rfl (gv_env ((⟨Array.replicate 86 undef, []⟩ : Act).put (some 5) (.slice A3 FF.length c3)) (by kernel_rfl) (xs := [.tmp 5]) (by kernel_rfl) (alike_cons (fill_past (by kernel_rfl) (by kernel_rfl)) alike_nil) (gv_val (v := .slice A3 FF.length c3) (w' := w1) (by kernel_rfl) ?_))
          exact ⟨rfl, rfl⟩
        · skip
          refine told_free rfl rfl (gv_env ((⟨Array.replicate 86 undef, []⟩ : Act).put (some 9) (.int .i64 ((i : Nat) : Int))) (by kernel_rfl) (xs := [.tmp 9]) (by kernel_rfl) (alike_cons (fill_past (by kernel_rfl) (by kernel_rfl)) alike_nil) (gv_val (v := .int .i64 ((i : Nat) : Int)) (w' := w1) (by kernel_rfl) ?_))
          exact ⟨rfl, rfl⟩
        · skip
          refine told_free rfl rfl (gv_env (((⟨Array.replicate 86 undef, []⟩ : Act).put (some 67) (.slice A3 FF.length c3)).put (some 68) (.int .i64 ((i : Nat) : Int))) (by kernel_rfl) (xs := [.tmp 67, .tmp 68]) (by kernel_rfl) (alike_cons (fill_at (k := 9) (by kernel_rfl) (by kernel_rfl) ((hd_ 9 (by kernel_rfl)).trans (by kernel_rfl))) (alike_cons (fill_at (k := 10) (by kernel_rfl) (by kernel_rfl) ((hd_ 10 (by kernel_rfl)).trans (by kernel_rfl))) alike_nil)) (gv_ixB (e := 99) (sz := 2) (n := FF.length) (c := c3) (i := ((i : Nat) : Int)) (k := .i64) (ad := ad2) (ad' := (ad2.add (i * 2))) (j := i) rfl (by kernel_rfl) (by kernel_rfl) (by rw [← hAd2]; kernel_rfl) (by kernel_rfl) rfl (by omega) rfl ?_))
          exact ⟨rfl, rfl⟩
        · skip
          refine told_free rfl rfl (gv_env ((⟨Array.replicate 86 undef, []⟩ : Act).put (some 69) (.pointer (some (ad2.add (i * 2))))) (by kernel_rfl) (xs := [.tmp 69]) (by kernel_rfl) (alike_cons (fill_at (k := 11) (by kernel_rfl) (by kernel_rfl) ((hd_ 11 (by kernel_rfl)).trans (by kernel_rfl))) alike_nil) (gv_val (v := .pointer (some ((ad2.add (i * 2)).add 1))) (w' := w1) (by kernel_rfl) ?_))
          exact ⟨rfl, rfl⟩
        · skip
          have S68 : St F w0 w1 (row g #[.slice (some ⟨gl, 0, none⟩) LL.length cl, .slice A2 PP.length c2, .int .i64 s.left, .int .i64 s.life, .int .i64 s.rd, .int .i64 s.wr, .int .i64 s.fl, .int .i64 s.rf, .int .i64 0] 96 :: row gl ((LL1.map PEnt.val ++ junk).toArray) 31 :: vec 99 2 (.slice A2 PP.length c2) PP.length (putsV PP) :: stars (pool2.map PEnt.row) :: vec 99 2 (.slice A3 FF.length c3) FF.length (putsV FF) :: L) := hPh_
          refine told_free rfl rfl (gv_env ((⟨Array.replicate 86 undef, []⟩ : Act).put (some 70) (.pointer (some ((ad2.add (i * 2)).add 1)))) (by kernel_rfl) (xs := [.tmp 70]) (by kernel_rfl) (alike_cons (fill_at (k := 12) (by kernel_rfl) (by kernel_rfl) ((hd_ 12 (by kernel_rfl)).trans (by kernel_rfl))) alike_nil) (gv_ldR (v := PEnt.val x.ref) rfl (by kernel_rfl) (by kernel_rfl) (put_data (rdv_at (St.vec_rd S68 4 rfl) hAd2 (by rw [length_putsV]; omega)) hx) ?_))
          exact ⟨rfl, rfl⟩
        · exact absurd hi_ (by omega)
      · intro k_ c_ vals_ w1 hk_ hPh_ hd_
        exact absurd hk_ (Nat.not_lt_zero _)
      · intro c_ w1 hPh_
        have S69 : St F w0 w1 (row g #[.slice (some ⟨gl, 0, none⟩) LL.length cl, .slice A2 PP.length c2, .int .i64 s.left, .int .i64 s.life, .int .i64 s.rd, .int .i64 s.wr, .int .i64 s.fl, .int .i64 s.rf, .int .i64 0] 96 :: row gl ((LL1.map PEnt.val ++ junk).toArray) 31 :: vec 99 2 (.slice A2 PP.length c2) PP.length (putsV PP) :: stars (pool2.map PEnt.row) :: vec 99 2 (.slice A3 FF.length c3) FF.length (putsV FF) :: L) := hPh_
        refine wl_frame (fr [pq g, .slice A n c, ud, ud, iv (((keysTo s at_).length : Nat) : Int), .slice A3 FF.length c3, iv ((at_ : Nat) : Int), J 7, J 8, iv ((i : Nat) : Int), pq g, pq g, po g 1, .slice A2 PP.length c2, iv (PP.length : Nat), tv, iv ((at_ : Nat) : Int), pq g, pq g, pq g, sl gl 0 LL.length cl, iv (LL.length : Nat), fv, J 23, J 24, J 25, J 26, J 27, J 28, J 29, J 30, J 31, J 32, J 33, J 34, J 35, J 36, J 37, J 38, J 39, J 40, J 41, J 42, J 43, J 44, J 45, J 46, J 47, J 48, J 49, J 50, J 51, iv ((i : Nat) : Int), .slice A3 FF.length c3, iv (FF.length : Nat), tv, J 56, J 57, pq g, pq g, pq g, sl gl 0 LL.length cl, .slice A3 FF.length c3, iv ((i : Nat) : Int), .pointer (some (ad2.add (i * 2))), .pointer (some (ad2.add (i * 2))), iv ((x.2.1 : Nat) : Int), .slice A3 FF.length c3, iv ((i : Nat) : Int), .pointer (some (ad2.add (i * 2))), .pointer (some ((ad2.add (i * 2)).add 1)), sl x.1 0 512 512, J 72] 13) (by kernel_rfl) ?_
        refine wl_gv rfl (gv_ixE (e := 31) (sz := 1) (g := gl) (off := 0) (n := LL.length) (c := cl) (i := ((x.2.1 : Nat) : Int)) (k := .i64) (j := x.2.1) (off' := x.2.1) rfl (by kernel_rfl) (by kernel_rfl) (by kernel_rfl) (by kernel_rfl) rfl (by omega) (by omega) ?_)
        refine wl_gv rfl (gv_st (k := x.2.1) (v := PEnt.val x.ref) S69 1 rfl rfl (by kernel_rfl) (by kernel_rfl) (by kernel_rfl) rfl (ll_blt (by omega)) (L' := (row g #[.slice (some ⟨gl, 0, none⟩) LL.length cl, .slice A2 PP.length c2, .int .i64 s.left, .int .i64 s.life, .int .i64 s.rd, .int .i64 s.wr, .int .i64 s.fl, .int .i64 s.rf, .int .i64 0] 96 :: row gl (((LL1.set x.2.1 x.ref).map PEnt.val ++ junk).toArray) 31 :: vec 99 2 (.slice A2 PP.length c2) PP.length (putsV PP) :: stars (pool2.map PEnt.row) :: vec 99 2 (.slice A3 FF.length c3) FF.length (putsV FF) :: L)) (by rw [ll_set (by omega)]; rfl) (fun w70 S71 => ?_))
        refine wl_end (fr [pq g, .slice A n c, ud, ud, iv (((keysTo s at_).length : Nat) : Int), .slice A3 FF.length c3, iv ((at_ : Nat) : Int), J 7, J 8, iv ((i : Nat) : Int), pq g, pq g, po g 1, .slice A2 PP.length c2, iv (PP.length : Nat), tv, iv ((at_ : Nat) : Int), pq g, pq g, pq g, sl gl 0 LL.length cl, iv (LL.length : Nat), fv, J 23, J 24, J 25, J 26, J 27, J 28, J 29, J 30, J 31, J 32, J 33, J 34, J 35, J 36, J 37, J 38, J 39, J 40, J 41, J 42, J 43, J 44, J 45, J 46, J 47, J 48, J 49, J 50, J 51, iv ((i : Nat) : Int), .slice A3 FF.length c3, iv (FF.length : Nat), tv, J 56, J 57, pq g, pq g, pq g, sl gl 0 LL.length cl, .slice A3 FF.length c3, iv ((i : Nat) : Int), .pointer (some (ad2.add (i * 2))), .pointer (some (ad2.add (i * 2))), iv ((x.2.1 : Nat) : Int), .slice A3 FF.length c3, iv ((i : Nat) : Int), .pointer (some (ad2.add (i * 2))), .pointer (some ((ad2.add (i * 2)).add 1)), sl x.1 0 512 512, po gl x.2.1] 13) (by kernel_rfl) ?_
        refine inb_n ?_
        refine then_n ?_
        refine wp_region_lit ?_
        refine pv (iv ((i : Nat) : Int)) ?_
        refine wl_gv rfl (gv_int (k := .i64) (z := IntKind.i64.wrap (((i : Nat) : Int) + 1)) (z' := ((i + 1 : Nat) : Int)) (by kernel_rfl) (wr_eq (by omega) (by omega) (by omega)) ?_)
        refine pv (iv ((i + 1 : Nat) : Int)) ?_
        refine wl_end (fr [pq g, .slice A n c, ud, ud, iv (((keysTo s at_).length : Nat) : Int), .slice A3 FF.length c3, iv ((at_ : Nat) : Int), J 7, J 8, iv ((i + 1 : Nat) : Int), pq g, pq g, po g 1, .slice A2 PP.length c2, iv (PP.length : Nat), tv, iv ((at_ : Nat) : Int), pq g, pq g, pq g, sl gl 0 LL.length cl, iv (LL.length : Nat), fv, J 23, J 24, J 25, J 26, J 27, J 28, J 29, J 30, J 31, J 32, J 33, J 34, J 35, J 36, J 37, J 38, J 39, J 40, J 41, J 42, J 43, J 44, J 45, J 46, J 47, J 48, J 49, J 50, J 51, iv ((i : Nat) : Int), .slice A3 FF.length c3, iv (FF.length : Nat), tv, iv ((i : Nat) : Int), iv ((i + 1 : Nat) : Int), pq g, pq g, pq g, sl gl 0 LL.length cl, .slice A3 FF.length c3, iv ((i : Nat) : Int), .pointer (some (ad2.add (i * 2))), .pointer (some (ad2.add (i * 2))), iv ((x.2.1 : Nat) : Int), .slice A3 FF.length c3, iv ((i : Nat) : Int), .pointer (some (ad2.add (i * 2))), .pointer (some ((ad2.add (i * 2)).add 1)), sl x.1 0 512 512, po gl x.2.1] 13) (by kernel_rfl) ?_
        refine then_n ?_
        exact ⟨(i + 1, LL1.set x.2.1 x.ref), ⟨(jl [ud, ud, ud, ud, ud, ud, ud, J 7, J 8, ud, ud, ud, ud, ud, ud, ud, ud, ud, ud, ud, ud, ud, ud, J 23, J 24, J 25, J 26, J 27, J 28, J 29, J 30, J 31, J 32, J 33, J 34, J 35, J 36, J 37, J 38, J 39, J 40, J 41, J 42, J 43, J 44, J 45, J 46, J 47, J 48, J 49, J 50, J 51, iv ((i : Nat) : Int), .slice A3 FF.length c3, iv (FF.length : Nat), tv, iv ((i : Nat) : Int), iv ((i + 1 : Nat) : Int), pq g, pq g, pq g, sl gl 0 LL.length cl, .slice A3 FF.length c3, iv ((i : Nat) : Int), .pointer (some (ad2.add (i * 2))), .pointer (some (ad2.add (i * 2))), iv ((x.2.1 : Nat) : Int), .slice A3 FF.length c3, iv ((i : Nat) : Int), .pointer (some (ad2.add (i * 2))), .pointer (some ((ad2.add (i * 2)).add 1)), sl x.1 0 512 512, po gl x.2.1]), by kernel_rfl, S71, ⟨by omega, (by rw [List.take_add_one, hxs]; exact turn_one hI53.2.1), mem_set' hI53.2.2 hxp⟩⟩, (by show FF.length - (i + 1) < FF.length - i; omega)⟩
    · skip
      refine wl_end (fr [pq g, .slice A n c, ud, ud, iv (((keysTo s at_).length : Nat) : Int), .slice A3 FF.length c3, iv ((at_ : Nat) : Int), J 7, J 8, iv ((i : Nat) : Int), pq g, pq g, po g 1, .slice A2 PP.length c2, iv (PP.length : Nat), tv, iv ((at_ : Nat) : Int), pq g, pq g, pq g, sl gl 0 LL.length cl, iv (LL.length : Nat), fv, J 23, J 24, J 25, J 26, J 27, J 28, J 29, J 30, J 31, J 32, J 33, J 34, J 35, J 36, J 37, J 38, J 39, J 40, J 41, J 42, J 43, J 44, J 45, J 46, J 47, J 48, J 49, J 50, J 51, iv ((i : Nat) : Int), .slice A3 FF.length c3, iv (FF.length : Nat), fv, J 56, J 57, J 58, J 59, J 60, J 61, J 62, J 63, J 64, J 65, J 66, J 67, J 68, J 69, J 70, J 71, J 72] 13) (by kernel_rfl) ?_
      refine then_n ?_
      refine wp_cond_false (by kernel_rfl) ?_
      refine wp_exit ?_
      refine then_x ?_
      refine then_x ?_
      refine inb_x ?_
      refine then_n ?_
      refine wp_seq ?_
      refine wp_region_lit ?_
      refine pv (pq g) ?_
      refine pv (pq g) ?_
      refine pv (po g 1) ?_
      refine wl_gv rfl (gv_st (k := 1) (v := .slice none 0 0) S52 0 rfl rfl (by kernel_rfl) (by kernel_rfl) (by kernel_rfl) rfl rfl (L' := (row g #[.slice (some ⟨gl, 0, none⟩) LL.length cl, .slice none 0 0, .int .i64 s.left, .int .i64 s.life, .int .i64 s.rd, .int .i64 s.wr, .int .i64 s.fl, .int .i64 s.rf, .int .i64 0] 96 :: row gl ((LL1.map PEnt.val ++ junk).toArray) 31 :: vec 99 2 (.slice A2 PP.length c2) PP.length (putsV PP) :: stars (pool2.map PEnt.row) :: vec 99 2 (.slice A3 FF.length c3) FF.length (putsV FF) :: L)) rfl (fun w72 S73 => ?_))
      refine wl_end (fr [pq g, .slice A n c, ud, ud, iv (((keysTo s at_).length : Nat) : Int), .slice A3 FF.length c3, iv ((at_ : Nat) : Int), J 7, J 8, iv ((i : Nat) : Int), pq g, pq g, po g 1, .slice A2 PP.length c2, iv (PP.length : Nat), tv, iv ((at_ : Nat) : Int), pq g, pq g, pq g, sl gl 0 LL.length cl, iv (LL.length : Nat), fv, J 23, J 24, J 25, J 26, J 27, J 28, J 29, J 30, J 31, J 32, J 33, J 34, J 35, J 36, J 37, J 38, J 39, J 40, J 41, J 42, J 43, J 44, J 45, J 46, J 47, J 48, J 49, J 50, J 51, iv ((i : Nat) : Int), .slice A3 FF.length c3, iv (FF.length : Nat), fv, J 56, J 57, J 58, J 59, J 60, J 61, J 62, J 63, J 64, J 65, J 66, J 67, J 68, J 69, J 70, J 71, J 72, pq g, pq g, po g 1] 10) (by kernel_rfl) ?_
      refine then_n ?_
      refine wp_seq ?_
      refine wp_region_lit ?_
      refine pv (pq g) ?_
      refine pv (pq g) ?_
      refine pv (po g 2) ?_
      refine wl_gv rfl (gv_st (k := 2) (v := .int .i64 (-1)) S73 0 rfl rfl (by kernel_rfl) (by kernel_rfl) (by kernel_rfl) rfl rfl (L' := (row g #[.slice (some ⟨gl, 0, none⟩) LL.length cl, .slice none 0 0, .int .i64 (-1), .int .i64 s.life, .int .i64 s.rd, .int .i64 s.wr, .int .i64 s.fl, .int .i64 s.rf, .int .i64 0] 96 :: row gl ((LL1.map PEnt.val ++ junk).toArray) 31 :: vec 99 2 (.slice A2 PP.length c2) PP.length (putsV PP) :: stars (pool2.map PEnt.row) :: vec 99 2 (.slice A3 FF.length c3) FF.length (putsV FF) :: L)) rfl (fun w74 S75 => ?_))
      refine wl_end (fr [pq g, .slice A n c, ud, ud, iv (((keysTo s at_).length : Nat) : Int), .slice A3 FF.length c3, iv ((at_ : Nat) : Int), J 7, J 8, iv ((i : Nat) : Int), pq g, pq g, po g 1, .slice A2 PP.length c2, iv (PP.length : Nat), tv, iv ((at_ : Nat) : Int), pq g, pq g, pq g, sl gl 0 LL.length cl, iv (LL.length : Nat), fv, J 23, J 24, J 25, J 26, J 27, J 28, J 29, J 30, J 31, J 32, J 33, J 34, J 35, J 36, J 37, J 38, J 39, J 40, J 41, J 42, J 43, J 44, J 45, J 46, J 47, J 48, J 49, J 50, J 51, iv ((i : Nat) : Int), .slice A3 FF.length c3, iv (FF.length : Nat), fv, J 56, J 57, J 58, J 59, J 60, J 61, J 62, J 63, J 64, J 65, J 66, J 67, J 68, J 69, J 70, J 71, J 72, pq g, pq g, po g 1, pq g, pq g, po g 2] 7) (by kernel_rfl) ?_
      refine then_n ?_
      refine wp_region_lit ?_
      refine pv (pq g) ?_
      refine pv (pq g) ?_
      refine pv (po g 3) ?_
      refine wl_gv rfl (gv_ldR (v := .int .i64 s.life) rfl (by kernel_rfl) (by kernel_rfl) (((S75.blk 0 rfl).cell 3).trans rfl) ?_)
      refine pv (iv (inc s.life)) ?_
      refine pv (pq g) ?_
      refine pv (po g 3) ?_
      refine wl_gv rfl (gv_st (k := 3) (v := .int .i64 (inc s.life)) S75 0 rfl rfl (by kernel_rfl) (by kernel_rfl) (by kernel_rfl) rfl rfl (L' := (row g #[.slice (some ⟨gl, 0, none⟩) LL.length cl, .slice none 0 0, .int .i64 (-1), .int .i64 (inc s.life), .int .i64 s.rd, .int .i64 s.wr, .int .i64 s.fl, .int .i64 s.rf, .int .i64 0] 96 :: row gl ((LL1.map PEnt.val ++ junk).toArray) 31 :: vec 99 2 (.slice A2 PP.length c2) PP.length (putsV PP) :: stars (pool2.map PEnt.row) :: vec 99 2 (.slice A3 FF.length c3) FF.length (putsV FF) :: L)) rfl (fun w76 S77 => ?_))
      refine wl_end (fr [pq g, .slice A n c, ud, ud, iv (((keysTo s at_).length : Nat) : Int), .slice A3 FF.length c3, iv ((at_ : Nat) : Int), J 7, J 8, iv ((i : Nat) : Int), pq g, pq g, po g 1, .slice A2 PP.length c2, iv (PP.length : Nat), tv, iv ((at_ : Nat) : Int), pq g, pq g, pq g, sl gl 0 LL.length cl, iv (LL.length : Nat), fv, J 23, J 24, J 25, J 26, J 27, J 28, J 29, J 30, J 31, J 32, J 33, J 34, J 35, J 36, J 37, J 38, J 39, J 40, J 41, J 42, J 43, J 44, J 45, J 46, J 47, J 48, J 49, J 50, J 51, iv ((i : Nat) : Int), .slice A3 FF.length c3, iv (FF.length : Nat), fv, J 56, J 57, J 58, J 59, J 60, J 61, J 62, J 63, J 64, J 65, J 66, J 67, J 68, J 69, J 70, J 71, J 72, pq g, pq g, po g 1, pq g, pq g, po g 2, pq g, pq g, po g 3, iv s.life, iv (inc s.life), pq g, po g 3] 0) (by kernel_rfl) ?_
      refine bodyPost_end (v := .tuple #[]) (results_none rfl _ _ _) rfl ?_
      have S78 : St F w0 w76 (row g #[.slice (some ⟨gl, 0, none⟩) LL.length cl, .slice none 0 0, .int .i64 (-1), .int .i64 (inc s.life), .int .i64 s.rd, .int .i64 s.wr, .int .i64 s.fl, .int .i64 s.rf, .int .i64 0] 96 :: row gl ((LL1.map PEnt.val ++ junk).toArray) 31 :: stars (pool2.map PEnt.row) :: L) := St.permT [row g #[.slice (some ⟨gl, 0, none⟩) LL.length cl, .slice none 0 0, .int .i64 (-1), .int .i64 (inc s.life), .int .i64 s.rd, .int .i64 s.wr, .int .i64 s.fl, .int .i64 s.rf, .int .i64 0] 96, row gl ((LL1.map PEnt.val ++ junk).toArray) 31, vec 99 2 (.slice A2 PP.length c2) PP.length (putsV PP), stars (pool2.map PEnt.row), vec 99 2 (.slice A3 FF.length c3) FF.length (putsV FF)] [0, 1, 3] (by decide) rfl S77
      have htk : (crashOuts s ps).take i = crashOuts s ps := List.take_of_length_le (by omega)
      rw [htk] at hI53
      have hl1 : LL.length = LL1.length := by rw [turn_len (LL := LL) hI53.2.1]; exact hll
      rw [hl1] at S78
      have S9 := St.permT [_, _, _, _] [1, 2, 0, 3] (by decide) rfl (St.vec_nil (e := 99) (sz := 2) S78)
      exact ⟨rfl, St.rclose (gl := gl) (cl := cl) (c2 := 0) (A2 := none) (junk := junk) (LL := LL1) (PP := ([] : List RPut)) (pool := pool2) (s := s.crashR ps) S9 (hf2.turned (s' := s.crashR ps) hI53.2.1 (fun x hx => (ho5 x hx).1) hI53.2.2 rfl rfl (show (-1 : Int) ≤ -1 ∧ (-1 : Int) ≤ 9223372036854775807 by decide)) (by rw [← hl1]; exact hcl) (by rw [List.length_append, List.length_map, ← hl1]; rw [List.length_append, List.length_map] at hju; exact hju)⟩
end Go.Proofs
