/- Fuse, settle, Flush, New, Load of the program's disk. -/
import Derived.Test.YtefmefimhiedfaaHDskF
import Derived.Test.YtefmefimhiedfaaHDisk2
import Derived.Test.YtefmefimhiedfaaHReg
open Go Go.RowKit Go.Proofs.YtefmefimhiedfaaW.PrintWords Go.Proofs.YtefmefimhiedfaaW.PrintMore
namespace Go.Proofs
open Go.Vel
set_option linter.unusedVariables false
set_option maxRecDepth 100000
set_option maxHeartbeats 4000000
attribute [local irreducible] gives wpList Code.wp

def Dsk.fuseR (s : Dsk) (n : Int) : Dsk := if s.left = 0 then s else { s with left := if n < 0 then -1 else n }
theorem pd_fuse {n : Int} (hn : n ≤ 9223372036854775807) {F : Nat → Prop} {w0 w : World} {L : List Ast} {g : Nat} {s : Dsk} (S : St F w0 w (PDisk g s :: L)) : Calls Try.prog 40 #[.pointer (some ⟨g, 0, none⟩), .int .i64 n] w fun e w' => e = .returned (.tuple #[]) ∧ St F w0 w' (PDisk g (s.fuseR n) :: L) := by
  obtain ⟨gd, gm, clock, es, fused, left, hf, S⟩ := St.popen S
  have hn2 := hf.n2
  have hbu := hf.burnt
  by_cases hz : s.left = 0
  · have e : s.fuseR n = s := by unfold Dsk.fuseR; rw [if_pos hz]
    rw [e]
    have hb : (fused && decide (left = 0)) = true := by rw [hbu]; exact decide_eq_true hz
    change St F w0 w (row g #[.slice (some ⟨gd, 0, none⟩) (512 * s.last.length) (512 * s.last.length), .map (some gm), .bool fused, .int .i64 left, .int .i64 s.life, .int .i64 s.rd, .int .i64 s.wr, .int .i64 s.fl, .int .i64 s.rf, .int .i64 (s.pend.length : Int)] 87 :: row gd (bvs s.last.flatten) 5 :: pt gm (mapO (es.map PEnt.ent) clock) :: stars (es.map PEnt.ast) :: L) at S
    refine wp_enter (fr [pq g, iv n] 14) Try.func40 rfl (by kernel_rfl) ?_
    refine wp_seq ?_
    refine wp_seq ?_
    refine wp_region_lit ?_
    refine pv (pq g) ?_
    refine wl_gv rfl (gv_call (args := #[.pointer (some ⟨g, 0, none⟩)]) rfl Try.func22 (by kernel_rfl) rfl rfl (by kernel_rfl) ?_)
    refine Calls.mono (burnt_b (b := true) (S.blk 0 rfl) hb) ?_
    rintro _ _ ⟨rfl, rfl⟩
    refine ⟨_, rfl, ?_⟩
    refine wl_end (fr [pq g, iv n, ud, ud, pq g, tv] 10) (by kernel_rfl) ?_
    refine then_n ?_
    refine wp_cond_true (by kernel_rfl) ?_
    refine wp_ret ?_
    refine then_r ?_
    refine bodyPost_ret (v := .tuple #[]) (results_none rfl _ _ _) rfl ?_
    exact ⟨rfl, St.pclose (gd := gd) (gm := gm) (clock := clock) (es := es) (fused := fused) (left := left) (s := s) S (hf.congr rfl rfl rfl)⟩
  have hb : (fused && decide (left = 0)) = false := by rw [hbu]; exact decide_eq_false hz
  have e : s.fuseR n = { s with left := if n < 0 then -1 else n } := by unfold Dsk.fuseR; rw [if_neg hz]
  rw [e]
  by_cases hneg : n < 0
  · rw [if_pos hneg]
    change St F w0 w (row g #[.slice (some ⟨gd, 0, none⟩) (512 * s.last.length) (512 * s.last.length), .map (some gm), .bool fused, .int .i64 left, .int .i64 s.life, .int .i64 s.rd, .int .i64 s.wr, .int .i64 s.fl, .int .i64 s.rf, .int .i64 (s.pend.length : Int)] 87 :: row gd (bvs s.last.flatten) 5 :: pt gm (mapO (es.map PEnt.ent) clock) :: stars (es.map PEnt.ast) :: L) at S
    refine wp_enter (fr [pq g, iv n] 14) Try.func40 rfl (by kernel_rfl) ?_
    refine wp_seq ?_
    refine wp_seq ?_
    refine wp_region_lit ?_
    refine pv (pq g) ?_
    refine wl_gv rfl (gv_call (args := #[.pointer (some ⟨g, 0, none⟩)]) rfl Try.func22 (by kernel_rfl) rfl rfl (by kernel_rfl) ?_)
    refine Calls.mono (burnt_b (b := false) (S.blk 0 rfl) hb) ?_
    rintro _ _ ⟨rfl, rfl⟩
    refine ⟨_, rfl, ?_⟩
    refine wl_end (fr [pq g, iv n, ud, ud, pq g, fv] 10) (by kernel_rfl) ?_
    refine then_n ?_
    refine wp_cond_false (by kernel_rfl) ?_
    refine wp_skip ?_
    refine then_n ?_
    refine wp_seq ?_
    refine wp_region_lit ?_
    refine pv (pq g) ?_
    refine pv (iv n) ?_
    refine wl_gv rfl (gv_dec (p := (n : Int) ≥ 0) (by kernel_rfl) (fun hd1 => False.elim (by omega)) (fun _ => ?_))
    refine pv (pq g) ?_
    refine pv (po g 2) ?_
    refine wl_gv rfl (gv_st (k := 2) (v := .bool false) S 0 rfl rfl (by kernel_rfl) (by kernel_rfl) (by kernel_rfl) rfl rfl (L' := (row g #[.slice (some ⟨gd, 0, none⟩) (512 * s.last.length) (512 * s.last.length), .map (some gm), .bool false, .int .i64 left, .int .i64 s.life, .int .i64 s.rd, .int .i64 s.wr, .int .i64 s.fl, .int .i64 s.rf, .int .i64 (s.pend.length : Int)] 87 :: row gd (bvs s.last.flatten) 5 :: pt gm (mapO (es.map PEnt.ent) clock) :: stars (es.map PEnt.ast) :: L)) rfl (fun w2 S3 => ?_))
    refine wl_end (fr [pq g, iv n, ud, ud, pq g, fv, pq g, iv n, fv, pq g, po g 2] 5) (by kernel_rfl) ?_
    refine then_n ?_
    refine wp_region_lit ?_
    refine pv (pq g) ?_
    refine pv (iv n) ?_
    refine wl_gv rfl (gv_int (k := .i64) (z := if 0 > n then 0 else n) (z' := 0) (by kernel_rfl) (if_pos (by omega)) ?_)
    refine pv (pq g) ?_
    refine pv (po g 3) ?_
    refine wl_gv rfl (gv_st (k := 3) (v := .int .i64 0) S3 0 rfl rfl (by kernel_rfl) (by kernel_rfl) (by kernel_rfl) rfl rfl (L' := (row g #[.slice (some ⟨gd, 0, none⟩) (512 * s.last.length) (512 * s.last.length), .map (some gm), .bool false, .int .i64 0, .int .i64 s.life, .int .i64 s.rd, .int .i64 s.wr, .int .i64 s.fl, .int .i64 s.rf, .int .i64 (s.pend.length : Int)] 87 :: row gd (bvs s.last.flatten) 5 :: pt gm (mapO (es.map PEnt.ent) clock) :: stars (es.map PEnt.ast) :: L)) rfl (fun w4 S5 => ?_))
    refine wl_end (fr [pq g, iv n, ud, ud, pq g, fv, pq g, iv n, fv, pq g, po g 2, pq g, iv n, iv 0, pq g, po g 3] 0) (by kernel_rfl) ?_
    refine bodyPost_end (v := .tuple #[]) (results_none rfl _ _ _) rfl ?_
    exact ⟨rfl, St.pclose (gd := gd) (gm := gm) (clock := clock) (es := es) (fused := false) (left := 0) (s := { s with left := -1 }) S5 (hf.refuse rfl rfl rfl (fun h => absurd (show (0 : Int) ≤ -1 from h) (by decide)) (show (-1 : Int) ≤ -1 ∧ (-1 : Int) ≤ 9223372036854775807 by decide))⟩
  · rw [if_neg hneg]
    change St F w0 w (row g #[.slice (some ⟨gd, 0, none⟩) (512 * s.last.length) (512 * s.last.length), .map (some gm), .bool fused, .int .i64 left, .int .i64 s.life, .int .i64 s.rd, .int .i64 s.wr, .int .i64 s.fl, .int .i64 s.rf, .int .i64 (s.pend.length : Int)] 87 :: row gd (bvs s.last.flatten) 5 :: pt gm (mapO (es.map PEnt.ent) clock) :: stars (es.map PEnt.ast) :: L) at S
    refine wp_enter (fr [pq g, iv n] 14) Try.func40 rfl (by kernel_rfl) ?_
    refine wp_seq ?_
    refine wp_seq ?_
    refine wp_region_lit ?_
    refine pv (pq g) ?_
    refine wl_gv rfl (gv_call (args := #[.pointer (some ⟨g, 0, none⟩)]) rfl Try.func22 (by kernel_rfl) rfl rfl (by kernel_rfl) ?_)
    refine Calls.mono (burnt_b (b := false) (S.blk 0 rfl) hb) ?_
    rintro _ _ ⟨rfl, rfl⟩
    refine ⟨_, rfl, ?_⟩
    refine wl_end (fr [pq g, iv n, ud, ud, pq g, fv] 10) (by kernel_rfl) ?_
    refine then_n ?_
    refine wp_cond_false (by kernel_rfl) ?_
    refine wp_skip ?_
    refine then_n ?_
    refine wp_seq ?_
    refine wp_region_lit ?_
    refine pv (pq g) ?_
    refine pv (iv n) ?_
    refine wl_gv rfl (gv_dec (p := (n : Int) ≥ 0) (by kernel_rfl) (fun _ => ?_) (fun hd1 => False.elim (by omega)))
    refine pv (pq g) ?_
    refine pv (po g 2) ?_
    refine wl_gv rfl (gv_st (k := 2) (v := .bool true) S 0 rfl rfl (by kernel_rfl) (by kernel_rfl) (by kernel_rfl) rfl rfl (L' := (row g #[.slice (some ⟨gd, 0, none⟩) (512 * s.last.length) (512 * s.last.length), .map (some gm), .bool true, .int .i64 left, .int .i64 s.life, .int .i64 s.rd, .int .i64 s.wr, .int .i64 s.fl, .int .i64 s.rf, .int .i64 (s.pend.length : Int)] 87 :: row gd (bvs s.last.flatten) 5 :: pt gm (mapO (es.map PEnt.ent) clock) :: stars (es.map PEnt.ast) :: L)) rfl (fun w2 S3 => ?_))
    refine wl_end (fr [pq g, iv n, ud, ud, pq g, fv, pq g, iv n, tv, pq g, po g 2] 5) (by kernel_rfl) ?_
    refine then_n ?_
    refine wp_region_lit ?_
    refine pv (pq g) ?_
    refine pv (iv n) ?_
    refine wl_gv rfl (gv_int (k := .i64) (z := if 0 > n then 0 else n) (z' := n) (by kernel_rfl) (if_neg (by omega)) ?_)
    refine pv (pq g) ?_
    refine pv (po g 3) ?_
    refine wl_gv rfl (gv_st (k := 3) (v := .int .i64 n) S3 0 rfl rfl (by kernel_rfl) (by kernel_rfl) (by kernel_rfl) rfl rfl (L' := (row g #[.slice (some ⟨gd, 0, none⟩) (512 * s.last.length) (512 * s.last.length), .map (some gm), .bool true, .int .i64 n, .int .i64 s.life, .int .i64 s.rd, .int .i64 s.wr, .int .i64 s.fl, .int .i64 s.rf, .int .i64 (s.pend.length : Int)] 87 :: row gd (bvs s.last.flatten) 5 :: pt gm (mapO (es.map PEnt.ent) clock) :: stars (es.map PEnt.ast) :: L)) rfl (fun w4 S5 => ?_))
    refine wl_end (fr [pq g, iv n, ud, ud, pq g, fv, pq g, iv n, tv, pq g, po g 2, pq g, iv n, iv n, pq g, po g 3] 0) (by kernel_rfl) ?_
    refine bodyPost_end (v := .tuple #[]) (results_none rfl _ _ _) rfl ?_
    exact ⟨rfl, St.pclose (gd := gd) (gm := gm) (clock := clock) (es := es) (fused := true) (left := n) (s := { s with left := n }) S5 (hf.refuse rfl rfl (decide_eq_true (show (0 : Int) ≤ n by omega)).symm (fun _ => rfl) (show -1 ≤ n ∧ n ≤ 9223372036854775807 by omega))⟩
theorem settle_own {F : Nat → Prop} {w0 w : World} {L : List Ast} {g gd n c gm : Nat} {fused : Bool} {left life r wr fl rf pn : Int} {X : Ast} {es : List Ent} {clock : Nat} (S : St F w0 w (row g (dcells gd n c gm fused left life r wr fl rf pn) 87 :: X :: pt gm (mapO es clock) :: L)) :
    Calls Try.prog 73 #[.pointer (some ⟨g, 0, none⟩)] w fun e w' => e = .returned (.tuple #[]) ∧ St F w0 w' (row g (dcells gd n c gm fused left life r wr fl rf 0) 87 :: X :: pt gm (mapO [] clock) :: L) := by
  change St F w0 w (row g #[.slice (some ⟨gd, 0, none⟩) n c, .map (some gm), .bool fused, .int .i64 left, .int .i64 life, .int .i64 r, .int .i64 wr, .int .i64 fl, .int .i64 rf, .int .i64 pn] 87 :: X :: pt gm (mapO es clock) :: L) at S
  refine wp_enter (fr [pq g] 9) Try.func73 rfl (by kernel_rfl) ?_
  refine wp_seq ?_
  refine wp_region_lit ?_
  refine pv (pq g) ?_
  refine pv (pq g) ?_
  refine pv (po g 1) ?_
  refine wl_gv rfl (gv_ldR (v := .map (some gm)) rfl (by kernel_rfl) (by kernel_rfl) (((S.blk 0 rfl).cell 1).trans rfl) ?_)
  refine wl_gv rfl (gv_clear (kT := 3) (eT := 52) (g := gm) (clock := clock) (es := es) S 2 rfl rfl (by kernel_rfl) (by kernel_rfl) (L' := (row g #[.slice (some ⟨gd, 0, none⟩) n c, .map (some gm), .bool fused, .int .i64 left, .int .i64 life, .int .i64 r, .int .i64 wr, .int .i64 fl, .int .i64 rf, .int .i64 pn] 87 :: X :: pt gm (mapO [] clock) :: L)) rfl (fun w1 S2 => ?_))
  refine wl_end (fr [pq g, ud, pq g, pq g, po g 1, .map (some gm)] 4) (by kernel_rfl) ?_
  refine then_n ?_
  refine wp_region_lit ?_
  refine pv (pq g) ?_
  refine pv (pq g) ?_
  refine pv (po g 5) ?_
  refine pv (po g 9) ?_
  refine wl_gv rfl (gv_st (k := 9) (v := .int .i64 0) S2 0 rfl rfl (by kernel_rfl) (by kernel_rfl) (by kernel_rfl) rfl rfl (L' := (row g #[.slice (some ⟨gd, 0, none⟩) n c, .map (some gm), .bool fused, .int .i64 left, .int .i64 life, .int .i64 r, .int .i64 wr, .int .i64 fl, .int .i64 rf, .int .i64 0] 87 :: X :: pt gm (mapO [] clock) :: L)) rfl (fun w3 S4 => ?_))
  refine wl_end (fr [pq g, ud, pq g, pq g, po g 1, .map (some gm), pq g, pq g, po g 5, po g 9] 0) (by kernel_rfl) ?_
  refine bodyPost_end (v := .tuple #[]) (results_none rfl _ _ _) rfl ?_
  exact ⟨rfl, S4⟩
theorem pd_flush {F : Nat → Prop} {w0 w : World} {L : List Ast} {g : Nat} {s : Dsk} (S : St F w0 w (PDisk g s :: L)) : Calls Try.prog 41 #[.pointer (some ⟨g, 0, none⟩)] w fun e w' => e = .returned (.int .i64 s.flushR.2) ∧ St F w0 w' (PDisk g s.flushR.1 :: L) := by
  obtain ⟨gd, gm, clock, es, fused, left, hf, S⟩ := St.popen S
  have hn2 := hf.n2
  have hbu := hf.burnt
  by_cases hz : s.left = 0
  · have e : s.flushR = (s, 3) := by unfold Dsk.flushR; rw [if_pos hz]
    rw [e]
    have hb : (fused && decide (left = 0)) = true := by rw [hbu]; exact decide_eq_true hz
    change St F w0 w (row g #[.slice (some ⟨gd, 0, none⟩) (512 * s.last.length) (512 * s.last.length), .map (some gm), .bool fused, .int .i64 left, .int .i64 s.life, .int .i64 s.rd, .int .i64 s.wr, .int .i64 s.fl, .int .i64 s.rf, .int .i64 (s.pend.length : Int)] 87 :: row gd (bvs s.last.flatten) 5 :: pt gm (mapO (es.map PEnt.ent) clock) :: stars (es.map PEnt.ast) :: L) at S
    refine wp_enter (fr [pq g] 34) Try.func41 rfl (by kernel_rfl) ?_
    refine wp_seq ?_
    refine wp_region_lit ?_
    refine pv (iv 0) ?_
    refine wl_end (fr [pq g, ud, iv 0] 32) (by kernel_rfl) ?_
    refine then_n ?_
    refine wp_seq ?_
    refine wp_seq ?_
    refine wp_region_lit ?_
    refine pv (pq g) ?_
    refine wl_gv rfl (gv_call (args := #[.pointer (some ⟨g, 0, none⟩)]) rfl Try.func22 (by kernel_rfl) rfl rfl (by kernel_rfl) ?_)
    refine Calls.mono (burnt_b (b := true) (S.blk 0 rfl) hb) ?_
    rintro _ _ ⟨rfl, rfl⟩
    refine ⟨_, rfl, ?_⟩
    refine wl_end (fr [pq g, ud, iv 0, ud, pq g, tv] 29) (by kernel_rfl) ?_
    refine then_n ?_
    refine wp_cond_true (by kernel_rfl) ?_
    refine wp_seq ?_
    refine wp_region_lit ?_
    refine pv (iv 3) ?_
    refine wl_end (fr [pq g, ud, iv 3, ud, pq g, tv] 29) (by kernel_rfl) ?_
    refine then_n ?_
    refine wp_ret ?_
    refine then_r ?_
    refine bodyPost_ret (v := .int .i64 3) (results_t1 rfl (by kernel_rfl)) rfl ?_
    exact ⟨rfl, St.pclose (gd := gd) (gm := gm) (clock := clock) (es := es) (fused := fused) (left := left) (s := s) S (hf.congr rfl rfl rfl)⟩
  have hb : (fused && decide (left = 0)) = false := by rw [hbu]; exact decide_eq_false hz
  have e : s.flushR = ({ s with last := applyP s.last s.pend, pend := [], fl := inc s.fl, left := spent s.left }, 0) := by unfold Dsk.flushR; rw [if_neg hz]
  rw [e]
  have hlb := spent_lb hf.lb hz
  have hlenA : ∀ ps : List PEnt, (∀ p ∈ ps, p ∈ es) → (applyP s.last (ps.map PEnt.top)).length = s.last.length ∧ ∀ l ∈ applyP s.last (ps.map PEnt.top), l.length = 512 := fun ps hps => by
    refine ⟨length_applyP _ _, applyP_all _ _ hf.len (fun x hx => ?_)⟩
    obtain ⟨q, hq, rfl⟩ := List.mem_map.1 hx
    obtain ⟨j, hj, _, _, _, _, hne, h5, _⟩ := hf.find_mem (hps q hq)
    obtain ⟨y, _, hyl, hym⟩ := last_some (f := Prod.snd) hne
    show (((q.ws.map (·.2)).getLast?).getD []).length = 512
    rw [hyl]; exact h5 y hym
  rcases hf.spend hz with ⟨rfl, hdc, hde⟩ | ⟨rfl, hdc, hde⟩
  · skip
    change St F w0 w (row g #[.slice (some ⟨gd, 0, none⟩) (512 * s.last.length) (512 * s.last.length), .map (some gm), .bool true, .int .i64 left, .int .i64 s.life, .int .i64 s.rd, .int .i64 s.wr, .int .i64 s.fl, .int .i64 s.rf, .int .i64 (s.pend.length : Int)] 87 :: row gd (bvs s.last.flatten) 5 :: pt gm (mapO (es.map PEnt.ent) clock) :: stars (es.map PEnt.ast) :: L) at S
    refine wp_enter (fr [pq g] 34) Try.func41 rfl (by kernel_rfl) ?_
    refine wp_seq ?_
    refine wp_region_lit ?_
    refine pv (iv 0) ?_
    refine wl_end (fr [pq g, ud, iv 0] 32) (by kernel_rfl) ?_
    refine then_n ?_
    refine wp_seq ?_
    refine wp_seq ?_
    refine wp_region_lit ?_
    refine pv (pq g) ?_
    refine wl_gv rfl (gv_call (args := #[.pointer (some ⟨g, 0, none⟩)]) rfl Try.func22 (by kernel_rfl) rfl rfl (by kernel_rfl) ?_)
    refine Calls.mono (burnt_b (b := false) (S.blk 0 rfl) hb) ?_
    rintro _ _ ⟨rfl, rfl⟩
    refine ⟨_, rfl, ?_⟩
    refine wl_end (fr [pq g, ud, iv 0, ud, pq g, fv] 29) (by kernel_rfl) ?_
    refine then_n ?_
    refine wp_cond_false (by kernel_rfl) ?_
    refine wp_skip ?_
    refine then_n ?_
    refine wp_seq ?_
    refine wp_seq ?_
    refine wp_region_lit ?_
    refine pv (pq g) ?_
    refine pv (pq g) ?_
    refine pv (po g 1) ?_
    refine wl_gv rfl (gv_ldR (v := .map (some gm)) rfl (by kernel_rfl) (by kernel_rfl) (((S.blk 0 rfl).cell 1).trans rfl) ?_)
    refine wl_gv rfl (gv_range (kT := 3) (eT := 52) (g := gm) (clock := clock) (es := es.map PEnt.ent) S 2 rfl rfl (by kernel_rfl) (by kernel_rfl) (fun gi1 w2 hg3 S4 => ?_))
    refine wl_end (fr [pq g, ud, iv 0, ud, pq g, fv, pq g, pq g, po g 1, .map (some gm), pq gi1] 24) (by kernel_rfl) ?_
    refine then_n ?_
    refine wp_block ?_
    refine wp_loop_g (G := List PEnt) (fun (g_ : List PEnt) (a_ : Act) (w_ : World) => ∃ J : Nat → Value, a_ = (fr [pq g, ud, iv 0, J 3, pq g, fv, pq g, pq g, po g 1, .map (some gm), pq gi1, J 11, J 12, J 13, J 14, J 15, J 16, J 17, J 18, J 19, J 20, J 21] 13) ∧ St F w0 w_ (pt gi1 (iterO gm clock (g_.map (·.b))) :: row g #[.slice (some ⟨gd, 0, none⟩) (512 * s.last.length) (512 * s.last.length), .map (some gm), .bool true, .int .i64 left, .int .i64 s.life, .int .i64 s.rd, .int .i64 s.wr, .int .i64 s.fl, .int .i64 s.rf, .int .i64 (s.pend.length : Int)] 87 :: row gd (bvs (applyP s.last ((g_).map PEnt.top)).flatten) 5 :: pt gm (mapO (es.map PEnt.ent) clock) :: stars (es.map PEnt.ast) :: L) ∧ (∀ p ∈ g_, p ∈ es)) (fun g_ => (leftE (es.map PEnt.ent) (g_.map (·.b))).length) [] ⟨(jl []), by kernel_rfl, S4, (fun p hp => by cases hp)⟩ ?_
    rintro ps a_ w5 ⟨J, rfl, S6, hI7⟩
    skip
    have S6 : St F w0 w5 (pt gi1 (iterO gm clock (ps.map (·.b))) :: row g #[.slice (some ⟨gd, 0, none⟩) (512 * s.last.length) (512 * s.last.length), .map (some gm), .bool true, .int .i64 left, .int .i64 s.life, .int .i64 s.rd, .int .i64 s.wr, .int .i64 s.fl, .int .i64 s.rf, .int .i64 (s.pend.length : Int)] 87 :: row gd (bvs (applyP s.last ((ps).map PEnt.top)).flatten) 5 :: pt gm (mapO (es.map PEnt.ent) clock) :: stars (es.map PEnt.ast) :: L) := S6
    have hI7 : (∀ p ∈ ps, p ∈ es) := hI7
    refine wp_seq ?_
    refine wp_region_lit ?_
    refine wl_gv rfl (gv_next (g := gm) (clock := clock) (es := es.map PEnt.ent) (gi := gi1) (seen := ps.map (·.b)) S6 0 3 rfl rfl (fun e he => by obtain ⟨p, hp, rfl⟩ := List.mem_map.1 he; exact hf.born p hp) rfl (by kernel_rfl) (fun hl => ?_) (fun e w8 hel S9 => ?_))
    · skip
      refine pv fv ?_
      refine wl_end (fr [pq g, ud, iv 0, J 3, pq g, fv, pq g, pq g, po g 1, .map (some gm), pq gi1, .tuple #[fv], fv, J 13, J 14, J 15, J 16, J 17, J 18, J 19, J 20, J 21] 13) (by kernel_rfl) ?_
      refine then_n ?_
      refine wp_seq ?_
      refine wp_cond_false (by kernel_rfl) ?_
      refine wp_exit ?_
      refine then_x ?_
      refine then_x ?_
      refine inb_x ?_
      refine then_n ?_
      refine wp_seq ?_
      refine wp_region_lit ?_
      refine pv (pq g) ?_
      refine wl_gv rfl (gv_call (args := #[.pointer (some ⟨g, 0, none⟩)]) rfl Try.func73 (by kernel_rfl) rfl rfl (by kernel_rfl) ?_)
      have hfd := hf.flushed hI7 hl
      have S10 : St F w0 w5 (row g #[.slice (some ⟨gd, 0, none⟩) (512 * s.last.length) (512 * s.last.length), .map (some gm), .bool true, .int .i64 left, .int .i64 s.life, .int .i64 s.rd, .int .i64 s.wr, .int .i64 s.fl, .int .i64 s.rf, .int .i64 (s.pend.length : Int)] 87 :: row gd (bvs (applyP s.last ((ps).map PEnt.top)).flatten) 5 :: pt gm (mapO (es.map PEnt.ent) clock) :: L) := St.permT [pt gi1 (iterO gm clock (ps.map (·.b))), row g #[.slice (some ⟨gd, 0, none⟩) (512 * s.last.length) (512 * s.last.length), .map (some gm), .bool true, .int .i64 left, .int .i64 s.life, .int .i64 s.rd, .int .i64 s.wr, .int .i64 s.fl, .int .i64 s.rf, .int .i64 (s.pend.length : Int)] 87, row gd (bvs (applyP s.last ((ps).map PEnt.top)).flatten) 5, pt gm (mapO (es.map PEnt.ent) clock), stars (es.map PEnt.ast)] [1, 2, 3] (by decide) rfl S6
      rw [hfd] at S10
      refine Calls.mono (settle_own S10) ?_
      rintro _ w11 ⟨rfl, S12⟩
      refine ⟨_, rfl, ?_⟩
      refine wl_end (fr [pq g, ud, iv 0, J 3, pq g, fv, pq g, pq g, po g 1, .map (some gm), pq gi1, .tuple #[fv], fv, J 13, J 14, J 15, J 16, J 17, J 18, J 19, J 20, J 21, pq g, .tuple #[]] 11) (by kernel_rfl) ?_
      refine then_n ?_
      refine wp_seq ?_
      refine wp_region_lit ?_
      refine pv (pq g) ?_
      refine pv (pq g) ?_
      refine pv (po g 5) ?_
      refine pv (po g 7) ?_
      refine wl_gv rfl (gv_ldR (v := .int .i64 s.fl) rfl (by kernel_rfl) (by kernel_rfl) (((S12.blk 0 rfl).cell 7).trans rfl) ?_)
      refine pv (iv (inc s.fl)) ?_
      refine pv (pq g) ?_
      refine pv (po g 5) ?_
      refine pv (po g 7) ?_
      refine wl_gv rfl (gv_st (k := 7) (v := .int .i64 (inc s.fl)) S12 0 rfl rfl (by kernel_rfl) (by kernel_rfl) (by kernel_rfl) rfl rfl (L' := (row g #[.slice (some ⟨gd, 0, none⟩) (512 * s.last.length) (512 * s.last.length), .map (some gm), .bool true, .int .i64 left, .int .i64 s.life, .int .i64 s.rd, .int .i64 s.wr, .int .i64 (inc s.fl), .int .i64 s.rf, .int .i64 0] 87 :: row gd (bvs (applyP s.last s.pend).flatten) 5 :: pt gm (mapO [] clock) :: L)) rfl (fun w13 S14 => ?_))
      refine wl_end (fr [pq g, ud, iv 0, J 3, pq g, fv, pq g, pq g, po g 1, .map (some gm), pq gi1, .tuple #[fv], fv, J 13, J 14, J 15, J 16, J 17, J 18, J 19, J 20, J 21, pq g, .tuple #[], pq g, pq g, po g 5, po g 7, iv s.fl, iv (inc s.fl), pq g, po g 5, po g 7] 2) (by kernel_rfl) ?_
      refine then_n ?_
      refine wp_seq ?_
      refine wp_region_lit ?_
      refine pv (pq g) ?_
      refine wl_gv rfl (gv_call (args := #[.pointer (some ⟨g, 0, none⟩)]) rfl Try.func69 (by kernel_rfl) rfl rfl (by kernel_rfl) ?_)
      refine Calls.mono (spend_true S14) ?_
      rintro _ w15 ⟨rfl, S16⟩
      refine ⟨_, rfl, ?_⟩
      refine wl_end (fr [pq g, ud, iv 0, J 3, pq g, fv, pq g, pq g, po g 1, .map (some gm), pq gi1, .tuple #[fv], fv, J 13, J 14, J 15, J 16, J 17, J 18, J 19, J 20, J 21, pq g, .tuple #[], pq g, pq g, po g 5, po g 7, iv s.fl, iv (inc s.fl), pq g, po g 5, po g 7, pq g, .tuple #[]] 0) (by kernel_rfl) ?_
      refine then_n ?_
      refine wp_seq ?_
      refine wp_region_lit ?_
      refine pv (iv 0) ?_
      refine wl_end (fr [pq g, ud, iv 0, J 3, pq g, fv, pq g, pq g, po g 1, .map (some gm), pq gi1, .tuple #[fv], fv, J 13, J 14, J 15, J 16, J 17, J 18, J 19, J 20, J 21, pq g, .tuple #[], pq g, pq g, po g 5, po g 7, iv s.fl, iv (inc s.fl), pq g, po g 5, po g 7, pq g, .tuple #[]] 0) (by kernel_rfl) ?_
      refine then_n ?_
      refine wp_ret ?_
      refine bodyPost_ret (v := .int .i64 0) (results_t1 rfl (by kernel_rfl)) rfl ?_
      have hlf : (applyP s.last s.pend).length = s.last.length := length_applyP _ _
      rw [← hlf] at S16
      have S9 := St.rot (LA := [_, _, _]) (St.star_nil S16)
      exact ⟨rfl, St.pclose (gd := gd) (gm := gm) (clock := clock) (es := []) (fused := true) (left := dec left) (s := { s with last := applyP s.last s.pend, pend := [], fl := inc s.fl, left := spent s.left }) S9 (PFacts.settled (s' := { s with last := applyP s.last s.pend, pend := [], fl := inc s.fl, left := spent s.left }) hf hlf (applyP_all _ _ hf.len (fun x hx => (hf.plen x hx).1)) rfl hdc.symm (fun _ => hde) hlb)⟩
    · skip
      obtain ⟨p, hpe, rfl, hpn⟩ := mem_left hel
      obtain ⟨j, hj, hje, hke, hfe, hk, hne, hx512, hle⟩ := hf.find_mem hpe
      obtain ⟨x, hx, hxl, hxm⟩ := last_some (f := Prod.snd) hne
      have hx5 := hx512 x hxm
      have hq0 := List.length_pos_iff.2 hne
      have hqm : p.ws.length ≤ 9223372036854775807 := by have := hf.pn; omega
      have hA := hlenA ps hI7
      have hfl := flat_len hA.2
      rw [hA.1] at hfl
      have hdn : (applyP s.last (ps.map PEnt.top)).flatten.length = 512 * s.last.length := hfl
      refine pv tv ?_
      refine wl_end (fr [pq g, ud, iv 0, J 3, pq g, fv, pq g, pq g, po g 1, .map (some gm), pq gi1, .tuple #[tv, iv ((p.at_ : Nat) : Int), p.v], tv, J 13, J 14, J 15, J 16, J 17, J 18, J 19, J 20, J 21] 13) (by kernel_rfl) ?_
      refine then_n ?_
      refine wp_seq ?_
      refine wp_cond_true (by kernel_rfl) ?_
      refine wp_skip ?_
      refine then_n ?_
      refine wp_block ?_
      refine wp_seq ?_
      refine wp_region_lit ?_
      refine wl_gv rfl (gv_entry (g := gm) (clock := clock) (es := es.map PEnt.ent) (gi := gi1) (seen := ps.map (·.b)) (e := p.ent) S9 0 3 rfl rfl rfl (by kernel_rfl) (List.mem_map.2 ⟨p, hpe, rfl⟩) (fun y hy hb => by obtain ⟨q, hq, rfl⟩ := List.mem_map.1 hy; rw [hf.injB hq hpe hb]) ?_)
      refine pv (iv ((p.at_ : Nat) : Int)) ?_
      refine pv (iv ((p.at_ : Nat) : Int)) ?_
      refine wl_end (fr [pq g, ud, iv 0, iv ((p.at_ : Nat) : Int), pq g, fv, pq g, pq g, po g 1, .map (some gm), pq gi1, .tuple #[tv, iv ((p.at_ : Nat) : Int), p.v], tv, .tuple #[iv ((p.at_ : Nat) : Int), p.v], iv ((p.at_ : Nat) : Int), J 15, J 16, J 17, J 18, J 19, J 20, J 21] 13) (by kernel_rfl) ?_
      refine then_n ?_
      refine wp_region_lit ?_
      refine pv (pq g) ?_
      refine pv (iv ((p.at_ : Nat) : Int)) ?_
      refine wl_gv rfl (gv_call (args := #[.pointer (some ⟨g, 0, none⟩), .int .i64 ((p.at_ : Nat) : Int)]) rfl Try.func71 (by kernel_rfl) rfl rfl (by kernel_rfl) ?_)
      refine Calls.mono (home_ro (S9.blk 1 rfl) rfl rfl hn2 hk) ?_
      rintro _ _ ⟨rfl, rfl⟩
      refine ⟨_, rfl, ?_⟩
      refine pv (pq g) ?_
      refine pv (iv ((p.at_ : Nat) : Int)) ?_
      refine wl_gv rfl (gv_call (args := #[.pointer (some ⟨g, 0, none⟩), .int .i64 ((p.at_ : Nat) : Int)]) rfl Try.func62 (by kernel_rfl) rfl rfl (by kernel_rfl) ?_)
      obtain ⟨gb, cb, cells, hv, HV, hcell, hdat⟩ := pend_facts S9 4 rfl hj hne
      refine Calls.mono (now_pend (S9.blk 1 rfl) (S9.get 3 rfl) hje hke hfe hv hq0 hqm HV (hcell _ _ hx)) ?_
      rintro _ _ ⟨rfl, rfl⟩
      refine ⟨_, rfl, ?_⟩
      refine wl_gv rfl (gv_copy (e := 5) (off := 512 * p.at_) (dLen := 512) (dCap := (512 * s.last.length - 512 * p.at_)) (sLen := 512) (sCap := 512) (A := (some ⟨x.1, 0, none⟩)) (B := ((applyP s.last (ps.map PEnt.top)).flatten)) (l := x.2) S9 2 rfl rfl (by kernel_rfl) (by kernel_rfl) (by kernel_rfl) (by kernel_rfl) hx5.symm (RdB.row (hdat x hxm) 0 512 _ (by rw [List.drop_zero, List.take_of_length_le (by omega)])) (by rw [hdn]; omega) (L' := (pt gi1 (iterO gm clock (ps.map (·.b) ++ [p.b])) :: row g #[.slice (some ⟨gd, 0, none⟩) (512 * s.last.length) (512 * s.last.length), .map (some gm), .bool true, .int .i64 left, .int .i64 s.life, .int .i64 s.rd, .int .i64 s.wr, .int .i64 s.fl, .int .i64 s.rf, .int .i64 (s.pend.length : Int)] 87 :: row gd (bvs ((applyP s.last ((ps ++ [p]).map PEnt.top)).flatten)) 5 :: pt gm (mapO (es.map PEnt.ent) clock) :: stars (es.map PEnt.ast) :: L)) (by rw [List.take_of_length_le (by omega), flat_set hA.2 _ _ (by rw [hA.1]; exact hk) hx5, List.map_append, List.map_cons, List.map_nil, applyP_snoc]; show _ = _; rw [show (PEnt.top p) = (p.at_, x.2) from by unfold PEnt.top; rw [hxl]; rfl]; rfl) (fun w17 m19 S18 => ?_))
      refine wl_end (fr [pq g, ud, iv 0, iv ((p.at_ : Nat) : Int), pq g, fv, pq g, pq g, po g 1, .map (some gm), pq gi1, .tuple #[tv, iv ((p.at_ : Nat) : Int), p.v], tv, .tuple #[iv ((p.at_ : Nat) : Int), p.v], iv ((p.at_ : Nat) : Int), pq g, iv ((p.at_ : Nat) : Int), sl gd (512 * p.at_) 512 (512 * s.last.length - 512 * p.at_), pq g, iv ((p.at_ : Nat) : Int), sl x.1 0 512 512, goInt m19] 13) (by kernel_rfl) ?_
      refine inb_n ?_
      refine then_n ?_
      rw [show ps.map (·.b) ++ [p.b] = (ps ++ [p]).map (·.b) from by rw [List.map_append]; rfl] at S18
      exact ⟨ps ++ [p], ⟨(jl [ud, ud, ud, iv ((p.at_ : Nat) : Int), ud, ud, ud, ud, ud, ud, ud, .tuple #[tv, iv ((p.at_ : Nat) : Int), p.v], tv, .tuple #[iv ((p.at_ : Nat) : Int), p.v], iv ((p.at_ : Nat) : Int), pq g, iv ((p.at_ : Nat) : Int), sl gd (512 * p.at_) 512 (512 * s.last.length - 512 * p.at_), pq g, iv ((p.at_ : Nat) : Int), sl x.1 0 512 512, goInt m19]), by kernel_rfl, S18, (fun q hq => (List.mem_append.1 hq).elim (hI7 q) (fun h => (List.mem_singleton.1 h) ▸ hpe))⟩, (by show (leftE _ ((ps ++ [p]).map (·.b))).length < _; rw [List.map_append]; exact left_less hel)⟩
  · skip
    change St F w0 w (row g #[.slice (some ⟨gd, 0, none⟩) (512 * s.last.length) (512 * s.last.length), .map (some gm), .bool false, .int .i64 left, .int .i64 s.life, .int .i64 s.rd, .int .i64 s.wr, .int .i64 s.fl, .int .i64 s.rf, .int .i64 (s.pend.length : Int)] 87 :: row gd (bvs s.last.flatten) 5 :: pt gm (mapO (es.map PEnt.ent) clock) :: stars (es.map PEnt.ast) :: L) at S
    refine wp_enter (fr [pq g] 34) Try.func41 rfl (by kernel_rfl) ?_
    refine wp_seq ?_
    refine wp_region_lit ?_
    refine pv (iv 0) ?_
    refine wl_end (fr [pq g, ud, iv 0] 32) (by kernel_rfl) ?_
    refine then_n ?_
    refine wp_seq ?_
    refine wp_seq ?_
    refine wp_region_lit ?_
    refine pv (pq g) ?_
    refine wl_gv rfl (gv_call (args := #[.pointer (some ⟨g, 0, none⟩)]) rfl Try.func22 (by kernel_rfl) rfl rfl (by kernel_rfl) ?_)
    refine Calls.mono (burnt_b (b := false) (S.blk 0 rfl) hb) ?_
    rintro _ _ ⟨rfl, rfl⟩
    refine ⟨_, rfl, ?_⟩
    refine wl_end (fr [pq g, ud, iv 0, ud, pq g, fv] 29) (by kernel_rfl) ?_
    refine then_n ?_
    refine wp_cond_false (by kernel_rfl) ?_
    refine wp_skip ?_
    refine then_n ?_
    refine wp_seq ?_
    refine wp_seq ?_
    refine wp_region_lit ?_
    refine pv (pq g) ?_
    refine pv (pq g) ?_
    refine pv (po g 1) ?_
    refine wl_gv rfl (gv_ldR (v := .map (some gm)) rfl (by kernel_rfl) (by kernel_rfl) (((S.blk 0 rfl).cell 1).trans rfl) ?_)
    refine wl_gv rfl (gv_range (kT := 3) (eT := 52) (g := gm) (clock := clock) (es := es.map PEnt.ent) S 2 rfl rfl (by kernel_rfl) (by kernel_rfl) (fun gi1 w2 hg3 S4 => ?_))
    refine wl_end (fr [pq g, ud, iv 0, ud, pq g, fv, pq g, pq g, po g 1, .map (some gm), pq gi1] 24) (by kernel_rfl) ?_
    refine then_n ?_
    refine wp_block ?_
    refine wp_loop_g (G := List PEnt) (fun (g_ : List PEnt) (a_ : Act) (w_ : World) => ∃ J : Nat → Value, a_ = (fr [pq g, ud, iv 0, J 3, pq g, fv, pq g, pq g, po g 1, .map (some gm), pq gi1, J 11, J 12, J 13, J 14, J 15, J 16, J 17, J 18, J 19, J 20, J 21] 13) ∧ St F w0 w_ (pt gi1 (iterO gm clock (g_.map (·.b))) :: row g #[.slice (some ⟨gd, 0, none⟩) (512 * s.last.length) (512 * s.last.length), .map (some gm), .bool false, .int .i64 left, .int .i64 s.life, .int .i64 s.rd, .int .i64 s.wr, .int .i64 s.fl, .int .i64 s.rf, .int .i64 (s.pend.length : Int)] 87 :: row gd (bvs (applyP s.last ((g_).map PEnt.top)).flatten) 5 :: pt gm (mapO (es.map PEnt.ent) clock) :: stars (es.map PEnt.ast) :: L) ∧ (∀ p ∈ g_, p ∈ es)) (fun g_ => (leftE (es.map PEnt.ent) (g_.map (·.b))).length) [] ⟨(jl []), by kernel_rfl, S4, (fun p hp => by cases hp)⟩ ?_
    rintro ps a_ w5 ⟨J, rfl, S6, hI7⟩
    skip
    have S6 : St F w0 w5 (pt gi1 (iterO gm clock (ps.map (·.b))) :: row g #[.slice (some ⟨gd, 0, none⟩) (512 * s.last.length) (512 * s.last.length), .map (some gm), .bool false, .int .i64 left, .int .i64 s.life, .int .i64 s.rd, .int .i64 s.wr, .int .i64 s.fl, .int .i64 s.rf, .int .i64 (s.pend.length : Int)] 87 :: row gd (bvs (applyP s.last ((ps).map PEnt.top)).flatten) 5 :: pt gm (mapO (es.map PEnt.ent) clock) :: stars (es.map PEnt.ast) :: L) := S6
    have hI7 : (∀ p ∈ ps, p ∈ es) := hI7
    refine wp_seq ?_
    refine wp_region_lit ?_
    refine wl_gv rfl (gv_next (g := gm) (clock := clock) (es := es.map PEnt.ent) (gi := gi1) (seen := ps.map (·.b)) S6 0 3 rfl rfl (fun e he => by obtain ⟨p, hp, rfl⟩ := List.mem_map.1 he; exact hf.born p hp) rfl (by kernel_rfl) (fun hl => ?_) (fun e w8 hel S9 => ?_))
    · skip
      refine pv fv ?_
      refine wl_end (fr [pq g, ud, iv 0, J 3, pq g, fv, pq g, pq g, po g 1, .map (some gm), pq gi1, .tuple #[fv], fv, J 13, J 14, J 15, J 16, J 17, J 18, J 19, J 20, J 21] 13) (by kernel_rfl) ?_
      refine then_n ?_
      refine wp_seq ?_
      refine wp_cond_false (by kernel_rfl) ?_
      refine wp_exit ?_
      refine then_x ?_
      refine then_x ?_
      refine inb_x ?_
      refine then_n ?_
      refine wp_seq ?_
      refine wp_region_lit ?_
      refine pv (pq g) ?_
      refine wl_gv rfl (gv_call (args := #[.pointer (some ⟨g, 0, none⟩)]) rfl Try.func73 (by kernel_rfl) rfl rfl (by kernel_rfl) ?_)
      have hfd := hf.flushed hI7 hl
      have S10 : St F w0 w5 (row g #[.slice (some ⟨gd, 0, none⟩) (512 * s.last.length) (512 * s.last.length), .map (some gm), .bool false, .int .i64 left, .int .i64 s.life, .int .i64 s.rd, .int .i64 s.wr, .int .i64 s.fl, .int .i64 s.rf, .int .i64 (s.pend.length : Int)] 87 :: row gd (bvs (applyP s.last ((ps).map PEnt.top)).flatten) 5 :: pt gm (mapO (es.map PEnt.ent) clock) :: L) := St.permT [pt gi1 (iterO gm clock (ps.map (·.b))), row g #[.slice (some ⟨gd, 0, none⟩) (512 * s.last.length) (512 * s.last.length), .map (some gm), .bool false, .int .i64 left, .int .i64 s.life, .int .i64 s.rd, .int .i64 s.wr, .int .i64 s.fl, .int .i64 s.rf, .int .i64 (s.pend.length : Int)] 87, row gd (bvs (applyP s.last ((ps).map PEnt.top)).flatten) 5, pt gm (mapO (es.map PEnt.ent) clock), stars (es.map PEnt.ast)] [1, 2, 3] (by decide) rfl S6
      rw [hfd] at S10
      refine Calls.mono (settle_own S10) ?_
      rintro _ w11 ⟨rfl, S12⟩
      refine ⟨_, rfl, ?_⟩
      refine wl_end (fr [pq g, ud, iv 0, J 3, pq g, fv, pq g, pq g, po g 1, .map (some gm), pq gi1, .tuple #[fv], fv, J 13, J 14, J 15, J 16, J 17, J 18, J 19, J 20, J 21, pq g, .tuple #[]] 11) (by kernel_rfl) ?_
      refine then_n ?_
      refine wp_seq ?_
      refine wp_region_lit ?_
      refine pv (pq g) ?_
      refine pv (pq g) ?_
      refine pv (po g 5) ?_
      refine pv (po g 7) ?_
      refine wl_gv rfl (gv_ldR (v := .int .i64 s.fl) rfl (by kernel_rfl) (by kernel_rfl) (((S12.blk 0 rfl).cell 7).trans rfl) ?_)
      refine pv (iv (inc s.fl)) ?_
      refine pv (pq g) ?_
      refine pv (po g 5) ?_
      refine pv (po g 7) ?_
      refine wl_gv rfl (gv_st (k := 7) (v := .int .i64 (inc s.fl)) S12 0 rfl rfl (by kernel_rfl) (by kernel_rfl) (by kernel_rfl) rfl rfl (L' := (row g #[.slice (some ⟨gd, 0, none⟩) (512 * s.last.length) (512 * s.last.length), .map (some gm), .bool false, .int .i64 left, .int .i64 s.life, .int .i64 s.rd, .int .i64 s.wr, .int .i64 (inc s.fl), .int .i64 s.rf, .int .i64 0] 87 :: row gd (bvs (applyP s.last s.pend).flatten) 5 :: pt gm (mapO [] clock) :: L)) rfl (fun w13 S14 => ?_))
      refine wl_end (fr [pq g, ud, iv 0, J 3, pq g, fv, pq g, pq g, po g 1, .map (some gm), pq gi1, .tuple #[fv], fv, J 13, J 14, J 15, J 16, J 17, J 18, J 19, J 20, J 21, pq g, .tuple #[], pq g, pq g, po g 5, po g 7, iv s.fl, iv (inc s.fl), pq g, po g 5, po g 7] 2) (by kernel_rfl) ?_
      refine then_n ?_
      refine wp_seq ?_
      refine wp_region_lit ?_
      refine pv (pq g) ?_
      refine wl_gv rfl (gv_call (args := #[.pointer (some ⟨g, 0, none⟩)]) rfl Try.func69 (by kernel_rfl) rfl rfl (by kernel_rfl) ?_)
      refine Calls.mono (spend_false S14) ?_
      rintro _ w15 ⟨rfl, S16⟩
      refine ⟨_, rfl, ?_⟩
      refine wl_end (fr [pq g, ud, iv 0, J 3, pq g, fv, pq g, pq g, po g 1, .map (some gm), pq gi1, .tuple #[fv], fv, J 13, J 14, J 15, J 16, J 17, J 18, J 19, J 20, J 21, pq g, .tuple #[], pq g, pq g, po g 5, po g 7, iv s.fl, iv (inc s.fl), pq g, po g 5, po g 7, pq g, .tuple #[]] 0) (by kernel_rfl) ?_
      refine then_n ?_
      refine wp_seq ?_
      refine wp_region_lit ?_
      refine pv (iv 0) ?_
      refine wl_end (fr [pq g, ud, iv 0, J 3, pq g, fv, pq g, pq g, po g 1, .map (some gm), pq gi1, .tuple #[fv], fv, J 13, J 14, J 15, J 16, J 17, J 18, J 19, J 20, J 21, pq g, .tuple #[], pq g, pq g, po g 5, po g 7, iv s.fl, iv (inc s.fl), pq g, po g 5, po g 7, pq g, .tuple #[]] 0) (by kernel_rfl) ?_
      refine then_n ?_
      refine wp_ret ?_
      refine bodyPost_ret (v := .int .i64 0) (results_t1 rfl (by kernel_rfl)) rfl ?_
      have hlf : (applyP s.last s.pend).length = s.last.length := length_applyP _ _
      rw [← hlf] at S16
      have S9 := St.rot (LA := [_, _, _]) (St.star_nil S16)
      exact ⟨rfl, St.pclose (gd := gd) (gm := gm) (clock := clock) (es := []) (fused := false) (left := left) (s := { s with last := applyP s.last s.pend, pend := [], fl := inc s.fl, left := spent s.left }) S9 (PFacts.settled (s' := { s with last := applyP s.last s.pend, pend := [], fl := inc s.fl, left := spent s.left }) hf hlf (applyP_all _ _ hf.len (fun x hx => (hf.plen x hx).1)) rfl hdc.symm (fun h => absurd h (of_decide_eq_false hdc)) hlb)⟩
    · skip
      obtain ⟨p, hpe, rfl, hpn⟩ := mem_left hel
      obtain ⟨j, hj, hje, hke, hfe, hk, hne, hx512, hle⟩ := hf.find_mem hpe
      obtain ⟨x, hx, hxl, hxm⟩ := last_some (f := Prod.snd) hne
      have hx5 := hx512 x hxm
      have hq0 := List.length_pos_iff.2 hne
      have hqm : p.ws.length ≤ 9223372036854775807 := by have := hf.pn; omega
      have hA := hlenA ps hI7
      have hfl := flat_len hA.2
      rw [hA.1] at hfl
      have hdn : (applyP s.last (ps.map PEnt.top)).flatten.length = 512 * s.last.length := hfl
      refine pv tv ?_
      refine wl_end (fr [pq g, ud, iv 0, J 3, pq g, fv, pq g, pq g, po g 1, .map (some gm), pq gi1, .tuple #[tv, iv ((p.at_ : Nat) : Int), p.v], tv, J 13, J 14, J 15, J 16, J 17, J 18, J 19, J 20, J 21] 13) (by kernel_rfl) ?_
      refine then_n ?_
      refine wp_seq ?_
      refine wp_cond_true (by kernel_rfl) ?_
      refine wp_skip ?_
      refine then_n ?_
      refine wp_block ?_
      refine wp_seq ?_
      refine wp_region_lit ?_
      refine wl_gv rfl (gv_entry (g := gm) (clock := clock) (es := es.map PEnt.ent) (gi := gi1) (seen := ps.map (·.b)) (e := p.ent) S9 0 3 rfl rfl rfl (by kernel_rfl) (List.mem_map.2 ⟨p, hpe, rfl⟩) (fun y hy hb => by obtain ⟨q, hq, rfl⟩ := List.mem_map.1 hy; rw [hf.injB hq hpe hb]) ?_)
      refine pv (iv ((p.at_ : Nat) : Int)) ?_
      refine pv (iv ((p.at_ : Nat) : Int)) ?_
      refine wl_end (fr [pq g, ud, iv 0, iv ((p.at_ : Nat) : Int), pq g, fv, pq g, pq g, po g 1, .map (some gm), pq gi1, .tuple #[tv, iv ((p.at_ : Nat) : Int), p.v], tv, .tuple #[iv ((p.at_ : Nat) : Int), p.v], iv ((p.at_ : Nat) : Int), J 15, J 16, J 17, J 18, J 19, J 20, J 21] 13) (by kernel_rfl) ?_
      refine then_n ?_
      refine wp_region_lit ?_
      refine pv (pq g) ?_
      refine pv (iv ((p.at_ : Nat) : Int)) ?_
      refine wl_gv rfl (gv_call (args := #[.pointer (some ⟨g, 0, none⟩), .int .i64 ((p.at_ : Nat) : Int)]) rfl Try.func71 (by kernel_rfl) rfl rfl (by kernel_rfl) ?_)
      refine Calls.mono (home_ro (S9.blk 1 rfl) rfl rfl hn2 hk) ?_
      rintro _ _ ⟨rfl, rfl⟩
      refine ⟨_, rfl, ?_⟩
      refine pv (pq g) ?_
      refine pv (iv ((p.at_ : Nat) : Int)) ?_
      refine wl_gv rfl (gv_call (args := #[.pointer (some ⟨g, 0, none⟩), .int .i64 ((p.at_ : Nat) : Int)]) rfl Try.func62 (by kernel_rfl) rfl rfl (by kernel_rfl) ?_)
      obtain ⟨gb, cb, cells, hv, HV, hcell, hdat⟩ := pend_facts S9 4 rfl hj hne
      refine Calls.mono (now_pend (S9.blk 1 rfl) (S9.get 3 rfl) hje hke hfe hv hq0 hqm HV (hcell _ _ hx)) ?_
      rintro _ _ ⟨rfl, rfl⟩
      refine ⟨_, rfl, ?_⟩
      refine wl_gv rfl (gv_copy (e := 5) (off := 512 * p.at_) (dLen := 512) (dCap := (512 * s.last.length - 512 * p.at_)) (sLen := 512) (sCap := 512) (A := (some ⟨x.1, 0, none⟩)) (B := ((applyP s.last (ps.map PEnt.top)).flatten)) (l := x.2) S9 2 rfl rfl (by kernel_rfl) (by kernel_rfl) (by kernel_rfl) (by kernel_rfl) hx5.symm (RdB.row (hdat x hxm) 0 512 _ (by rw [List.drop_zero, List.take_of_length_le (by omega)])) (by rw [hdn]; omega) (L' := (pt gi1 (iterO gm clock (ps.map (·.b) ++ [p.b])) :: row g #[.slice (some ⟨gd, 0, none⟩) (512 * s.last.length) (512 * s.last.length), .map (some gm), .bool false, .int .i64 left, .int .i64 s.life, .int .i64 s.rd, .int .i64 s.wr, .int .i64 s.fl, .int .i64 s.rf, .int .i64 (s.pend.length : Int)] 87 :: row gd (bvs ((applyP s.last ((ps ++ [p]).map PEnt.top)).flatten)) 5 :: pt gm (mapO (es.map PEnt.ent) clock) :: stars (es.map PEnt.ast) :: L)) (by rw [List.take_of_length_le (by omega), flat_set hA.2 _ _ (by rw [hA.1]; exact hk) hx5, List.map_append, List.map_cons, List.map_nil, applyP_snoc]; show _ = _; rw [show (PEnt.top p) = (p.at_, x.2) from by unfold PEnt.top; rw [hxl]; rfl]; rfl) (fun w17 m19 S18 => ?_))
      refine wl_end (fr [pq g, ud, iv 0, iv ((p.at_ : Nat) : Int), pq g, fv, pq g, pq g, po g 1, .map (some gm), pq gi1, .tuple #[tv, iv ((p.at_ : Nat) : Int), p.v], tv, .tuple #[iv ((p.at_ : Nat) : Int), p.v], iv ((p.at_ : Nat) : Int), pq g, iv ((p.at_ : Nat) : Int), sl gd (512 * p.at_) 512 (512 * s.last.length - 512 * p.at_), pq g, iv ((p.at_ : Nat) : Int), sl x.1 0 512 512, goInt m19] 13) (by kernel_rfl) ?_
      refine inb_n ?_
      refine then_n ?_
      rw [show ps.map (·.b) ++ [p.b] = (ps ++ [p]).map (·.b) from by rw [List.map_append]; rfl] at S18
      exact ⟨ps ++ [p], ⟨(jl [ud, ud, ud, iv ((p.at_ : Nat) : Int), ud, ud, ud, ud, ud, ud, ud, .tuple #[tv, iv ((p.at_ : Nat) : Int), p.v], tv, .tuple #[iv ((p.at_ : Nat) : Int), p.v], iv ((p.at_ : Nat) : Int), pq g, iv ((p.at_ : Nat) : Int), sl gd (512 * p.at_) 512 (512 * s.last.length - 512 * p.at_), pq g, iv ((p.at_ : Nat) : Int), sl x.1 0 512 512, goInt m19]), by kernel_rfl, S18, (fun q hq => (List.mem_append.1 hq).elim (hI7 q) (fun h => (List.mem_singleton.1 h) ▸ hpe))⟩, (by show (leftE _ ((ps ++ [p]).map (·.b))).length < _; rw [List.map_append]; exact left_less hel)⟩
end Go.Proofs
