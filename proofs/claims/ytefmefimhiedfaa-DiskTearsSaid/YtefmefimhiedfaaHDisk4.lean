/- Write of the program's disk. -/
import Derived.Test.YtefmefimhiedfaaHDskW
import Derived.Test.YtefmefimhiedfaaHDisk2
import Derived.Test.YtefmefimhiedfaaHReg
open Go Go.RowKit Go.Proofs.YtefmefimhiedfaaW.PrintWords Go.Proofs.YtefmefimhiedfaaW.PrintMore
namespace Go.Proofs
open Go.Vel
set_option linter.unusedVariables false
set_option maxRecDepth 100000
set_option maxHeartbeats 4000000
attribute [local irreducible] gives wpList Code.wp

theorem pd_write {F : Nat → Prop} {w0 w : World} {L : List Ast} {g : Nat} {s : Dsk} {at_ : Int} {A : Option Addr} {d : List UInt8} {cd : Nat} (S : St F w0 w (PDisk g s :: L)) (hr : RoT F w0 L A d) (hdm : d.length ≤ 9223372036854775807) (hpn : s.pend.length < 4398046511104) :
    Calls Try.prog 35 #[.pointer (some ⟨g, 0, none⟩), .int .i64 at_, .slice A d.length cd] w fun e w' => e = .returned (.int .i64 (s.writeR at_ d).2) ∧ St F w0 w' (PDisk g (s.writeR at_ d).1 :: L) := by
  obtain ⟨gd, gm, clock, es, fused, left, hf, S⟩ := St.popen S
  have hn2 := hf.n2
  have hbu := hf.burnt
  by_cases hz : s.left = 0
  · have e : s.writeR at_ d = (s, 3) := by unfold Dsk.writeR; rw [if_pos hz]
    rw [e]
    have hb : (fused && decide (left = 0)) = true := by rw [hbu]; exact decide_eq_true hz
    change St F w0 w (row g #[.slice (some ⟨gd, 0, none⟩) (512 * s.last.length) (512 * s.last.length), .map (some gm), .bool fused, .int .i64 left, .int .i64 s.life, .int .i64 s.rd, .int .i64 s.wr, .int .i64 s.fl, .int .i64 s.rf, .int .i64 (s.pend.length : Int)] 87 :: row gd (bvs s.last.flatten) 5 :: pt gm (mapO (es.map PEnt.ent) clock) :: stars (es.map PEnt.ast) :: L) at S
    refine wp_enter (fr [pq g, iv at_, .slice A d.length cd] 62) Try.func35 rfl (by kernel_rfl) ?_
    refine wp_seq ?_
    refine wp_region_lit ?_
    refine pv (iv 0) ?_
    refine wl_end (fr [pq g, iv at_, .slice A d.length cd, ud, ud, ud, iv 0] 58) (by kernel_rfl) ?_
    refine then_n ?_
    refine wp_seq ?_
    refine wp_seq ?_
    refine wp_region_lit ?_
    refine pv (pq g) ?_
    refine pv (iv at_) ?_
    refine wl_gv rfl (gv_call (args := #[.pointer (some ⟨g, 0, none⟩), .int .i64 at_]) rfl Try.func61 (by kernel_rfl) rfl rfl (by kernel_rfl) ?_)
    refine Calls.mono (there_dead hb S) ?_
    rintro _ w1 ⟨rfl, S2⟩
    refine ⟨_, rfl, ?_⟩
    refine pv (iv 3) ?_
    refine wl_end (fr [pq g, iv at_, .slice A d.length cd, ud, ud, ud, iv 0, iv 3, ud, pq g, iv at_, iv 3] 53) (by kernel_rfl) ?_
    refine then_n ?_
    refine wp_seq ?_
    refine wp_region_lit ?_
    refine pv (iv 3) ?_
    refine wl_gv rfl (gv_ne (x := 3) (y := 0) (by kernel_rfl) (fun _ => ?_) (fun hd3 => False.elim (by omega)))
    refine wl_end (fr [pq g, iv at_, .slice A d.length cd, ud, ud, ud, iv 0, iv 3, ud, pq g, iv at_, iv 3, iv 3, tv] 51) (by kernel_rfl) ?_
    refine then_n ?_
    refine wp_cond_true (by kernel_rfl) ?_
    refine wp_seq ?_
    refine wp_region_lit ?_
    refine pv (iv 3) ?_
    refine pv (iv 3) ?_
    refine wl_end (fr [pq g, iv at_, .slice A d.length cd, ud, ud, ud, iv 3, iv 3, ud, pq g, iv at_, iv 3, iv 3, tv, iv 3] 50) (by kernel_rfl) ?_
    refine then_n ?_
    refine wp_ret ?_
    refine then_r ?_
    refine bodyPost_ret (v := .int .i64 3) (results_t1 rfl (by kernel_rfl)) rfl ?_
    exact ⟨rfl, St.pclose (gd := gd) (gm := gm) (clock := clock) (es := es) (fused := fused) (left := left) (s := s) S2 (hf.congr rfl rfl rfl)⟩
  have hb : (fused && decide (left = 0)) = false := by rw [hbu]; exact decide_eq_false hz
  by_cases ho : at_ < 0 ∨ (s.last.length : Int) ≤ at_
  · have e : s.writeR at_ d = ({ s with rf := inc s.rf }, 11) := by unfold Dsk.writeR; rw [if_neg hz, if_pos ho]
    rw [e]
    change St F w0 w (row g #[.slice (some ⟨gd, 0, none⟩) (512 * s.last.length) (512 * s.last.length), .map (some gm), .bool fused, .int .i64 left, .int .i64 s.life, .int .i64 s.rd, .int .i64 s.wr, .int .i64 s.fl, .int .i64 s.rf, .int .i64 (s.pend.length : Int)] 87 :: row gd (bvs s.last.flatten) 5 :: pt gm (mapO (es.map PEnt.ent) clock) :: stars (es.map PEnt.ast) :: L) at S
    refine wp_enter (fr [pq g, iv at_, .slice A d.length cd] 62) Try.func35 rfl (by kernel_rfl) ?_
    refine wp_seq ?_
    refine wp_region_lit ?_
    refine pv (iv 0) ?_
    refine wl_end (fr [pq g, iv at_, .slice A d.length cd, ud, ud, ud, iv 0] 58) (by kernel_rfl) ?_
    refine then_n ?_
    refine wp_seq ?_
    refine wp_seq ?_
    refine wp_region_lit ?_
    refine pv (pq g) ?_
    refine pv (iv at_) ?_
    refine wl_gv rfl (gv_call (args := #[.pointer (some ⟨g, 0, none⟩), .int .i64 at_]) rfl Try.func61 (by kernel_rfl) rfl rfl (by kernel_rfl) ?_)
    refine Calls.mono (there_out hb rfl hn2 ho S) ?_
    rintro _ w1 ⟨rfl, S2⟩
    refine ⟨_, rfl, ?_⟩
    refine pv (iv 11) ?_
    refine wl_end (fr [pq g, iv at_, .slice A d.length cd, ud, ud, ud, iv 0, iv 11, ud, pq g, iv at_, iv 11] 53) (by kernel_rfl) ?_
    refine then_n ?_
    refine wp_seq ?_
    refine wp_region_lit ?_
    refine pv (iv 11) ?_
    refine wl_gv rfl (gv_ne (x := 11) (y := 0) (by kernel_rfl) (fun _ => ?_) (fun hd3 => False.elim (by omega)))
    refine wl_end (fr [pq g, iv at_, .slice A d.length cd, ud, ud, ud, iv 0, iv 11, ud, pq g, iv at_, iv 11, iv 11, tv] 51) (by kernel_rfl) ?_
    refine then_n ?_
    refine wp_cond_true (by kernel_rfl) ?_
    refine wp_seq ?_
    refine wp_region_lit ?_
    refine pv (iv 11) ?_
    refine pv (iv 11) ?_
    refine wl_end (fr [pq g, iv at_, .slice A d.length cd, ud, ud, ud, iv 11, iv 11, ud, pq g, iv at_, iv 11, iv 11, tv, iv 11] 50) (by kernel_rfl) ?_
    refine then_n ?_
    refine wp_ret ?_
    refine then_r ?_
    refine bodyPost_ret (v := .int .i64 11) (results_t1 rfl (by kernel_rfl)) rfl ?_
    exact ⟨rfl, St.pclose (gd := gd) (gm := gm) (clock := clock) (es := es) (fused := fused) (left := left) (s := { s with rf := inc s.rf }) S2 (hf.congr rfl rfl rfl)⟩
  obtain ⟨k, rfl⟩ : ∃ k : Nat, at_ = (k : Int) := ⟨at_.toNat, by omega⟩
  have hk : k < s.last.length := by omega
  by_cases hd5 : d.length ≠ 512
  · have e : s.writeR (k : Int) d = ({ s with rf := inc s.rf }, 2) := by unfold Dsk.writeR; rw [if_neg hz, if_neg ho, if_pos hd5]
    rw [e]
    change St F w0 w (row g #[.slice (some ⟨gd, 0, none⟩) (512 * s.last.length) (512 * s.last.length), .map (some gm), .bool fused, .int .i64 left, .int .i64 s.life, .int .i64 s.rd, .int .i64 s.wr, .int .i64 s.fl, .int .i64 s.rf, .int .i64 (s.pend.length : Int)] 87 :: row gd (bvs s.last.flatten) 5 :: pt gm (mapO (es.map PEnt.ent) clock) :: stars (es.map PEnt.ast) :: L) at S
    refine wp_enter (fr [pq g, iv ((k : Nat) : Int), .slice A d.length cd] 62) Try.func35 rfl (by kernel_rfl) ?_
    refine wp_seq ?_
    refine wp_region_lit ?_
    refine pv (iv 0) ?_
    refine wl_end (fr [pq g, iv ((k : Nat) : Int), .slice A d.length cd, ud, ud, ud, iv 0] 58) (by kernel_rfl) ?_
    refine then_n ?_
    refine wp_seq ?_
    refine wp_seq ?_
    refine wp_region_lit ?_
    refine pv (pq g) ?_
    refine pv (iv ((k : Nat) : Int)) ?_
    refine wl_gv rfl (gv_call (args := #[.pointer (some ⟨g, 0, none⟩), .int .i64 ((k : Nat) : Int)]) rfl Try.func61 (by kernel_rfl) rfl rfl (by kernel_rfl) ?_)
    refine Calls.mono (there_in hb rfl hn2 hk S) ?_
    rintro _ w1 ⟨rfl, S2⟩
    refine ⟨_, rfl, ?_⟩
    refine pv (iv 0) ?_
    refine wl_end (fr [pq g, iv ((k : Nat) : Int), .slice A d.length cd, ud, ud, ud, iv 0, iv 0, ud, pq g, iv ((k : Nat) : Int), iv 0] 53) (by kernel_rfl) ?_
    refine then_n ?_
    refine wp_seq ?_
    refine wp_region_lit ?_
    refine pv (iv 0) ?_
    refine wl_gv rfl (gv_ne (x := 0) (y := 0) (by kernel_rfl) (fun hd3 => False.elim (by omega)) (fun _ => ?_))
    refine wl_end (fr [pq g, iv ((k : Nat) : Int), .slice A d.length cd, ud, ud, ud, iv 0, iv 0, ud, pq g, iv ((k : Nat) : Int), iv 0, iv 0, fv] 51) (by kernel_rfl) ?_
    refine then_n ?_
    refine wp_cond_false (by kernel_rfl) ?_
    refine wp_skip ?_
    refine then_n ?_
    refine wp_seq ?_
    refine wp_seq ?_
    refine wp_region_lit ?_
    refine pv (.slice A d.length cd) ?_
    refine pv (iv (d.length : Nat)) ?_
    refine wl_gv rfl (gv_ne (x := (d.length : Nat)) (y := 512) (by kernel_rfl) (fun _ => ?_) (fun hd4 => False.elim (by omega)))
    refine wl_end (fr [pq g, iv ((k : Nat) : Int), .slice A d.length cd, ud, ud, ud, iv 0, iv 0, ud, pq g, iv ((k : Nat) : Int), iv 0, iv 0, fv, ud, .slice A d.length cd, iv (d.length : Nat), tv] 47) (by kernel_rfl) ?_
    refine then_n ?_
    refine wp_cond_true (by kernel_rfl) ?_
    refine wp_seq ?_
    refine wp_region_lit ?_
    refine pv (pq g) ?_
    refine pv (pq g) ?_
    refine pv (po g 5) ?_
    refine pv (po g 8) ?_
    refine wl_gv rfl (gv_ldR (v := .int .i64 s.rf) rfl (by kernel_rfl) (by kernel_rfl) (((S2.blk 0 rfl).cell 8).trans rfl) ?_)
    refine pv (iv (inc s.rf)) ?_
    refine pv (pq g) ?_
    refine pv (po g 5) ?_
    refine pv (po g 8) ?_
    refine wl_gv rfl (gv_st (k := 8) (v := .int .i64 (inc s.rf)) S2 0 rfl rfl (by kernel_rfl) (by kernel_rfl) (by kernel_rfl) rfl rfl (L' := (row g #[.slice (some ⟨gd, 0, none⟩) (512 * s.last.length) (512 * s.last.length), .map (some gm), .bool fused, .int .i64 left, .int .i64 s.life, .int .i64 s.rd, .int .i64 s.wr, .int .i64 s.fl, .int .i64 (inc s.rf), .int .i64 (s.pend.length : Int)] 87 :: row gd (bvs s.last.flatten) 5 :: pt gm (mapO (es.map PEnt.ent) clock) :: stars (es.map PEnt.ast) :: L)) rfl (fun w5 S6 => ?_))
    refine wl_end (fr [pq g, iv ((k : Nat) : Int), .slice A d.length cd, ud, ud, ud, iv 0, iv 0, ud, pq g, iv ((k : Nat) : Int), iv 0, iv 0, fv, ud, .slice A d.length cd, iv (d.length : Nat), tv, pq g, pq g, po g 5, po g 8, iv s.rf, iv (inc s.rf), pq g, po g 5, po g 8] 38) (by kernel_rfl) ?_
    refine then_n ?_
    refine wp_seq ?_
    refine wp_region_lit ?_
    refine pv (iv 2) ?_
    refine wl_end (fr [pq g, iv ((k : Nat) : Int), .slice A d.length cd, ud, ud, ud, iv 2, iv 0, ud, pq g, iv ((k : Nat) : Int), iv 0, iv 0, fv, ud, .slice A d.length cd, iv (d.length : Nat), tv, pq g, pq g, po g 5, po g 8, iv s.rf, iv (inc s.rf), pq g, po g 5, po g 8] 38) (by kernel_rfl) ?_
    refine then_n ?_
    refine wp_ret ?_
    refine then_r ?_
    refine bodyPost_ret (v := .int .i64 2) (results_t1 rfl (by kernel_rfl)) rfl ?_
    exact ⟨rfl, St.pclose (gd := gd) (gm := gm) (clock := clock) (es := es) (fused := fused) (left := left) (s := { s with rf := inc s.rf }) S6 (hf.congr rfl rfl rfl)⟩
  have hd : d.length = 512 := by omega
  have e : s.writeR (k : Int) d = ({ s with pend := s.pend ++ [(k, d)], wr := inc s.wr, left := spent s.left }, 0) := by unfold Dsk.writeR; rw [if_neg hz, if_neg ho, if_neg hd5, Int.toNat_natCast]
  rw [e]
  have hsp := hf.spend hz
  have hlb := spent_lb hf.lb hz
  rcases hf.find k with ⟨hp, hno⟩ | ⟨j, p, hj, hat, hp, hne, hje, hke, hfe⟩
  · rcases hsp with ⟨rfl, hdc, hde⟩ | ⟨rfl, hdc, hde⟩
    · skip
      change St F w0 w (row g #[.slice (some ⟨gd, 0, none⟩) (512 * s.last.length) (512 * s.last.length), .map (some gm), .bool true, .int .i64 left, .int .i64 s.life, .int .i64 s.rd, .int .i64 s.wr, .int .i64 s.fl, .int .i64 s.rf, .int .i64 (s.pend.length : Int)] 87 :: row gd (bvs s.last.flatten) 5 :: pt gm (mapO (es.map PEnt.ent) clock) :: stars (es.map PEnt.ast) :: L) at S
      refine wp_enter (fr [pq g, iv ((k : Nat) : Int), .slice A d.length cd] 62) Try.func35 rfl (by kernel_rfl) ?_
      refine wp_seq ?_
      refine wp_region_lit ?_
      refine pv (iv 0) ?_
      refine wl_end (fr [pq g, iv ((k : Nat) : Int), .slice A d.length cd, ud, ud, ud, iv 0] 58) (by kernel_rfl) ?_
      refine then_n ?_
      refine wp_seq ?_
      refine wp_seq ?_
      refine wp_region_lit ?_
      refine pv (pq g) ?_
      refine pv (iv ((k : Nat) : Int)) ?_
      refine wl_gv rfl (gv_call (args := #[.pointer (some ⟨g, 0, none⟩), .int .i64 ((k : Nat) : Int)]) rfl Try.func61 (by kernel_rfl) rfl rfl (by kernel_rfl) ?_)
      refine Calls.mono (there_in hb rfl hn2 hk S) ?_
      rintro _ w1 ⟨rfl, S2⟩
      refine ⟨_, rfl, ?_⟩
      refine pv (iv 0) ?_
      refine wl_end (fr [pq g, iv ((k : Nat) : Int), .slice A d.length cd, ud, ud, ud, iv 0, iv 0, ud, pq g, iv ((k : Nat) : Int), iv 0] 53) (by kernel_rfl) ?_
      refine then_n ?_
      refine wp_seq ?_
      refine wp_region_lit ?_
      refine pv (iv 0) ?_
      refine wl_gv rfl (gv_ne (x := 0) (y := 0) (by kernel_rfl) (fun hd3 => False.elim (by omega)) (fun _ => ?_))
      refine wl_end (fr [pq g, iv ((k : Nat) : Int), .slice A d.length cd, ud, ud, ud, iv 0, iv 0, ud, pq g, iv ((k : Nat) : Int), iv 0, iv 0, fv] 51) (by kernel_rfl) ?_
      refine then_n ?_
      refine wp_cond_false (by kernel_rfl) ?_
      refine wp_skip ?_
      refine then_n ?_
      refine wp_seq ?_
      refine wp_seq ?_
      refine wp_region_lit ?_
      refine pv (.slice A d.length cd) ?_
      refine pv (iv (d.length : Nat)) ?_
      refine wl_gv rfl (gv_ne (x := (d.length : Nat)) (y := 512) (by kernel_rfl) (fun hd4 => False.elim (by omega)) (fun _ => ?_))
      refine wl_end (fr [pq g, iv ((k : Nat) : Int), .slice A d.length cd, ud, ud, ud, iv 0, iv 0, ud, pq g, iv ((k : Nat) : Int), iv 0, iv 0, fv, ud, .slice A d.length cd, iv (d.length : Nat), fv] 47) (by kernel_rfl) ?_
      refine then_n ?_
      refine wp_cond_false (by kernel_rfl) ?_
      refine wp_skip ?_
      refine then_n ?_
      refine wp_seq ?_
      refine wp_region_lit ?_
      refine wl_gv rfl (gv_make (e := 5) (u := 512) (v := 512) (z := .int .u8 0) (sz := 1) (by_ := 1) (n := 512) (c := 512) (cs := (bvs (List.replicate 512 0))) S2 rfl (by kernel_rfl) ⟨by kernel_rfl⟩ (by kernel_rfl) (by kernel_rfl) rfl rfl (Nat.le_refl _) (by decide) (by decide) (mk_bytes _) (fun g5 w6 hg7 S8 => ?_))
      refine pv (sl g5 0 512 512) ?_
      refine wl_end (fr [pq g, iv ((k : Nat) : Int), .slice A d.length cd, ud, ud, ud, iv 0, iv 0, sl g5 0 512 512, pq g, iv ((k : Nat) : Int), iv 0, iv 0, fv, ud, .slice A d.length cd, iv (d.length : Nat), fv, ud, ud, ud, ud, ud, ud, ud, ud, ud, sl g5 0 512 512] 37) (by kernel_rfl) ?_
      refine then_n ?_
      refine wp_seq ?_
      refine wp_region_lit ?_
      refine pv (sl g5 0 512 512) ?_
      refine pv (.slice A d.length cd) ?_
      refine wl_gv rfl (gv_copy (e := 5) (off := 0) (dLen := 512) (dCap := 512) (sLen := d.length) (sCap := cd) (A := A) (B := (List.replicate 512 0)) (l := d) S8 0 rfl rfl (by kernel_rfl) (by kernel_rfl) (by kernel_rfl) (by kernel_rfl) rfl (hr.out _ [row g5 (bvs (List.replicate 512 0)) 5, row g #[.slice (some ⟨gd, 0, none⟩) (512 * s.last.length) (512 * s.last.length), .map (some gm), .bool true, .int .i64 left, .int .i64 s.life, .int .i64 s.rd, .int .i64 s.wr, .int .i64 s.fl, .int .i64 s.rf, .int .i64 (s.pend.length : Int)] 87, row gd (bvs s.last.flatten) 5, pt gm (mapO (es.map PEnt.ent) clock), stars (es.map PEnt.ast)] S8) (by simp) (L' := (row g5 (bvs d) 5 :: row g #[.slice (some ⟨gd, 0, none⟩) (512 * s.last.length) (512 * s.last.length), .map (some gm), .bool true, .int .i64 left, .int .i64 s.life, .int .i64 s.rd, .int .i64 s.wr, .int .i64 s.fl, .int .i64 s.rf, .int .i64 (s.pend.length : Int)] 87 :: row gd (bvs s.last.flatten) 5 :: pt gm (mapO (es.map PEnt.ent) clock) :: stars (es.map PEnt.ast) :: L)) (by rw [copy512 hd]; rfl) (fun w9 m11 S10 => ?_))
      refine wl_end (fr [pq g, iv ((k : Nat) : Int), .slice A d.length cd, ud, ud, ud, iv 0, iv 0, sl g5 0 512 512, pq g, iv ((k : Nat) : Int), iv 0, iv 0, fv, ud, .slice A d.length cd, iv (d.length : Nat), fv, ud, ud, ud, ud, ud, ud, ud, ud, ud, sl g5 0 512 512, sl g5 0 512 512, .slice A d.length cd, goInt m11] 34) (by kernel_rfl) ?_
      refine then_n ?_
      refine wp_seq ?_
      have S12 : St F w0 w9 (vec 31 1 (.slice none 0 0) 0 [] :: row g5 (bvs d) 5 :: row g #[.slice (some ⟨gd, 0, none⟩) (512 * s.last.length) (512 * s.last.length), .map (some gm), .bool true, .int .i64 left, .int .i64 s.life, .int .i64 s.rd, .int .i64 s.wr, .int .i64 s.fl, .int .i64 s.rf, .int .i64 (s.pend.length : Int)] 87 :: row gd (bvs s.last.flatten) 5 :: pt gm (mapO (es.map PEnt.ent) clock) :: stars (es.map PEnt.ast) :: L) := St.vec_nil S10
      refine wp_region_phu (γ := Nat × Value) 14 [12, 13] (fun (c_ : Nat × Value) (i_ : Nat) => (match i_ with | 0 => .pointer (some ⟨g, 0, none⟩) | 1 => .pointer (some ⟨g, 0, none⟩) | 2 => .pointer (some ⟨g, 1, none⟩) | 3 => .map (some gm) | 4 => .int .i64 ((k : Nat) : Int) | 5 => .pointer (some ⟨g, 0, none⟩) | 6 => .pointer (some ⟨g, 0, none⟩) | 7 => .pointer (some ⟨g, 1, none⟩) | 8 => .map (some gm) | 9 => .int .i64 ((k : Nat) : Int) | 10 => .slice none 0 0 | 11 => .slice (some ⟨g5, 0, none⟩) 512 512 | 12 => .slice (some ⟨c_.1, 0, none⟩) 1 1 | 13 => c_.2 | _ => undef : Value)) (fun (c_ : Nat × Value) (p_ : Nat) (w_ : World) => (match p_ with | 0 => St F w0 w_ (vec 31 1 (.slice none 0 0) 0 [] :: row g5 (bvs d) 5 :: row g #[.slice (some ⟨gd, 0, none⟩) (512 * s.last.length) (512 * s.last.length), .map (some gm), .bool true, .int .i64 left, .int .i64 s.life, .int .i64 s.rd, .int .i64 s.wr, .int .i64 s.fl, .int .i64 s.rf, .int .i64 (s.pend.length : Int)] 87 :: row gd (bvs s.last.flatten) 5 :: pt gm (mapO (es.map PEnt.ent) clock) :: stars (es.map PEnt.ast) :: L) | 1 => St F w0 w_ (row c_.1 #[.slice (some ⟨g5, 0, none⟩) 512 512] 31 :: vec 31 1 (.slice none 0 0) 0 [] :: row g5 (bvs d) 5 :: row g #[.slice (some ⟨gd, 0, none⟩) (512 * s.last.length) (512 * s.last.length), .map (some gm), .bool true, .int .i64 left, .int .i64 s.life, .int .i64 s.rd, .int .i64 s.wr, .int .i64 s.fl, .int .i64 s.rf, .int .i64 (s.pend.length : Int)] 87 :: row gd (bvs s.last.flatten) 5 :: pt gm (mapO (es.map PEnt.ent) clock) :: stars (es.map PEnt.ast) :: L) | _ => St F w0 w_ (vec 31 1 c_.2 1 [.slice (some ⟨g5, 0, none⟩) 512 512] :: row c_.1 #[.slice (some ⟨g5, 0, none⟩) 512 512] 31 :: row g5 (bvs d) 5 :: row g #[.slice (some ⟨gd, 0, none⟩) (512 * s.last.length) (512 * s.last.length), .map (some gm), .bool true, .int .i64 left, .int .i64 s.life, .int .i64 s.rd, .int .i64 s.wr, .int .i64 s.fl, .int .i64 s.rf, .int .i64 (s.pend.length : Int)] 87 :: row gd (bvs s.last.flatten) 5 :: pt gm (mapO (es.map PEnt.ent) clock) :: stars (es.map PEnt.ast) :: L) : Prop)) (0, undef) (by kernel_rfl) (by kernel_rfl) (by kernel_rfl) (by kernel_rfl) (S12.drew) ?_ ?_ ?_
      · intro i_ c_ p_ vals_ w1 hi_ hiE_ hp_ hk_ hu_ hPh_ hd_
        rcases i_ with _ | _ | _ | _ | _ | _ | _ | _ | _ | _ | _ | _ | _ | _ | i_
        · skip
          refine told_free rfl rfl (gv_env ((⟨Array.replicate 65 undef, []⟩ : Act).put (some 0) (.pointer (some ⟨g, 0, none⟩))) (by kernel_rfl) (xs := [.tmp 0]) (by kernel_rfl) (alike_cons (fill_past (by kernel_rfl) (by kernel_rfl)) alike_nil) (gv_val (v := .pointer (some ⟨g, 0, none⟩)) (w' := w1) (by kernel_rfl) ?_))
          exact ⟨rfl, rfl⟩
        · skip
          refine told_free rfl rfl (gv_env ((⟨Array.replicate 65 undef, []⟩ : Act).put (some 31) (.pointer (some ⟨g, 0, none⟩))) (by kernel_rfl) (xs := [.tmp 31]) (by kernel_rfl) (alike_cons (fill_at (k := 0) (by kernel_rfl) (by kernel_rfl) ((hd_ 0 (by kernel_rfl)).trans (by kernel_rfl))) alike_nil) (gv_val (v := .pointer (some ⟨g, 0, none⟩)) (w' := w1) (by kernel_rfl) ?_))
          exact ⟨rfl, rfl⟩
        · skip
          refine told_free rfl rfl (gv_env ((⟨Array.replicate 65 undef, []⟩ : Act).put (some 32) (.pointer (some ⟨g, 0, none⟩))) (by kernel_rfl) (xs := [.tmp 32]) (by kernel_rfl) (alike_cons (fill_at (k := 1) (by kernel_rfl) (by kernel_rfl) ((hd_ 1 (by kernel_rfl)).trans (by kernel_rfl))) alike_nil) (gv_val (v := .pointer (some ⟨g, 1, none⟩)) (w' := w1) (by kernel_rfl) ?_))
          exact ⟨rfl, rfl⟩
        · skip
          rcases p_ with _ | _ | _ | p_
          · skip
            have S16 : St F w0 w1 (vec 31 1 (.slice none 0 0) 0 [] :: row g5 (bvs d) 5 :: row g #[.slice (some ⟨gd, 0, none⟩) (512 * s.last.length) (512 * s.last.length), .map (some gm), .bool true, .int .i64 left, .int .i64 s.life, .int .i64 s.rd, .int .i64 s.wr, .int .i64 s.fl, .int .i64 s.rf, .int .i64 (s.pend.length : Int)] 87 :: row gd (bvs s.last.flatten) 5 :: pt gm (mapO (es.map PEnt.ent) clock) :: stars (es.map PEnt.ast) :: L) := hPh_
            refine told_free rfl rfl (gv_env ((⟨Array.replicate 65 undef, []⟩ : Act).put (some 33) (.pointer (some ⟨g, 1, none⟩))) (by kernel_rfl) (xs := [.tmp 33]) (by kernel_rfl) (alike_cons (fill_at (k := 2) (by kernel_rfl) (by kernel_rfl) ((hd_ 2 (by kernel_rfl)).trans (by kernel_rfl))) alike_nil) (gv_ldR (v := .map (some gm)) rfl (by kernel_rfl) (by kernel_rfl) (((S16.blk 2 rfl).cell 1).trans rfl) ?_))
            exact ⟨rfl, rfl⟩
          · skip
            have S17 : St F w0 w1 (row c_.1 #[.slice (some ⟨g5, 0, none⟩) 512 512] 31 :: vec 31 1 (.slice none 0 0) 0 [] :: row g5 (bvs d) 5 :: row g #[.slice (some ⟨gd, 0, none⟩) (512 * s.last.length) (512 * s.last.length), .map (some gm), .bool true, .int .i64 left, .int .i64 s.life, .int .i64 s.rd, .int .i64 s.wr, .int .i64 s.fl, .int .i64 s.rf, .int .i64 (s.pend.length : Int)] 87 :: row gd (bvs s.last.flatten) 5 :: pt gm (mapO (es.map PEnt.ent) clock) :: stars (es.map PEnt.ast) :: L) := hPh_
            refine told_free rfl rfl (gv_env ((⟨Array.replicate 65 undef, []⟩ : Act).put (some 33) (.pointer (some ⟨g, 1, none⟩))) (by kernel_rfl) (xs := [.tmp 33]) (by kernel_rfl) (alike_cons (fill_at (k := 2) (by kernel_rfl) (by kernel_rfl) ((hd_ 2 (by kernel_rfl)).trans (by kernel_rfl))) alike_nil) (gv_ldR (v := .map (some gm)) rfl (by kernel_rfl) (by kernel_rfl) (((S17.blk 3 rfl).cell 1).trans rfl) ?_))
            exact ⟨rfl, rfl⟩
          · skip
            have S18 : St F w0 w1 (vec 31 1 c_.2 1 [.slice (some ⟨g5, 0, none⟩) 512 512] :: row c_.1 #[.slice (some ⟨g5, 0, none⟩) 512 512] 31 :: row g5 (bvs d) 5 :: row g #[.slice (some ⟨gd, 0, none⟩) (512 * s.last.length) (512 * s.last.length), .map (some gm), .bool true, .int .i64 left, .int .i64 s.life, .int .i64 s.rd, .int .i64 s.wr, .int .i64 s.fl, .int .i64 s.rf, .int .i64 (s.pend.length : Int)] 87 :: row gd (bvs s.last.flatten) 5 :: pt gm (mapO (es.map PEnt.ent) clock) :: stars (es.map PEnt.ast) :: L) := hPh_
            refine told_free rfl rfl (gv_env ((⟨Array.replicate 65 undef, []⟩ : Act).put (some 33) (.pointer (some ⟨g, 1, none⟩))) (by kernel_rfl) (xs := [.tmp 33]) (by kernel_rfl) (alike_cons (fill_at (k := 2) (by kernel_rfl) (by kernel_rfl) ((hd_ 2 (by kernel_rfl)).trans (by kernel_rfl))) alike_nil) (gv_ldR (v := .map (some gm)) rfl (by kernel_rfl) (by kernel_rfl) (((S18.blk 3 rfl).cell 1).trans rfl) ?_))
            exact ⟨rfl, rfl⟩
          · exact absurd hp_ (by simp)
        · skip
          refine told_free rfl rfl (gv_env ((⟨Array.replicate 65 undef, []⟩ : Act).put (some 1) (.int .i64 ((k : Nat) : Int))) (by kernel_rfl) (xs := [.tmp 1]) (by kernel_rfl) (alike_cons (fill_past (by kernel_rfl) (by kernel_rfl)) alike_nil) (gv_val (v := .int .i64 ((k : Nat) : Int)) (w' := w1) (by kernel_rfl) ?_))
          exact ⟨rfl, rfl⟩
        · skip
          refine told_free rfl rfl (gv_env ((⟨Array.replicate 65 undef, []⟩ : Act).put (some 0) (.pointer (some ⟨g, 0, none⟩))) (by kernel_rfl) (xs := [.tmp 0]) (by kernel_rfl) (alike_cons (fill_past (by kernel_rfl) (by kernel_rfl)) alike_nil) (gv_val (v := .pointer (some ⟨g, 0, none⟩)) (w' := w1) (by kernel_rfl) ?_))
          exact ⟨rfl, rfl⟩
        · skip
          refine told_free rfl rfl (gv_env ((⟨Array.replicate 65 undef, []⟩ : Act).put (some 36) (.pointer (some ⟨g, 0, none⟩))) (by kernel_rfl) (xs := [.tmp 36]) (by kernel_rfl) (alike_cons (fill_at (k := 5) (by kernel_rfl) (by kernel_rfl) ((hd_ 5 (by kernel_rfl)).trans (by kernel_rfl))) alike_nil) (gv_val (v := .pointer (some ⟨g, 0, none⟩)) (w' := w1) (by kernel_rfl) ?_))
          exact ⟨rfl, rfl⟩
        · skip
          refine told_free rfl rfl (gv_env ((⟨Array.replicate 65 undef, []⟩ : Act).put (some 37) (.pointer (some ⟨g, 0, none⟩))) (by kernel_rfl) (xs := [.tmp 37]) (by kernel_rfl) (alike_cons (fill_at (k := 6) (by kernel_rfl) (by kernel_rfl) ((hd_ 6 (by kernel_rfl)).trans (by kernel_rfl))) alike_nil) (gv_val (v := .pointer (some ⟨g, 1, none⟩)) (w' := w1) (by kernel_rfl) ?_))
          exact ⟨rfl, rfl⟩
        · skip
          rcases p_ with _ | _ | _ | p_
          · skip
            have S23 : St F w0 w1 (vec 31 1 (.slice none 0 0) 0 [] :: row g5 (bvs d) 5 :: row g #[.slice (some ⟨gd, 0, none⟩) (512 * s.last.length) (512 * s.last.length), .map (some gm), .bool true, .int .i64 left, .int .i64 s.life, .int .i64 s.rd, .int .i64 s.wr, .int .i64 s.fl, .int .i64 s.rf, .int .i64 (s.pend.length : Int)] 87 :: row gd (bvs s.last.flatten) 5 :: pt gm (mapO (es.map PEnt.ent) clock) :: stars (es.map PEnt.ast) :: L) := hPh_
            refine told_free rfl rfl (gv_env ((⟨Array.replicate 65 undef, []⟩ : Act).put (some 38) (.pointer (some ⟨g, 1, none⟩))) (by kernel_rfl) (xs := [.tmp 38]) (by kernel_rfl) (alike_cons (fill_at (k := 7) (by kernel_rfl) (by kernel_rfl) ((hd_ 7 (by kernel_rfl)).trans (by kernel_rfl))) alike_nil) (gv_ldR (v := .map (some gm)) rfl (by kernel_rfl) (by kernel_rfl) (((S23.blk 2 rfl).cell 1).trans rfl) ?_))
            exact ⟨rfl, rfl⟩
          · skip
            have S24 : St F w0 w1 (row c_.1 #[.slice (some ⟨g5, 0, none⟩) 512 512] 31 :: vec 31 1 (.slice none 0 0) 0 [] :: row g5 (bvs d) 5 :: row g #[.slice (some ⟨gd, 0, none⟩) (512 * s.last.length) (512 * s.last.length), .map (some gm), .bool true, .int .i64 left, .int .i64 s.life, .int .i64 s.rd, .int .i64 s.wr, .int .i64 s.fl, .int .i64 s.rf, .int .i64 (s.pend.length : Int)] 87 :: row gd (bvs s.last.flatten) 5 :: pt gm (mapO (es.map PEnt.ent) clock) :: stars (es.map PEnt.ast) :: L) := hPh_
            refine told_free rfl rfl (gv_env ((⟨Array.replicate 65 undef, []⟩ : Act).put (some 38) (.pointer (some ⟨g, 1, none⟩))) (by kernel_rfl) (xs := [.tmp 38]) (by kernel_rfl) (alike_cons (fill_at (k := 7) (by kernel_rfl) (by kernel_rfl) ((hd_ 7 (by kernel_rfl)).trans (by kernel_rfl))) alike_nil) (gv_ldR (v := .map (some gm)) rfl (by kernel_rfl) (by kernel_rfl) (((S24.blk 3 rfl).cell 1).trans rfl) ?_))
            exact ⟨rfl, rfl⟩
          · skip
            exact absurd (hu_ 1 (by decide) (by kernel_rfl)) (by decide)
          · exact absurd hp_ (by simp)
        · skip
          refine told_free rfl rfl (gv_env ((⟨Array.replicate 65 undef, []⟩ : Act).put (some 1) (.int .i64 ((k : Nat) : Int))) (by kernel_rfl) (xs := [.tmp 1]) (by kernel_rfl) (alike_cons (fill_past (by kernel_rfl) (by kernel_rfl)) alike_nil) (gv_val (v := .int .i64 ((k : Nat) : Int)) (w' := w1) (by kernel_rfl) ?_))
          exact ⟨rfl, rfl⟩
        · skip
          rcases p_ with _ | _ | _ | p_
          · skip
            have S26 : St F w0 w1 (vec 31 1 (.slice none 0 0) 0 [] :: row g5 (bvs d) 5 :: row g #[.slice (some ⟨gd, 0, none⟩) (512 * s.last.length) (512 * s.last.length), .map (some gm), .bool true, .int .i64 left, .int .i64 s.life, .int .i64 s.rd, .int .i64 s.wr, .int .i64 s.fl, .int .i64 s.rf, .int .i64 (s.pend.length : Int)] 87 :: row gd (bvs s.last.flatten) 5 :: pt gm (mapO (es.map PEnt.ent) clock) :: stars (es.map PEnt.ast) :: L) := hPh_
            refine told_free rfl rfl (gv_env (((⟨Array.replicate 65 undef, []⟩ : Act).put (some 39) (.map (some gm))).put (some 40) (.int .i64 ((k : Nat) : Int))) (by kernel_rfl) (xs := [.tmp 39, .tmp 40]) (by kernel_rfl) (alike_cons (fill_at (k := 8) (by kernel_rfl) (by kernel_rfl) ((hd_ 8 (by kernel_rfl)).trans (by kernel_rfl))) (alike_cons (fill_at (k := 9) (by kernel_rfl) (by kernel_rfl) ((hd_ 9 (by kernel_rfl)).trans (by kernel_rfl))) alike_nil)) (gv_look_none (kT := 3) (eT := 52) (k := ((k : Nat) : Int)) (z := .slice none 0 0) (S26.get 4 rfl) rfl (by kernel_rfl) (by kernel_rfl) (by kernel_rfl) (by kernel_rfl) (by kernel_rfl) hno ?_))
            exact ⟨rfl, rfl⟩
          · skip
            have S27 : St F w0 w1 (row c_.1 #[.slice (some ⟨g5, 0, none⟩) 512 512] 31 :: vec 31 1 (.slice none 0 0) 0 [] :: row g5 (bvs d) 5 :: row g #[.slice (some ⟨gd, 0, none⟩) (512 * s.last.length) (512 * s.last.length), .map (some gm), .bool true, .int .i64 left, .int .i64 s.life, .int .i64 s.rd, .int .i64 s.wr, .int .i64 s.fl, .int .i64 s.rf, .int .i64 (s.pend.length : Int)] 87 :: row gd (bvs s.last.flatten) 5 :: pt gm (mapO (es.map PEnt.ent) clock) :: stars (es.map PEnt.ast) :: L) := hPh_
            refine told_free rfl rfl (gv_env (((⟨Array.replicate 65 undef, []⟩ : Act).put (some 39) (.map (some gm))).put (some 40) (.int .i64 ((k : Nat) : Int))) (by kernel_rfl) (xs := [.tmp 39, .tmp 40]) (by kernel_rfl) (alike_cons (fill_at (k := 8) (by kernel_rfl) (by kernel_rfl) ((hd_ 8 (by kernel_rfl)).trans (by kernel_rfl))) (alike_cons (fill_at (k := 9) (by kernel_rfl) (by kernel_rfl) ((hd_ 9 (by kernel_rfl)).trans (by kernel_rfl))) alike_nil)) (gv_look_none (kT := 3) (eT := 52) (k := ((k : Nat) : Int)) (z := .slice none 0 0) (S27.get 5 rfl) rfl (by kernel_rfl) (by kernel_rfl) (by kernel_rfl) (by kernel_rfl) (by kernel_rfl) hno ?_))
            exact ⟨rfl, rfl⟩
          · skip
            exact absurd (hu_ 1 (by decide) (by kernel_rfl)) (by decide)
          · exact absurd hp_ (by simp)
        · skip
          refine told_free rfl rfl (gv_env ((⟨Array.replicate 65 undef, []⟩ : Act).put (some 8) (.slice (some ⟨g5, 0, none⟩) 512 512)) (by kernel_rfl) (xs := [.tmp 8]) (by kernel_rfl) (alike_cons (fill_past (by kernel_rfl) (by kernel_rfl)) alike_nil) (gv_val (v := .slice (some ⟨g5, 0, none⟩) 512 512) (w' := w1) (by kernel_rfl) ?_))
          exact ⟨rfl, rfl⟩
        · skip
          exact absurd hiE_ (by decide)
        · skip
          exact absurd hiE_ (by decide)
        · exact absurd hi_ (by omega)
      · intro k_ c_ vals_ w1 hk_ hPh_ hd_
        rcases k_ with _ | _ | k_
        · skip
          have S29 : St F w0 w1 (vec 31 1 (.slice none 0 0) 0 [] :: row g5 (bvs d) 5 :: row g #[.slice (some ⟨gd, 0, none⟩) (512 * s.last.length) (512 * s.last.length), .map (some gm), .bool true, .int .i64 left, .int .i64 s.life, .int .i64 s.rd, .int .i64 s.wr, .int .i64 s.fl, .int .i64 s.rf, .int .i64 (s.pend.length : Int)] 87 :: row gd (bvs s.last.flatten) 5 :: pt gm (mapO (es.map PEnt.ent) clock) :: stars (es.map PEnt.ast) :: L) := hPh_
          refine told_free rfl rfl (gv_env ((⟨Array.replicate 65 undef, []⟩ : Act).put (some 42) (.slice (some ⟨g5, 0, none⟩) 512 512)) (by kernel_rfl) (xs := [.tmp 42]) (by kernel_rfl) (alike_cons (fill_at (k := 11) (by kernel_rfl) (by kernel_rfl) ((hd_ 11 (by kernel_rfl)).trans (by kernel_rfl))) alike_nil) (gv_slit (e := 31) (sz := 1) (z := .slice none 0 0) (by_ := 24) (vs := #[(0, .slice (some ⟨g5, 0, none⟩) 512 512)]) (cells := #[.slice (some ⟨g5, 0, none⟩) 512 512]) S29 rfl (by kernel_rfl) ⟨by kernel_rfl⟩ (by kernel_rfl) (by kernel_rfl) (by kernel_rfl) (by kernel_rfl) (fun g30 w31 hg32 S33 => ?_)))
          refine ⟨(g30, c_.2), rfl, ?_, S33⟩
          intro i_ hi_ hne_ hdp_
          rcases i_ with _ | _ | _ | _ | _ | _ | _ | _ | _ | _ | _ | _ | _ | _ | i_
          · rfl
          · rfl
          · rfl
          · rfl
          · rfl
          · rfl
          · rfl
          · rfl
          · rfl
          · rfl
          · rfl
          · rfl
          · exact absurd rfl hne_
          · exact (dep_no hdp_ (by kernel_rfl)).elim
          · exact absurd hi_ (by omega)
        · skip
          have S34 : St F w0 w1 (row c_.1 #[.slice (some ⟨g5, 0, none⟩) 512 512] 31 :: vec 31 1 (.slice none 0 0) 0 [] :: row g5 (bvs d) 5 :: row g #[.slice (some ⟨gd, 0, none⟩) (512 * s.last.length) (512 * s.last.length), .map (some gm), .bool true, .int .i64 left, .int .i64 s.life, .int .i64 s.rd, .int .i64 s.wr, .int .i64 s.fl, .int .i64 s.rf, .int .i64 (s.pend.length : Int)] 87 :: row gd (bvs s.last.flatten) 5 :: pt gm (mapO (es.map PEnt.ent) clock) :: stars (es.map PEnt.ast) :: L) := hPh_
          refine told_free rfl rfl (gv_env (((⟨Array.replicate 65 undef, []⟩ : Act).put (some 41) (.slice none 0 0)).put (some 43) (.slice (some ⟨c_.1, 0, none⟩) 1 1)) (by kernel_rfl) (xs := [.tmp 41, .tmp 43]) (by kernel_rfl) (alike_cons (fill_at (k := 10) (by kernel_rfl) (by kernel_rfl) ((hd_ 10 (by kernel_rfl)).trans (by kernel_rfl))) (alike_cons (fill_at (k := 12) (by kernel_rfl) (by kernel_rfl) ((hd_ 12 (by kernel_rfl)).trans (by kernel_rfl))) alike_nil)) (gv_append (e := 31) (sz := 1) (n := 0) (v := (.slice none 0 0)) (vals := []) (z := .slice none 0 0) (by_ := 24) (m := 1) (c' := 1) (ad := ⟨c_.1, 0, none⟩) (news := [.slice (some ⟨g5, 0, none⟩) 512 512]) (St.swap S34) rfl (by kernel_rfl) ⟨by kernel_rfl⟩ rfl (by kernel_rfl) (by kernel_rfl) (by decide) rfl (row_news (S34.blk 0 rfl)) (by intro u hu; simp at hu; subst hu; rfl) (by omega) (by omega) (fun v36 w35 S37 => ?_)))
          refine ⟨(c_.1, v36), rfl, ?_, S37⟩
          intro i_ hi_ hne_ hdp_
          rcases i_ with _ | _ | _ | _ | _ | _ | _ | _ | _ | _ | _ | _ | _ | _ | i_
          · rfl
          · rfl
          · rfl
          · rfl
          · rfl
          · rfl
          · rfl
          · rfl
          · rfl
          · rfl
          · rfl
          · rfl
          · rfl
          · exact absurd rfl hne_
          · exact absurd hi_ (by omega)
        · exact absurd hk_ (by simp)
      · intro c_ w1 hPh_
        have S38 : St F w0 w1 (vec 31 1 c_.2 1 [.slice (some ⟨g5, 0, none⟩) 512 512] :: row c_.1 #[.slice (some ⟨g5, 0, none⟩) 512 512] 31 :: row g5 (bvs d) 5 :: row g #[.slice (some ⟨gd, 0, none⟩) (512 * s.last.length) (512 * s.last.length), .map (some gm), .bool true, .int .i64 left, .int .i64 s.life, .int .i64 s.rd, .int .i64 s.wr, .int .i64 s.fl, .int .i64 s.rf, .int .i64 (s.pend.length : Int)] 87 :: row gd (bvs s.last.flatten) 5 :: pt gm (mapO (es.map PEnt.ent) clock) :: stars (es.map PEnt.ast) :: L) := hPh_
        refine wl_frame (fr [pq g, iv ((k : Nat) : Int), .slice A d.length cd, ud, ud, ud, iv 0, iv 0, sl g5 0 512 512, pq g, iv ((k : Nat) : Int), iv 0, iv 0, fv, ud, .slice A d.length cd, iv (d.length : Nat), fv, ud, ud, ud, ud, ud, ud, ud, ud, ud, sl g5 0 512 512, sl g5 0 512 512, .slice A d.length cd, goInt m11, pq g, pq g, po g 1, .map (some gm), iv ((k : Nat) : Int), pq g, pq g, po g 1, .map (some gm), iv ((k : Nat) : Int), .slice none 0 0, sl g5 0 512 512, sl c_.1 0 1 1, c_.2] 20) (by kernel_rfl) ?_
        refine wl_gv rfl (gv_put_new (kT := 3) (eT := 52) (g := gm) (clock := clock) (es := es.map PEnt.ent) (k := ((k : Nat) : Int)) (v := c_.2) S38 5 rfl rfl (by kernel_rfl) (by kernel_rfl) (by kernel_rfl) (by kernel_rfl) (by kernel_rfl) hno (L' := (vec 31 1 c_.2 1 [.slice (some ⟨g5, 0, none⟩) 512 512] :: row c_.1 #[.slice (some ⟨g5, 0, none⟩) 512 512] 31 :: row g5 (bvs d) 5 :: row g #[.slice (some ⟨gd, 0, none⟩) (512 * s.last.length) (512 * s.last.length), .map (some gm), .bool true, .int .i64 left, .int .i64 s.life, .int .i64 s.rd, .int .i64 s.wr, .int .i64 s.fl, .int .i64 s.rf, .int .i64 (s.pend.length : Int)] 87 :: row gd (bvs s.last.flatten) 5 :: pt gm (mapO (es.map PEnt.ent ++ [⟨((k : Nat) : Int), c_.2, clock⟩]) (clock + 1)) :: stars (es.map PEnt.ast) :: L)) rfl (fun w39 S40 => ?_))
        refine wl_end (fr [pq g, iv ((k : Nat) : Int), .slice A d.length cd, ud, ud, ud, iv 0, iv 0, sl g5 0 512 512, pq g, iv ((k : Nat) : Int), iv 0, iv 0, fv, ud, .slice A d.length cd, iv (d.length : Nat), fv, ud, ud, ud, ud, ud, ud, ud, ud, ud, sl g5 0 512 512, sl g5 0 512 512, .slice A d.length cd, goInt m11, pq g, pq g, po g 1, .map (some gm), iv ((k : Nat) : Int), pq g, pq g, po g 1, .map (some gm), iv ((k : Nat) : Int), .slice none 0 0, sl g5 0 512 512, sl c_.1 0 1 1, c_.2] 20) (by kernel_rfl) ?_
        refine then_n ?_
        refine wp_seq ?_
        refine wp_region_lit ?_
        refine pv (pq g) ?_
        refine pv (pq g) ?_
        refine pv (po g 5) ?_
        refine pv (po g 6) ?_
        refine wl_gv rfl (gv_ldR (v := .int .i64 s.wr) rfl (by kernel_rfl) (by kernel_rfl) (((S40.blk 3 rfl).cell 6).trans rfl) ?_)
        refine pv (iv (inc s.wr)) ?_
        refine pv (pq g) ?_
        refine pv (po g 5) ?_
        refine pv (po g 6) ?_
        refine wl_gv rfl (gv_st (k := 6) (v := .int .i64 (inc s.wr)) S40 3 rfl rfl (by kernel_rfl) (by kernel_rfl) (by kernel_rfl) rfl rfl (L' := (vec 31 1 c_.2 1 [.slice (some ⟨g5, 0, none⟩) 512 512] :: row c_.1 #[.slice (some ⟨g5, 0, none⟩) 512 512] 31 :: row g5 (bvs d) 5 :: row g #[.slice (some ⟨gd, 0, none⟩) (512 * s.last.length) (512 * s.last.length), .map (some gm), .bool true, .int .i64 left, .int .i64 s.life, .int .i64 s.rd, .int .i64 (inc s.wr), .int .i64 s.fl, .int .i64 s.rf, .int .i64 (s.pend.length : Int)] 87 :: row gd (bvs s.last.flatten) 5 :: pt gm (mapO (es.map PEnt.ent ++ [⟨((k : Nat) : Int), c_.2, clock⟩]) (clock + 1)) :: stars (es.map PEnt.ast) :: L)) rfl (fun w41 S42 => ?_))
        refine wl_end (fr [pq g, iv ((k : Nat) : Int), .slice A d.length cd, ud, ud, ud, iv 0, iv 0, sl g5 0 512 512, pq g, iv ((k : Nat) : Int), iv 0, iv 0, fv, ud, .slice A d.length cd, iv (d.length : Nat), fv, ud, ud, ud, ud, ud, ud, ud, ud, ud, sl g5 0 512 512, sl g5 0 512 512, .slice A d.length cd, goInt m11, pq g, pq g, po g 1, .map (some gm), iv ((k : Nat) : Int), pq g, pq g, po g 1, .map (some gm), iv ((k : Nat) : Int), .slice none 0 0, sl g5 0 512 512, sl c_.1 0 1 1, c_.2, pq g, pq g, po g 5, po g 6, iv s.wr, iv (inc s.wr), pq g, po g 5, po g 6] 11) (by kernel_rfl) ?_
        refine then_n ?_
        refine wp_seq ?_
        refine wp_region_lit ?_
        refine pv (pq g) ?_
        refine pv (pq g) ?_
        refine pv (po g 5) ?_
        refine pv (po g 9) ?_
        refine wl_gv rfl (gv_ldR (v := .int .i64 (s.pend.length : Int)) rfl (by kernel_rfl) (by kernel_rfl) (((S42.blk 3 rfl).cell 9).trans rfl) ?_)
        refine wl_gv rfl (gv_int (k := .i64) (z := IntKind.i64.wrap ((s.pend.length : Int) + 1)) (z' := ((s.pend.length + 1 : Nat) : Int)) (by kernel_rfl) (wr_eq (by omega) (by omega) (by omega)) ?_)
        refine pv (pq g) ?_
        refine pv (po g 5) ?_
        refine pv (po g 9) ?_
        refine wl_gv rfl (gv_st (k := 9) (v := .int .i64 ((s.pend.length + 1 : Nat) : Int)) S42 3 rfl rfl (by kernel_rfl) (by kernel_rfl) (by kernel_rfl) rfl rfl (L' := (vec 31 1 c_.2 1 [.slice (some ⟨g5, 0, none⟩) 512 512] :: row c_.1 #[.slice (some ⟨g5, 0, none⟩) 512 512] 31 :: row g5 (bvs d) 5 :: row g #[.slice (some ⟨gd, 0, none⟩) (512 * s.last.length) (512 * s.last.length), .map (some gm), .bool true, .int .i64 left, .int .i64 s.life, .int .i64 s.rd, .int .i64 (inc s.wr), .int .i64 s.fl, .int .i64 s.rf, .int .i64 ((s.pend.length + 1 : Nat) : Int)] 87 :: row gd (bvs s.last.flatten) 5 :: pt gm (mapO (es.map PEnt.ent ++ [⟨((k : Nat) : Int), c_.2, clock⟩]) (clock + 1)) :: stars (es.map PEnt.ast) :: L)) rfl (fun w43 S44 => ?_))
        refine wl_end (fr [pq g, iv ((k : Nat) : Int), .slice A d.length cd, ud, ud, ud, iv 0, iv 0, sl g5 0 512 512, pq g, iv ((k : Nat) : Int), iv 0, iv 0, fv, ud, .slice A d.length cd, iv (d.length : Nat), fv, ud, ud, ud, ud, ud, ud, ud, ud, ud, sl g5 0 512 512, sl g5 0 512 512, .slice A d.length cd, goInt m11, pq g, pq g, po g 1, .map (some gm), iv ((k : Nat) : Int), pq g, pq g, po g 1, .map (some gm), iv ((k : Nat) : Int), .slice none 0 0, sl g5 0 512 512, sl c_.1 0 1 1, c_.2, pq g, pq g, po g 5, po g 6, iv s.wr, iv (inc s.wr), pq g, po g 5, po g 6, pq g, pq g, po g 5, po g 9, iv (s.pend.length : Int), iv ((s.pend.length + 1 : Nat) : Int), pq g, po g 5, po g 9] 2) (by kernel_rfl) ?_
        refine then_n ?_
        refine wp_seq ?_
        refine wp_region_lit ?_
        refine pv (pq g) ?_
        refine wl_gv rfl (gv_call (args := #[.pointer (some ⟨g, 0, none⟩)]) rfl Try.func69 (by kernel_rfl) rfl rfl (by kernel_rfl) ?_)
        have S45 : St F w0 w43 (vec 31 1 c_.2 1 [.slice (some ⟨g5, 0, none⟩) 512 512] :: row g5 (bvs d) 5 :: row g #[.slice (some ⟨gd, 0, none⟩) (512 * s.last.length) (512 * s.last.length), .map (some gm), .bool true, .int .i64 left, .int .i64 s.life, .int .i64 s.rd, .int .i64 (inc s.wr), .int .i64 s.fl, .int .i64 s.rf, .int .i64 ((s.pend.length + 1 : Nat) : Int)] 87 :: row gd (bvs s.last.flatten) 5 :: pt gm (mapO (es.map PEnt.ent ++ [⟨((k : Nat) : Int), c_.2, clock⟩]) (clock + 1)) :: stars (es.map PEnt.ast) :: L) := St.permT [vec 31 1 c_.2 1 [.slice (some ⟨g5, 0, none⟩) 512 512], row c_.1 #[.slice (some ⟨g5, 0, none⟩) 512 512] 31, row g5 (bvs d) 5, row g #[.slice (some ⟨gd, 0, none⟩) (512 * s.last.length) (512 * s.last.length), .map (some gm), .bool true, .int .i64 left, .int .i64 s.life, .int .i64 s.rd, .int .i64 (inc s.wr), .int .i64 s.fl, .int .i64 s.rf, .int .i64 ((s.pend.length + 1 : Nat) : Int)] 87, row gd (bvs s.last.flatten) 5, pt gm (mapO (es.map PEnt.ent ++ [⟨((k : Nat) : Int), c_.2, clock⟩]) (clock + 1)), stars (es.map PEnt.ast)] [0, 2, 3, 4, 5, 6] (by decide) rfl S44
        have em : es.map PEnt.ent ++ [⟨((k : Nat) : Int), c_.2, clock⟩] = (es ++ [(⟨k, c_.2, clock, [(g5, d)]⟩ : PEnt)]).map PEnt.ent := by rw [List.map_append]; rfl
        have S46 : St F w0 w43 (row g #[.slice (some ⟨gd, 0, none⟩) (512 * s.last.length) (512 * s.last.length), .map (some gm), .bool true, .int .i64 left, .int .i64 s.life, .int .i64 s.rd, .int .i64 (inc s.wr), .int .i64 s.fl, .int .i64 s.rf, .int .i64 ((s.pend.length + 1 : Nat) : Int)] 87 :: row gd (bvs s.last.flatten) 5 :: pt gm (mapO (es.map PEnt.ent ++ [⟨((k : Nat) : Int), c_.2, clock⟩]) (clock + 1)) :: stars ((es ++ [(⟨k, c_.2, clock, [(g5, d)]⟩ : PEnt)]).map PEnt.ast) :: L) := entry_new S45
        rw [em] at S46
        refine Calls.mono (spend_true S46) ?_
        rintro _ w47 ⟨rfl, S48⟩
        refine ⟨_, rfl, ?_⟩
        refine wl_end (fr [pq g, iv ((k : Nat) : Int), .slice A d.length cd, ud, ud, ud, iv 0, iv 0, sl g5 0 512 512, pq g, iv ((k : Nat) : Int), iv 0, iv 0, fv, ud, .slice A d.length cd, iv (d.length : Nat), fv, ud, ud, ud, ud, ud, ud, ud, ud, ud, sl g5 0 512 512, sl g5 0 512 512, .slice A d.length cd, goInt m11, pq g, pq g, po g 1, .map (some gm), iv ((k : Nat) : Int), pq g, pq g, po g 1, .map (some gm), iv ((k : Nat) : Int), .slice none 0 0, sl g5 0 512 512, sl c_.1 0 1 1, c_.2, pq g, pq g, po g 5, po g 6, iv s.wr, iv (inc s.wr), pq g, po g 5, po g 6, pq g, pq g, po g 5, po g 9, iv (s.pend.length : Int), iv ((s.pend.length + 1 : Nat) : Int), pq g, po g 5, po g 9, pq g, .tuple #[]] 0) (by kernel_rfl) ?_
        refine then_n ?_
        refine wp_seq ?_
        refine wp_region_lit ?_
        refine pv (iv 0) ?_
        refine wl_end (fr [pq g, iv ((k : Nat) : Int), .slice A d.length cd, ud, ud, ud, iv 0, iv 0, sl g5 0 512 512, pq g, iv ((k : Nat) : Int), iv 0, iv 0, fv, ud, .slice A d.length cd, iv (d.length : Nat), fv, ud, ud, ud, ud, ud, ud, ud, ud, ud, sl g5 0 512 512, sl g5 0 512 512, .slice A d.length cd, goInt m11, pq g, pq g, po g 1, .map (some gm), iv ((k : Nat) : Int), pq g, pq g, po g 1, .map (some gm), iv ((k : Nat) : Int), .slice none 0 0, sl g5 0 512 512, sl c_.1 0 1 1, c_.2, pq g, pq g, po g 5, po g 6, iv s.wr, iv (inc s.wr), pq g, po g 5, po g 6, pq g, pq g, po g 5, po g 9, iv (s.pend.length : Int), iv ((s.pend.length + 1 : Nat) : Int), pq g, po g 5, po g 9, pq g, .tuple #[]] 0) (by kernel_rfl) ?_
        refine then_n ?_
        refine wp_ret ?_
        refine bodyPost_ret (v := .int .i64 0) (results_t1 rfl (by kernel_rfl)) rfl ?_
        have hl1 : ((s.pend.length + 1 : Nat) : Int) = ((s.pend ++ [(k, d)]).length : Nat) := by rw [List.length_append]; rfl
        rw [hl1] at S48
        exact ⟨rfl, St.pclose (gd := gd) (gm := gm) (clock := clock + 1) (es := es ++ [(⟨k, c_.2, clock, [(g5, d)]⟩ : PEnt)]) (fused := true) (left := dec left) (s := { s with pend := s.pend ++ [(k, d)], wr := inc s.wr, left := spent s.left }) S48 (PFacts.refuse (s' := { s with pend := s.pend ++ [(k, d)], wr := inc s.wr, left := spent s.left }) (hf.write_new (s' := { s with pend := s.pend ++ [(k, d)] }) (go := g5) (d := d) (v' := c_.2) hp hno hk hd hpn rfl rfl rfl) rfl rfl hdc.symm (fun _ => hde) hlb)⟩
    · skip
      change St F w0 w (row g #[.slice (some ⟨gd, 0, none⟩) (512 * s.last.length) (512 * s.last.length), .map (some gm), .bool false, .int .i64 left, .int .i64 s.life, .int .i64 s.rd, .int .i64 s.wr, .int .i64 s.fl, .int .i64 s.rf, .int .i64 (s.pend.length : Int)] 87 :: row gd (bvs s.last.flatten) 5 :: pt gm (mapO (es.map PEnt.ent) clock) :: stars (es.map PEnt.ast) :: L) at S
      refine wp_enter (fr [pq g, iv ((k : Nat) : Int), .slice A d.length cd] 62) Try.func35 rfl (by kernel_rfl) ?_
      refine wp_seq ?_
      refine wp_region_lit ?_
      refine pv (iv 0) ?_
      refine wl_end (fr [pq g, iv ((k : Nat) : Int), .slice A d.length cd, ud, ud, ud, iv 0] 58) (by kernel_rfl) ?_
      refine then_n ?_
      refine wp_seq ?_
      refine wp_seq ?_
      refine wp_region_lit ?_
      refine pv (pq g) ?_
      refine pv (iv ((k : Nat) : Int)) ?_
      refine wl_gv rfl (gv_call (args := #[.pointer (some ⟨g, 0, none⟩), .int .i64 ((k : Nat) : Int)]) rfl Try.func61 (by kernel_rfl) rfl rfl (by kernel_rfl) ?_)
      refine Calls.mono (there_in hb rfl hn2 hk S) ?_
      rintro _ w1 ⟨rfl, S2⟩
      refine ⟨_, rfl, ?_⟩
      refine pv (iv 0) ?_
      refine wl_end (fr [pq g, iv ((k : Nat) : Int), .slice A d.length cd, ud, ud, ud, iv 0, iv 0, ud, pq g, iv ((k : Nat) : Int), iv 0] 53) (by kernel_rfl) ?_
      refine then_n ?_
      refine wp_seq ?_
      refine wp_region_lit ?_
      refine pv (iv 0) ?_
      refine wl_gv rfl (gv_ne (x := 0) (y := 0) (by kernel_rfl) (fun hd3 => False.elim (by omega)) (fun _ => ?_))
      refine wl_end (fr [pq g, iv ((k : Nat) : Int), .slice A d.length cd, ud, ud, ud, iv 0, iv 0, ud, pq g, iv ((k : Nat) : Int), iv 0, iv 0, fv] 51) (by kernel_rfl) ?_
      refine then_n ?_
      refine wp_cond_false (by kernel_rfl) ?_
      refine wp_skip ?_
      refine then_n ?_
      refine wp_seq ?_
      refine wp_seq ?_
      refine wp_region_lit ?_
      refine pv (.slice A d.length cd) ?_
      refine pv (iv (d.length : Nat)) ?_
      refine wl_gv rfl (gv_ne (x := (d.length : Nat)) (y := 512) (by kernel_rfl) (fun hd4 => False.elim (by omega)) (fun _ => ?_))
      refine wl_end (fr [pq g, iv ((k : Nat) : Int), .slice A d.length cd, ud, ud, ud, iv 0, iv 0, ud, pq g, iv ((k : Nat) : Int), iv 0, iv 0, fv, ud, .slice A d.length cd, iv (d.length : Nat), fv] 47) (by kernel_rfl) ?_
      refine then_n ?_
      refine wp_cond_false (by kernel_rfl) ?_
      refine wp_skip ?_
      refine then_n ?_
      refine wp_seq ?_
      refine wp_region_lit ?_
      refine wl_gv rfl (gv_make (e := 5) (u := 512) (v := 512) (z := .int .u8 0) (sz := 1) (by_ := 1) (n := 512) (c := 512) (cs := (bvs (List.replicate 512 0))) S2 rfl (by kernel_rfl) ⟨by kernel_rfl⟩ (by kernel_rfl) (by kernel_rfl) rfl rfl (Nat.le_refl _) (by decide) (by decide) (mk_bytes _) (fun g5 w6 hg7 S8 => ?_))
      refine pv (sl g5 0 512 512) ?_
      refine wl_end (fr [pq g, iv ((k : Nat) : Int), .slice A d.length cd, ud, ud, ud, iv 0, iv 0, sl g5 0 512 512, pq g, iv ((k : Nat) : Int), iv 0, iv 0, fv, ud, .slice A d.length cd, iv (d.length : Nat), fv, ud, ud, ud, ud, ud, ud, ud, ud, ud, sl g5 0 512 512] 37) (by kernel_rfl) ?_
      refine then_n ?_
      refine wp_seq ?_
      refine wp_region_lit ?_
      refine pv (sl g5 0 512 512) ?_
      refine pv (.slice A d.length cd) ?_
      refine wl_gv rfl (gv_copy (e := 5) (off := 0) (dLen := 512) (dCap := 512) (sLen := d.length) (sCap := cd) (A := A) (B := (List.replicate 512 0)) (l := d) S8 0 rfl rfl (by kernel_rfl) (by kernel_rfl) (by kernel_rfl) (by kernel_rfl) rfl (hr.out _ [row g5 (bvs (List.replicate 512 0)) 5, row g #[.slice (some ⟨gd, 0, none⟩) (512 * s.last.length) (512 * s.last.length), .map (some gm), .bool false, .int .i64 left, .int .i64 s.life, .int .i64 s.rd, .int .i64 s.wr, .int .i64 s.fl, .int .i64 s.rf, .int .i64 (s.pend.length : Int)] 87, row gd (bvs s.last.flatten) 5, pt gm (mapO (es.map PEnt.ent) clock), stars (es.map PEnt.ast)] S8) (by simp) (L' := (row g5 (bvs d) 5 :: row g #[.slice (some ⟨gd, 0, none⟩) (512 * s.last.length) (512 * s.last.length), .map (some gm), .bool false, .int .i64 left, .int .i64 s.life, .int .i64 s.rd, .int .i64 s.wr, .int .i64 s.fl, .int .i64 s.rf, .int .i64 (s.pend.length : Int)] 87 :: row gd (bvs s.last.flatten) 5 :: pt gm (mapO (es.map PEnt.ent) clock) :: stars (es.map PEnt.ast) :: L)) (by rw [copy512 hd]; rfl) (fun w9 m11 S10 => ?_))
      refine wl_end (fr [pq g, iv ((k : Nat) : Int), .slice A d.length cd, ud, ud, ud, iv 0, iv 0, sl g5 0 512 512, pq g, iv ((k : Nat) : Int), iv 0, iv 0, fv, ud, .slice A d.length cd, iv (d.length : Nat), fv, ud, ud, ud, ud, ud, ud, ud, ud, ud, sl g5 0 512 512, sl g5 0 512 512, .slice A d.length cd, goInt m11] 34) (by kernel_rfl) ?_
      refine then_n ?_
      refine wp_seq ?_
      have S12 : St F w0 w9 (vec 31 1 (.slice none 0 0) 0 [] :: row g5 (bvs d) 5 :: row g #[.slice (some ⟨gd, 0, none⟩) (512 * s.last.length) (512 * s.last.length), .map (some gm), .bool false, .int .i64 left, .int .i64 s.life, .int .i64 s.rd, .int .i64 s.wr, .int .i64 s.fl, .int .i64 s.rf, .int .i64 (s.pend.length : Int)] 87 :: row gd (bvs s.last.flatten) 5 :: pt gm (mapO (es.map PEnt.ent) clock) :: stars (es.map PEnt.ast) :: L) := St.vec_nil S10
      refine wp_region_phu (γ := Nat × Value) 14 [12, 13] (fun (c_ : Nat × Value) (i_ : Nat) => (match i_ with | 0 => .pointer (some ⟨g, 0, none⟩) | 1 => .pointer (some ⟨g, 0, none⟩) | 2 => .pointer (some ⟨g, 1, none⟩) | 3 => .map (some gm) | 4 => .int .i64 ((k : Nat) : Int) | 5 => .pointer (some ⟨g, 0, none⟩) | 6 => .pointer (some ⟨g, 0, none⟩) | 7 => .pointer (some ⟨g, 1, none⟩) | 8 => .map (some gm) | 9 => .int .i64 ((k : Nat) : Int) | 10 => .slice none 0 0 | 11 => .slice (some ⟨g5, 0, none⟩) 512 512 | 12 => .slice (some ⟨c_.1, 0, none⟩) 1 1 | 13 => c_.2 | _ => undef : Value)) (fun (c_ : Nat × Value) (p_ : Nat) (w_ : World) => (match p_ with | 0 => St F w0 w_ (vec 31 1 (.slice none 0 0) 0 [] :: row g5 (bvs d) 5 :: row g #[.slice (some ⟨gd, 0, none⟩) (512 * s.last.length) (512 * s.last.length), .map (some gm), .bool false, .int .i64 left, .int .i64 s.life, .int .i64 s.rd, .int .i64 s.wr, .int .i64 s.fl, .int .i64 s.rf, .int .i64 (s.pend.length : Int)] 87 :: row gd (bvs s.last.flatten) 5 :: pt gm (mapO (es.map PEnt.ent) clock) :: stars (es.map PEnt.ast) :: L) | 1 => St F w0 w_ (row c_.1 #[.slice (some ⟨g5, 0, none⟩) 512 512] 31 :: vec 31 1 (.slice none 0 0) 0 [] :: row g5 (bvs d) 5 :: row g #[.slice (some ⟨gd, 0, none⟩) (512 * s.last.length) (512 * s.last.length), .map (some gm), .bool false, .int .i64 left, .int .i64 s.life, .int .i64 s.rd, .int .i64 s.wr, .int .i64 s.fl, .int .i64 s.rf, .int .i64 (s.pend.length : Int)] 87 :: row gd (bvs s.last.flatten) 5 :: pt gm (mapO (es.map PEnt.ent) clock) :: stars (es.map PEnt.ast) :: L) | _ => St F w0 w_ (vec 31 1 c_.2 1 [.slice (some ⟨g5, 0, none⟩) 512 512] :: row c_.1 #[.slice (some ⟨g5, 0, none⟩) 512 512] 31 :: row g5 (bvs d) 5 :: row g #[.slice (some ⟨gd, 0, none⟩) (512 * s.last.length) (512 * s.last.length), .map (some gm), .bool false, .int .i64 left, .int .i64 s.life, .int .i64 s.rd, .int .i64 s.wr, .int .i64 s.fl, .int .i64 s.rf, .int .i64 (s.pend.length : Int)] 87 :: row gd (bvs s.last.flatten) 5 :: pt gm (mapO (es.map PEnt.ent) clock) :: stars (es.map PEnt.ast) :: L) : Prop)) (0, undef) (by kernel_rfl) (by kernel_rfl) (by kernel_rfl) (by kernel_rfl) (S12.drew) ?_ ?_ ?_
      · intro i_ c_ p_ vals_ w1 hi_ hiE_ hp_ hk_ hu_ hPh_ hd_
        rcases i_ with _ | _ | _ | _ | _ | _ | _ | _ | _ | _ | _ | _ | _ | _ | i_
        · skip
          refine told_free rfl rfl (gv_env ((⟨Array.replicate 65 undef, []⟩ : Act).put (some 0) (.pointer (some ⟨g, 0, none⟩))) (by kernel_rfl) (xs := [.tmp 0]) (by kernel_rfl) (alike_cons (fill_past (by kernel_rfl) (by kernel_rfl)) alike_nil) (gv_val (v := .pointer (some ⟨g, 0, none⟩)) (w' := w1) (by kernel_rfl) ?_))
          exact ⟨rfl, rfl⟩
        · skip
          refine told_free rfl rfl (gv_env ((⟨Array.replicate 65 undef, []⟩ : Act).put (some 31) (.pointer (some ⟨g, 0, none⟩))) (by kernel_rfl) (xs := [.tmp 31]) (by kernel_rfl) (alike_cons (fill_at (k := 0) (by kernel_rfl) (by kernel_rfl) ((hd_ 0 (by kernel_rfl)).trans (by kernel_rfl))) alike_nil) (gv_val (v := .pointer (some ⟨g, 0, none⟩)) (w' := w1) (by kernel_rfl) ?_))
          exact ⟨rfl, rfl⟩
        · skip
          refine told_free rfl rfl (gv_env ((⟨Array.replicate 65 undef, []⟩ : Act).put (some 32) (.pointer (some ⟨g, 0, none⟩))) (by kernel_rfl) (xs := [.tmp 32]) (by kernel_rfl) (alike_cons (fill_at (k := 1) (by kernel_rfl) (by kernel_rfl) ((hd_ 1 (by kernel_rfl)).trans (by kernel_rfl))) alike_nil) (gv_val (v := .pointer (some ⟨g, 1, none⟩)) (w' := w1) (by kernel_rfl) ?_))
          exact ⟨rfl, rfl⟩
        · skip
          rcases p_ with _ | _ | _ | p_
          · skip
            have S16 : St F w0 w1 (vec 31 1 (.slice none 0 0) 0 [] :: row g5 (bvs d) 5 :: row g #[.slice (some ⟨gd, 0, none⟩) (512 * s.last.length) (512 * s.last.length), .map (some gm), .bool false, .int .i64 left, .int .i64 s.life, .int .i64 s.rd, .int .i64 s.wr, .int .i64 s.fl, .int .i64 s.rf, .int .i64 (s.pend.length : Int)] 87 :: row gd (bvs s.last.flatten) 5 :: pt gm (mapO (es.map PEnt.ent) clock) :: stars (es.map PEnt.ast) :: L) := hPh_
            refine told_free rfl rfl (gv_env ((⟨Array.replicate 65 undef, []⟩ : Act).put (some 33) (.pointer (some ⟨g, 1, none⟩))) (by kernel_rfl) (xs := [.tmp 33]) (by kernel_rfl) (alike_cons (fill_at (k := 2) (by kernel_rfl) (by kernel_rfl) ((hd_ 2 (by kernel_rfl)).trans (by kernel_rfl))) alike_nil) (gv_ldR (v := .map (some gm)) rfl (by kernel_rfl) (by kernel_rfl) (((S16.blk 2 rfl).cell 1).trans rfl) ?_))
            exact ⟨rfl, rfl⟩
          · skip
            have S17 : St F w0 w1 (row c_.1 #[.slice (some ⟨g5, 0, none⟩) 512 512] 31 :: vec 31 1 (.slice none 0 0) 0 [] :: row g5 (bvs d) 5 :: row g #[.slice (some ⟨gd, 0, none⟩) (512 * s.last.length) (512 * s.last.length), .map (some gm), .bool false, .int .i64 left, .int .i64 s.life, .int .i64 s.rd, .int .i64 s.wr, .int .i64 s.fl, .int .i64 s.rf, .int .i64 (s.pend.length : Int)] 87 :: row gd (bvs s.last.flatten) 5 :: pt gm (mapO (es.map PEnt.ent) clock) :: stars (es.map PEnt.ast) :: L) := hPh_
            refine told_free rfl rfl (gv_env ((⟨Array.replicate 65 undef, []⟩ : Act).put (some 33) (.pointer (some ⟨g, 1, none⟩))) (by kernel_rfl) (xs := [.tmp 33]) (by kernel_rfl) (alike_cons (fill_at (k := 2) (by kernel_rfl) (by kernel_rfl) ((hd_ 2 (by kernel_rfl)).trans (by kernel_rfl))) alike_nil) (gv_ldR (v := .map (some gm)) rfl (by kernel_rfl) (by kernel_rfl) (((S17.blk 3 rfl).cell 1).trans rfl) ?_))
            exact ⟨rfl, rfl⟩
          · skip
            have S18 : St F w0 w1 (vec 31 1 c_.2 1 [.slice (some ⟨g5, 0, none⟩) 512 512] :: row c_.1 #[.slice (some ⟨g5, 0, none⟩) 512 512] 31 :: row g5 (bvs d) 5 :: row g #[.slice (some ⟨gd, 0, none⟩) (512 * s.last.length) (512 * s.last.length), .map (some gm), .bool false, .int .i64 left, .int .i64 s.life, .int .i64 s.rd, .int .i64 s.wr, .int .i64 s.fl, .int .i64 s.rf, .int .i64 (s.pend.length : Int)] 87 :: row gd (bvs s.last.flatten) 5 :: pt gm (mapO (es.map PEnt.ent) clock) :: stars (es.map PEnt.ast) :: L) := hPh_
            refine told_free rfl rfl (gv_env ((⟨Array.replicate 65 undef, []⟩ : Act).put (some 33) (.pointer (some ⟨g, 1, none⟩))) (by kernel_rfl) (xs := [.tmp 33]) (by kernel_rfl) (alike_cons (fill_at (k := 2) (by kernel_rfl) (by kernel_rfl) ((hd_ 2 (by kernel_rfl)).trans (by kernel_rfl))) alike_nil) (gv_ldR (v := .map (some gm)) rfl (by kernel_rfl) (by kernel_rfl) (((S18.blk 3 rfl).cell 1).trans rfl) ?_))
            exact ⟨rfl, rfl⟩
          · exact absurd hp_ (by simp)
        · skip
          refine told_free rfl rfl (gv_env ((⟨Array.replicate 65 undef, []⟩ : Act).put (some 1) (.int .i64 ((k : Nat) : Int))) (by kernel_rfl) (xs := [.tmp 1]) (by kernel_rfl) (alike_cons (fill_past (by kernel_rfl) (by kernel_rfl)) alike_nil) (gv_val (v := .int .i64 ((k : Nat) : Int)) (w' := w1) (by kernel_rfl) ?_))
          exact ⟨rfl, rfl⟩
        · skip
          refine told_free rfl rfl (gv_env ((⟨Array.replicate 65 undef, []⟩ : Act).put (some 0) (.pointer (some ⟨g, 0, none⟩))) (by kernel_rfl) (xs := [.tmp 0]) (by kernel_rfl) (alike_cons (fill_past (by kernel_rfl) (by kernel_rfl)) alike_nil) (gv_val (v := .pointer (some ⟨g, 0, none⟩)) (w' := w1) (by kernel_rfl) ?_))
          exact ⟨rfl, rfl⟩
        · skip
          refine told_free rfl rfl (gv_env ((⟨Array.replicate 65 undef, []⟩ : Act).put (some 36) (.pointer (some ⟨g, 0, none⟩))) (by kernel_rfl) (xs := [.tmp 36]) (by kernel_rfl) (alike_cons (fill_at (k := 5) (by kernel_rfl) (by kernel_rfl) ((hd_ 5 (by kernel_rfl)).trans (by kernel_rfl))) alike_nil) (gv_val (v := .pointer (some ⟨g, 0, none⟩)) (w' := w1) (by kernel_rfl) ?_))
          exact ⟨rfl, rfl⟩
        · skip
          refine told_free rfl rfl (gv_env ((⟨Array.replicate 65 undef, []⟩ : Act).put (some 37) (.pointer (some ⟨g, 0, none⟩))) (by kernel_rfl) (xs := [.tmp 37]) (by kernel_rfl) (alike_cons (fill_at (k := 6) (by kernel_rfl) (by kernel_rfl) ((hd_ 6 (by kernel_rfl)).trans (by kernel_rfl))) alike_nil) (gv_val (v := .pointer (some ⟨g, 1, none⟩)) (w' := w1) (by kernel_rfl) ?_))
          exact ⟨rfl, rfl⟩
        · skip
          rcases p_ with _ | _ | _ | p_
          · skip
            have S23 : St F w0 w1 (vec 31 1 (.slice none 0 0) 0 [] :: row g5 (bvs d) 5 :: row g #[.slice (some ⟨gd, 0, none⟩) (512 * s.last.length) (512 * s.last.length), .map (some gm), .bool false, .int .i64 left, .int .i64 s.life, .int .i64 s.rd, .int .i64 s.wr, .int .i64 s.fl, .int .i64 s.rf, .int .i64 (s.pend.length : Int)] 87 :: row gd (bvs s.last.flatten) 5 :: pt gm (mapO (es.map PEnt.ent) clock) :: stars (es.map PEnt.ast) :: L) := hPh_
            refine told_free rfl rfl (gv_env ((⟨Array.replicate 65 undef, []⟩ : Act).put (some 38) (.pointer (some ⟨g, 1, none⟩))) (by kernel_rfl) (xs := [.tmp 38]) (by kernel_rfl) (alike_cons (fill_at (k := 7) (by kernel_rfl) (by kernel_rfl) ((hd_ 7 (by kernel_rfl)).trans (by kernel_rfl))) alike_nil) (gv_ldR (v := .map (some gm)) rfl (by kernel_rfl) (by kernel_rfl) (((S23.blk 2 rfl).cell 1).trans rfl) ?_))
            exact ⟨rfl, rfl⟩
          · skip
            have S24 : St F w0 w1 (row c_.1 #[.slice (some ⟨g5, 0, none⟩) 512 512] 31 :: vec 31 1 (.slice none 0 0) 0 [] :: row g5 (bvs d) 5 :: row g #[.slice (some ⟨gd, 0, none⟩) (512 * s.last.length) (512 * s.last.length), .map (some gm), .bool false, .int .i64 left, .int .i64 s.life, .int .i64 s.rd, .int .i64 s.wr, .int .i64 s.fl, .int .i64 s.rf, .int .i64 (s.pend.length : Int)] 87 :: row gd (bvs s.last.flatten) 5 :: pt gm (mapO (es.map PEnt.ent) clock) :: stars (es.map PEnt.ast) :: L) := hPh_
            refine told_free rfl rfl (gv_env ((⟨Array.replicate 65 undef, []⟩ : Act).put (some 38) (.pointer (some ⟨g, 1, none⟩))) (by kernel_rfl) (xs := [.tmp 38]) (by kernel_rfl) (alike_cons (fill_at (k := 7) (by kernel_rfl) (by kernel_rfl) ((hd_ 7 (by kernel_rfl)).trans (by kernel_rfl))) alike_nil) (gv_ldR (v := .map (some gm)) rfl (by kernel_rfl) (by kernel_rfl) (((S24.blk 3 rfl).cell 1).trans rfl) ?_))
            exact ⟨rfl, rfl⟩
          · skip
            exact absurd (hu_ 1 (by decide) (by kernel_rfl)) (by decide)
          · exact absurd hp_ (by simp)
        · skip
          refine told_free rfl rfl (gv_env ((⟨Array.replicate 65 undef, []⟩ : Act).put (some 1) (.int .i64 ((k : Nat) : Int))) (by kernel_rfl) (xs := [.tmp 1]) (by kernel_rfl) (alike_cons (fill_past (by kernel_rfl) (by kernel_rfl)) alike_nil) (gv_val (v := .int .i64 ((k : Nat) : Int)) (w' := w1) (by kernel_rfl) ?_))
          exact ⟨rfl, rfl⟩
        · skip
          rcases p_ with _ | _ | _ | p_
          · skip
            have S26 : St F w0 w1 (vec 31 1 (.slice none 0 0) 0 [] :: row g5 (bvs d) 5 :: row g #[.slice (some ⟨gd, 0, none⟩) (512 * s.last.length) (512 * s.last.length), .map (some gm), .bool false, .int .i64 left, .int .i64 s.life, .int .i64 s.rd, .int .i64 s.wr, .int .i64 s.fl, .int .i64 s.rf, .int .i64 (s.pend.length : Int)] 87 :: row gd (bvs s.last.flatten) 5 :: pt gm (mapO (es.map PEnt.ent) clock) :: stars (es.map PEnt.ast) :: L) := hPh_
            refine told_free rfl rfl (gv_env (((⟨Array.replicate 65 undef, []⟩ : Act).put (some 39) (.map (some gm))).put (some 40) (.int .i64 ((k : Nat) : Int))) (by kernel_rfl) (xs := [.tmp 39, .tmp 40]) (by kernel_rfl) (alike_cons (fill_at (k := 8) (by kernel_rfl) (by kernel_rfl) ((hd_ 8 (by kernel_rfl)).trans (by kernel_rfl))) (alike_cons (fill_at (k := 9) (by kernel_rfl) (by kernel_rfl) ((hd_ 9 (by kernel_rfl)).trans (by kernel_rfl))) alike_nil)) (gv_look_none (kT := 3) (eT := 52) (k := ((k : Nat) : Int)) (z := .slice none 0 0) (S26.get 4 rfl) rfl (by kernel_rfl) (by kernel_rfl) (by kernel_rfl) (by kernel_rfl) (by kernel_rfl) hno ?_))
            exact ⟨rfl, rfl⟩
          · skip
            have S27 : St F w0 w1 (row c_.1 #[.slice (some ⟨g5, 0, none⟩) 512 512] 31 :: vec 31 1 (.slice none 0 0) 0 [] :: row g5 (bvs d) 5 :: row g #[.slice (some ⟨gd, 0, none⟩) (512 * s.last.length) (512 * s.last.length), .map (some gm), .bool false, .int .i64 left, .int .i64 s.life, .int .i64 s.rd, .int .i64 s.wr, .int .i64 s.fl, .int .i64 s.rf, .int .i64 (s.pend.length : Int)] 87 :: row gd (bvs s.last.flatten) 5 :: pt gm (mapO (es.map PEnt.ent) clock) :: stars (es.map PEnt.ast) :: L) := hPh_
            refine told_free rfl rfl (gv_env (((⟨Array.replicate 65 undef, []⟩ : Act).put (some 39) (.map (some gm))).put (some 40) (.int .i64 ((k : Nat) : Int))) (by kernel_rfl) (xs := [.tmp 39, .tmp 40]) (by kernel_rfl) (alike_cons (fill_at (k := 8) (by kernel_rfl) (by kernel_rfl) ((hd_ 8 (by kernel_rfl)).trans (by kernel_rfl))) (alike_cons (fill_at (k := 9) (by kernel_rfl) (by kernel_rfl) ((hd_ 9 (by kernel_rfl)).trans (by kernel_rfl))) alike_nil)) (gv_look_none (kT := 3) (eT := 52) (k := ((k : Nat) : Int)) (z := .slice none 0 0) (S27.get 5 rfl) rfl (by kernel_rfl) (by kernel_rfl) (by kernel_rfl) (by kernel_rfl) (by kernel_rfl) hno ?_))
            exact ⟨rfl, rfl⟩
          · skip
            exact absurd (hu_ 1 (by decide) (by kernel_rfl)) (by decide)
          · exact absurd hp_ (by simp)
        · skip
          refine told_free rfl rfl (gv_env ((⟨Array.replicate 65 undef, []⟩ : Act).put (some 8) (.slice (some ⟨g5, 0, none⟩) 512 512)) (by kernel_rfl) (xs := [.tmp 8]) (by kernel_rfl) (alike_cons (fill_past (by kernel_rfl) (by kernel_rfl)) alike_nil) (gv_val (v := .slice (some ⟨g5, 0, none⟩) 512 512) (w' := w1) (by kernel_rfl) ?_))
          exact ⟨rfl, rfl⟩
        · skip
          exact absurd hiE_ (by decide)
        · skip
          exact absurd hiE_ (by decide)
        · exact absurd hi_ (by omega)
      · intro k_ c_ vals_ w1 hk_ hPh_ hd_
        rcases k_ with _ | _ | k_
        · skip
          have S29 : St F w0 w1 (vec 31 1 (.slice none 0 0) 0 [] :: row g5 (bvs d) 5 :: row g #[.slice (some ⟨gd, 0, none⟩) (512 * s.last.length) (512 * s.last.length), .map (some gm), .bool false, .int .i64 left, .int .i64 s.life, .int .i64 s.rd, .int .i64 s.wr, .int .i64 s.fl, .int .i64 s.rf, .int .i64 (s.pend.length : Int)] 87 :: row gd (bvs s.last.flatten) 5 :: pt gm (mapO (es.map PEnt.ent) clock) :: stars (es.map PEnt.ast) :: L) := hPh_
          refine told_free rfl rfl (gv_env ((⟨Array.replicate 65 undef, []⟩ : Act).put (some 42) (.slice (some ⟨g5, 0, none⟩) 512 512)) (by kernel_rfl) (xs := [.tmp 42]) (by kernel_rfl) (alike_cons (fill_at (k := 11) (by kernel_rfl) (by kernel_rfl) ((hd_ 11 (by kernel_rfl)).trans (by kernel_rfl))) alike_nil) (gv_slit (e := 31) (sz := 1) (z := .slice none 0 0) (by_ := 24) (vs := #[(0, .slice (some ⟨g5, 0, none⟩) 512 512)]) (cells := #[.slice (some ⟨g5, 0, none⟩) 512 512]) S29 rfl (by kernel_rfl) ⟨by kernel_rfl⟩ (by kernel_rfl) (by kernel_rfl) (by kernel_rfl) (by kernel_rfl) (fun g30 w31 hg32 S33 => ?_)))
          refine ⟨(g30, c_.2), rfl, ?_, S33⟩
          intro i_ hi_ hne_ hdp_
          rcases i_ with _ | _ | _ | _ | _ | _ | _ | _ | _ | _ | _ | _ | _ | _ | i_
          · rfl
          · rfl
          · rfl
          · rfl
          · rfl
          · rfl
          · rfl
          · rfl
          · rfl
          · rfl
          · rfl
          · rfl
          · exact absurd rfl hne_
          · exact (dep_no hdp_ (by kernel_rfl)).elim
          · exact absurd hi_ (by omega)
        · skip
          have S34 : St F w0 w1 (row c_.1 #[.slice (some ⟨g5, 0, none⟩) 512 512] 31 :: vec 31 1 (.slice none 0 0) 0 [] :: row g5 (bvs d) 5 :: row g #[.slice (some ⟨gd, 0, none⟩) (512 * s.last.length) (512 * s.last.length), .map (some gm), .bool false, .int .i64 left, .int .i64 s.life, .int .i64 s.rd, .int .i64 s.wr, .int .i64 s.fl, .int .i64 s.rf, .int .i64 (s.pend.length : Int)] 87 :: row gd (bvs s.last.flatten) 5 :: pt gm (mapO (es.map PEnt.ent) clock) :: stars (es.map PEnt.ast) :: L) := hPh_
          refine told_free rfl rfl (gv_env (((⟨Array.replicate 65 undef, []⟩ : Act).put (some 41) (.slice none 0 0)).put (some 43) (.slice (some ⟨c_.1, 0, none⟩) 1 1)) (by kernel_rfl) (xs := [.tmp 41, .tmp 43]) (by kernel_rfl) (alike_cons (fill_at (k := 10) (by kernel_rfl) (by kernel_rfl) ((hd_ 10 (by kernel_rfl)).trans (by kernel_rfl))) (alike_cons (fill_at (k := 12) (by kernel_rfl) (by kernel_rfl) ((hd_ 12 (by kernel_rfl)).trans (by kernel_rfl))) alike_nil)) (gv_append (e := 31) (sz := 1) (n := 0) (v := (.slice none 0 0)) (vals := []) (z := .slice none 0 0) (by_ := 24) (m := 1) (c' := 1) (ad := ⟨c_.1, 0, none⟩) (news := [.slice (some ⟨g5, 0, none⟩) 512 512]) (St.swap S34) rfl (by kernel_rfl) ⟨by kernel_rfl⟩ rfl (by kernel_rfl) (by kernel_rfl) (by decide) rfl (row_news (S34.blk 0 rfl)) (by intro u hu; simp at hu; subst hu; rfl) (by omega) (by omega) (fun v36 w35 S37 => ?_)))
          refine ⟨(c_.1, v36), rfl, ?_, S37⟩
          intro i_ hi_ hne_ hdp_
          rcases i_ with _ | _ | _ | _ | _ | _ | _ | _ | _ | _ | _ | _ | _ | _ | i_
          · rfl
          · rfl
          · rfl
          · rfl
          · rfl
          · rfl
          · rfl
          · rfl
          · rfl
          · rfl
          · rfl
          · rfl
          · rfl
          · exact absurd rfl hne_
          · exact absurd hi_ (by omega)
        · exact absurd hk_ (by simp)
      · intro c_ w1 hPh_
        have S38 : St F w0 w1 (vec 31 1 c_.2 1 [.slice (some ⟨g5, 0, none⟩) 512 512] :: row c_.1 #[.slice (some ⟨g5, 0, none⟩) 512 512] 31 :: row g5 (bvs d) 5 :: row g #[.slice (some ⟨gd, 0, none⟩) (512 * s.last.length) (512 * s.last.length), .map (some gm), .bool false, .int .i64 left, .int .i64 s.life, .int .i64 s.rd, .int .i64 s.wr, .int .i64 s.fl, .int .i64 s.rf, .int .i64 (s.pend.length : Int)] 87 :: row gd (bvs s.last.flatten) 5 :: pt gm (mapO (es.map PEnt.ent) clock) :: stars (es.map PEnt.ast) :: L) := hPh_
        refine wl_frame (fr [pq g, iv ((k : Nat) : Int), .slice A d.length cd, ud, ud, ud, iv 0, iv 0, sl g5 0 512 512, pq g, iv ((k : Nat) : Int), iv 0, iv 0, fv, ud, .slice A d.length cd, iv (d.length : Nat), fv, ud, ud, ud, ud, ud, ud, ud, ud, ud, sl g5 0 512 512, sl g5 0 512 512, .slice A d.length cd, goInt m11, pq g, pq g, po g 1, .map (some gm), iv ((k : Nat) : Int), pq g, pq g, po g 1, .map (some gm), iv ((k : Nat) : Int), .slice none 0 0, sl g5 0 512 512, sl c_.1 0 1 1, c_.2] 20) (by kernel_rfl) ?_
        refine wl_gv rfl (gv_put_new (kT := 3) (eT := 52) (g := gm) (clock := clock) (es := es.map PEnt.ent) (k := ((k : Nat) : Int)) (v := c_.2) S38 5 rfl rfl (by kernel_rfl) (by kernel_rfl) (by kernel_rfl) (by kernel_rfl) (by kernel_rfl) hno (L' := (vec 31 1 c_.2 1 [.slice (some ⟨g5, 0, none⟩) 512 512] :: row c_.1 #[.slice (some ⟨g5, 0, none⟩) 512 512] 31 :: row g5 (bvs d) 5 :: row g #[.slice (some ⟨gd, 0, none⟩) (512 * s.last.length) (512 * s.last.length), .map (some gm), .bool false, .int .i64 left, .int .i64 s.life, .int .i64 s.rd, .int .i64 s.wr, .int .i64 s.fl, .int .i64 s.rf, .int .i64 (s.pend.length : Int)] 87 :: row gd (bvs s.last.flatten) 5 :: pt gm (mapO (es.map PEnt.ent ++ [⟨((k : Nat) : Int), c_.2, clock⟩]) (clock + 1)) :: stars (es.map PEnt.ast) :: L)) rfl (fun w39 S40 => ?_))
        refine wl_end (fr [pq g, iv ((k : Nat) : Int), .slice A d.length cd, ud, ud, ud, iv 0, iv 0, sl g5 0 512 512, pq g, iv ((k : Nat) : Int), iv 0, iv 0, fv, ud, .slice A d.length cd, iv (d.length : Nat), fv, ud, ud, ud, ud, ud, ud, ud, ud, ud, sl g5 0 512 512, sl g5 0 512 512, .slice A d.length cd, goInt m11, pq g, pq g, po g 1, .map (some gm), iv ((k : Nat) : Int), pq g, pq g, po g 1, .map (some gm), iv ((k : Nat) : Int), .slice none 0 0, sl g5 0 512 512, sl c_.1 0 1 1, c_.2] 20) (by kernel_rfl) ?_
        refine then_n ?_
        refine wp_seq ?_
        refine wp_region_lit ?_
        refine pv (pq g) ?_
        refine pv (pq g) ?_
        refine pv (po g 5) ?_
        refine pv (po g 6) ?_
        refine wl_gv rfl (gv_ldR (v := .int .i64 s.wr) rfl (by kernel_rfl) (by kernel_rfl) (((S40.blk 3 rfl).cell 6).trans rfl) ?_)
        refine pv (iv (inc s.wr)) ?_
        refine pv (pq g) ?_
        refine pv (po g 5) ?_
        refine pv (po g 6) ?_
        refine wl_gv rfl (gv_st (k := 6) (v := .int .i64 (inc s.wr)) S40 3 rfl rfl (by kernel_rfl) (by kernel_rfl) (by kernel_rfl) rfl rfl (L' := (vec 31 1 c_.2 1 [.slice (some ⟨g5, 0, none⟩) 512 512] :: row c_.1 #[.slice (some ⟨g5, 0, none⟩) 512 512] 31 :: row g5 (bvs d) 5 :: row g #[.slice (some ⟨gd, 0, none⟩) (512 * s.last.length) (512 * s.last.length), .map (some gm), .bool false, .int .i64 left, .int .i64 s.life, .int .i64 s.rd, .int .i64 (inc s.wr), .int .i64 s.fl, .int .i64 s.rf, .int .i64 (s.pend.length : Int)] 87 :: row gd (bvs s.last.flatten) 5 :: pt gm (mapO (es.map PEnt.ent ++ [⟨((k : Nat) : Int), c_.2, clock⟩]) (clock + 1)) :: stars (es.map PEnt.ast) :: L)) rfl (fun w41 S42 => ?_))
        refine wl_end (fr [pq g, iv ((k : Nat) : Int), .slice A d.length cd, ud, ud, ud, iv 0, iv 0, sl g5 0 512 512, pq g, iv ((k : Nat) : Int), iv 0, iv 0, fv, ud, .slice A d.length cd, iv (d.length : Nat), fv, ud, ud, ud, ud, ud, ud, ud, ud, ud, sl g5 0 512 512, sl g5 0 512 512, .slice A d.length cd, goInt m11, pq g, pq g, po g 1, .map (some gm), iv ((k : Nat) : Int), pq g, pq g, po g 1, .map (some gm), iv ((k : Nat) : Int), .slice none 0 0, sl g5 0 512 512, sl c_.1 0 1 1, c_.2, pq g, pq g, po g 5, po g 6, iv s.wr, iv (inc s.wr), pq g, po g 5, po g 6] 11) (by kernel_rfl) ?_
        refine then_n ?_
        refine wp_seq ?_
        refine wp_region_lit ?_
        refine pv (pq g) ?_
        refine pv (pq g) ?_
        refine pv (po g 5) ?_
        refine pv (po g 9) ?_
        refine wl_gv rfl (gv_ldR (v := .int .i64 (s.pend.length : Int)) rfl (by kernel_rfl) (by kernel_rfl) (((S42.blk 3 rfl).cell 9).trans rfl) ?_)
        refine wl_gv rfl (gv_int (k := .i64) (z := IntKind.i64.wrap ((s.pend.length : Int) + 1)) (z' := ((s.pend.length + 1 : Nat) : Int)) (by kernel_rfl) (wr_eq (by omega) (by omega) (by omega)) ?_)
        refine pv (pq g) ?_
        refine pv (po g 5) ?_
        refine pv (po g 9) ?_
        refine wl_gv rfl (gv_st (k := 9) (v := .int .i64 ((s.pend.length + 1 : Nat) : Int)) S42 3 rfl rfl (by kernel_rfl) (by kernel_rfl) (by kernel_rfl) rfl rfl (L' := (vec 31 1 c_.2 1 [.slice (some ⟨g5, 0, none⟩) 512 512] :: row c_.1 #[.slice (some ⟨g5, 0, none⟩) 512 512] 31 :: row g5 (bvs d) 5 :: row g #[.slice (some ⟨gd, 0, none⟩) (512 * s.last.length) (512 * s.last.length), .map (some gm), .bool false, .int .i64 left, .int .i64 s.life, .int .i64 s.rd, .int .i64 (inc s.wr), .int .i64 s.fl, .int .i64 s.rf, .int .i64 ((s.pend.length + 1 : Nat) : Int)] 87 :: row gd (bvs s.last.flatten) 5 :: pt gm (mapO (es.map PEnt.ent ++ [⟨((k : Nat) : Int), c_.2, clock⟩]) (clock + 1)) :: stars (es.map PEnt.ast) :: L)) rfl (fun w43 S44 => ?_))
        refine wl_end (fr [pq g, iv ((k : Nat) : Int), .slice A d.length cd, ud, ud, ud, iv 0, iv 0, sl g5 0 512 512, pq g, iv ((k : Nat) : Int), iv 0, iv 0, fv, ud, .slice A d.length cd, iv (d.length : Nat), fv, ud, ud, ud, ud, ud, ud, ud, ud, ud, sl g5 0 512 512, sl g5 0 512 512, .slice A d.length cd, goInt m11, pq g, pq g, po g 1, .map (some gm), iv ((k : Nat) : Int), pq g, pq g, po g 1, .map (some gm), iv ((k : Nat) : Int), .slice none 0 0, sl g5 0 512 512, sl c_.1 0 1 1, c_.2, pq g, pq g, po g 5, po g 6, iv s.wr, iv (inc s.wr), pq g, po g 5, po g 6, pq g, pq g, po g 5, po g 9, iv (s.pend.length : Int), iv ((s.pend.length + 1 : Nat) : Int), pq g, po g 5, po g 9] 2) (by kernel_rfl) ?_
        refine then_n ?_
        refine wp_seq ?_
        refine wp_region_lit ?_
        refine pv (pq g) ?_
        refine wl_gv rfl (gv_call (args := #[.pointer (some ⟨g, 0, none⟩)]) rfl Try.func69 (by kernel_rfl) rfl rfl (by kernel_rfl) ?_)
        have S45 : St F w0 w43 (vec 31 1 c_.2 1 [.slice (some ⟨g5, 0, none⟩) 512 512] :: row g5 (bvs d) 5 :: row g #[.slice (some ⟨gd, 0, none⟩) (512 * s.last.length) (512 * s.last.length), .map (some gm), .bool false, .int .i64 left, .int .i64 s.life, .int .i64 s.rd, .int .i64 (inc s.wr), .int .i64 s.fl, .int .i64 s.rf, .int .i64 ((s.pend.length + 1 : Nat) : Int)] 87 :: row gd (bvs s.last.flatten) 5 :: pt gm (mapO (es.map PEnt.ent ++ [⟨((k : Nat) : Int), c_.2, clock⟩]) (clock + 1)) :: stars (es.map PEnt.ast) :: L) := St.permT [vec 31 1 c_.2 1 [.slice (some ⟨g5, 0, none⟩) 512 512], row c_.1 #[.slice (some ⟨g5, 0, none⟩) 512 512] 31, row g5 (bvs d) 5, row g #[.slice (some ⟨gd, 0, none⟩) (512 * s.last.length) (512 * s.last.length), .map (some gm), .bool false, .int .i64 left, .int .i64 s.life, .int .i64 s.rd, .int .i64 (inc s.wr), .int .i64 s.fl, .int .i64 s.rf, .int .i64 ((s.pend.length + 1 : Nat) : Int)] 87, row gd (bvs s.last.flatten) 5, pt gm (mapO (es.map PEnt.ent ++ [⟨((k : Nat) : Int), c_.2, clock⟩]) (clock + 1)), stars (es.map PEnt.ast)] [0, 2, 3, 4, 5, 6] (by decide) rfl S44
        have em : es.map PEnt.ent ++ [⟨((k : Nat) : Int), c_.2, clock⟩] = (es ++ [(⟨k, c_.2, clock, [(g5, d)]⟩ : PEnt)]).map PEnt.ent := by rw [List.map_append]; rfl
        have S46 : St F w0 w43 (row g #[.slice (some ⟨gd, 0, none⟩) (512 * s.last.length) (512 * s.last.length), .map (some gm), .bool false, .int .i64 left, .int .i64 s.life, .int .i64 s.rd, .int .i64 (inc s.wr), .int .i64 s.fl, .int .i64 s.rf, .int .i64 ((s.pend.length + 1 : Nat) : Int)] 87 :: row gd (bvs s.last.flatten) 5 :: pt gm (mapO (es.map PEnt.ent ++ [⟨((k : Nat) : Int), c_.2, clock⟩]) (clock + 1)) :: stars ((es ++ [(⟨k, c_.2, clock, [(g5, d)]⟩ : PEnt)]).map PEnt.ast) :: L) := entry_new S45
        rw [em] at S46
        refine Calls.mono (spend_false S46) ?_
        rintro _ w47 ⟨rfl, S48⟩
        refine ⟨_, rfl, ?_⟩
        refine wl_end (fr [pq g, iv ((k : Nat) : Int), .slice A d.length cd, ud, ud, ud, iv 0, iv 0, sl g5 0 512 512, pq g, iv ((k : Nat) : Int), iv 0, iv 0, fv, ud, .slice A d.length cd, iv (d.length : Nat), fv, ud, ud, ud, ud, ud, ud, ud, ud, ud, sl g5 0 512 512, sl g5 0 512 512, .slice A d.length cd, goInt m11, pq g, pq g, po g 1, .map (some gm), iv ((k : Nat) : Int), pq g, pq g, po g 1, .map (some gm), iv ((k : Nat) : Int), .slice none 0 0, sl g5 0 512 512, sl c_.1 0 1 1, c_.2, pq g, pq g, po g 5, po g 6, iv s.wr, iv (inc s.wr), pq g, po g 5, po g 6, pq g, pq g, po g 5, po g 9, iv (s.pend.length : Int), iv ((s.pend.length + 1 : Nat) : Int), pq g, po g 5, po g 9, pq g, .tuple #[]] 0) (by kernel_rfl) ?_
        refine then_n ?_
        refine wp_seq ?_
        refine wp_region_lit ?_
        refine pv (iv 0) ?_
        refine wl_end (fr [pq g, iv ((k : Nat) : Int), .slice A d.length cd, ud, ud, ud, iv 0, iv 0, sl g5 0 512 512, pq g, iv ((k : Nat) : Int), iv 0, iv 0, fv, ud, .slice A d.length cd, iv (d.length : Nat), fv, ud, ud, ud, ud, ud, ud, ud, ud, ud, sl g5 0 512 512, sl g5 0 512 512, .slice A d.length cd, goInt m11, pq g, pq g, po g 1, .map (some gm), iv ((k : Nat) : Int), pq g, pq g, po g 1, .map (some gm), iv ((k : Nat) : Int), .slice none 0 0, sl g5 0 512 512, sl c_.1 0 1 1, c_.2, pq g, pq g, po g 5, po g 6, iv s.wr, iv (inc s.wr), pq g, po g 5, po g 6, pq g, pq g, po g 5, po g 9, iv (s.pend.length : Int), iv ((s.pend.length + 1 : Nat) : Int), pq g, po g 5, po g 9, pq g, .tuple #[]] 0) (by kernel_rfl) ?_
        refine then_n ?_
        refine wp_ret ?_
        refine bodyPost_ret (v := .int .i64 0) (results_t1 rfl (by kernel_rfl)) rfl ?_
        have hl1 : ((s.pend.length + 1 : Nat) : Int) = ((s.pend ++ [(k, d)]).length : Nat) := by rw [List.length_append]; rfl
        rw [hl1] at S48
        exact ⟨rfl, St.pclose (gd := gd) (gm := gm) (clock := clock + 1) (es := es ++ [(⟨k, c_.2, clock, [(g5, d)]⟩ : PEnt)]) (fused := false) (left := left) (s := { s with pend := s.pend ++ [(k, d)], wr := inc s.wr, left := spent s.left }) S48 (PFacts.refuse (s' := { s with pend := s.pend ++ [(k, d)], wr := inc s.wr, left := spent s.left }) (hf.write_new (s' := { s with pend := s.pend ++ [(k, d)] }) (go := g5) (d := d) (v' := c_.2) hp hno hk hd hpn rfl rfl rfl) rfl rfl hdc.symm (fun h => absurd h (of_decide_eq_false hdc)) hlb)⟩
  · have hqm : p.ws.length ≤ s.pend.length := by
      have h2 : p.ws.length = (pendOf s k).length := by rw [hp, List.length_map]
      have h3 : (pendOf s k).length ≤ s.pend.length := by unfold pendOf; rw [List.length_map]; exact List.length_filter_le _ _
      omega
    subst hat
    rcases hsp with ⟨rfl, hdc, hde⟩ | ⟨rfl, hdc, hde⟩
    · skip
      change St F w0 w (row g #[.slice (some ⟨gd, 0, none⟩) (512 * s.last.length) (512 * s.last.length), .map (some gm), .bool true, .int .i64 left, .int .i64 s.life, .int .i64 s.rd, .int .i64 s.wr, .int .i64 s.fl, .int .i64 s.rf, .int .i64 (s.pend.length : Int)] 87 :: row gd (bvs s.last.flatten) 5 :: pt gm (mapO (es.map PEnt.ent) clock) :: stars (es.map PEnt.ast) :: L) at S
      refine wp_enter (fr [pq g, iv ((p.at_ : Nat) : Int), .slice A d.length cd] 62) Try.func35 rfl (by kernel_rfl) ?_
      refine wp_seq ?_
      refine wp_region_lit ?_
      refine pv (iv 0) ?_
      refine wl_end (fr [pq g, iv ((p.at_ : Nat) : Int), .slice A d.length cd, ud, ud, ud, iv 0] 58) (by kernel_rfl) ?_
      refine then_n ?_
      refine wp_seq ?_
      refine wp_seq ?_
      refine wp_region_lit ?_
      refine pv (pq g) ?_
      refine pv (iv ((p.at_ : Nat) : Int)) ?_
      refine wl_gv rfl (gv_call (args := #[.pointer (some ⟨g, 0, none⟩), .int .i64 ((p.at_ : Nat) : Int)]) rfl Try.func61 (by kernel_rfl) rfl rfl (by kernel_rfl) ?_)
      refine Calls.mono (there_in hb rfl hn2 hk S) ?_
      rintro _ w1 ⟨rfl, S2⟩
      refine ⟨_, rfl, ?_⟩
      refine pv (iv 0) ?_
      refine wl_end (fr [pq g, iv ((p.at_ : Nat) : Int), .slice A d.length cd, ud, ud, ud, iv 0, iv 0, ud, pq g, iv ((p.at_ : Nat) : Int), iv 0] 53) (by kernel_rfl) ?_
      refine then_n ?_
      refine wp_seq ?_
      refine wp_region_lit ?_
      refine pv (iv 0) ?_
      refine wl_gv rfl (gv_ne (x := 0) (y := 0) (by kernel_rfl) (fun hd3 => False.elim (by omega)) (fun _ => ?_))
      refine wl_end (fr [pq g, iv ((p.at_ : Nat) : Int), .slice A d.length cd, ud, ud, ud, iv 0, iv 0, ud, pq g, iv ((p.at_ : Nat) : Int), iv 0, iv 0, fv] 51) (by kernel_rfl) ?_
      refine then_n ?_
      refine wp_cond_false (by kernel_rfl) ?_
      refine wp_skip ?_
      refine then_n ?_
      refine wp_seq ?_
      refine wp_seq ?_
      refine wp_region_lit ?_
      refine pv (.slice A d.length cd) ?_
      refine pv (iv (d.length : Nat)) ?_
      refine wl_gv rfl (gv_ne (x := (d.length : Nat)) (y := 512) (by kernel_rfl) (fun hd4 => False.elim (by omega)) (fun _ => ?_))
      refine wl_end (fr [pq g, iv ((p.at_ : Nat) : Int), .slice A d.length cd, ud, ud, ud, iv 0, iv 0, ud, pq g, iv ((p.at_ : Nat) : Int), iv 0, iv 0, fv, ud, .slice A d.length cd, iv (d.length : Nat), fv] 47) (by kernel_rfl) ?_
      refine then_n ?_
      refine wp_cond_false (by kernel_rfl) ?_
      refine wp_skip ?_
      refine then_n ?_
      refine wp_seq ?_
      refine wp_region_lit ?_
      refine wl_gv rfl (gv_make (e := 5) (u := 512) (v := 512) (z := .int .u8 0) (sz := 1) (by_ := 1) (n := 512) (c := 512) (cs := (bvs (List.replicate 512 0))) S2 rfl (by kernel_rfl) ⟨by kernel_rfl⟩ (by kernel_rfl) (by kernel_rfl) rfl rfl (Nat.le_refl _) (by decide) (by decide) (mk_bytes _) (fun g5 w6 hg7 S8 => ?_))
      refine pv (sl g5 0 512 512) ?_
      refine wl_end (fr [pq g, iv ((p.at_ : Nat) : Int), .slice A d.length cd, ud, ud, ud, iv 0, iv 0, sl g5 0 512 512, pq g, iv ((p.at_ : Nat) : Int), iv 0, iv 0, fv, ud, .slice A d.length cd, iv (d.length : Nat), fv, ud, ud, ud, ud, ud, ud, ud, ud, ud, sl g5 0 512 512] 37) (by kernel_rfl) ?_
      refine then_n ?_
      refine wp_seq ?_
      refine wp_region_lit ?_
      refine pv (sl g5 0 512 512) ?_
      refine pv (.slice A d.length cd) ?_
      refine wl_gv rfl (gv_copy (e := 5) (off := 0) (dLen := 512) (dCap := 512) (sLen := d.length) (sCap := cd) (A := A) (B := (List.replicate 512 0)) (l := d) S8 0 rfl rfl (by kernel_rfl) (by kernel_rfl) (by kernel_rfl) (by kernel_rfl) rfl (hr.out _ [row g5 (bvs (List.replicate 512 0)) 5, row g #[.slice (some ⟨gd, 0, none⟩) (512 * s.last.length) (512 * s.last.length), .map (some gm), .bool true, .int .i64 left, .int .i64 s.life, .int .i64 s.rd, .int .i64 s.wr, .int .i64 s.fl, .int .i64 s.rf, .int .i64 (s.pend.length : Int)] 87, row gd (bvs s.last.flatten) 5, pt gm (mapO (es.map PEnt.ent) clock), stars (es.map PEnt.ast)] S8) (by simp) (L' := (row g5 (bvs d) 5 :: row g #[.slice (some ⟨gd, 0, none⟩) (512 * s.last.length) (512 * s.last.length), .map (some gm), .bool true, .int .i64 left, .int .i64 s.life, .int .i64 s.rd, .int .i64 s.wr, .int .i64 s.fl, .int .i64 s.rf, .int .i64 (s.pend.length : Int)] 87 :: row gd (bvs s.last.flatten) 5 :: pt gm (mapO (es.map PEnt.ent) clock) :: stars (es.map PEnt.ast) :: L)) (by rw [copy512 hd]; rfl) (fun w9 m11 S10 => ?_))
      refine wl_end (fr [pq g, iv ((p.at_ : Nat) : Int), .slice A d.length cd, ud, ud, ud, iv 0, iv 0, sl g5 0 512 512, pq g, iv ((p.at_ : Nat) : Int), iv 0, iv 0, fv, ud, .slice A d.length cd, iv (d.length : Nat), fv, ud, ud, ud, ud, ud, ud, ud, ud, ud, sl g5 0 512 512, sl g5 0 512 512, .slice A d.length cd, goInt m11] 34) (by kernel_rfl) ?_
      refine then_n ?_
      refine wp_seq ?_
      have S12 : St F w0 w9 (vec 31 1 p.v p.ws.length (p.ws.map PEnt.val) :: stars (p.ws.map PEnt.row) :: stars ((es.take j).map PEnt.ast) :: stars ((es.drop (j + 1)).map PEnt.ast) :: row g5 (bvs d) 5 :: row g #[.slice (some ⟨gd, 0, none⟩) (512 * s.last.length) (512 * s.last.length), .map (some gm), .bool true, .int .i64 left, .int .i64 s.life, .int .i64 s.rd, .int .i64 s.wr, .int .i64 s.fl, .int .i64 s.rf, .int .i64 (s.pend.length : Int)] 87 :: row gd (bvs s.last.flatten) 5 :: pt gm (mapO (es.map PEnt.ent) clock) :: L) := entry_out [row g5 (bvs d) 5, row g #[.slice (some ⟨gd, 0, none⟩) (512 * s.last.length) (512 * s.last.length), .map (some gm), .bool true, .int .i64 left, .int .i64 s.life, .int .i64 s.rd, .int .i64 s.wr, .int .i64 s.fl, .int .i64 s.rf, .int .i64 (s.pend.length : Int)] 87, row gd (bvs s.last.flatten) 5, pt gm (mapO (es.map PEnt.ent) clock)] S10 hj
      refine wp_region_phu (γ := Nat × Value) 14 [12, 13] (fun (c_ : Nat × Value) (i_ : Nat) => (match i_ with | 0 => .pointer (some ⟨g, 0, none⟩) | 1 => .pointer (some ⟨g, 0, none⟩) | 2 => .pointer (some ⟨g, 1, none⟩) | 3 => .map (some gm) | 4 => .int .i64 ((p.at_ : Nat) : Int) | 5 => .pointer (some ⟨g, 0, none⟩) | 6 => .pointer (some ⟨g, 0, none⟩) | 7 => .pointer (some ⟨g, 1, none⟩) | 8 => .map (some gm) | 9 => .int .i64 ((p.at_ : Nat) : Int) | 10 => p.v | 11 => .slice (some ⟨g5, 0, none⟩) 512 512 | 12 => .slice (some ⟨c_.1, 0, none⟩) 1 1 | 13 => c_.2 | _ => undef : Value)) (fun (c_ : Nat × Value) (p_ : Nat) (w_ : World) => (match p_ with | 0 => St F w0 w_ (vec 31 1 p.v p.ws.length (p.ws.map PEnt.val) :: stars (p.ws.map PEnt.row) :: stars ((es.take j).map PEnt.ast) :: stars ((es.drop (j + 1)).map PEnt.ast) :: row g5 (bvs d) 5 :: row g #[.slice (some ⟨gd, 0, none⟩) (512 * s.last.length) (512 * s.last.length), .map (some gm), .bool true, .int .i64 left, .int .i64 s.life, .int .i64 s.rd, .int .i64 s.wr, .int .i64 s.fl, .int .i64 s.rf, .int .i64 (s.pend.length : Int)] 87 :: row gd (bvs s.last.flatten) 5 :: pt gm (mapO (es.map PEnt.ent) clock) :: L) | 1 => St F w0 w_ (row c_.1 #[.slice (some ⟨g5, 0, none⟩) 512 512] 31 :: vec 31 1 p.v p.ws.length (p.ws.map PEnt.val) :: stars (p.ws.map PEnt.row) :: stars ((es.take j).map PEnt.ast) :: stars ((es.drop (j + 1)).map PEnt.ast) :: row g5 (bvs d) 5 :: row g #[.slice (some ⟨gd, 0, none⟩) (512 * s.last.length) (512 * s.last.length), .map (some gm), .bool true, .int .i64 left, .int .i64 s.life, .int .i64 s.rd, .int .i64 s.wr, .int .i64 s.fl, .int .i64 s.rf, .int .i64 (s.pend.length : Int)] 87 :: row gd (bvs s.last.flatten) 5 :: pt gm (mapO (es.map PEnt.ent) clock) :: L) | _ => St F w0 w_ (vec 31 1 c_.2 (p.ws.length + 1) (p.ws.map PEnt.val ++ [.slice (some ⟨g5, 0, none⟩) 512 512]) :: row c_.1 #[.slice (some ⟨g5, 0, none⟩) 512 512] 31 :: stars (p.ws.map PEnt.row) :: stars ((es.take j).map PEnt.ast) :: stars ((es.drop (j + 1)).map PEnt.ast) :: row g5 (bvs d) 5 :: row g #[.slice (some ⟨gd, 0, none⟩) (512 * s.last.length) (512 * s.last.length), .map (some gm), .bool true, .int .i64 left, .int .i64 s.life, .int .i64 s.rd, .int .i64 s.wr, .int .i64 s.fl, .int .i64 s.rf, .int .i64 (s.pend.length : Int)] 87 :: row gd (bvs s.last.flatten) 5 :: pt gm (mapO (es.map PEnt.ent) clock) :: L) : Prop)) (0, undef) (by kernel_rfl) (by kernel_rfl) (by kernel_rfl) (by kernel_rfl) (S12.drew) ?_ ?_ ?_
      · intro i_ c_ p_ vals_ w1 hi_ hiE_ hp_ hk_ hu_ hPh_ hd_
        rcases i_ with _ | _ | _ | _ | _ | _ | _ | _ | _ | _ | _ | _ | _ | _ | i_
        · skip
          refine told_free rfl rfl (gv_env ((⟨Array.replicate 65 undef, []⟩ : Act).put (some 0) (.pointer (some ⟨g, 0, none⟩))) (by kernel_rfl) (xs := [.tmp 0]) (by kernel_rfl) (alike_cons (fill_past (by kernel_rfl) (by kernel_rfl)) alike_nil) (gv_val (v := .pointer (some ⟨g, 0, none⟩)) (w' := w1) (by kernel_rfl) ?_))
          exact ⟨rfl, rfl⟩
        · skip
          refine told_free rfl rfl (gv_env ((⟨Array.replicate 65 undef, []⟩ : Act).put (some 31) (.pointer (some ⟨g, 0, none⟩))) (by kernel_rfl) (xs := [.tmp 31]) (by kernel_rfl) (alike_cons (fill_at (k := 0) (by kernel_rfl) (by kernel_rfl) ((hd_ 0 (by kernel_rfl)).trans (by kernel_rfl))) alike_nil) (gv_val (v := .pointer (some ⟨g, 0, none⟩)) (w' := w1) (by kernel_rfl) ?_))
          exact ⟨rfl, rfl⟩
        · skip
          refine told_free rfl rfl (gv_env ((⟨Array.replicate 65 undef, []⟩ : Act).put (some 32) (.pointer (some ⟨g, 0, none⟩))) (by kernel_rfl) (xs := [.tmp 32]) (by kernel_rfl) (alike_cons (fill_at (k := 1) (by kernel_rfl) (by kernel_rfl) ((hd_ 1 (by kernel_rfl)).trans (by kernel_rfl))) alike_nil) (gv_val (v := .pointer (some ⟨g, 1, none⟩)) (w' := w1) (by kernel_rfl) ?_))
          exact ⟨rfl, rfl⟩
        · skip
          rcases p_ with _ | _ | _ | p_
          · skip
            have S16 : St F w0 w1 (vec 31 1 p.v p.ws.length (p.ws.map PEnt.val) :: stars (p.ws.map PEnt.row) :: stars ((es.take j).map PEnt.ast) :: stars ((es.drop (j + 1)).map PEnt.ast) :: row g5 (bvs d) 5 :: row g #[.slice (some ⟨gd, 0, none⟩) (512 * s.last.length) (512 * s.last.length), .map (some gm), .bool true, .int .i64 left, .int .i64 s.life, .int .i64 s.rd, .int .i64 s.wr, .int .i64 s.fl, .int .i64 s.rf, .int .i64 (s.pend.length : Int)] 87 :: row gd (bvs s.last.flatten) 5 :: pt gm (mapO (es.map PEnt.ent) clock) :: L) := hPh_
            refine told_free rfl rfl (gv_env ((⟨Array.replicate 65 undef, []⟩ : Act).put (some 33) (.pointer (some ⟨g, 1, none⟩))) (by kernel_rfl) (xs := [.tmp 33]) (by kernel_rfl) (alike_cons (fill_at (k := 2) (by kernel_rfl) (by kernel_rfl) ((hd_ 2 (by kernel_rfl)).trans (by kernel_rfl))) alike_nil) (gv_ldR (v := .map (some gm)) rfl (by kernel_rfl) (by kernel_rfl) (((S16.blk 5 rfl).cell 1).trans rfl) ?_))
            exact ⟨rfl, rfl⟩
          · skip
            have S17 : St F w0 w1 (row c_.1 #[.slice (some ⟨g5, 0, none⟩) 512 512] 31 :: vec 31 1 p.v p.ws.length (p.ws.map PEnt.val) :: stars (p.ws.map PEnt.row) :: stars ((es.take j).map PEnt.ast) :: stars ((es.drop (j + 1)).map PEnt.ast) :: row g5 (bvs d) 5 :: row g #[.slice (some ⟨gd, 0, none⟩) (512 * s.last.length) (512 * s.last.length), .map (some gm), .bool true, .int .i64 left, .int .i64 s.life, .int .i64 s.rd, .int .i64 s.wr, .int .i64 s.fl, .int .i64 s.rf, .int .i64 (s.pend.length : Int)] 87 :: row gd (bvs s.last.flatten) 5 :: pt gm (mapO (es.map PEnt.ent) clock) :: L) := hPh_
            refine told_free rfl rfl (gv_env ((⟨Array.replicate 65 undef, []⟩ : Act).put (some 33) (.pointer (some ⟨g, 1, none⟩))) (by kernel_rfl) (xs := [.tmp 33]) (by kernel_rfl) (alike_cons (fill_at (k := 2) (by kernel_rfl) (by kernel_rfl) ((hd_ 2 (by kernel_rfl)).trans (by kernel_rfl))) alike_nil) (gv_ldR (v := .map (some gm)) rfl (by kernel_rfl) (by kernel_rfl) (((S17.blk 6 rfl).cell 1).trans rfl) ?_))
            exact ⟨rfl, rfl⟩
          · skip
            have S18 : St F w0 w1 (vec 31 1 c_.2 (p.ws.length + 1) (p.ws.map PEnt.val ++ [.slice (some ⟨g5, 0, none⟩) 512 512]) :: row c_.1 #[.slice (some ⟨g5, 0, none⟩) 512 512] 31 :: stars (p.ws.map PEnt.row) :: stars ((es.take j).map PEnt.ast) :: stars ((es.drop (j + 1)).map PEnt.ast) :: row g5 (bvs d) 5 :: row g #[.slice (some ⟨gd, 0, none⟩) (512 * s.last.length) (512 * s.last.length), .map (some gm), .bool true, .int .i64 left, .int .i64 s.life, .int .i64 s.rd, .int .i64 s.wr, .int .i64 s.fl, .int .i64 s.rf, .int .i64 (s.pend.length : Int)] 87 :: row gd (bvs s.last.flatten) 5 :: pt gm (mapO (es.map PEnt.ent) clock) :: L) := hPh_
            refine told_free rfl rfl (gv_env ((⟨Array.replicate 65 undef, []⟩ : Act).put (some 33) (.pointer (some ⟨g, 1, none⟩))) (by kernel_rfl) (xs := [.tmp 33]) (by kernel_rfl) (alike_cons (fill_at (k := 2) (by kernel_rfl) (by kernel_rfl) ((hd_ 2 (by kernel_rfl)).trans (by kernel_rfl))) alike_nil) (gv_ldR (v := .map (some gm)) rfl (by kernel_rfl) (by kernel_rfl) (((S18.blk 6 rfl).cell 1).trans rfl) ?_))
            exact ⟨rfl, rfl⟩
          · exact absurd hp_ (by simp)
        · skip
          refine told_free rfl rfl (gv_env ((⟨Array.replicate 65 undef, []⟩ : Act).put (some 1) (.int .i64 ((p.at_ : Nat) : Int))) (by kernel_rfl) (xs := [.tmp 1]) (by kernel_rfl) (alike_cons (fill_past (by kernel_rfl) (by kernel_rfl)) alike_nil) (gv_val (v := .int .i64 ((p.at_ : Nat) : Int)) (w' := w1) (by kernel_rfl) ?_))
          exact ⟨rfl, rfl⟩
        · skip
          refine told_free rfl rfl (gv_env ((⟨Array.replicate 65 undef, []⟩ : Act).put (some 0) (.pointer (some ⟨g, 0, none⟩))) (by kernel_rfl) (xs := [.tmp 0]) (by kernel_rfl) (alike_cons (fill_past (by kernel_rfl) (by kernel_rfl)) alike_nil) (gv_val (v := .pointer (some ⟨g, 0, none⟩)) (w' := w1) (by kernel_rfl) ?_))
          exact ⟨rfl, rfl⟩
        · skip
          refine told_free rfl rfl (gv_env ((⟨Array.replicate 65 undef, []⟩ : Act).put (some 36) (.pointer (some ⟨g, 0, none⟩))) (by kernel_rfl) (xs := [.tmp 36]) (by kernel_rfl) (alike_cons (fill_at (k := 5) (by kernel_rfl) (by kernel_rfl) ((hd_ 5 (by kernel_rfl)).trans (by kernel_rfl))) alike_nil) (gv_val (v := .pointer (some ⟨g, 0, none⟩)) (w' := w1) (by kernel_rfl) ?_))
          exact ⟨rfl, rfl⟩
        · skip
          refine told_free rfl rfl (gv_env ((⟨Array.replicate 65 undef, []⟩ : Act).put (some 37) (.pointer (some ⟨g, 0, none⟩))) (by kernel_rfl) (xs := [.tmp 37]) (by kernel_rfl) (alike_cons (fill_at (k := 6) (by kernel_rfl) (by kernel_rfl) ((hd_ 6 (by kernel_rfl)).trans (by kernel_rfl))) alike_nil) (gv_val (v := .pointer (some ⟨g, 1, none⟩)) (w' := w1) (by kernel_rfl) ?_))
          exact ⟨rfl, rfl⟩
        · skip
          rcases p_ with _ | _ | _ | p_
          · skip
            have S23 : St F w0 w1 (vec 31 1 p.v p.ws.length (p.ws.map PEnt.val) :: stars (p.ws.map PEnt.row) :: stars ((es.take j).map PEnt.ast) :: stars ((es.drop (j + 1)).map PEnt.ast) :: row g5 (bvs d) 5 :: row g #[.slice (some ⟨gd, 0, none⟩) (512 * s.last.length) (512 * s.last.length), .map (some gm), .bool true, .int .i64 left, .int .i64 s.life, .int .i64 s.rd, .int .i64 s.wr, .int .i64 s.fl, .int .i64 s.rf, .int .i64 (s.pend.length : Int)] 87 :: row gd (bvs s.last.flatten) 5 :: pt gm (mapO (es.map PEnt.ent) clock) :: L) := hPh_
            refine told_free rfl rfl (gv_env ((⟨Array.replicate 65 undef, []⟩ : Act).put (some 38) (.pointer (some ⟨g, 1, none⟩))) (by kernel_rfl) (xs := [.tmp 38]) (by kernel_rfl) (alike_cons (fill_at (k := 7) (by kernel_rfl) (by kernel_rfl) ((hd_ 7 (by kernel_rfl)).trans (by kernel_rfl))) alike_nil) (gv_ldR (v := .map (some gm)) rfl (by kernel_rfl) (by kernel_rfl) (((S23.blk 5 rfl).cell 1).trans rfl) ?_))
            exact ⟨rfl, rfl⟩
          · skip
            have S24 : St F w0 w1 (row c_.1 #[.slice (some ⟨g5, 0, none⟩) 512 512] 31 :: vec 31 1 p.v p.ws.length (p.ws.map PEnt.val) :: stars (p.ws.map PEnt.row) :: stars ((es.take j).map PEnt.ast) :: stars ((es.drop (j + 1)).map PEnt.ast) :: row g5 (bvs d) 5 :: row g #[.slice (some ⟨gd, 0, none⟩) (512 * s.last.length) (512 * s.last.length), .map (some gm), .bool true, .int .i64 left, .int .i64 s.life, .int .i64 s.rd, .int .i64 s.wr, .int .i64 s.fl, .int .i64 s.rf, .int .i64 (s.pend.length : Int)] 87 :: row gd (bvs s.last.flatten) 5 :: pt gm (mapO (es.map PEnt.ent) clock) :: L) := hPh_
            refine told_free rfl rfl (gv_env ((⟨Array.replicate 65 undef, []⟩ : Act).put (some 38) (.pointer (some ⟨g, 1, none⟩))) (by kernel_rfl) (xs := [.tmp 38]) (by kernel_rfl) (alike_cons (fill_at (k := 7) (by kernel_rfl) (by kernel_rfl) ((hd_ 7 (by kernel_rfl)).trans (by kernel_rfl))) alike_nil) (gv_ldR (v := .map (some gm)) rfl (by kernel_rfl) (by kernel_rfl) (((S24.blk 6 rfl).cell 1).trans rfl) ?_))
            exact ⟨rfl, rfl⟩
          · skip
            exact absurd (hu_ 1 (by decide) (by kernel_rfl)) (by decide)
          · exact absurd hp_ (by simp)
        · skip
          refine told_free rfl rfl (gv_env ((⟨Array.replicate 65 undef, []⟩ : Act).put (some 1) (.int .i64 ((p.at_ : Nat) : Int))) (by kernel_rfl) (xs := [.tmp 1]) (by kernel_rfl) (alike_cons (fill_past (by kernel_rfl) (by kernel_rfl)) alike_nil) (gv_val (v := .int .i64 ((p.at_ : Nat) : Int)) (w' := w1) (by kernel_rfl) ?_))
          exact ⟨rfl, rfl⟩
        · skip
          rcases p_ with _ | _ | _ | p_
          · skip
            have S26 : St F w0 w1 (vec 31 1 p.v p.ws.length (p.ws.map PEnt.val) :: stars (p.ws.map PEnt.row) :: stars ((es.take j).map PEnt.ast) :: stars ((es.drop (j + 1)).map PEnt.ast) :: row g5 (bvs d) 5 :: row g #[.slice (some ⟨gd, 0, none⟩) (512 * s.last.length) (512 * s.last.length), .map (some gm), .bool true, .int .i64 left, .int .i64 s.life, .int .i64 s.rd, .int .i64 s.wr, .int .i64 s.fl, .int .i64 s.rf, .int .i64 (s.pend.length : Int)] 87 :: row gd (bvs s.last.flatten) 5 :: pt gm (mapO (es.map PEnt.ent) clock) :: L) := hPh_
            refine told_free rfl rfl (gv_env (((⟨Array.replicate 65 undef, []⟩ : Act).put (some 39) (.map (some gm))).put (some 40) (.int .i64 ((p.at_ : Nat) : Int))) (by kernel_rfl) (xs := [.tmp 39, .tmp 40]) (by kernel_rfl) (alike_cons (fill_at (k := 8) (by kernel_rfl) (by kernel_rfl) ((hd_ 8 (by kernel_rfl)).trans (by kernel_rfl))) (alike_cons (fill_at (k := 9) (by kernel_rfl) (by kernel_rfl) ((hd_ 9 (by kernel_rfl)).trans (by kernel_rfl))) alike_nil)) (gv_look_some (kT := 3) (eT := 52) (k := ((p.at_ : Nat) : Int)) (S26.get 7 rfl) rfl (by kernel_rfl) (by kernel_rfl) (by kernel_rfl) (by kernel_rfl) hje hke hfe ?_))
            exact ⟨rfl, rfl⟩
          · skip
            have S27 : St F w0 w1 (row c_.1 #[.slice (some ⟨g5, 0, none⟩) 512 512] 31 :: vec 31 1 p.v p.ws.length (p.ws.map PEnt.val) :: stars (p.ws.map PEnt.row) :: stars ((es.take j).map PEnt.ast) :: stars ((es.drop (j + 1)).map PEnt.ast) :: row g5 (bvs d) 5 :: row g #[.slice (some ⟨gd, 0, none⟩) (512 * s.last.length) (512 * s.last.length), .map (some gm), .bool true, .int .i64 left, .int .i64 s.life, .int .i64 s.rd, .int .i64 s.wr, .int .i64 s.fl, .int .i64 s.rf, .int .i64 (s.pend.length : Int)] 87 :: row gd (bvs s.last.flatten) 5 :: pt gm (mapO (es.map PEnt.ent) clock) :: L) := hPh_
            refine told_free rfl rfl (gv_env (((⟨Array.replicate 65 undef, []⟩ : Act).put (some 39) (.map (some gm))).put (some 40) (.int .i64 ((p.at_ : Nat) : Int))) (by kernel_rfl) (xs := [.tmp 39, .tmp 40]) (by kernel_rfl) (alike_cons (fill_at (k := 8) (by kernel_rfl) (by kernel_rfl) ((hd_ 8 (by kernel_rfl)).trans (by kernel_rfl))) (alike_cons (fill_at (k := 9) (by kernel_rfl) (by kernel_rfl) ((hd_ 9 (by kernel_rfl)).trans (by kernel_rfl))) alike_nil)) (gv_look_some (kT := 3) (eT := 52) (k := ((p.at_ : Nat) : Int)) (S27.get 8 rfl) rfl (by kernel_rfl) (by kernel_rfl) (by kernel_rfl) (by kernel_rfl) hje hke hfe ?_))
            exact ⟨rfl, rfl⟩
          · skip
            exact absurd (hu_ 1 (by decide) (by kernel_rfl)) (by decide)
          · exact absurd hp_ (by simp)
        · skip
          refine told_free rfl rfl (gv_env ((⟨Array.replicate 65 undef, []⟩ : Act).put (some 8) (.slice (some ⟨g5, 0, none⟩) 512 512)) (by kernel_rfl) (xs := [.tmp 8]) (by kernel_rfl) (alike_cons (fill_past (by kernel_rfl) (by kernel_rfl)) alike_nil) (gv_val (v := .slice (some ⟨g5, 0, none⟩) 512 512) (w' := w1) (by kernel_rfl) ?_))
          exact ⟨rfl, rfl⟩
        · skip
          exact absurd hiE_ (by decide)
        · skip
          exact absurd hiE_ (by decide)
        · exact absurd hi_ (by omega)
      · intro k_ c_ vals_ w1 hk_ hPh_ hd_
        rcases k_ with _ | _ | k_
        · skip
          have S29 : St F w0 w1 (vec 31 1 p.v p.ws.length (p.ws.map PEnt.val) :: stars (p.ws.map PEnt.row) :: stars ((es.take j).map PEnt.ast) :: stars ((es.drop (j + 1)).map PEnt.ast) :: row g5 (bvs d) 5 :: row g #[.slice (some ⟨gd, 0, none⟩) (512 * s.last.length) (512 * s.last.length), .map (some gm), .bool true, .int .i64 left, .int .i64 s.life, .int .i64 s.rd, .int .i64 s.wr, .int .i64 s.fl, .int .i64 s.rf, .int .i64 (s.pend.length : Int)] 87 :: row gd (bvs s.last.flatten) 5 :: pt gm (mapO (es.map PEnt.ent) clock) :: L) := hPh_
          refine told_free rfl rfl (gv_env ((⟨Array.replicate 65 undef, []⟩ : Act).put (some 42) (.slice (some ⟨g5, 0, none⟩) 512 512)) (by kernel_rfl) (xs := [.tmp 42]) (by kernel_rfl) (alike_cons (fill_at (k := 11) (by kernel_rfl) (by kernel_rfl) ((hd_ 11 (by kernel_rfl)).trans (by kernel_rfl))) alike_nil) (gv_slit (e := 31) (sz := 1) (z := .slice none 0 0) (by_ := 24) (vs := #[(0, .slice (some ⟨g5, 0, none⟩) 512 512)]) (cells := #[.slice (some ⟨g5, 0, none⟩) 512 512]) S29 rfl (by kernel_rfl) ⟨by kernel_rfl⟩ (by kernel_rfl) (by kernel_rfl) (by kernel_rfl) (by kernel_rfl) (fun g30 w31 hg32 S33 => ?_)))
          refine ⟨(g30, c_.2), rfl, ?_, S33⟩
          intro i_ hi_ hne_ hdp_
          rcases i_ with _ | _ | _ | _ | _ | _ | _ | _ | _ | _ | _ | _ | _ | _ | i_
          · rfl
          · rfl
          · rfl
          · rfl
          · rfl
          · rfl
          · rfl
          · rfl
          · rfl
          · rfl
          · rfl
          · rfl
          · exact absurd rfl hne_
          · exact (dep_no hdp_ (by kernel_rfl)).elim
          · exact absurd hi_ (by omega)
        · skip
          have S34 : St F w0 w1 (row c_.1 #[.slice (some ⟨g5, 0, none⟩) 512 512] 31 :: vec 31 1 p.v p.ws.length (p.ws.map PEnt.val) :: stars (p.ws.map PEnt.row) :: stars ((es.take j).map PEnt.ast) :: stars ((es.drop (j + 1)).map PEnt.ast) :: row g5 (bvs d) 5 :: row g #[.slice (some ⟨gd, 0, none⟩) (512 * s.last.length) (512 * s.last.length), .map (some gm), .bool true, .int .i64 left, .int .i64 s.life, .int .i64 s.rd, .int .i64 s.wr, .int .i64 s.fl, .int .i64 s.rf, .int .i64 (s.pend.length : Int)] 87 :: row gd (bvs s.last.flatten) 5 :: pt gm (mapO (es.map PEnt.ent) clock) :: L) := hPh_
          refine told_free rfl rfl (gv_env (((⟨Array.replicate 65 undef, []⟩ : Act).put (some 41) (p.v)).put (some 43) (.slice (some ⟨c_.1, 0, none⟩) 1 1)) (by kernel_rfl) (xs := [.tmp 41, .tmp 43]) (by kernel_rfl) (alike_cons (fill_at (k := 10) (by kernel_rfl) (by kernel_rfl) ((hd_ 10 (by kernel_rfl)).trans (by kernel_rfl))) (alike_cons (fill_at (k := 12) (by kernel_rfl) (by kernel_rfl) ((hd_ 12 (by kernel_rfl)).trans (by kernel_rfl))) alike_nil)) (gv_append (e := 31) (sz := 1) (n := p.ws.length) (v := p.v) (vals := (p.ws.map PEnt.val)) (z := .slice none 0 0) (by_ := 24) (m := 1) (c' := 1) (ad := ⟨c_.1, 0, none⟩) (news := [.slice (some ⟨g5, 0, none⟩) 512 512]) (St.swap S34) rfl (by kernel_rfl) ⟨by kernel_rfl⟩ rfl (by kernel_rfl) (by kernel_rfl) (by decide) rfl (row_news (S34.blk 0 rfl)) (by intro u hu; simp at hu; subst hu; rfl) (by omega) (by omega) (fun v36 w35 S37 => ?_)))
          refine ⟨(c_.1, v36), rfl, ?_, S37⟩
          intro i_ hi_ hne_ hdp_
          rcases i_ with _ | _ | _ | _ | _ | _ | _ | _ | _ | _ | _ | _ | _ | _ | i_
          · rfl
          · rfl
          · rfl
          · rfl
          · rfl
          · rfl
          · rfl
          · rfl
          · rfl
          · rfl
          · rfl
          · rfl
          · rfl
          · exact absurd rfl hne_
          · exact absurd hi_ (by omega)
        · exact absurd hk_ (by simp)
      · intro c_ w1 hPh_
        have S38 : St F w0 w1 (vec 31 1 c_.2 (p.ws.length + 1) (p.ws.map PEnt.val ++ [.slice (some ⟨g5, 0, none⟩) 512 512]) :: row c_.1 #[.slice (some ⟨g5, 0, none⟩) 512 512] 31 :: stars (p.ws.map PEnt.row) :: stars ((es.take j).map PEnt.ast) :: stars ((es.drop (j + 1)).map PEnt.ast) :: row g5 (bvs d) 5 :: row g #[.slice (some ⟨gd, 0, none⟩) (512 * s.last.length) (512 * s.last.length), .map (some gm), .bool true, .int .i64 left, .int .i64 s.life, .int .i64 s.rd, .int .i64 s.wr, .int .i64 s.fl, .int .i64 s.rf, .int .i64 (s.pend.length : Int)] 87 :: row gd (bvs s.last.flatten) 5 :: pt gm (mapO (es.map PEnt.ent) clock) :: L) := hPh_
        refine wl_frame (fr [pq g, iv ((p.at_ : Nat) : Int), .slice A d.length cd, ud, ud, ud, iv 0, iv 0, sl g5 0 512 512, pq g, iv ((p.at_ : Nat) : Int), iv 0, iv 0, fv, ud, .slice A d.length cd, iv (d.length : Nat), fv, ud, ud, ud, ud, ud, ud, ud, ud, ud, sl g5 0 512 512, sl g5 0 512 512, .slice A d.length cd, goInt m11, pq g, pq g, po g 1, .map (some gm), iv ((p.at_ : Nat) : Int), pq g, pq g, po g 1, .map (some gm), iv ((p.at_ : Nat) : Int), p.v, sl g5 0 512 512, sl c_.1 0 1 1, c_.2] 20) (by kernel_rfl) ?_
        refine wl_gv rfl (gv_put_old (kT := 3) (eT := 52) (g := gm) (clock := clock) (es := es.map PEnt.ent) (k := ((p.at_ : Nat) : Int)) (v := c_.2) S38 8 rfl rfl (by kernel_rfl) (by kernel_rfl) (by kernel_rfl) (by kernel_rfl) (by kernel_rfl) hje hke hfe (L' := (vec 31 1 c_.2 (p.ws.length + 1) (p.ws.map PEnt.val ++ [.slice (some ⟨g5, 0, none⟩) 512 512]) :: row c_.1 #[.slice (some ⟨g5, 0, none⟩) 512 512] 31 :: stars (p.ws.map PEnt.row) :: stars ((es.take j).map PEnt.ast) :: stars ((es.drop (j + 1)).map PEnt.ast) :: row g5 (bvs d) 5 :: row g #[.slice (some ⟨gd, 0, none⟩) (512 * s.last.length) (512 * s.last.length), .map (some gm), .bool true, .int .i64 left, .int .i64 s.life, .int .i64 s.rd, .int .i64 s.wr, .int .i64 s.fl, .int .i64 s.rf, .int .i64 (s.pend.length : Int)] 87 :: row gd (bvs s.last.flatten) 5 :: pt gm (mapO ((es.map PEnt.ent).set j ⟨((p.at_ : Nat) : Int), c_.2, p.b⟩) clock) :: L)) rfl (fun w39 S40 => ?_))
        refine wl_end (fr [pq g, iv ((p.at_ : Nat) : Int), .slice A d.length cd, ud, ud, ud, iv 0, iv 0, sl g5 0 512 512, pq g, iv ((p.at_ : Nat) : Int), iv 0, iv 0, fv, ud, .slice A d.length cd, iv (d.length : Nat), fv, ud, ud, ud, ud, ud, ud, ud, ud, ud, sl g5 0 512 512, sl g5 0 512 512, .slice A d.length cd, goInt m11, pq g, pq g, po g 1, .map (some gm), iv ((p.at_ : Nat) : Int), pq g, pq g, po g 1, .map (some gm), iv ((p.at_ : Nat) : Int), p.v, sl g5 0 512 512, sl c_.1 0 1 1, c_.2] 20) (by kernel_rfl) ?_
        refine then_n ?_
        refine wp_seq ?_
        refine wp_region_lit ?_
        refine pv (pq g) ?_
        refine pv (pq g) ?_
        refine pv (po g 5) ?_
        refine pv (po g 6) ?_
        refine wl_gv rfl (gv_ldR (v := .int .i64 s.wr) rfl (by kernel_rfl) (by kernel_rfl) (((S40.blk 6 rfl).cell 6).trans rfl) ?_)
        refine pv (iv (inc s.wr)) ?_
        refine pv (pq g) ?_
        refine pv (po g 5) ?_
        refine pv (po g 6) ?_
        refine wl_gv rfl (gv_st (k := 6) (v := .int .i64 (inc s.wr)) S40 6 rfl rfl (by kernel_rfl) (by kernel_rfl) (by kernel_rfl) rfl rfl (L' := (vec 31 1 c_.2 (p.ws.length + 1) (p.ws.map PEnt.val ++ [.slice (some ⟨g5, 0, none⟩) 512 512]) :: row c_.1 #[.slice (some ⟨g5, 0, none⟩) 512 512] 31 :: stars (p.ws.map PEnt.row) :: stars ((es.take j).map PEnt.ast) :: stars ((es.drop (j + 1)).map PEnt.ast) :: row g5 (bvs d) 5 :: row g #[.slice (some ⟨gd, 0, none⟩) (512 * s.last.length) (512 * s.last.length), .map (some gm), .bool true, .int .i64 left, .int .i64 s.life, .int .i64 s.rd, .int .i64 (inc s.wr), .int .i64 s.fl, .int .i64 s.rf, .int .i64 (s.pend.length : Int)] 87 :: row gd (bvs s.last.flatten) 5 :: pt gm (mapO ((es.map PEnt.ent).set j ⟨((p.at_ : Nat) : Int), c_.2, p.b⟩) clock) :: L)) rfl (fun w41 S42 => ?_))
        refine wl_end (fr [pq g, iv ((p.at_ : Nat) : Int), .slice A d.length cd, ud, ud, ud, iv 0, iv 0, sl g5 0 512 512, pq g, iv ((p.at_ : Nat) : Int), iv 0, iv 0, fv, ud, .slice A d.length cd, iv (d.length : Nat), fv, ud, ud, ud, ud, ud, ud, ud, ud, ud, sl g5 0 512 512, sl g5 0 512 512, .slice A d.length cd, goInt m11, pq g, pq g, po g 1, .map (some gm), iv ((p.at_ : Nat) : Int), pq g, pq g, po g 1, .map (some gm), iv ((p.at_ : Nat) : Int), p.v, sl g5 0 512 512, sl c_.1 0 1 1, c_.2, pq g, pq g, po g 5, po g 6, iv s.wr, iv (inc s.wr), pq g, po g 5, po g 6] 11) (by kernel_rfl) ?_
        refine then_n ?_
        refine wp_seq ?_
        refine wp_region_lit ?_
        refine pv (pq g) ?_
        refine pv (pq g) ?_
        refine pv (po g 5) ?_
        refine pv (po g 9) ?_
        refine wl_gv rfl (gv_ldR (v := .int .i64 (s.pend.length : Int)) rfl (by kernel_rfl) (by kernel_rfl) (((S42.blk 6 rfl).cell 9).trans rfl) ?_)
        refine wl_gv rfl (gv_int (k := .i64) (z := IntKind.i64.wrap ((s.pend.length : Int) + 1)) (z' := ((s.pend.length + 1 : Nat) : Int)) (by kernel_rfl) (wr_eq (by omega) (by omega) (by omega)) ?_)
        refine pv (pq g) ?_
        refine pv (po g 5) ?_
        refine pv (po g 9) ?_
        refine wl_gv rfl (gv_st (k := 9) (v := .int .i64 ((s.pend.length + 1 : Nat) : Int)) S42 6 rfl rfl (by kernel_rfl) (by kernel_rfl) (by kernel_rfl) rfl rfl (L' := (vec 31 1 c_.2 (p.ws.length + 1) (p.ws.map PEnt.val ++ [.slice (some ⟨g5, 0, none⟩) 512 512]) :: row c_.1 #[.slice (some ⟨g5, 0, none⟩) 512 512] 31 :: stars (p.ws.map PEnt.row) :: stars ((es.take j).map PEnt.ast) :: stars ((es.drop (j + 1)).map PEnt.ast) :: row g5 (bvs d) 5 :: row g #[.slice (some ⟨gd, 0, none⟩) (512 * s.last.length) (512 * s.last.length), .map (some gm), .bool true, .int .i64 left, .int .i64 s.life, .int .i64 s.rd, .int .i64 (inc s.wr), .int .i64 s.fl, .int .i64 s.rf, .int .i64 ((s.pend.length + 1 : Nat) : Int)] 87 :: row gd (bvs s.last.flatten) 5 :: pt gm (mapO ((es.map PEnt.ent).set j ⟨((p.at_ : Nat) : Int), c_.2, p.b⟩) clock) :: L)) rfl (fun w43 S44 => ?_))
        refine wl_end (fr [pq g, iv ((p.at_ : Nat) : Int), .slice A d.length cd, ud, ud, ud, iv 0, iv 0, sl g5 0 512 512, pq g, iv ((p.at_ : Nat) : Int), iv 0, iv 0, fv, ud, .slice A d.length cd, iv (d.length : Nat), fv, ud, ud, ud, ud, ud, ud, ud, ud, ud, sl g5 0 512 512, sl g5 0 512 512, .slice A d.length cd, goInt m11, pq g, pq g, po g 1, .map (some gm), iv ((p.at_ : Nat) : Int), pq g, pq g, po g 1, .map (some gm), iv ((p.at_ : Nat) : Int), p.v, sl g5 0 512 512, sl c_.1 0 1 1, c_.2, pq g, pq g, po g 5, po g 6, iv s.wr, iv (inc s.wr), pq g, po g 5, po g 6, pq g, pq g, po g 5, po g 9, iv (s.pend.length : Int), iv ((s.pend.length + 1 : Nat) : Int), pq g, po g 5, po g 9] 2) (by kernel_rfl) ?_
        refine then_n ?_
        refine wp_seq ?_
        refine wp_region_lit ?_
        refine pv (pq g) ?_
        refine wl_gv rfl (gv_call (args := #[.pointer (some ⟨g, 0, none⟩)]) rfl Try.func69 (by kernel_rfl) rfl rfl (by kernel_rfl) ?_)
        have S45 : St F w0 w43 (vec 31 1 c_.2 (p.ws.length + 1) (p.ws.map PEnt.val ++ [.slice (some ⟨g5, 0, none⟩) 512 512]) :: stars (p.ws.map PEnt.row) :: stars ((es.take j).map PEnt.ast) :: stars ((es.drop (j + 1)).map PEnt.ast) :: row g5 (bvs d) 5 :: row g #[.slice (some ⟨gd, 0, none⟩) (512 * s.last.length) (512 * s.last.length), .map (some gm), .bool true, .int .i64 left, .int .i64 s.life, .int .i64 s.rd, .int .i64 (inc s.wr), .int .i64 s.fl, .int .i64 s.rf, .int .i64 ((s.pend.length + 1 : Nat) : Int)] 87 :: row gd (bvs s.last.flatten) 5 :: pt gm (mapO ((es.map PEnt.ent).set j ⟨((p.at_ : Nat) : Int), c_.2, p.b⟩) clock) :: L) := St.permT [vec 31 1 c_.2 (p.ws.length + 1) (p.ws.map PEnt.val ++ [.slice (some ⟨g5, 0, none⟩) 512 512]), row c_.1 #[.slice (some ⟨g5, 0, none⟩) 512 512] 31, stars (p.ws.map PEnt.row), stars ((es.take j).map PEnt.ast), stars ((es.drop (j + 1)).map PEnt.ast), row g5 (bvs d) 5, row g #[.slice (some ⟨gd, 0, none⟩) (512 * s.last.length) (512 * s.last.length), .map (some gm), .bool true, .int .i64 left, .int .i64 s.life, .int .i64 s.rd, .int .i64 (inc s.wr), .int .i64 s.fl, .int .i64 s.rf, .int .i64 ((s.pend.length + 1 : Nat) : Int)] 87, row gd (bvs s.last.flatten) 5, pt gm (mapO ((es.map PEnt.ent).set j ⟨((p.at_ : Nat) : Int), c_.2, p.b⟩) clock)] [0, 2, 3, 4, 5, 6, 7, 8] (by decide) rfl S44
        have em : (es.map PEnt.ent).set j ⟨((p.at_ : Nat) : Int), c_.2, p.b⟩ = (es.set j ⟨p.at_, c_.2, p.b, p.ws ++ [(g5, d)]⟩).map PEnt.ent := by rw [map_set]; rfl
        have S46 : St F w0 w43 (row g #[.slice (some ⟨gd, 0, none⟩) (512 * s.last.length) (512 * s.last.length), .map (some gm), .bool true, .int .i64 left, .int .i64 s.life, .int .i64 s.rd, .int .i64 (inc s.wr), .int .i64 s.fl, .int .i64 s.rf, .int .i64 ((s.pend.length + 1 : Nat) : Int)] 87 :: row gd (bvs s.last.flatten) 5 :: pt gm (mapO ((es.map PEnt.ent).set j ⟨((p.at_ : Nat) : Int), c_.2, p.b⟩) clock) :: stars ((es.set j ⟨p.at_, c_.2, p.b, p.ws ++ [(g5, d)]⟩).map PEnt.ast) :: L) := entry_in hj S45
        rw [em] at S46
        refine Calls.mono (spend_true S46) ?_
        rintro _ w47 ⟨rfl, S48⟩
        refine ⟨_, rfl, ?_⟩
        refine wl_end (fr [pq g, iv ((p.at_ : Nat) : Int), .slice A d.length cd, ud, ud, ud, iv 0, iv 0, sl g5 0 512 512, pq g, iv ((p.at_ : Nat) : Int), iv 0, iv 0, fv, ud, .slice A d.length cd, iv (d.length : Nat), fv, ud, ud, ud, ud, ud, ud, ud, ud, ud, sl g5 0 512 512, sl g5 0 512 512, .slice A d.length cd, goInt m11, pq g, pq g, po g 1, .map (some gm), iv ((p.at_ : Nat) : Int), pq g, pq g, po g 1, .map (some gm), iv ((p.at_ : Nat) : Int), p.v, sl g5 0 512 512, sl c_.1 0 1 1, c_.2, pq g, pq g, po g 5, po g 6, iv s.wr, iv (inc s.wr), pq g, po g 5, po g 6, pq g, pq g, po g 5, po g 9, iv (s.pend.length : Int), iv ((s.pend.length + 1 : Nat) : Int), pq g, po g 5, po g 9, pq g, .tuple #[]] 0) (by kernel_rfl) ?_
        refine then_n ?_
        refine wp_seq ?_
        refine wp_region_lit ?_
        refine pv (iv 0) ?_
        refine wl_end (fr [pq g, iv ((p.at_ : Nat) : Int), .slice A d.length cd, ud, ud, ud, iv 0, iv 0, sl g5 0 512 512, pq g, iv ((p.at_ : Nat) : Int), iv 0, iv 0, fv, ud, .slice A d.length cd, iv (d.length : Nat), fv, ud, ud, ud, ud, ud, ud, ud, ud, ud, sl g5 0 512 512, sl g5 0 512 512, .slice A d.length cd, goInt m11, pq g, pq g, po g 1, .map (some gm), iv ((p.at_ : Nat) : Int), pq g, pq g, po g 1, .map (some gm), iv ((p.at_ : Nat) : Int), p.v, sl g5 0 512 512, sl c_.1 0 1 1, c_.2, pq g, pq g, po g 5, po g 6, iv s.wr, iv (inc s.wr), pq g, po g 5, po g 6, pq g, pq g, po g 5, po g 9, iv (s.pend.length : Int), iv ((s.pend.length + 1 : Nat) : Int), pq g, po g 5, po g 9, pq g, .tuple #[]] 0) (by kernel_rfl) ?_
        refine then_n ?_
        refine wp_ret ?_
        refine bodyPost_ret (v := .int .i64 0) (results_t1 rfl (by kernel_rfl)) rfl ?_
        have hl1 : ((s.pend.length + 1 : Nat) : Int) = ((s.pend ++ [(p.at_, d)]).length : Nat) := by rw [List.length_append]; rfl
        rw [hl1] at S48
        exact ⟨rfl, St.pclose (gd := gd) (gm := gm) (clock := clock) (es := es.set j ⟨p.at_, c_.2, p.b, p.ws ++ [(g5, d)]⟩) (fused := true) (left := dec left) (s := { s with pend := s.pend ++ [(p.at_, d)], wr := inc s.wr, left := spent s.left }) S48 (PFacts.refuse (s' := { s with pend := s.pend ++ [(p.at_, d)], wr := inc s.wr, left := spent s.left }) (hf.write_old (s' := { s with pend := s.pend ++ [(p.at_, d)] }) (go := g5) (d := d) (v' := c_.2) hj rfl hk hd hpn rfl rfl rfl) rfl rfl hdc.symm (fun _ => hde) hlb)⟩
    · skip
      change St F w0 w (row g #[.slice (some ⟨gd, 0, none⟩) (512 * s.last.length) (512 * s.last.length), .map (some gm), .bool false, .int .i64 left, .int .i64 s.life, .int .i64 s.rd, .int .i64 s.wr, .int .i64 s.fl, .int .i64 s.rf, .int .i64 (s.pend.length : Int)] 87 :: row gd (bvs s.last.flatten) 5 :: pt gm (mapO (es.map PEnt.ent) clock) :: stars (es.map PEnt.ast) :: L) at S
      refine wp_enter (fr [pq g, iv ((p.at_ : Nat) : Int), .slice A d.length cd] 62) Try.func35 rfl (by kernel_rfl) ?_
      refine wp_seq ?_
      refine wp_region_lit ?_
      refine pv (iv 0) ?_
      refine wl_end (fr [pq g, iv ((p.at_ : Nat) : Int), .slice A d.length cd, ud, ud, ud, iv 0] 58) (by kernel_rfl) ?_
      refine then_n ?_
      refine wp_seq ?_
      refine wp_seq ?_
      refine wp_region_lit ?_
      refine pv (pq g) ?_
      refine pv (iv ((p.at_ : Nat) : Int)) ?_
      refine wl_gv rfl (gv_call (args := #[.pointer (some ⟨g, 0, none⟩), .int .i64 ((p.at_ : Nat) : Int)]) rfl Try.func61 (by kernel_rfl) rfl rfl (by kernel_rfl) ?_)
      refine Calls.mono (there_in hb rfl hn2 hk S) ?_
      rintro _ w1 ⟨rfl, S2⟩
      refine ⟨_, rfl, ?_⟩
      refine pv (iv 0) ?_
      refine wl_end (fr [pq g, iv ((p.at_ : Nat) : Int), .slice A d.length cd, ud, ud, ud, iv 0, iv 0, ud, pq g, iv ((p.at_ : Nat) : Int), iv 0] 53) (by kernel_rfl) ?_
      refine then_n ?_
      refine wp_seq ?_
      refine wp_region_lit ?_
      refine pv (iv 0) ?_
      refine wl_gv rfl (gv_ne (x := 0) (y := 0) (by kernel_rfl) (fun hd3 => False.elim (by omega)) (fun _ => ?_))
      refine wl_end (fr [pq g, iv ((p.at_ : Nat) : Int), .slice A d.length cd, ud, ud, ud, iv 0, iv 0, ud, pq g, iv ((p.at_ : Nat) : Int), iv 0, iv 0, fv] 51) (by kernel_rfl) ?_
      refine then_n ?_
      refine wp_cond_false (by kernel_rfl) ?_
      refine wp_skip ?_
      refine then_n ?_
      refine wp_seq ?_
      refine wp_seq ?_
      refine wp_region_lit ?_
      refine pv (.slice A d.length cd) ?_
      refine pv (iv (d.length : Nat)) ?_
      refine wl_gv rfl (gv_ne (x := (d.length : Nat)) (y := 512) (by kernel_rfl) (fun hd4 => False.elim (by omega)) (fun _ => ?_))
      refine wl_end (fr [pq g, iv ((p.at_ : Nat) : Int), .slice A d.length cd, ud, ud, ud, iv 0, iv 0, ud, pq g, iv ((p.at_ : Nat) : Int), iv 0, iv 0, fv, ud, .slice A d.length cd, iv (d.length : Nat), fv] 47) (by kernel_rfl) ?_
      refine then_n ?_
      refine wp_cond_false (by kernel_rfl) ?_
      refine wp_skip ?_
      refine then_n ?_
      refine wp_seq ?_
      refine wp_region_lit ?_
      refine wl_gv rfl (gv_make (e := 5) (u := 512) (v := 512) (z := .int .u8 0) (sz := 1) (by_ := 1) (n := 512) (c := 512) (cs := (bvs (List.replicate 512 0))) S2 rfl (by kernel_rfl) ⟨by kernel_rfl⟩ (by kernel_rfl) (by kernel_rfl) rfl rfl (Nat.le_refl _) (by decide) (by decide) (mk_bytes _) (fun g5 w6 hg7 S8 => ?_))
      refine pv (sl g5 0 512 512) ?_
      refine wl_end (fr [pq g, iv ((p.at_ : Nat) : Int), .slice A d.length cd, ud, ud, ud, iv 0, iv 0, sl g5 0 512 512, pq g, iv ((p.at_ : Nat) : Int), iv 0, iv 0, fv, ud, .slice A d.length cd, iv (d.length : Nat), fv, ud, ud, ud, ud, ud, ud, ud, ud, ud, sl g5 0 512 512] 37) (by kernel_rfl) ?_
      refine then_n ?_
      refine wp_seq ?_
      refine wp_region_lit ?_
      refine pv (sl g5 0 512 512) ?_
      refine pv (.slice A d.length cd) ?_
      refine wl_gv rfl (gv_copy (e := 5) (off := 0) (dLen := 512) (dCap := 512) (sLen := d.length) (sCap := cd) (A := A) (B := (List.replicate 512 0)) (l := d) S8 0 rfl rfl (by kernel_rfl) (by kernel_rfl) (by kernel_rfl) (by kernel_rfl) rfl (hr.out _ [row g5 (bvs (List.replicate 512 0)) 5, row g #[.slice (some ⟨gd, 0, none⟩) (512 * s.last.length) (512 * s.last.length), .map (some gm), .bool false, .int .i64 left, .int .i64 s.life, .int .i64 s.rd, .int .i64 s.wr, .int .i64 s.fl, .int .i64 s.rf, .int .i64 (s.pend.length : Int)] 87, row gd (bvs s.last.flatten) 5, pt gm (mapO (es.map PEnt.ent) clock), stars (es.map PEnt.ast)] S8) (by simp) (L' := (row g5 (bvs d) 5 :: row g #[.slice (some ⟨gd, 0, none⟩) (512 * s.last.length) (512 * s.last.length), .map (some gm), .bool false, .int .i64 left, .int .i64 s.life, .int .i64 s.rd, .int .i64 s.wr, .int .i64 s.fl, .int .i64 s.rf, .int .i64 (s.pend.length : Int)] 87 :: row gd (bvs s.last.flatten) 5 :: pt gm (mapO (es.map PEnt.ent) clock) :: stars (es.map PEnt.ast) :: L)) (by rw [copy512 hd]; rfl) (fun w9 m11 S10 => ?_))
      refine wl_end (fr [pq g, iv ((p.at_ : Nat) : Int), .slice A d.length cd, ud, ud, ud, iv 0, iv 0, sl g5 0 512 512, pq g, iv ((p.at_ : Nat) : Int), iv 0, iv 0, fv, ud, .slice A d.length cd, iv (d.length : Nat), fv, ud, ud, ud, ud, ud, ud, ud, ud, ud, sl g5 0 512 512, sl g5 0 512 512, .slice A d.length cd, goInt m11] 34) (by kernel_rfl) ?_
      refine then_n ?_
      refine wp_seq ?_
      have S12 : St F w0 w9 (vec 31 1 p.v p.ws.length (p.ws.map PEnt.val) :: stars (p.ws.map PEnt.row) :: stars ((es.take j).map PEnt.ast) :: stars ((es.drop (j + 1)).map PEnt.ast) :: row g5 (bvs d) 5 :: row g #[.slice (some ⟨gd, 0, none⟩) (512 * s.last.length) (512 * s.last.length), .map (some gm), .bool false, .int .i64 left, .int .i64 s.life, .int .i64 s.rd, .int .i64 s.wr, .int .i64 s.fl, .int .i64 s.rf, .int .i64 (s.pend.length : Int)] 87 :: row gd (bvs s.last.flatten) 5 :: pt gm (mapO (es.map PEnt.ent) clock) :: L) := entry_out [row g5 (bvs d) 5, row g #[.slice (some ⟨gd, 0, none⟩) (512 * s.last.length) (512 * s.last.length), .map (some gm), .bool false, .int .i64 left, .int .i64 s.life, .int .i64 s.rd, .int .i64 s.wr, .int .i64 s.fl, .int .i64 s.rf, .int .i64 (s.pend.length : Int)] 87, row gd (bvs s.last.flatten) 5, pt gm (mapO (es.map PEnt.ent) clock)] S10 hj
      refine wp_region_phu (γ := Nat × Value) 14 [12, 13] (fun (c_ : Nat × Value) (i_ : Nat) => (match i_ with | 0 => .pointer (some ⟨g, 0, none⟩) | 1 => .pointer (some ⟨g, 0, none⟩) | 2 => .pointer (some ⟨g, 1, none⟩) | 3 => .map (some gm) | 4 => .int .i64 ((p.at_ : Nat) : Int) | 5 => .pointer (some ⟨g, 0, none⟩) | 6 => .pointer (some ⟨g, 0, none⟩) | 7 => .pointer (some ⟨g, 1, none⟩) | 8 => .map (some gm) | 9 => .int .i64 ((p.at_ : Nat) : Int) | 10 => p.v | 11 => .slice (some ⟨g5, 0, none⟩) 512 512 | 12 => .slice (some ⟨c_.1, 0, none⟩) 1 1 | 13 => c_.2 | _ => undef : Value)) (fun (c_ : Nat × Value) (p_ : Nat) (w_ : World) => (match p_ with | 0 => St F w0 w_ (vec 31 1 p.v p.ws.length (p.ws.map PEnt.val) :: stars (p.ws.map PEnt.row) :: stars ((es.take j).map PEnt.ast) :: stars ((es.drop (j + 1)).map PEnt.ast) :: row g5 (bvs d) 5 :: row g #[.slice (some ⟨gd, 0, none⟩) (512 * s.last.length) (512 * s.last.length), .map (some gm), .bool false, .int .i64 left, .int .i64 s.life, .int .i64 s.rd, .int .i64 s.wr, .int .i64 s.fl, .int .i64 s.rf, .int .i64 (s.pend.length : Int)] 87 :: row gd (bvs s.last.flatten) 5 :: pt gm (mapO (es.map PEnt.ent) clock) :: L) | 1 => St F w0 w_ (row c_.1 #[.slice (some ⟨g5, 0, none⟩) 512 512] 31 :: vec 31 1 p.v p.ws.length (p.ws.map PEnt.val) :: stars (p.ws.map PEnt.row) :: stars ((es.take j).map PEnt.ast) :: stars ((es.drop (j + 1)).map PEnt.ast) :: row g5 (bvs d) 5 :: row g #[.slice (some ⟨gd, 0, none⟩) (512 * s.last.length) (512 * s.last.length), .map (some gm), .bool false, .int .i64 left, .int .i64 s.life, .int .i64 s.rd, .int .i64 s.wr, .int .i64 s.fl, .int .i64 s.rf, .int .i64 (s.pend.length : Int)] 87 :: row gd (bvs s.last.flatten) 5 :: pt gm (mapO (es.map PEnt.ent) clock) :: L) | _ => St F w0 w_ (vec 31 1 c_.2 (p.ws.length + 1) (p.ws.map PEnt.val ++ [.slice (some ⟨g5, 0, none⟩) 512 512]) :: row c_.1 #[.slice (some ⟨g5, 0, none⟩) 512 512] 31 :: stars (p.ws.map PEnt.row) :: stars ((es.take j).map PEnt.ast) :: stars ((es.drop (j + 1)).map PEnt.ast) :: row g5 (bvs d) 5 :: row g #[.slice (some ⟨gd, 0, none⟩) (512 * s.last.length) (512 * s.last.length), .map (some gm), .bool false, .int .i64 left, .int .i64 s.life, .int .i64 s.rd, .int .i64 s.wr, .int .i64 s.fl, .int .i64 s.rf, .int .i64 (s.pend.length : Int)] 87 :: row gd (bvs s.last.flatten) 5 :: pt gm (mapO (es.map PEnt.ent) clock) :: L) : Prop)) (0, undef) (by kernel_rfl) (by kernel_rfl) (by kernel_rfl) (by kernel_rfl) (S12.drew) ?_ ?_ ?_
      · intro i_ c_ p_ vals_ w1 hi_ hiE_ hp_ hk_ hu_ hPh_ hd_
        rcases i_ with _ | _ | _ | _ | _ | _ | _ | _ | _ | _ | _ | _ | _ | _ | i_
        · skip
          refine told_free rfl rfl (gv_env ((⟨Array.replicate 65 undef, []⟩ : Act).put (some 0) (.pointer (some ⟨g, 0, none⟩))) (by kernel_rfl) (xs := [.tmp 0]) (by kernel_rfl) (alike_cons (fill_past (by kernel_rfl) (by kernel_rfl)) alike_nil) (gv_val (v := .pointer (some ⟨g, 0, none⟩)) (w' := w1) (by kernel_rfl) ?_))
          exact ⟨rfl, rfl⟩
        · skip
          refine told_free rfl rfl (gv_env ((⟨Array.replicate 65 undef, []⟩ : Act).put (some 31) (.pointer (some ⟨g, 0, none⟩))) (by kernel_rfl) (xs := [.tmp 31]) (by kernel_rfl) (alike_cons (fill_at (k := 0) (by kernel_rfl) (by kernel_rfl) ((hd_ 0 (by kernel_rfl)).trans (by kernel_rfl))) alike_nil) (gv_val (v := .pointer (some ⟨g, 0, none⟩)) (w' := w1) (by kernel_rfl) ?_))
          exact ⟨rfl, rfl⟩
        · skip
          refine told_free rfl rfl (gv_env ((⟨Array.replicate 65 undef, []⟩ : Act).put (some 32) (.pointer (some ⟨g, 0, none⟩))) (by kernel_rfl) (xs := [.tmp 32]) (by kernel_rfl) (alike_cons (fill_at (k := 1) (by kernel_rfl) (by kernel_rfl) ((hd_ 1 (by kernel_rfl)).trans (by kernel_rfl))) alike_nil) (gv_val (v := .pointer (some ⟨g, 1, none⟩)) (w' := w1) (by kernel_rfl) ?_))
          exact ⟨rfl, rfl⟩
        · skip
          rcases p_ with _ | _ | _ | p_
          · skip
            have S16 : St F w0 w1 (vec 31 1 p.v p.ws.length (p.ws.map PEnt.val) :: stars (p.ws.map PEnt.row) :: stars ((es.take j).map PEnt.ast) :: stars ((es.drop (j + 1)).map PEnt.ast) :: row g5 (bvs d) 5 :: row g #[.slice (some ⟨gd, 0, none⟩) (512 * s.last.length) (512 * s.last.length), .map (some gm), .bool false, .int .i64 left, .int .i64 s.life, .int .i64 s.rd, .int .i64 s.wr, .int .i64 s.fl, .int .i64 s.rf, .int .i64 (s.pend.length : Int)] 87 :: row gd (bvs s.last.flatten) 5 :: pt gm (mapO (es.map PEnt.ent) clock) :: L) := hPh_
            refine told_free rfl rfl (gv_env ((⟨Array.replicate 65 undef, []⟩ : Act).put (some 33) (.pointer (some ⟨g, 1, none⟩))) (by kernel_rfl) (xs := [.tmp 33]) (by kernel_rfl) (alike_cons (fill_at (k := 2) (by kernel_rfl) (by kernel_rfl) ((hd_ 2 (by kernel_rfl)).trans (by kernel_rfl))) alike_nil) (gv_ldR (v := .map (some gm)) rfl (by kernel_rfl) (by kernel_rfl) (((S16.blk 5 rfl).cell 1).trans rfl) ?_))
            exact ⟨rfl, rfl⟩
          · skip
            have S17 : St F w0 w1 (row c_.1 #[.slice (some ⟨g5, 0, none⟩) 512 512] 31 :: vec 31 1 p.v p.ws.length (p.ws.map PEnt.val) :: stars (p.ws.map PEnt.row) :: stars ((es.take j).map PEnt.ast) :: stars ((es.drop (j + 1)).map PEnt.ast) :: row g5 (bvs d) 5 :: row g #[.slice (some ⟨gd, 0, none⟩) (512 * s.last.length) (512 * s.last.length), .map (some gm), .bool false, .int .i64 left, .int .i64 s.life, .int .i64 s.rd, .int .i64 s.wr, .int .i64 s.fl, .int .i64 s.rf, .int .i64 (s.pend.length : Int)] 87 :: row gd (bvs s.last.flatten) 5 :: pt gm (mapO (es.map PEnt.ent) clock) :: L) := hPh_
            refine told_free rfl rfl (gv_env ((⟨Array.replicate 65 undef, []⟩ : Act).put (some 33) (.pointer (some ⟨g, 1, none⟩))) (by kernel_rfl) (xs := [.tmp 33]) (by kernel_rfl) (alike_cons (fill_at (k := 2) (by kernel_rfl) (by kernel_rfl) ((hd_ 2 (by kernel_rfl)).trans (by kernel_rfl))) alike_nil) (gv_ldR (v := .map (some gm)) rfl (by kernel_rfl) (by kernel_rfl) (((S17.blk 6 rfl).cell 1).trans rfl) ?_))
            exact ⟨rfl, rfl⟩
          · skip
            have S18 : St F w0 w1 (vec 31 1 c_.2 (p.ws.length + 1) (p.ws.map PEnt.val ++ [.slice (some ⟨g5, 0, none⟩) 512 512]) :: row c_.1 #[.slice (some ⟨g5, 0, none⟩) 512 512] 31 :: stars (p.ws.map PEnt.row) :: stars ((es.take j).map PEnt.ast) :: stars ((es.drop (j + 1)).map PEnt.ast) :: row g5 (bvs d) 5 :: row g #[.slice (some ⟨gd, 0, none⟩) (512 * s.last.length) (512 * s.last.length), .map (some gm), .bool false, .int .i64 left, .int .i64 s.life, .int .i64 s.rd, .int .i64 s.wr, .int .i64 s.fl, .int .i64 s.rf, .int .i64 (s.pend.length : Int)] 87 :: row gd (bvs s.last.flatten) 5 :: pt gm (mapO (es.map PEnt.ent) clock) :: L) := hPh_
            refine told_free rfl rfl (gv_env ((⟨Array.replicate 65 undef, []⟩ : Act).put (some 33) (.pointer (some ⟨g, 1, none⟩))) (by kernel_rfl) (xs := [.tmp 33]) (by kernel_rfl) (alike_cons (fill_at (k := 2) (by kernel_rfl) (by kernel_rfl) ((hd_ 2 (by kernel_rfl)).trans (by kernel_rfl))) alike_nil) (gv_ldR (v := .map (some gm)) rfl (by kernel_rfl) (by kernel_rfl) (((S18.blk 6 rfl).cell 1).trans rfl) ?_))
            exact ⟨rfl, rfl⟩
          · exact absurd hp_ (by simp)
        · skip
          refine told_free rfl rfl (gv_env ((⟨Array.replicate 65 undef, []⟩ : Act).put (some 1) (.int .i64 ((p.at_ : Nat) : Int))) (by kernel_rfl) (xs := [.tmp 1]) (by kernel_rfl) (alike_cons (fill_past (by kernel_rfl) (by kernel_rfl)) alike_nil) (gv_val (v := .int .i64 ((p.at_ : Nat) : Int)) (w' := w1) (by kernel_rfl) ?_))
          exact ⟨rfl, rfl⟩
        · skip
          refine told_free rfl rfl (gv_env ((⟨Array.replicate 65 undef, []⟩ : Act).put (some 0) (.pointer (some ⟨g, 0, none⟩))) (by kernel_rfl) (xs := [.tmp 0]) (by kernel_rfl) (alike_cons (fill_past (by kernel_rfl) (by kernel_rfl)) alike_nil) (gv_val (v := .pointer (some ⟨g, 0, none⟩)) (w' := w1) (by kernel_rfl) ?_))
          exact ⟨rfl, rfl⟩
        · skip
          refine told_free rfl rfl (gv_env ((⟨Array.replicate 65 undef, []⟩ : Act).put (some 36) (.pointer (some ⟨g, 0, none⟩))) (by kernel_rfl) (xs := [.tmp 36]) (by kernel_rfl) (alike_cons (fill_at (k := 5) (by kernel_rfl) (by kernel_rfl) ((hd_ 5 (by kernel_rfl)).trans (by kernel_rfl))) alike_nil) (gv_val (v := .pointer (some ⟨g, 0, none⟩)) (w' := w1) (by kernel_rfl) ?_))
          exact ⟨rfl, rfl⟩
        · skip
          refine told_free rfl rfl (gv_env ((⟨Array.replicate 65 undef, []⟩ : Act).put (some 37) (.pointer (some ⟨g, 0, none⟩))) (by kernel_rfl) (xs := [.tmp 37]) (by kernel_rfl) (alike_cons (fill_at (k := 6) (by kernel_rfl) (by kernel_rfl) ((hd_ 6 (by kernel_rfl)).trans (by kernel_rfl))) alike_nil) (gv_val (v := .pointer (some ⟨g, 1, none⟩)) (w' := w1) (by kernel_rfl) ?_))
          exact ⟨rfl, rfl⟩
        · skip
          rcases p_ with _ | _ | _ | p_
          · skip
            have S23 : St F w0 w1 (vec 31 1 p.v p.ws.length (p.ws.map PEnt.val) :: stars (p.ws.map PEnt.row) :: stars ((es.take j).map PEnt.ast) :: stars ((es.drop (j + 1)).map PEnt.ast) :: row g5 (bvs d) 5 :: row g #[.slice (some ⟨gd, 0, none⟩) (512 * s.last.length) (512 * s.last.length), .map (some gm), .bool false, .int .i64 left, .int .i64 s.life, .int .i64 s.rd, .int .i64 s.wr, .int .i64 s.fl, .int .i64 s.rf, .int .i64 (s.pend.length : Int)] 87 :: row gd (bvs s.last.flatten) 5 :: pt gm (mapO (es.map PEnt.ent) clock) :: L) := hPh_
            refine told_free rfl rfl (gv_env ((⟨Array.replicate 65 undef, []⟩ : Act).put (some 38) (.pointer (some ⟨g, 1, none⟩))) (by kernel_rfl) (xs := [.tmp 38]) (by kernel_rfl) (alike_cons (fill_at (k := 7) (by kernel_rfl) (by kernel_rfl) ((hd_ 7 (by kernel_rfl)).trans (by kernel_rfl))) alike_nil) (gv_ldR (v := .map (some gm)) rfl (by kernel_rfl) (by kernel_rfl) (((S23.blk 5 rfl).cell 1).trans rfl) ?_))
            exact ⟨rfl, rfl⟩
          · skip
            have S24 : St F w0 w1 (row c_.1 #[.slice (some ⟨g5, 0, none⟩) 512 512] 31 :: vec 31 1 p.v p.ws.length (p.ws.map PEnt.val) :: stars (p.ws.map PEnt.row) :: stars ((es.take j).map PEnt.ast) :: stars ((es.drop (j + 1)).map PEnt.ast) :: row g5 (bvs d) 5 :: row g #[.slice (some ⟨gd, 0, none⟩) (512 * s.last.length) (512 * s.last.length), .map (some gm), .bool false, .int .i64 left, .int .i64 s.life, .int .i64 s.rd, .int .i64 s.wr, .int .i64 s.fl, .int .i64 s.rf, .int .i64 (s.pend.length : Int)] 87 :: row gd (bvs s.last.flatten) 5 :: pt gm (mapO (es.map PEnt.ent) clock) :: L) := hPh_
            refine told_free rfl rfl (gv_env ((⟨Array.replicate 65 undef, []⟩ : Act).put (some 38) (.pointer (some ⟨g, 1, none⟩))) (by kernel_rfl) (xs := [.tmp 38]) (by kernel_rfl) (alike_cons (fill_at (k := 7) (by kernel_rfl) (by kernel_rfl) ((hd_ 7 (by kernel_rfl)).trans (by kernel_rfl))) alike_nil) (gv_ldR (v := .map (some gm)) rfl (by kernel_rfl) (by kernel_rfl) (((S24.blk 6 rfl).cell 1).trans rfl) ?_))
            exact ⟨rfl, rfl⟩
          · skip
            exact absurd (hu_ 1 (by decide) (by kernel_rfl)) (by decide)
          · exact absurd hp_ (by simp)
        · skip
          refine told_free rfl rfl (gv_env ((⟨Array.replicate 65 undef, []⟩ : Act).put (some 1) (.int .i64 ((p.at_ : Nat) : Int))) (by kernel_rfl) (xs := [.tmp 1]) (by kernel_rfl) (alike_cons (fill_past (by kernel_rfl) (by kernel_rfl)) alike_nil) (gv_val (v := .int .i64 ((p.at_ : Nat) : Int)) (w' := w1) (by kernel_rfl) ?_))
          exact ⟨rfl, rfl⟩
        · skip
          rcases p_ with _ | _ | _ | p_
          · skip
            have S26 : St F w0 w1 (vec 31 1 p.v p.ws.length (p.ws.map PEnt.val) :: stars (p.ws.map PEnt.row) :: stars ((es.take j).map PEnt.ast) :: stars ((es.drop (j + 1)).map PEnt.ast) :: row g5 (bvs d) 5 :: row g #[.slice (some ⟨gd, 0, none⟩) (512 * s.last.length) (512 * s.last.length), .map (some gm), .bool false, .int .i64 left, .int .i64 s.life, .int .i64 s.rd, .int .i64 s.wr, .int .i64 s.fl, .int .i64 s.rf, .int .i64 (s.pend.length : Int)] 87 :: row gd (bvs s.last.flatten) 5 :: pt gm (mapO (es.map PEnt.ent) clock) :: L) := hPh_
            refine told_free rfl rfl (gv_env (((⟨Array.replicate 65 undef, []⟩ : Act).put (some 39) (.map (some gm))).put (some 40) (.int .i64 ((p.at_ : Nat) : Int))) (by kernel_rfl) (xs := [.tmp 39, .tmp 40]) (by kernel_rfl) (alike_cons (fill_at (k := 8) (by kernel_rfl) (by kernel_rfl) ((hd_ 8 (by kernel_rfl)).trans (by kernel_rfl))) (alike_cons (fill_at (k := 9) (by kernel_rfl) (by kernel_rfl) ((hd_ 9 (by kernel_rfl)).trans (by kernel_rfl))) alike_nil)) (gv_look_some (kT := 3) (eT := 52) (k := ((p.at_ : Nat) : Int)) (S26.get 7 rfl) rfl (by kernel_rfl) (by kernel_rfl) (by kernel_rfl) (by kernel_rfl) hje hke hfe ?_))
            exact ⟨rfl, rfl⟩
          · skip
            have S27 : St F w0 w1 (row c_.1 #[.slice (some ⟨g5, 0, none⟩) 512 512] 31 :: vec 31 1 p.v p.ws.length (p.ws.map PEnt.val) :: stars (p.ws.map PEnt.row) :: stars ((es.take j).map PEnt.ast) :: stars ((es.drop (j + 1)).map PEnt.ast) :: row g5 (bvs d) 5 :: row g #[.slice (some ⟨gd, 0, none⟩) (512 * s.last.length) (512 * s.last.length), .map (some gm), .bool false, .int .i64 left, .int .i64 s.life, .int .i64 s.rd, .int .i64 s.wr, .int .i64 s.fl, .int .i64 s.rf, .int .i64 (s.pend.length : Int)] 87 :: row gd (bvs s.last.flatten) 5 :: pt gm (mapO (es.map PEnt.ent) clock) :: L) := hPh_
            refine told_free rfl rfl (gv_env (((⟨Array.replicate 65 undef, []⟩ : Act).put (some 39) (.map (some gm))).put (some 40) (.int .i64 ((p.at_ : Nat) : Int))) (by kernel_rfl) (xs := [.tmp 39, .tmp 40]) (by kernel_rfl) (alike_cons (fill_at (k := 8) (by kernel_rfl) (by kernel_rfl) ((hd_ 8 (by kernel_rfl)).trans (by kernel_rfl))) (alike_cons (fill_at (k := 9) (by kernel_rfl) (by kernel_rfl) ((hd_ 9 (by kernel_rfl)).trans (by kernel_rfl))) alike_nil)) (gv_look_some (kT := 3) (eT := 52) (k := ((p.at_ : Nat) : Int)) (S27.get 8 rfl) rfl (by kernel_rfl) (by kernel_rfl) (by kernel_rfl) (by kernel_rfl) hje hke hfe ?_))
            exact ⟨rfl, rfl⟩
          · skip
            exact absurd (hu_ 1 (by decide) (by kernel_rfl)) (by decide)
          · exact absurd hp_ (by simp)
        · skip
          refine told_free rfl rfl (gv_env ((⟨Array.replicate 65 undef, []⟩ : Act).put (some 8) (.slice (some ⟨g5, 0, none⟩) 512 512)) (by kernel_rfl) (xs := [.tmp 8]) (by kernel_rfl) (alike_cons (fill_past (by kernel_rfl) (by kernel_rfl)) alike_nil) (gv_val (v := .slice (some ⟨g5, 0, none⟩) 512 512) (w' := w1) (by kernel_rfl) ?_))
          exact ⟨rfl, rfl⟩
        · skip
          exact absurd hiE_ (by decide)
        · skip
          exact absurd hiE_ (by decide)
        · exact absurd hi_ (by omega)
      · intro k_ c_ vals_ w1 hk_ hPh_ hd_
        rcases k_ with _ | _ | k_
        · skip
          have S29 : St F w0 w1 (vec 31 1 p.v p.ws.length (p.ws.map PEnt.val) :: stars (p.ws.map PEnt.row) :: stars ((es.take j).map PEnt.ast) :: stars ((es.drop (j + 1)).map PEnt.ast) :: row g5 (bvs d) 5 :: row g #[.slice (some ⟨gd, 0, none⟩) (512 * s.last.length) (512 * s.last.length), .map (some gm), .bool false, .int .i64 left, .int .i64 s.life, .int .i64 s.rd, .int .i64 s.wr, .int .i64 s.fl, .int .i64 s.rf, .int .i64 (s.pend.length : Int)] 87 :: row gd (bvs s.last.flatten) 5 :: pt gm (mapO (es.map PEnt.ent) clock) :: L) := hPh_
          refine told_free rfl rfl (gv_env ((⟨Array.replicate 65 undef, []⟩ : Act).put (some 42) (.slice (some ⟨g5, 0, none⟩) 512 512)) (by kernel_rfl) (xs := [.tmp 42]) (by kernel_rfl) (alike_cons (fill_at (k := 11) (by kernel_rfl) (by kernel_rfl) ((hd_ 11 (by kernel_rfl)).trans (by kernel_rfl))) alike_nil) (gv_slit (e := 31) (sz := 1) (z := .slice none 0 0) (by_ := 24) (vs := #[(0, .slice (some ⟨g5, 0, none⟩) 512 512)]) (cells := #[.slice (some ⟨g5, 0, none⟩) 512 512]) S29 rfl (by kernel_rfl) ⟨by kernel_rfl⟩ (by kernel_rfl) (by kernel_rfl) (by kernel_rfl) (by kernel_rfl) (fun g30 w31 hg32 S33 => ?_)))
          refine ⟨(g30, c_.2), rfl, ?_, S33⟩
          intro i_ hi_ hne_ hdp_
          rcases i_ with _ | _ | _ | _ | _ | _ | _ | _ | _ | _ | _ | _ | _ | _ | i_
          · rfl
          · rfl
          · rfl
          · rfl
          · rfl
          · rfl
          · rfl
          · rfl
          · rfl
          · rfl
          · rfl
          · rfl
          · exact absurd rfl hne_
          · exact (dep_no hdp_ (by kernel_rfl)).elim
          · exact absurd hi_ (by omega)
        · skip
          have S34 : St F w0 w1 (row c_.1 #[.slice (some ⟨g5, 0, none⟩) 512 512] 31 :: vec 31 1 p.v p.ws.length (p.ws.map PEnt.val) :: stars (p.ws.map PEnt.row) :: stars ((es.take j).map PEnt.ast) :: stars ((es.drop (j + 1)).map PEnt.ast) :: row g5 (bvs d) 5 :: row g #[.slice (some ⟨gd, 0, none⟩) (512 * s.last.length) (512 * s.last.length), .map (some gm), .bool false, .int .i64 left, .int .i64 s.life, .int .i64 s.rd, .int .i64 s.wr, .int .i64 s.fl, .int .i64 s.rf, .int .i64 (s.pend.length : Int)] 87 :: row gd (bvs s.last.flatten) 5 :: pt gm (mapO (es.map PEnt.ent) clock) :: L) := hPh_
          refine told_free rfl rfl (gv_env (((⟨Array.replicate 65 undef, []⟩ : Act).put (some 41) (p.v)).put (some 43) (.slice (some ⟨c_.1, 0, none⟩) 1 1)) (by kernel_rfl) (xs := [.tmp 41, .tmp 43]) (by kernel_rfl) (alike_cons (fill_at (k := 10) (by kernel_rfl) (by kernel_rfl) ((hd_ 10 (by kernel_rfl)).trans (by kernel_rfl))) (alike_cons (fill_at (k := 12) (by kernel_rfl) (by kernel_rfl) ((hd_ 12 (by kernel_rfl)).trans (by kernel_rfl))) alike_nil)) (gv_append (e := 31) (sz := 1) (n := p.ws.length) (v := p.v) (vals := (p.ws.map PEnt.val)) (z := .slice none 0 0) (by_ := 24) (m := 1) (c' := 1) (ad := ⟨c_.1, 0, none⟩) (news := [.slice (some ⟨g5, 0, none⟩) 512 512]) (St.swap S34) rfl (by kernel_rfl) ⟨by kernel_rfl⟩ rfl (by kernel_rfl) (by kernel_rfl) (by decide) rfl (row_news (S34.blk 0 rfl)) (by intro u hu; simp at hu; subst hu; rfl) (by omega) (by omega) (fun v36 w35 S37 => ?_)))
          refine ⟨(c_.1, v36), rfl, ?_, S37⟩
          intro i_ hi_ hne_ hdp_
          rcases i_ with _ | _ | _ | _ | _ | _ | _ | _ | _ | _ | _ | _ | _ | _ | i_
          · rfl
          · rfl
          · rfl
          · rfl
          · rfl
          · rfl
          · rfl
          · rfl
          · rfl
          · rfl
          · rfl
          · rfl
          · rfl
          · exact absurd rfl hne_
          · exact absurd hi_ (by omega)
        · exact absurd hk_ (by simp)
      · intro c_ w1 hPh_
        have S38 : St F w0 w1 (vec 31 1 c_.2 (p.ws.length + 1) (p.ws.map PEnt.val ++ [.slice (some ⟨g5, 0, none⟩) 512 512]) :: row c_.1 #[.slice (some ⟨g5, 0, none⟩) 512 512] 31 :: stars (p.ws.map PEnt.row) :: stars ((es.take j).map PEnt.ast) :: stars ((es.drop (j + 1)).map PEnt.ast) :: row g5 (bvs d) 5 :: row g #[.slice (some ⟨gd, 0, none⟩) (512 * s.last.length) (512 * s.last.length), .map (some gm), .bool false, .int .i64 left, .int .i64 s.life, .int .i64 s.rd, .int .i64 s.wr, .int .i64 s.fl, .int .i64 s.rf, .int .i64 (s.pend.length : Int)] 87 :: row gd (bvs s.last.flatten) 5 :: pt gm (mapO (es.map PEnt.ent) clock) :: L) := hPh_
        refine wl_frame (fr [pq g, iv ((p.at_ : Nat) : Int), .slice A d.length cd, ud, ud, ud, iv 0, iv 0, sl g5 0 512 512, pq g, iv ((p.at_ : Nat) : Int), iv 0, iv 0, fv, ud, .slice A d.length cd, iv (d.length : Nat), fv, ud, ud, ud, ud, ud, ud, ud, ud, ud, sl g5 0 512 512, sl g5 0 512 512, .slice A d.length cd, goInt m11, pq g, pq g, po g 1, .map (some gm), iv ((p.at_ : Nat) : Int), pq g, pq g, po g 1, .map (some gm), iv ((p.at_ : Nat) : Int), p.v, sl g5 0 512 512, sl c_.1 0 1 1, c_.2] 20) (by kernel_rfl) ?_
        refine wl_gv rfl (gv_put_old (kT := 3) (eT := 52) (g := gm) (clock := clock) (es := es.map PEnt.ent) (k := ((p.at_ : Nat) : Int)) (v := c_.2) S38 8 rfl rfl (by kernel_rfl) (by kernel_rfl) (by kernel_rfl) (by kernel_rfl) (by kernel_rfl) hje hke hfe (L' := (vec 31 1 c_.2 (p.ws.length + 1) (p.ws.map PEnt.val ++ [.slice (some ⟨g5, 0, none⟩) 512 512]) :: row c_.1 #[.slice (some ⟨g5, 0, none⟩) 512 512] 31 :: stars (p.ws.map PEnt.row) :: stars ((es.take j).map PEnt.ast) :: stars ((es.drop (j + 1)).map PEnt.ast) :: row g5 (bvs d) 5 :: row g #[.slice (some ⟨gd, 0, none⟩) (512 * s.last.length) (512 * s.last.length), .map (some gm), .bool false, .int .i64 left, .int .i64 s.life, .int .i64 s.rd, .int .i64 s.wr, .int .i64 s.fl, .int .i64 s.rf, .int .i64 (s.pend.length : Int)] 87 :: row gd (bvs s.last.flatten) 5 :: pt gm (mapO ((es.map PEnt.ent).set j ⟨((p.at_ : Nat) : Int), c_.2, p.b⟩) clock) :: L)) rfl (fun w39 S40 => ?_))
        refine wl_end (fr [pq g, iv ((p.at_ : Nat) : Int), .slice A d.length cd, ud, ud, ud, iv 0, iv 0, sl g5 0 512 512, pq g, iv ((p.at_ : Nat) : Int), iv 0, iv 0, fv, ud, .slice A d.length cd, iv (d.length : Nat), fv, ud, ud, ud, ud, ud, ud, ud, ud, ud, sl g5 0 512 512, sl g5 0 512 512, .slice A d.length cd, goInt m11, pq g, pq g, po g 1, .map (some gm), iv ((p.at_ : Nat) : Int), pq g, pq g, po g 1, .map (some gm), iv ((p.at_ : Nat) : Int), p.v, sl g5 0 512 512, sl c_.1 0 1 1, c_.2] 20) (by kernel_rfl) ?_
        refine then_n ?_
        refine wp_seq ?_
        refine wp_region_lit ?_
        refine pv (pq g) ?_
        refine pv (pq g) ?_
        refine pv (po g 5) ?_
        refine pv (po g 6) ?_
        refine wl_gv rfl (gv_ldR (v := .int .i64 s.wr) rfl (by kernel_rfl) (by kernel_rfl) (((S40.blk 6 rfl).cell 6).trans rfl) ?_)
        refine pv (iv (inc s.wr)) ?_
        refine pv (pq g) ?_
        refine pv (po g 5) ?_
        refine pv (po g 6) ?_
        refine wl_gv rfl (gv_st (k := 6) (v := .int .i64 (inc s.wr)) S40 6 rfl rfl (by kernel_rfl) (by kernel_rfl) (by kernel_rfl) rfl rfl (L' := (vec 31 1 c_.2 (p.ws.length + 1) (p.ws.map PEnt.val ++ [.slice (some ⟨g5, 0, none⟩) 512 512]) :: row c_.1 #[.slice (some ⟨g5, 0, none⟩) 512 512] 31 :: stars (p.ws.map PEnt.row) :: stars ((es.take j).map PEnt.ast) :: stars ((es.drop (j + 1)).map PEnt.ast) :: row g5 (bvs d) 5 :: row g #[.slice (some ⟨gd, 0, none⟩) (512 * s.last.length) (512 * s.last.length), .map (some gm), .bool false, .int .i64 left, .int .i64 s.life, .int .i64 s.rd, .int .i64 (inc s.wr), .int .i64 s.fl, .int .i64 s.rf, .int .i64 (s.pend.length : Int)] 87 :: row gd (bvs s.last.flatten) 5 :: pt gm (mapO ((es.map PEnt.ent).set j ⟨((p.at_ : Nat) : Int), c_.2, p.b⟩) clock) :: L)) rfl (fun w41 S42 => ?_))
        refine wl_end (fr [pq g, iv ((p.at_ : Nat) : Int), .slice A d.length cd, ud, ud, ud, iv 0, iv 0, sl g5 0 512 512, pq g, iv ((p.at_ : Nat) : Int), iv 0, iv 0, fv, ud, .slice A d.length cd, iv (d.length : Nat), fv, ud, ud, ud, ud, ud, ud, ud, ud, ud, sl g5 0 512 512, sl g5 0 512 512, .slice A d.length cd, goInt m11, pq g, pq g, po g 1, .map (some gm), iv ((p.at_ : Nat) : Int), pq g, pq g, po g 1, .map (some gm), iv ((p.at_ : Nat) : Int), p.v, sl g5 0 512 512, sl c_.1 0 1 1, c_.2, pq g, pq g, po g 5, po g 6, iv s.wr, iv (inc s.wr), pq g, po g 5, po g 6] 11) (by kernel_rfl) ?_
        refine then_n ?_
        refine wp_seq ?_
        refine wp_region_lit ?_
        refine pv (pq g) ?_
        refine pv (pq g) ?_
        refine pv (po g 5) ?_
        refine pv (po g 9) ?_
        refine wl_gv rfl (gv_ldR (v := .int .i64 (s.pend.length : Int)) rfl (by kernel_rfl) (by kernel_rfl) (((S42.blk 6 rfl).cell 9).trans rfl) ?_)
        refine wl_gv rfl (gv_int (k := .i64) (z := IntKind.i64.wrap ((s.pend.length : Int) + 1)) (z' := ((s.pend.length + 1 : Nat) : Int)) (by kernel_rfl) (wr_eq (by omega) (by omega) (by omega)) ?_)
        refine pv (pq g) ?_
        refine pv (po g 5) ?_
        refine pv (po g 9) ?_
        refine wl_gv rfl (gv_st (k := 9) (v := .int .i64 ((s.pend.length + 1 : Nat) : Int)) S42 6 rfl rfl (by kernel_rfl) (by kernel_rfl) (by kernel_rfl) rfl rfl (L' := (vec 31 1 c_.2 (p.ws.length + 1) (p.ws.map PEnt.val ++ [.slice (some ⟨g5, 0, none⟩) 512 512]) :: row c_.1 #[.slice (some ⟨g5, 0, none⟩) 512 512] 31 :: stars (p.ws.map PEnt.row) :: stars ((es.take j).map PEnt.ast) :: stars ((es.drop (j + 1)).map PEnt.ast) :: row g5 (bvs d) 5 :: row g #[.slice (some ⟨gd, 0, none⟩) (512 * s.last.length) (512 * s.last.length), .map (some gm), .bool false, .int .i64 left, .int .i64 s.life, .int .i64 s.rd, .int .i64 (inc s.wr), .int .i64 s.fl, .int .i64 s.rf, .int .i64 ((s.pend.length + 1 : Nat) : Int)] 87 :: row gd (bvs s.last.flatten) 5 :: pt gm (mapO ((es.map PEnt.ent).set j ⟨((p.at_ : Nat) : Int), c_.2, p.b⟩) clock) :: L)) rfl (fun w43 S44 => ?_))
        refine wl_end (fr [pq g, iv ((p.at_ : Nat) : Int), .slice A d.length cd, ud, ud, ud, iv 0, iv 0, sl g5 0 512 512, pq g, iv ((p.at_ : Nat) : Int), iv 0, iv 0, fv, ud, .slice A d.length cd, iv (d.length : Nat), fv, ud, ud, ud, ud, ud, ud, ud, ud, ud, sl g5 0 512 512, sl g5 0 512 512, .slice A d.length cd, goInt m11, pq g, pq g, po g 1, .map (some gm), iv ((p.at_ : Nat) : Int), pq g, pq g, po g 1, .map (some gm), iv ((p.at_ : Nat) : Int), p.v, sl g5 0 512 512, sl c_.1 0 1 1, c_.2, pq g, pq g, po g 5, po g 6, iv s.wr, iv (inc s.wr), pq g, po g 5, po g 6, pq g, pq g, po g 5, po g 9, iv (s.pend.length : Int), iv ((s.pend.length + 1 : Nat) : Int), pq g, po g 5, po g 9] 2) (by kernel_rfl) ?_
        refine then_n ?_
        refine wp_seq ?_
        refine wp_region_lit ?_
        refine pv (pq g) ?_
        refine wl_gv rfl (gv_call (args := #[.pointer (some ⟨g, 0, none⟩)]) rfl Try.func69 (by kernel_rfl) rfl rfl (by kernel_rfl) ?_)
        have S45 : St F w0 w43 (vec 31 1 c_.2 (p.ws.length + 1) (p.ws.map PEnt.val ++ [.slice (some ⟨g5, 0, none⟩) 512 512]) :: stars (p.ws.map PEnt.row) :: stars ((es.take j).map PEnt.ast) :: stars ((es.drop (j + 1)).map PEnt.ast) :: row g5 (bvs d) 5 :: row g #[.slice (some ⟨gd, 0, none⟩) (512 * s.last.length) (512 * s.last.length), .map (some gm), .bool false, .int .i64 left, .int .i64 s.life, .int .i64 s.rd, .int .i64 (inc s.wr), .int .i64 s.fl, .int .i64 s.rf, .int .i64 ((s.pend.length + 1 : Nat) : Int)] 87 :: row gd (bvs s.last.flatten) 5 :: pt gm (mapO ((es.map PEnt.ent).set j ⟨((p.at_ : Nat) : Int), c_.2, p.b⟩) clock) :: L) := St.permT [vec 31 1 c_.2 (p.ws.length + 1) (p.ws.map PEnt.val ++ [.slice (some ⟨g5, 0, none⟩) 512 512]), row c_.1 #[.slice (some ⟨g5, 0, none⟩) 512 512] 31, stars (p.ws.map PEnt.row), stars ((es.take j).map PEnt.ast), stars ((es.drop (j + 1)).map PEnt.ast), row g5 (bvs d) 5, row g #[.slice (some ⟨gd, 0, none⟩) (512 * s.last.length) (512 * s.last.length), .map (some gm), .bool false, .int .i64 left, .int .i64 s.life, .int .i64 s.rd, .int .i64 (inc s.wr), .int .i64 s.fl, .int .i64 s.rf, .int .i64 ((s.pend.length + 1 : Nat) : Int)] 87, row gd (bvs s.last.flatten) 5, pt gm (mapO ((es.map PEnt.ent).set j ⟨((p.at_ : Nat) : Int), c_.2, p.b⟩) clock)] [0, 2, 3, 4, 5, 6, 7, 8] (by decide) rfl S44
        have em : (es.map PEnt.ent).set j ⟨((p.at_ : Nat) : Int), c_.2, p.b⟩ = (es.set j ⟨p.at_, c_.2, p.b, p.ws ++ [(g5, d)]⟩).map PEnt.ent := by rw [map_set]; rfl
        have S46 : St F w0 w43 (row g #[.slice (some ⟨gd, 0, none⟩) (512 * s.last.length) (512 * s.last.length), .map (some gm), .bool false, .int .i64 left, .int .i64 s.life, .int .i64 s.rd, .int .i64 (inc s.wr), .int .i64 s.fl, .int .i64 s.rf, .int .i64 ((s.pend.length + 1 : Nat) : Int)] 87 :: row gd (bvs s.last.flatten) 5 :: pt gm (mapO ((es.map PEnt.ent).set j ⟨((p.at_ : Nat) : Int), c_.2, p.b⟩) clock) :: stars ((es.set j ⟨p.at_, c_.2, p.b, p.ws ++ [(g5, d)]⟩).map PEnt.ast) :: L) := entry_in hj S45
        rw [em] at S46
        refine Calls.mono (spend_false S46) ?_
        rintro _ w47 ⟨rfl, S48⟩
        refine ⟨_, rfl, ?_⟩
        refine wl_end (fr [pq g, iv ((p.at_ : Nat) : Int), .slice A d.length cd, ud, ud, ud, iv 0, iv 0, sl g5 0 512 512, pq g, iv ((p.at_ : Nat) : Int), iv 0, iv 0, fv, ud, .slice A d.length cd, iv (d.length : Nat), fv, ud, ud, ud, ud, ud, ud, ud, ud, ud, sl g5 0 512 512, sl g5 0 512 512, .slice A d.length cd, goInt m11, pq g, pq g, po g 1, .map (some gm), iv ((p.at_ : Nat) : Int), pq g, pq g, po g 1, .map (some gm), iv ((p.at_ : Nat) : Int), p.v, sl g5 0 512 512, sl c_.1 0 1 1, c_.2, pq g, pq g, po g 5, po g 6, iv s.wr, iv (inc s.wr), pq g, po g 5, po g 6, pq g, pq g, po g 5, po g 9, iv (s.pend.length : Int), iv ((s.pend.length + 1 : Nat) : Int), pq g, po g 5, po g 9, pq g, .tuple #[]] 0) (by kernel_rfl) ?_
        refine then_n ?_
        refine wp_seq ?_
        refine wp_region_lit ?_
        refine pv (iv 0) ?_
        refine wl_end (fr [pq g, iv ((p.at_ : Nat) : Int), .slice A d.length cd, ud, ud, ud, iv 0, iv 0, sl g5 0 512 512, pq g, iv ((p.at_ : Nat) : Int), iv 0, iv 0, fv, ud, .slice A d.length cd, iv (d.length : Nat), fv, ud, ud, ud, ud, ud, ud, ud, ud, ud, sl g5 0 512 512, sl g5 0 512 512, .slice A d.length cd, goInt m11, pq g, pq g, po g 1, .map (some gm), iv ((p.at_ : Nat) : Int), pq g, pq g, po g 1, .map (some gm), iv ((p.at_ : Nat) : Int), p.v, sl g5 0 512 512, sl c_.1 0 1 1, c_.2, pq g, pq g, po g 5, po g 6, iv s.wr, iv (inc s.wr), pq g, po g 5, po g 6, pq g, pq g, po g 5, po g 9, iv (s.pend.length : Int), iv ((s.pend.length + 1 : Nat) : Int), pq g, po g 5, po g 9, pq g, .tuple #[]] 0) (by kernel_rfl) ?_
        refine then_n ?_
        refine wp_ret ?_
        refine bodyPost_ret (v := .int .i64 0) (results_t1 rfl (by kernel_rfl)) rfl ?_
        have hl1 : ((s.pend.length + 1 : Nat) : Int) = ((s.pend ++ [(p.at_, d)]).length : Nat) := by rw [List.length_append]; rfl
        rw [hl1] at S48
        exact ⟨rfl, St.pclose (gd := gd) (gm := gm) (clock := clock) (es := es.set j ⟨p.at_, c_.2, p.b, p.ws ++ [(g5, d)]⟩) (fused := false) (left := left) (s := { s with pend := s.pend ++ [(p.at_, d)], wr := inc s.wr, left := spent s.left }) S48 (PFacts.refuse (s' := { s with pend := s.pend ++ [(p.at_, d)], wr := inc s.wr, left := spent s.left }) (hf.write_old (s' := { s with pend := s.pend ++ [(p.at_, d)] }) (go := g5) (d := d) (v' := c_.2) hj rfl hk hd hpn rfl rfl rfl) rfl rfl hdc.symm (fun h => absurd h (of_decide_eq_false hdc)) hlb)⟩
end Go.Proofs
