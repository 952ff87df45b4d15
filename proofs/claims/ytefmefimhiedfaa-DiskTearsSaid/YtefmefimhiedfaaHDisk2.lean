/- Functions of package disk, by the walk, on the disk laid open. -/
import Derived.Test.YtefmefimhiedfaaHDsk
open Go Go.RowKit Go.Proofs.YtefmefimhiedfaaW.PrintWords Go.Proofs.YtefmefimhiedfaaW.PrintMore
namespace Go.Proofs
open Go.Vel
set_option linter.unusedVariables false
set_option maxRecDepth 100000
set_option maxHeartbeats 4000000
attribute [local irreducible] gives wpList Code.wp

theorem burnt_b {w : World} {g gd n c gm : Nat} {fused : Bool} {left life r wr fl rf pn : Int} {b : Bool} (HB : Blk w g (dcells gd n c gm fused left life r wr fl rf pn) 87) (hb : (fused && decide (left = 0)) = b) :
    Calls Try.prog 22 #[.pointer (some ⟨g, 0, none⟩)] w fun e w' => e = .returned (.bool b) ∧ w = w' := hb ▸ burnt_ro HB
theorem there_dead {F : Nat → Prop} {w0 w : World} {L : List Ast} {g gd n c gm : Nat} {fused : Bool} {left life r wr fl rf pn : Int} {at_ : Int} (hb : (fused && decide (left = 0)) = true) (S : St F w0 w (row g (dcells gd n c gm fused left life r wr fl rf pn) 87 :: L)) :
    Calls Try.prog 61 #[.pointer (some ⟨g, 0, none⟩), .int .i64 at_] w fun e w' => e = .returned (.int .i64 3) ∧ St F w0 w' (row g (dcells gd n c gm fused left life r wr fl rf pn) 87 :: L) := by
  change St F w0 w (row g #[.slice (some ⟨gd, 0, none⟩) n c, .map (some gm), .bool fused, .int .i64 left, .int .i64 life, .int .i64 r, .int .i64 wr, .int .i64 fl, .int .i64 rf, .int .i64 pn] 87 :: L) at S
  refine wp_enter (fr [pq g, iv at_] 22) Try.func61 rfl (by kernel_rfl) ?_
  refine wp_seq ?_
  refine wp_region_lit ?_
  refine pv (iv 0) ?_
  refine wl_end (fr [pq g, iv at_, ud, ud, iv 0] 19) (by kernel_rfl) ?_
  refine then_n ?_
  refine wp_seq ?_
  refine wp_seq ?_
  refine wp_region_lit ?_
  refine pv (pq g) ?_
  refine wl_gv rfl (gv_call (args := #[.pointer (some ⟨g, 0, none⟩)]) rfl Try.func22 (by kernel_rfl) rfl rfl (by kernel_rfl) ?_)
  refine Calls.mono (burnt_b (b := true) (S.blk 0 rfl) hb) ?_
  rintro _ _ ⟨rfl, rfl⟩
  refine ⟨_, rfl, ?_⟩
  refine wl_end (fr [pq g, iv at_, ud, ud, iv 0, pq g, tv] 17) (by kernel_rfl) ?_
  refine then_n ?_
  refine wp_cond_true (by kernel_rfl) ?_
  refine wp_seq ?_
  refine wp_region_lit ?_
  refine pv (iv 3) ?_
  refine wl_end (fr [pq g, iv at_, ud, ud, iv 3, pq g, tv] 17) (by kernel_rfl) ?_
  refine then_n ?_
  refine wp_ret ?_
  refine then_r ?_
  refine bodyPost_ret (v := .int .i64 3) (results_t1 rfl (by kernel_rfl)) rfl ?_
  exact ⟨rfl, S⟩
theorem there_out {F : Nat → Prop} {w0 w : World} {L : List Ast} {g gd n c gm : Nat} {fused : Bool} {left life r wr fl rf pn : Int} {at_ : Int} {m : Nat} (hb : (fused && decide (left = 0)) = false) (hn : n = 512 * m) (hm : m ≤ 2048) (ha : at_ < 0 ∨ (m : Int) ≤ at_) (S : St F w0 w (row g (dcells gd n c gm fused left life r wr fl rf pn) 87 :: L)) :
    Calls Try.prog 61 #[.pointer (some ⟨g, 0, none⟩), .int .i64 at_] w fun e w' => e = .returned (.int .i64 11) ∧ St F w0 w' (row g (dcells gd n c gm fused left life r wr fl (inc rf) pn) 87 :: L) := by
  change St F w0 w (row g #[.slice (some ⟨gd, 0, none⟩) n c, .map (some gm), .bool fused, .int .i64 left, .int .i64 life, .int .i64 r, .int .i64 wr, .int .i64 fl, .int .i64 rf, .int .i64 pn] 87 :: L) at S
  refine wp_enter (fr [pq g, iv at_] 22) Try.func61 rfl (by kernel_rfl) ?_
  refine wp_seq ?_
  refine wp_region_lit ?_
  refine pv (iv 0) ?_
  refine wl_end (fr [pq g, iv at_, ud, ud, iv 0] 19) (by kernel_rfl) ?_
  refine then_n ?_
  refine wp_seq ?_
  refine wp_seq ?_
  refine wp_region_lit ?_
  refine pv (pq g) ?_
  refine wl_gv rfl (gv_call (args := #[.pointer (some ⟨g, 0, none⟩)]) rfl Try.func22 (by kernel_rfl) rfl rfl (by kernel_rfl) ?_)
  refine Calls.mono (burnt_b (b := false) (S.blk 0 rfl) hb) ?_
  rintro _ _ ⟨rfl, rfl⟩
  refine ⟨_, rfl, ?_⟩
  refine wl_end (fr [pq g, iv at_, ud, ud, iv 0, pq g, fv] 17) (by kernel_rfl) ?_
  refine then_n ?_
  refine wp_cond_false (by kernel_rfl) ?_
  refine wp_skip ?_
  refine then_n ?_
  refine wp_seq ?_
  refine wp_seq ?_
  refine wp_region_lit ?_
  refine pv (iv at_) ?_
  refine wl_gv rfl (gv_dec (p := (at_ : Int) < 0) (by kernel_rfl) (fun hb1 => ?_) (fun hb1 => ?_))
  · skip
    refine pv tv ?_
    refine wl_not (by kernel_rfl) ?_
    refine wl_not (by kernel_rfl) ?_
    refine wl_not (by kernel_rfl) ?_
    refine wl_not (by kernel_rfl) ?_
    refine pv tv ?_
    refine wl_end (fr [pq g, iv at_, ud, ud, iv 0, pq g, fv, iv at_, tv, tv, ud, ud, ud, ud, tv] 9) (by kernel_rfl) ?_
    refine then_n ?_
    refine wp_cond_true (by kernel_rfl) ?_
    refine wp_seq ?_
    refine wp_region_lit ?_
    refine pv (pq g) ?_
    refine pv (pq g) ?_
    refine pv (po g 5) ?_
    refine pv (po g 8) ?_
    refine wl_gv rfl (gv_ldR (v := .int .i64 rf) rfl (by kernel_rfl) (by kernel_rfl) (((S.blk 0 rfl).cell 8).trans rfl) ?_)
    refine pv (iv (inc rf)) ?_
    refine pv (pq g) ?_
    refine pv (po g 5) ?_
    refine pv (po g 8) ?_
    refine wl_gv rfl (gv_st (k := 8) (v := .int .i64 (inc rf)) S 0 rfl rfl (by kernel_rfl) (by kernel_rfl) (by kernel_rfl) rfl rfl (L' := (row g #[.slice (some ⟨gd, 0, none⟩) n c, .map (some gm), .bool fused, .int .i64 left, .int .i64 life, .int .i64 r, .int .i64 wr, .int .i64 fl, .int .i64 (inc rf), .int .i64 pn] 87 :: L)) rfl (fun w2 S3 => ?_))
    refine wl_end (fr [pq g, iv at_, ud, ud, iv 0, pq g, fv, iv at_, tv, tv, ud, ud, ud, ud, tv, pq g, pq g, po g 5, po g 8, iv rf, iv (inc rf), pq g, po g 5, po g 8] 0) (by kernel_rfl) ?_
    refine then_n ?_
    refine wp_seq ?_
    refine wp_region_lit ?_
    refine pv (iv 11) ?_
    refine wl_end (fr [pq g, iv at_, ud, ud, iv 11, pq g, fv, iv at_, tv, tv, ud, ud, ud, ud, tv, pq g, pq g, po g 5, po g 8, iv rf, iv (inc rf), pq g, po g 5, po g 8] 0) (by kernel_rfl) ?_
    refine then_n ?_
    refine wp_ret ?_
    refine then_r ?_
    refine bodyPost_ret (v := .int .i64 11) (results_t1 rfl (by kernel_rfl)) rfl ?_
    exact ⟨rfl, S3⟩
  · skip
    refine pv fv ?_
    refine wl_when (by kernel_rfl) (gv_val (v := .int .i64 at_) (w' := w) (by kernel_rfl) ?_)
    refine wl_when (by kernel_rfl) (gv_val (v := .pointer (some ⟨g, 0, none⟩)) (w' := w) (by kernel_rfl) ?_)
    refine wl_when (by kernel_rfl) (gv_call (args := #[.pointer (some ⟨g, 0, none⟩)]) rfl Try.func21 (by kernel_rfl) rfl rfl (by kernel_rfl) ?_)
    refine Calls.mono (sectors_ro (S.blk 0 rfl) hn hm) ?_
    rintro _ _ ⟨rfl, rfl⟩
    refine ⟨_, rfl, ?_⟩
    refine wl_when (by kernel_rfl) (gv_dec (p := (at_ : Int) ≥ ((m : Nat) : Int)) (by kernel_rfl) (fun _ => ?_) (fun hd4 => False.elim (by omega)))
    refine pv tv ?_
    refine wl_end (fr [pq g, iv at_, ud, ud, iv 0, pq g, fv, iv at_, fv, fv, iv at_, pq g, iv ((m : Nat) : Int), tv, tv] 9) (by kernel_rfl) ?_
    refine then_n ?_
    refine wp_cond_true (by kernel_rfl) ?_
    refine wp_seq ?_
    refine wp_region_lit ?_
    refine pv (pq g) ?_
    refine pv (pq g) ?_
    refine pv (po g 5) ?_
    refine pv (po g 8) ?_
    refine wl_gv rfl (gv_ldR (v := .int .i64 rf) rfl (by kernel_rfl) (by kernel_rfl) (((S.blk 0 rfl).cell 8).trans rfl) ?_)
    refine pv (iv (inc rf)) ?_
    refine pv (pq g) ?_
    refine pv (po g 5) ?_
    refine pv (po g 8) ?_
    refine wl_gv rfl (gv_st (k := 8) (v := .int .i64 (inc rf)) S 0 rfl rfl (by kernel_rfl) (by kernel_rfl) (by kernel_rfl) rfl rfl (L' := (row g #[.slice (some ⟨gd, 0, none⟩) n c, .map (some gm), .bool fused, .int .i64 left, .int .i64 life, .int .i64 r, .int .i64 wr, .int .i64 fl, .int .i64 (inc rf), .int .i64 pn] 87 :: L)) rfl (fun w5 S6 => ?_))
    refine wl_end (fr [pq g, iv at_, ud, ud, iv 0, pq g, fv, iv at_, fv, fv, iv at_, pq g, iv ((m : Nat) : Int), tv, tv, pq g, pq g, po g 5, po g 8, iv rf, iv (inc rf), pq g, po g 5, po g 8] 0) (by kernel_rfl) ?_
    refine then_n ?_
    refine wp_seq ?_
    refine wp_region_lit ?_
    refine pv (iv 11) ?_
    refine wl_end (fr [pq g, iv at_, ud, ud, iv 11, pq g, fv, iv at_, fv, fv, iv at_, pq g, iv ((m : Nat) : Int), tv, tv, pq g, pq g, po g 5, po g 8, iv rf, iv (inc rf), pq g, po g 5, po g 8] 0) (by kernel_rfl) ?_
    refine then_n ?_
    refine wp_ret ?_
    refine then_r ?_
    refine bodyPost_ret (v := .int .i64 11) (results_t1 rfl (by kernel_rfl)) rfl ?_
    exact ⟨rfl, S6⟩
theorem there_in {F : Nat → Prop} {w0 w : World} {L : List Ast} {g gd n c gm : Nat} {fused : Bool} {left life r wr fl rf pn : Int} {k m : Nat} (hb : (fused && decide (left = 0)) = false) (hn : n = 512 * m) (hm : m ≤ 2048) (ha : k < m) (S : St F w0 w (row g (dcells gd n c gm fused left life r wr fl rf pn) 87 :: L)) :
    Calls Try.prog 61 #[.pointer (some ⟨g, 0, none⟩), .int .i64 ((k : Nat) : Int)] w fun e w' => e = .returned (.int .i64 0) ∧ St F w0 w' (row g (dcells gd n c gm fused left life r wr fl rf pn) 87 :: L) := by
  change St F w0 w (row g #[.slice (some ⟨gd, 0, none⟩) n c, .map (some gm), .bool fused, .int .i64 left, .int .i64 life, .int .i64 r, .int .i64 wr, .int .i64 fl, .int .i64 rf, .int .i64 pn] 87 :: L) at S
  refine wp_enter (fr [pq g, iv ((k : Nat) : Int)] 22) Try.func61 rfl (by kernel_rfl) ?_
  refine wp_seq ?_
  refine wp_region_lit ?_
  refine pv (iv 0) ?_
  refine wl_end (fr [pq g, iv ((k : Nat) : Int), ud, ud, iv 0] 19) (by kernel_rfl) ?_
  refine then_n ?_
  refine wp_seq ?_
  refine wp_seq ?_
  refine wp_region_lit ?_
  refine pv (pq g) ?_
  refine wl_gv rfl (gv_call (args := #[.pointer (some ⟨g, 0, none⟩)]) rfl Try.func22 (by kernel_rfl) rfl rfl (by kernel_rfl) ?_)
  refine Calls.mono (burnt_b (b := false) (S.blk 0 rfl) hb) ?_
  rintro _ _ ⟨rfl, rfl⟩
  refine ⟨_, rfl, ?_⟩
  refine wl_end (fr [pq g, iv ((k : Nat) : Int), ud, ud, iv 0, pq g, fv] 17) (by kernel_rfl) ?_
  refine then_n ?_
  refine wp_cond_false (by kernel_rfl) ?_
  refine wp_skip ?_
  refine then_n ?_
  refine wp_seq ?_
  refine wp_seq ?_
  refine wp_region_lit ?_
  refine pv (iv ((k : Nat) : Int)) ?_
  refine wl_gv rfl (gv_dec (p := (((k : Nat) : Int) : Int) < 0) (by kernel_rfl) (fun hd1 => False.elim (by omega)) (fun _ => ?_))
  refine pv fv ?_
  refine wl_when (by kernel_rfl) (gv_val (v := .int .i64 ((k : Nat) : Int)) (w' := w) (by kernel_rfl) ?_)
  refine wl_when (by kernel_rfl) (gv_val (v := .pointer (some ⟨g, 0, none⟩)) (w' := w) (by kernel_rfl) ?_)
  refine wl_when (by kernel_rfl) (gv_call (args := #[.pointer (some ⟨g, 0, none⟩)]) rfl Try.func21 (by kernel_rfl) rfl rfl (by kernel_rfl) ?_)
  refine Calls.mono (sectors_ro (S.blk 0 rfl) hn hm) ?_
  rintro _ _ ⟨rfl, rfl⟩
  refine ⟨_, rfl, ?_⟩
  refine wl_when (by kernel_rfl) (gv_dec (p := (((k : Nat) : Int) : Int) ≥ ((m : Nat) : Int)) (by kernel_rfl) (fun hd2 => False.elim (by omega)) (fun _ => ?_))
  refine pv fv ?_
  refine wl_end (fr [pq g, iv ((k : Nat) : Int), ud, ud, iv 0, pq g, fv, iv ((k : Nat) : Int), fv, fv, iv ((k : Nat) : Int), pq g, iv ((m : Nat) : Int), fv, fv] 9) (by kernel_rfl) ?_
  refine then_n ?_
  refine wp_cond_false (by kernel_rfl) ?_
  refine wp_skip ?_
  refine then_n ?_
  refine wp_seq ?_
  refine wp_region_lit ?_
  refine pv (iv 0) ?_
  refine wl_end (fr [pq g, iv ((k : Nat) : Int), ud, ud, iv 0, pq g, fv, iv ((k : Nat) : Int), fv, fv, iv ((k : Nat) : Int), pq g, iv ((m : Nat) : Int), fv, fv] 9) (by kernel_rfl) ?_
  refine then_n ?_
  refine wp_ret ?_
  refine bodyPost_ret (v := .int .i64 0) (results_t1 rfl (by kernel_rfl)) rfl ?_
  exact ⟨rfl, S⟩
theorem home_ro {w : World} {g gd n c gm : Nat} {fused : Bool} {left life r wr fl rf pn : Int} {k m : Nat} (HB : Blk w g (dcells gd n c gm fused left life r wr fl rf pn) 87) (hn : n = 512 * m) (hc : c = 512 * m) (hm : m ≤ 2048) (ha : k < m) :
    Calls Try.prog 71 #[.pointer (some ⟨g, 0, none⟩), .int .i64 ((k : Nat) : Int)] w fun e w' => e = .returned (.slice (some ⟨gd, 512 * k, none⟩) 512 (512 * m - 512 * k)) ∧ w = w' := by
  refine wp_enter (fr [pq g, iv ((k : Nat) : Int)] 13) Try.func71 rfl (by kernel_rfl) ?_
  refine wp_seq ?_
  refine wp_region_lit ?_
  refine pv (.slice none 0 0) ?_
  refine wl_end (fr [pq g, iv ((k : Nat) : Int), ud, ud, .slice none 0 0] 10) (by kernel_rfl) ?_
  refine then_n ?_
  refine wp_seq ?_
  refine wp_region_lit ?_
  refine pv (pq g) ?_
  refine pv (pq g) ?_
  refine pv (pq g) ?_
  refine wl_gv rfl (gv_ldR (v := .slice (some ⟨gd, 0, none⟩) n c) rfl (by kernel_rfl) (by kernel_rfl) ((HB.cell 0).trans rfl) ?_)
  refine pv (iv ((k : Nat) : Int)) ?_
  refine wl_gv rfl (gv_int (k := .i64) (z := IntKind.i64.wrap (((k : Nat) : Int) * 512)) (z' := ((512 * k : Nat) : Int)) (by kernel_rfl) (wr_eq (by omega) (by omega) (by omega)) ?_)
  refine pv (iv ((k : Nat) : Int)) ?_
  refine wl_gv rfl (gv_int (k := .i64) (z := IntKind.i64.wrap (((k : Nat) : Int) + 1)) (z' := ((k : Nat) : Int) + 1) (by kernel_rfl) (wr_ok (by omega) (by omega)) ?_)
  refine wl_gv rfl (gv_int (k := .i64) (z := IntKind.i64.wrap ((((k : Nat) : Int) + 1) * 512)) (z' := ((512 * (k + 1) : Nat) : Int)) (by kernel_rfl) (wr_eq (by omega) (by omega) (by omega)) ?_)
  refine wl_gv rfl (gv_cutE (e := 5) (sz := 1) (g := gd) (off := 0) (n := n) (c := c) (kl := .i64) (kh := .i64) (u := ((512 * k : Nat) : Int)) (v := ((512 * (k + 1) : Nat) : Int)) (lo := (512 * k)) (hi := (512 * (k + 1))) (off' := (512 * k)) (n' := 512) (c' := (512 * m - 512 * k)) rfl (by kernel_rfl) (by kernel_rfl) (by kernel_rfl) (by kernel_rfl) (by kernel_rfl) rfl rfl (by omega) (by omega) (by omega) (by omega) (by omega) (by omega) ?_)
  refine pv (sl gd (512 * k) 512 (512 * m - 512 * k)) ?_
  refine wl_end (fr [pq g, iv ((k : Nat) : Int), ud, ud, sl gd (512 * k) 512 (512 * m - 512 * k), pq g, pq g, pq g, sl gd 0 n c, iv ((k : Nat) : Int), iv ((512 * k : Nat) : Int), iv ((k : Nat) : Int), iv (((k : Nat) : Int) + 1), iv ((512 * (k + 1) : Nat) : Int), sl gd (512 * k) 512 (512 * m - 512 * k)] 0) (by kernel_rfl) ?_
  refine then_n ?_
  refine wp_ret ?_
  refine bodyPost_ret (v := .slice (some ⟨gd, 512 * k, none⟩) 512 (512 * m - 512 * k)) (results_t1 rfl (by kernel_rfl)) rfl ?_
  exact ⟨rfl, rfl⟩
theorem now_home {w : World} {g gd n c gm : Nat} {fused : Bool} {left life r wr fl rf pn : Int} {k m : Nat} (HB : Blk w g (dcells gd n c gm fused left life r wr fl rf pn) 87) (hn : n = 512 * m) (hc : c = 512 * m) (hm : m ≤ 2048) (ha : k < m) {es : List Ent} {clock : Nat} (hg : w.heap[gm]? = some (mapO es clock)) (hno : ∀ e ∈ es, e.k ≠ ((k : Nat) : Int)) :
    Calls Try.prog 62 #[.pointer (some ⟨g, 0, none⟩), .int .i64 ((k : Nat) : Int)] w fun e w' => e = .returned (.slice (some ⟨gd, 512 * k, none⟩) 512 (512 * m - 512 * k)) ∧ w = w' := by
  refine wp_enter (fr [pq g, iv ((k : Nat) : Int)] 22) Try.func62 rfl (by kernel_rfl) ?_
  refine wp_seq ?_
  refine wp_region_lit ?_
  refine pv (.slice none 0 0) ?_
  refine wl_end (fr [pq g, iv ((k : Nat) : Int), ud, ud, .slice none 0 0] 19) (by kernel_rfl) ?_
  refine then_n ?_
  refine wp_seq ?_
  refine wp_seq ?_
  refine wp_region_lit ?_
  refine pv (pq g) ?_
  refine pv (pq g) ?_
  refine pv (po g 1) ?_
  refine wl_gv rfl (gv_ldR (v := .map (some gm)) rfl (by kernel_rfl) (by kernel_rfl) ((HB.cell 1).trans rfl) ?_)
  refine pv (iv ((k : Nat) : Int)) ?_
  refine wl_gv rfl (gv_look_none (kT := 3) (eT := 52) (k := ((k : Nat) : Int)) (z := .slice none 0 0) hg rfl (by kernel_rfl) (by kernel_rfl) (by kernel_rfl) (by kernel_rfl) (by kernel_rfl) hno ?_)
  refine pv (.slice none 0 0) ?_
  refine wl_end (fr [pq g, iv ((k : Nat) : Int), ud, ud, .slice none 0 0, .slice none 0 0, pq g, pq g, po g 1, .map (some gm), iv ((k : Nat) : Int), .slice none 0 0] 12) (by kernel_rfl) ?_
  refine then_n ?_
  refine wp_seq ?_
  refine wp_region_lit ?_
  refine pv (.slice none 0 0) ?_
  refine pv (iv 0) ?_
  refine wl_gv rfl (gv_dec (p := (0 : Int) > 0) (by kernel_rfl) (fun hd1 => False.elim (by omega)) (fun _ => ?_))
  refine wl_end (fr [pq g, iv ((k : Nat) : Int), ud, ud, .slice none 0 0, .slice none 0 0, pq g, pq g, po g 1, .map (some gm), iv ((k : Nat) : Int), .slice none 0 0, .slice none 0 0, iv 0, fv] 9) (by kernel_rfl) ?_
  refine then_n ?_
  refine wp_cond_false (by kernel_rfl) ?_
  refine wp_skip ?_
  refine then_n ?_
  refine wp_seq ?_
  refine wp_region_lit ?_
  refine pv (pq g) ?_
  refine pv (iv ((k : Nat) : Int)) ?_
  refine wl_gv rfl (gv_call (args := #[.pointer (some ⟨g, 0, none⟩), .int .i64 ((k : Nat) : Int)]) rfl Try.func71 (by kernel_rfl) rfl rfl (by kernel_rfl) ?_)
  refine Calls.mono (home_ro HB hn hc hm ha) ?_
  rintro _ _ ⟨rfl, rfl⟩
  refine ⟨_, rfl, ?_⟩
  refine pv (sl gd (512 * k) 512 (512 * m - 512 * k)) ?_
  refine wl_end (fr [pq g, iv ((k : Nat) : Int), ud, ud, sl gd (512 * k) 512 (512 * m - 512 * k), .slice none 0 0, pq g, pq g, po g 1, .map (some gm), iv ((k : Nat) : Int), .slice none 0 0, .slice none 0 0, iv 0, fv, ud, ud, ud, ud, ud, ud, pq g, iv ((k : Nat) : Int), sl gd (512 * k) 512 (512 * m - 512 * k)] 0) (by kernel_rfl) ?_
  refine then_n ?_
  refine wp_ret ?_
  refine bodyPost_ret (v := .slice (some ⟨gd, 512 * k, none⟩) 512 (512 * m - 512 * k)) (results_t1 rfl (by kernel_rfl)) rfl ?_
  exact ⟨rfl, rfl⟩
theorem now_pend {w : World} {g gd n c gm : Nat} {fused : Bool} {left life r wr fl rf pn : Int} {k : Nat} (HB : Blk w g (dcells gd n c gm fused left life r wr fl rf pn) 87) {es : List Ent} {clock : Nat} (hg : w.heap[gm]? = some (mapO es clock)) {j : Nat} {e0 : Ent} (hj : es[j]? = some e0) (hk : e0.k = ((k : Nat) : Int)) (hf : ∀ m e, m < j → es[m]? = some e → e.k ≠ ((k : Nat) : Int)) {gb q cb : Nat} {cells : Array Value} {tb : TypeId} {X : Value} (hv : e0.v = .slice (some ⟨gb, 0, none⟩) q cb) (hq : 0 < q) (hq2 : q ≤ 9223372036854775807) (HV : Blk w gb cells tb) (hX : cells[q - 1]? = some X) :
    Calls Try.prog 62 #[.pointer (some ⟨g, 0, none⟩), .int .i64 ((k : Nat) : Int)] w fun e w' => e = .returned X ∧ w = w' := by
  refine wp_enter (fr [pq g, iv ((k : Nat) : Int)] 22) Try.func62 rfl (by kernel_rfl) ?_
  refine wp_seq ?_
  refine wp_region_lit ?_
  refine pv (.slice none 0 0) ?_
  refine wl_end (fr [pq g, iv ((k : Nat) : Int), ud, ud, .slice none 0 0] 19) (by kernel_rfl) ?_
  refine then_n ?_
  refine wp_seq ?_
  refine wp_seq ?_
  refine wp_region_lit ?_
  refine pv (pq g) ?_
  refine pv (pq g) ?_
  refine pv (po g 1) ?_
  refine wl_gv rfl (gv_ldR (v := .map (some gm)) rfl (by kernel_rfl) (by kernel_rfl) ((HB.cell 1).trans rfl) ?_)
  refine pv (iv ((k : Nat) : Int)) ?_
  refine wl_gv rfl (gv_look_some (kT := 3) (eT := 52) (k := ((k : Nat) : Int)) hg rfl (by kernel_rfl) (by kernel_rfl) (by kernel_rfl) (by kernel_rfl) hj hk hf ?_)
  rw [hv]
  refine pv (sl gb 0 q cb) ?_
  refine wl_end (fr [pq g, iv ((k : Nat) : Int), ud, ud, .slice none 0 0, sl gb 0 q cb, pq g, pq g, po g 1, .map (some gm), iv ((k : Nat) : Int), sl gb 0 q cb] 12) (by kernel_rfl) ?_
  refine then_n ?_
  refine wp_seq ?_
  refine wp_region_lit ?_
  refine pv (sl gb 0 q cb) ?_
  refine pv (iv (q : Nat)) ?_
  refine wl_gv rfl (gv_dec (p := ((q : Nat) : Int) > 0) (by kernel_rfl) (fun _ => ?_) (fun hd1 => False.elim (by omega)))
  refine wl_end (fr [pq g, iv ((k : Nat) : Int), ud, ud, .slice none 0 0, sl gb 0 q cb, pq g, pq g, po g 1, .map (some gm), iv ((k : Nat) : Int), sl gb 0 q cb, sl gb 0 q cb, iv (q : Nat), tv] 9) (by kernel_rfl) ?_
  refine then_n ?_
  refine wp_cond_true (by kernel_rfl) ?_
  refine wp_seq ?_
  refine wp_region_lit ?_
  refine pv (sl gb 0 q cb) ?_
  refine pv (sl gb 0 q cb) ?_
  refine pv (iv (q : Nat)) ?_
  refine wl_gv rfl (gv_int (k := .i64) (z := IntKind.i64.wrap ((q : Nat) - 1)) (z' := ((q - 1 : Nat) : Int)) (by kernel_rfl) (wr_eq (by omega) (by omega) (by omega)) ?_)
  refine wl_gv rfl (gv_ixE (e := 31) (sz := 1) (g := gb) (off := 0) (n := q) (c := cb) (i := ((q - 1 : Nat) : Int)) (k := .i64) (j := (q - 1)) (off' := (q - 1)) rfl (by kernel_rfl) (by kernel_rfl) (by kernel_rfl) (by kernel_rfl) rfl (by omega) (by omega) ?_)
  refine wl_gv rfl (gv_ldR (v := X) rfl (by kernel_rfl) (by kernel_rfl) ((HV.cell (q - 1)).trans hX) ?_)
  refine pv X ?_
  refine wl_end (fr [pq g, iv ((k : Nat) : Int), ud, ud, X, sl gb 0 q cb, pq g, pq g, po g 1, .map (some gm), iv ((k : Nat) : Int), sl gb 0 q cb, sl gb 0 q cb, iv (q : Nat), tv, sl gb 0 q cb, sl gb 0 q cb, iv (q : Nat), iv ((q - 1 : Nat) : Int), po gb (q - 1), X] 3) (by kernel_rfl) ?_
  refine then_n ?_
  refine wp_ret ?_
  refine then_r ?_
  refine bodyPost_ret (v := X) (results_t1 rfl (by kernel_rfl)) rfl ?_
  exact ⟨rfl, rfl⟩
theorem take_own {F : Nat → Prop} {w0 w : World} {L : List Ast} {g gd n c gm : Nat} {fused : Bool} {left life r wr fl rf pn : Int}  (S : St F w0 w (row g (dcells gd n c gm fused left life r wr fl rf pn) 87 :: L)) :
    Calls Try.prog 66 #[.pointer (some ⟨g, 0, none⟩)] w fun e w' => e = .returned (.int .i64 (inc life)) ∧ St F w0 w' (row g (dcells gd n c gm fused left (inc life) r wr fl rf pn) 87 :: L) := by
  change St F w0 w (row g #[.slice (some ⟨gd, 0, none⟩) n c, .map (some gm), .bool fused, .int .i64 left, .int .i64 life, .int .i64 r, .int .i64 wr, .int .i64 fl, .int .i64 rf, .int .i64 pn] 87 :: L) at S
  refine wp_enter (fr [pq g] 13) Try.func66 rfl (by kernel_rfl) ?_
  refine wp_seq ?_
  refine wp_region_lit ?_
  refine pv (iv 0) ?_
  refine wl_end (fr [pq g, ud, iv 0] 11) (by kernel_rfl) ?_
  refine then_n ?_
  refine wp_seq ?_
  refine wp_region_lit ?_
  refine pv (pq g) ?_
  refine pv (pq g) ?_
  refine pv (po g 4) ?_
  refine wl_gv rfl (gv_ldR (v := .int .i64 life) rfl (by kernel_rfl) (by kernel_rfl) (((S.blk 0 rfl).cell 4).trans rfl) ?_)
  refine pv (iv (inc life)) ?_
  refine pv (pq g) ?_
  refine pv (po g 4) ?_
  refine wl_gv rfl (gv_st (k := 4) (v := .int .i64 (inc life)) S 0 rfl rfl (by kernel_rfl) (by kernel_rfl) (by kernel_rfl) rfl rfl (L' := (row g #[.slice (some ⟨gd, 0, none⟩) n c, .map (some gm), .bool fused, .int .i64 left, .int .i64 (inc life), .int .i64 r, .int .i64 wr, .int .i64 fl, .int .i64 rf, .int .i64 pn] 87 :: L)) rfl (fun w1 S2 => ?_))
  refine wl_end (fr [pq g, ud, iv 0, pq g, pq g, po g 4, iv life, iv (inc life), pq g, po g 4] 4) (by kernel_rfl) ?_
  refine then_n ?_
  refine wp_seq ?_
  refine wp_region_lit ?_
  refine pv (pq g) ?_
  refine pv (pq g) ?_
  refine pv (po g 4) ?_
  refine wl_gv rfl (gv_ldR (v := .int .i64 (inc life)) rfl (by kernel_rfl) (by kernel_rfl) (((S2.blk 0 rfl).cell 4).trans rfl) ?_)
  refine pv (iv (inc life)) ?_
  refine wl_end (fr [pq g, ud, iv (inc life), pq g, pq g, po g 4, iv life, iv (inc life), pq g, po g 4, pq g, pq g, po g 4, iv (inc life)] 0) (by kernel_rfl) ?_
  refine then_n ?_
  refine wp_ret ?_
  refine bodyPost_ret (v := .int .i64 (inc life)) (results_t1 rfl (by kernel_rfl)) rfl ?_
  exact ⟨rfl, S2⟩
theorem spend_true {F : Nat → Prop} {w0 w : World} {L : List Ast} {g gd n c gm : Nat} {left life r wr fl rf pn : Int} (S : St F w0 w (row g (dcells gd n c gm true left life r wr fl rf pn) 87 :: L)) :
    Calls Try.prog 69 #[.pointer (some ⟨g, 0, none⟩)] w fun e w' => e = .returned (.tuple #[]) ∧ St F w0 w' (row g (dcells gd n c gm true (dec left) life r wr fl rf pn) 87 :: L) := by
  change St F w0 w (row g #[.slice (some ⟨gd, 0, none⟩) n c, .map (some gm), .bool true, .int .i64 left, .int .i64 life, .int .i64 r, .int .i64 wr, .int .i64 fl, .int .i64 rf, .int .i64 pn] 87 :: L) at S
  refine wp_enter (fr [pq g] 12) Try.func69 rfl (by kernel_rfl) ?_
  refine wp_seq ?_
  refine wp_region_lit ?_
  refine pv (pq g) ?_
  refine pv (pq g) ?_
  refine pv (po g 2) ?_
  refine wl_gv rfl (gv_ldR (v := .bool true) rfl (by kernel_rfl) (by kernel_rfl) (((S.blk 0 rfl).cell 2).trans rfl) ?_)
  refine wl_end (fr [pq g, ud, pq g, pq g, po g 2, tv] 7) (by kernel_rfl) ?_
  refine then_n ?_
  refine wp_cond_true (by kernel_rfl) ?_
  refine wp_region_lit ?_
  refine pv (pq g) ?_
  refine pv (pq g) ?_
  refine pv (po g 3) ?_
  refine wl_gv rfl (gv_ldR (v := .int .i64 left) rfl (by kernel_rfl) (by kernel_rfl) (((S.blk 0 rfl).cell 3).trans rfl) ?_)
  refine pv (iv (dec left)) ?_
  refine pv (pq g) ?_
  refine pv (po g 3) ?_
  refine wl_gv rfl (gv_st (k := 3) (v := .int .i64 (dec left)) S 0 rfl rfl (by kernel_rfl) (by kernel_rfl) (by kernel_rfl) rfl rfl (L' := (row g #[.slice (some ⟨gd, 0, none⟩) n c, .map (some gm), .bool true, .int .i64 (dec left), .int .i64 life, .int .i64 r, .int .i64 wr, .int .i64 fl, .int .i64 rf, .int .i64 pn] 87 :: L)) rfl (fun w1 S2 => ?_))
  refine wl_end (fr [pq g, ud, pq g, pq g, po g 2, tv, pq g, pq g, po g 3, iv left, iv (dec left), pq g, po g 3] 0) (by kernel_rfl) ?_
  refine bodyPost_end (v := .tuple #[]) (results_none rfl _ _ _) rfl ?_
  exact ⟨rfl, S2⟩
theorem spend_false {F : Nat → Prop} {w0 w : World} {L : List Ast} {g gd n c gm : Nat} {left life r wr fl rf pn : Int} (S : St F w0 w (row g (dcells gd n c gm false left life r wr fl rf pn) 87 :: L)) :
    Calls Try.prog 69 #[.pointer (some ⟨g, 0, none⟩)] w fun e w' => e = .returned (.tuple #[]) ∧ St F w0 w' (row g (dcells gd n c gm false left life r wr fl rf pn) 87 :: L) := by
  change St F w0 w (row g #[.slice (some ⟨gd, 0, none⟩) n c, .map (some gm), .bool false, .int .i64 left, .int .i64 life, .int .i64 r, .int .i64 wr, .int .i64 fl, .int .i64 rf, .int .i64 pn] 87 :: L) at S
  refine wp_enter (fr [pq g] 12) Try.func69 rfl (by kernel_rfl) ?_
  refine wp_seq ?_
  refine wp_region_lit ?_
  refine pv (pq g) ?_
  refine pv (pq g) ?_
  refine pv (po g 2) ?_
  refine wl_gv rfl (gv_ldR (v := .bool false) rfl (by kernel_rfl) (by kernel_rfl) (((S.blk 0 rfl).cell 2).trans rfl) ?_)
  refine wl_end (fr [pq g, ud, pq g, pq g, po g 2, fv] 7) (by kernel_rfl) ?_
  refine then_n ?_
  refine wp_cond_false (by kernel_rfl) ?_
  refine wp_skip ?_
  refine bodyPost_end (v := .tuple #[]) (results_none rfl _ _ _) rfl ?_
  exact ⟨rfl, S⟩
end Go.Proofs
