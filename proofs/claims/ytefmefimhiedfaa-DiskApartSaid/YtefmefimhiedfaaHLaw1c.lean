/- A step of a script on both disks answers true. -/
import Derived.Test.YtefmefimhiedfaaHRef5
import Derived.Test.YtefmefimhiedfaaHRef2
import Derived.Test.YtefmefimhiedfaaHRef3
import Derived.Test.YtefmefimhiedfaaHCrash2
import Derived.Test.YtefmefimhiedfaaHDisk3
import Derived.Test.YtefmefimhiedfaaHDisk4
import Derived.Test.YtefmefimhiedfaaHDisk6
import Derived.Test.YtefmefimhiedfaaHLaw1a
open Go Go.RowKit Go.Proofs.YtefmefimhiedfaaW.PrintWords Go.Proofs.YtefmefimhiedfaaW.PrintMore
namespace Go.Proofs
open Go.Vel
set_option linter.unusedVariables false
set_option maxRecDepth 100000
set_option maxHeartbeats 4000000
attribute [local irreducible] gives wpList Code.wp

theorem ltwinS {F : Nat → Prop} {w0 w : World} {L : List Ast} {A : Option Addr} {l : List UInt8} {c : Nat} (S : St F w0 w L) (hr : RoT F w0 L A l) (hlm : l.length ≤ 140737488355328) : Calls Try.prog 27 #[.slice A l.length c] w fun e w' => ∃ go, e = .returned (.slice (some ⟨go, 0, none⟩) l.length l.length) ∧ St F w0 w' (row go (bvs l) 5 :: L) := by
  refine wp_enter (fr [.slice A l.length c] 10) Try.func27 rfl (by kernel_rfl) ?_
  refine wp_seq ?_
  refine wp_region_lit ?_
  refine pv (.slice none 0 0) ?_
  refine wl_end (fr [.slice A l.length c, ud, .slice none 0 0] 8) (by kernel_rfl) ?_
  refine then_n ?_
  refine wp_seq ?_
  refine wp_region_lit ?_
  refine pv (.slice A l.length c) ?_
  refine pv (iv (l.length : Nat)) ?_
  refine wl_gv rfl (gv_make (e := 5) (u := (l.length : Nat)) (v := (l.length : Nat)) (z := .int .u8 0) (sz := 1) (by_ := 1) (n := l.length) (c := l.length) (cs := (bvs (List.replicate l.length 0))) S rfl (by kernel_rfl) ⟨by kernel_rfl⟩ (by kernel_rfl) (by kernel_rfl) rfl rfl (Nat.le_refl _) (by omega) (by omega) (mk_bytes _) (fun g1 w2 hg3 S4 => ?_))
  refine pv (sl g1 0 l.length l.length) ?_
  refine wl_end (fr [.slice A l.length c, ud, .slice none 0 0, sl g1 0 l.length l.length, .slice A l.length c, iv (l.length : Nat), sl g1 0 l.length l.length] 4) (by kernel_rfl) ?_
  refine then_n ?_
  refine wp_seq ?_
  refine wp_region_lit ?_
  refine pv (sl g1 0 l.length l.length) ?_
  refine pv (.slice A l.length c) ?_
  refine wl_gv rfl (gv_copy (e := 5) (off := 0) (dLen := l.length) (dCap := l.length) (sLen := l.length) (sCap := c) (A := A) (B := (List.replicate l.length 0)) (l := l) S4 0 rfl rfl (by kernel_rfl) (by kernel_rfl) (by kernel_rfl) (by kernel_rfl) rfl (hr.out _ [row g1 (bvs (List.replicate l.length 0)) 5] S4) (by simp) (L' := (row g1 (bvs l) 5 :: L)) (by rw [copy_all rfl]; rfl) (fun w5 m7 S6 => ?_))
  refine wl_end (fr [.slice A l.length c, ud, .slice none 0 0, sl g1 0 l.length l.length, .slice A l.length c, iv (l.length : Nat), sl g1 0 l.length l.length, sl g1 0 l.length l.length, .slice A l.length c, goInt m7] 1) (by kernel_rfl) ?_
  refine then_n ?_
  refine wp_seq ?_
  refine wp_region_lit ?_
  refine pv (sl g1 0 l.length l.length) ?_
  refine pv (sl g1 0 l.length l.length) ?_
  refine wl_end (fr [.slice A l.length c, ud, sl g1 0 l.length l.length, sl g1 0 l.length l.length, .slice A l.length c, iv (l.length : Nat), sl g1 0 l.length l.length, sl g1 0 l.length l.length, .slice A l.length c, goInt m7, sl g1 0 l.length l.length] 0) (by kernel_rfl) ?_
  refine then_n ?_
  refine wp_ret ?_
  refine bodyPost_ret (v := .slice (some ⟨g1, 0, none⟩) l.length l.length) (results_t1 rfl (by kernel_rfl)) rfl ?_
  exact ⟨_, rfl, S6⟩
theorem splice_full {α : Type} {a b : List α} (h : b.length = a.length) : splice a 0 b = b := by
  simp [splice, h]
theorem len_zc (z : Array Value) (n : Nat) : (madeCells z n).toList.length = n := by simp [madeCells]
theorem picks_one : ∀ (ps : List Pick), ∀ u ∈ picksV ps, u.oneCell' = true := fun ps u hu => by
  obtain ⟨p, _, hp⟩ := List.mem_flatMap.1 hu
  simp [pickCells] at hp
  rcases hp with rfl | rfl | rfl <;> rfl
theorem tpicks {F : Nat → Prop} {w0 w : World} {L : List Ast} {A : Option Addr} {ps : List Pick} {c : Nat} (S : St F w0 w L) (hr : RoV F w0 L A (picksV ps)) (hlm : ps.length * 24 ≤ 140737488355328) : Calls Try.prog 37 #[.slice A ps.length c] w fun e w' => ∃ go, e = .returned (.slice (some ⟨go, 0, none⟩) ps.length ps.length) ∧ St F w0 w' (row go (picksV ps).toArray 66 :: L) := by
  refine wp_enter (fr [.slice A ps.length c] 10) Try.func37 rfl (by kernel_rfl) ?_
  refine wp_seq ?_
  refine wp_region_lit ?_
  refine pv (.slice none 0 0) ?_
  refine wl_end (fr [.slice A ps.length c, ud, .slice none 0 0] 8) (by kernel_rfl) ?_
  refine then_n ?_
  refine wp_seq ?_
  refine wp_region_lit ?_
  refine pv (.slice A ps.length c) ?_
  refine pv (iv (ps.length : Nat)) ?_
  refine wl_gv rfl (gv_make (e := 66) (u := ((ps.length : Nat) : Int)) (v := ((ps.length : Nat) : Int)) (z := .agg #[.int .i64 0, .int .i64 0, .int .i64 0]) (sz := 3) (by_ := 24) (n := ps.length) (c := ps.length) (cs := (madeCells (Value.agg #[.int .i64 0, .int .i64 0, .int .i64 0]).cells (ps.length * 3)).toList.toArray) S rfl (by kernel_rfl) ⟨by kernel_rfl⟩ (by kernel_rfl) (by kernel_rfl) rfl rfl (Nat.le_refl _) (by omega) (by omega) (by simp) (fun g1 w2 hg3 S4 => ?_))
  refine pv (sl g1 0 ps.length ps.length) ?_
  refine wl_end (fr [.slice A ps.length c, ud, .slice none 0 0, sl g1 0 ps.length ps.length, .slice A ps.length c, iv (ps.length : Nat), sl g1 0 ps.length ps.length] 4) (by kernel_rfl) ?_
  refine then_n ?_
  refine wp_seq ?_
  refine wp_region_lit ?_
  refine pv (sl g1 0 ps.length ps.length) ?_
  refine pv (.slice A ps.length c) ?_
  refine wl_gv rfl (gv_copyV (e := 66) (sz := 3) (g := g1) (off := 0) (dLen := ps.length) (dCap := ps.length) (sLen := ps.length) (sCap := c) (A := A) (cs := (madeCells (Value.agg #[.int .i64 0, .int .i64 0, .int .i64 0]).cells (ps.length * 3)).toList) (news := picksV ps) S4 0 rfl rfl (by kernel_rfl) (by kernel_rfl) (by kernel_rfl) (by kernel_rfl) (by rw [length_picksV]; show _ = min ps.length ps.length * 3; rw [Nat.min_self]) (hr.out _ [_] S4) (picks_one ps) (by rw [length_picksV, len_zc]; omega) (L' := (row g1 ((picksV ps).toArray) 66 :: L)) (by rw [splice_full (by rw [length_picksV, len_zc])]; rfl) (fun w5 m6 S7 => ?_))
  refine wl_end (fr [.slice A ps.length c, ud, .slice none 0 0, sl g1 0 ps.length ps.length, .slice A ps.length c, iv (ps.length : Nat), sl g1 0 ps.length ps.length, sl g1 0 ps.length ps.length, .slice A ps.length c, goInt m6] 1) (by kernel_rfl) ?_
  refine then_n ?_
  refine wp_seq ?_
  refine wp_region_lit ?_
  refine pv (sl g1 0 ps.length ps.length) ?_
  refine pv (sl g1 0 ps.length ps.length) ?_
  refine wl_end (fr [.slice A ps.length c, ud, sl g1 0 ps.length ps.length, sl g1 0 ps.length ps.length, .slice A ps.length c, iv (ps.length : Nat), sl g1 0 ps.length ps.length, sl g1 0 ps.length ps.length, .slice A ps.length c, goInt m6, sl g1 0 ps.length ps.length] 0) (by kernel_rfl) ?_
  refine then_n ?_
  refine wp_ret ?_
  refine bodyPost_ret (v := .slice (some ⟨g1, 0, none⟩) ps.length ps.length) (results_t1 rfl (by kernel_rfl)) rfl ?_
  exact ⟨_, rfl, S7⟩
theorem St.pd_small {F : Nat → Prop} {w0 w : World} {L : List Ast} {g : Nat} {s : Dsk} (S : St F w0 w (PDisk g s :: L)) : (∀ l ∈ s.last, l.length = 512) ∧ s.last.length ≤ 2048 := by
  obtain ⟨gd, gm, clock, es, fused, left, hf, _⟩ := St.popen S
  exact ⟨hf.len, hf.n2⟩
theorem rot_vec {F : Nat → Prop} {w0 : World} {L : List Ast} {A : Option Addr} {l : List UInt8} {n c : Nat} (i : Nat) (hi : L[i]? = some (vec 5 1 (.slice A n c) n (l.map bv))) : RoT F w0 L A l := ⟨fun w' L' S' => by
  have h1 : (L' ++ L)[L'.length + i]? = some (vec 5 1 (.slice A n c) n (l.map bv)) := by rw [List.getElem?_append_right (by omega)]; simpa using hi
  exact RdV.bytes (St.vec_rd S' _ h1)⟩
theorem asked_all {F : Nat → Prop} {w0 w : World} {L : List Ast} {gd gr : Nat} {s : Dsk} {kind at_ : Int} {A A2 : Option Addr} {d : List UInt8} {ps : List Pick} {cd cp : Nat} (S : St F w0 w (PDisk gd s :: RDisk gr s :: L)) : Calls Try.prog 68 #[.pointer (some ⟨gd, 0, none⟩), .pointer (some ⟨gr, 0, none⟩), .agg #[.int .i64 kind, .int .i64 at_, .slice A d.length cd, .slice A2 ps.length cp]] w fun e w' => e = .returned (.bool true) ∧ St F w0 w' (PDisk gd s :: RDisk gr s :: L) := by
  obtain ⟨hl5, hl2⟩ := St.pd_small S
  have hfl := flat_len hl5
  refine wp_enter (fr [pq gd, pq gr, .agg #[iv kind, iv at_, .slice A d.length cd, .slice A2 ps.length cp]] 83) Try.func68 rfl (by kernel_rfl) ?_
  refine wp_seq ?_
  refine wp_region_lit ?_
  refine wl_gv rfl (gv_box (v := .agg #[.int .i64 kind, .int .i64 at_, .slice A d.length cd, .slice A2 ps.length cp]) S rfl (by kernel_rfl) (fun g1 w2 hg3 S4 => ?_))
  refine pv fv ?_
  refine wl_end (fr [pq gd, pq gr, .agg #[iv kind, iv at_, .slice A d.length cd, .slice A2 ps.length cp], ud, ud, pq g1, fv] 79) (by kernel_rfl) ?_
  refine then_n ?_
  refine wp_seq ?_
  refine wp_seq ?_
  refine wp_region_lit ?_
  refine pv (pq g1) ?_
  refine wl_gv rfl (gv_ldR (v := .int .i64 kind) rfl (by kernel_rfl) (by kernel_rfl) (((S4.blk 0 rfl).cell 0).trans rfl) ?_)
  refine wl_end (fr [pq gd, pq gr, .agg #[iv kind, iv at_, .slice A d.length cd, .slice A2 ps.length cp], ud, ud, pq g1, fv, ud, ud, ud, ud, ud, ud, pq g1, iv kind] 71) (by kernel_rfl) ?_
  refine then_n ?_
  refine wp_block ?_
  refine wp_seq ?_
  refine wp_region_lit ?_
  refine wl_gv rfl (gv_eq (x := kind) (y := 5) (by kernel_rfl) (fun hb5 => ?_) (fun hb5 => ?_))
  · skip
    refine pv tv ?_
    refine wl_end (fr [pq gd, pq gr, .agg #[iv kind, iv at_, .slice A d.length cd, .slice A2 ps.length cp], ud, ud, pq g1, fv, ud, ud, ud, ud, ud, ud, pq g1, iv kind, tv, tv] 69) (by kernel_rfl) ?_
    refine then_n ?_
    refine wp_cond_true (by kernel_rfl) ?_
    refine wp_seq ?_
    refine wp_region_lit ?_
    refine pv (pq gd) ?_
    refine wl_gv rfl (gv_call (args := #[.pointer (some ⟨gd, 0, none⟩)]) rfl Try.func22 (by kernel_rfl) rfl rfl (by kernel_rfl) ?_)
    refine Calls.mono (pd_burnt S4 1 rfl) ?_
    rintro _ _ ⟨rfl, rfl⟩
    refine ⟨_, rfl, ?_⟩
    refine pv (.bool (decide (s.left = 0))) ?_
    refine wl_end (fr [pq gd, pq gr, .agg #[iv kind, iv at_, .slice A d.length cd, .slice A2 ps.length cp], ud, ud, pq g1, fv, .bool (decide (s.left = 0)), ud, ud, ud, ud, ud, pq g1, iv kind, tv, tv, pq gd, .bool (decide (s.left = 0))] 67) (by kernel_rfl) ?_
    refine then_n ?_
    refine wp_seq ?_
    refine wp_region_lit ?_
    refine pv (.bool (decide (s.left = 0))) ?_
    refine pv (pq gr) ?_
    refine wl_gv rfl (gv_call (args := #[.pointer (some ⟨gr, 0, none⟩)]) rfl Try.func82 (by kernel_rfl) rfl rfl (by kernel_rfl) ?_)
    have S6 : St F w0 w2 (RDisk gr s :: row g1 #[.int .i64 kind, .int .i64 at_, .slice A d.length cd, .slice A2 ps.length cp] 49 :: PDisk gd s :: L) := St.permT [row g1 #[.int .i64 kind, .int .i64 at_, .slice A d.length cd, .slice A2 ps.length cp] 49, PDisk gd s, RDisk gr s] [2, 0, 1] (by decide) rfl S4
    refine Calls.mono (rd_burnt S6) ?_
    rintro _ w7 ⟨rfl, S8⟩
    refine ⟨_, rfl, ?_⟩
    refine wl_gv rfl (gv_boolT (b := (decide (s.left = 0)) == (decide (s.left = 0))) (b' := true) (by kernel_rfl) (by simp) ?_)
    refine pv tv ?_
    refine wl_end (fr [pq gd, pq gr, .agg #[iv kind, iv at_, .slice A d.length cd, .slice A2 ps.length cp], ud, ud, pq g1, tv, .bool (decide (s.left = 0)), ud, ud, ud, ud, ud, pq g1, iv kind, tv, tv, pq gd, .bool (decide (s.left = 0)), .bool (decide (s.left = 0)), pq gr, .bool (decide (s.left = 0)), tv] 63) (by kernel_rfl) ?_
    refine then_n ?_
    refine wp_ret ?_
    refine inb_r ?_
    refine then_r ?_
    refine bodyPost_ret (v := .bool true) (results_t1 rfl (by kernel_rfl)) rfl ?_
    have S9 : St F w0 w7 (PDisk gd s :: RDisk gr s :: L) := St.permT [RDisk gr s, row g1 #[.int .i64 kind, .int .i64 at_, .slice A d.length cd, .slice A2 ps.length cp] 49, PDisk gd s] [2, 0] (by decide) rfl S8
    exact ⟨rfl, S9⟩
  · skip
    refine pv fv ?_
    refine wl_end (fr [pq gd, pq gr, .agg #[iv kind, iv at_, .slice A d.length cd, .slice A2 ps.length cp], ud, ud, pq g1, fv, ud, ud, ud, ud, ud, ud, pq g1, iv kind, fv, fv] 69) (by kernel_rfl) ?_
    refine then_n ?_
    refine wp_cond_false (by kernel_rfl) ?_
    refine wp_seq ?_
    refine wp_region_lit ?_
    refine wl_gv rfl (gv_eq (x := kind) (y := 8) (by kernel_rfl) (fun hb10 => ?_) (fun hb10 => ?_))
    · skip
      refine pv tv ?_
      refine wl_end (fr [pq gd, pq gr, .agg #[iv kind, iv at_, .slice A d.length cd, .slice A2 ps.length cp], ud, ud, pq g1, fv, ud, ud, ud, ud, ud, ud, pq g1, iv kind, fv, fv, ud, ud, ud, ud, ud, ud, tv, tv] 61) (by kernel_rfl) ?_
      refine then_n ?_
      refine wp_cond_true (by kernel_rfl) ?_
      refine wp_seq ?_
      refine wp_region_lit ?_
      refine pv (pq gd) ?_
      refine wl_gv rfl (gv_call (args := #[.pointer (some ⟨gd, 0, none⟩)]) rfl Try.func23 (by kernel_rfl) rfl rfl (by kernel_rfl) ?_)
      refine Calls.mono (pd_life S4 1 rfl) ?_
      rintro _ _ ⟨rfl, rfl⟩
      refine ⟨_, rfl, ?_⟩
      refine pv (iv s.life) ?_
      refine wl_end (fr [pq gd, pq gr, .agg #[iv kind, iv at_, .slice A d.length cd, .slice A2 ps.length cp], ud, ud, pq g1, fv, ud, iv s.life, ud, ud, ud, ud, pq g1, iv kind, fv, fv, ud, ud, ud, ud, ud, ud, tv, tv, pq gd, iv s.life] 59) (by kernel_rfl) ?_
      refine then_n ?_
      refine wp_seq ?_
      refine wp_region_lit ?_
      refine pv (iv s.life) ?_
      refine pv (pq gr) ?_
      refine wl_gv rfl (gv_call (args := #[.pointer (some ⟨gr, 0, none⟩)]) rfl Try.func83 (by kernel_rfl) rfl rfl (by kernel_rfl) ?_)
      have S11 : St F w0 w2 (RDisk gr s :: row g1 #[.int .i64 kind, .int .i64 at_, .slice A d.length cd, .slice A2 ps.length cp] 49 :: PDisk gd s :: L) := St.permT [row g1 #[.int .i64 kind, .int .i64 at_, .slice A d.length cd, .slice A2 ps.length cp] 49, PDisk gd s, RDisk gr s] [2, 0, 1] (by decide) rfl S4
      refine Calls.mono (rd_life S11) ?_
      rintro _ w12 ⟨rfl, S13⟩
      refine ⟨_, rfl, ?_⟩
      refine wl_gv rfl (gv_eq (x := s.life) (y := s.life) (by kernel_rfl) (fun _ => ?_) (fun hd14 => False.elim (hd14 rfl)))
      refine pv tv ?_
      refine wl_end (fr [pq gd, pq gr, .agg #[iv kind, iv at_, .slice A d.length cd, .slice A2 ps.length cp], ud, ud, pq g1, tv, ud, iv s.life, ud, ud, ud, ud, pq g1, iv kind, fv, fv, ud, ud, ud, ud, ud, ud, tv, tv, pq gd, iv s.life, iv s.life, pq gr, iv s.life, tv] 55) (by kernel_rfl) ?_
      refine then_n ?_
      refine wp_ret ?_
      refine inb_r ?_
      refine then_r ?_
      refine bodyPost_ret (v := .bool true) (results_t1 rfl (by kernel_rfl)) rfl ?_
      have S15 : St F w0 w12 (PDisk gd s :: RDisk gr s :: L) := St.permT [RDisk gr s, row g1 #[.int .i64 kind, .int .i64 at_, .slice A d.length cd, .slice A2 ps.length cp] 49, PDisk gd s] [2, 0] (by decide) rfl S13
      exact ⟨rfl, S15⟩
    · skip
      refine pv fv ?_
      refine wl_end (fr [pq gd, pq gr, .agg #[iv kind, iv at_, .slice A d.length cd, .slice A2 ps.length cp], ud, ud, pq g1, fv, ud, ud, ud, ud, ud, ud, pq g1, iv kind, fv, fv, ud, ud, ud, ud, ud, ud, fv, fv] 61) (by kernel_rfl) ?_
      refine then_n ?_
      refine wp_cond_false (by kernel_rfl) ?_
      refine wp_seq ?_
      refine wp_region_lit ?_
      refine wl_gv rfl (gv_eq (x := kind) (y := 9) (by kernel_rfl) (fun hb16 => ?_) (fun hb16 => ?_))
      · skip
        refine pv tv ?_
        refine wl_end (fr [pq gd, pq gr, .agg #[iv kind, iv at_, .slice A d.length cd, .slice A2 ps.length cp], ud, ud, pq g1, fv, ud, ud, ud, ud, ud, ud, pq g1, iv kind, fv, fv, ud, ud, ud, ud, ud, ud, fv, fv, ud, ud, ud, ud, ud, ud, tv, tv] 53) (by kernel_rfl) ?_
        refine then_n ?_
        refine wp_cond_true (by kernel_rfl) ?_
        refine wp_seq ?_
        refine wp_region_lit ?_
        refine pv (pq gd) ?_
        refine wl_gv rfl (gv_call (args := #[.pointer (some ⟨gd, 0, none⟩)]) rfl Try.func25 (by kernel_rfl) rfl rfl (by kernel_rfl) ?_)
        have S17 : St F w0 w2 (PDisk gd s :: row g1 #[.int .i64 kind, .int .i64 at_, .slice A d.length cd, .slice A2 ps.length cp] 49 :: RDisk gr s :: L) := St.permT [row g1 #[.int .i64 kind, .int .i64 at_, .slice A d.length cd, .slice A2 ps.length cp] 49, PDisk gd s, RDisk gr s] [1, 0, 2] (by decide) rfl S4
        refine Calls.mono (pd_image S17) ?_
        rintro _ w18 ⟨v, rfl, S19⟩
        obtain ⟨AI, rfl, S19'⟩ := St.bytes_eq S19
        refine ⟨_, rfl, ?_⟩
        refine pv (.slice AI s.last.flatten.length s.last.flatten.length) ?_
        refine wl_end (fr [pq gd, pq gr, .agg #[iv kind, iv at_, .slice A d.length cd, .slice A2 ps.length cp], ud, ud, pq g1, fv, ud, ud, .slice AI s.last.flatten.length s.last.flatten.length, ud, ud, ud, pq g1, iv kind, fv, fv, ud, ud, ud, ud, ud, ud, fv, fv, ud, ud, ud, ud, ud, ud, tv, tv, pq gd, .slice AI s.last.flatten.length s.last.flatten.length] 51) (by kernel_rfl) ?_
        refine then_n ?_
        refine wp_seq ?_
        refine wp_region_lit ?_
        refine pv (.slice AI s.last.flatten.length s.last.flatten.length) ?_
        refine pv (pq gr) ?_
        refine wl_gv rfl (gv_call (args := #[.pointer (some ⟨gr, 0, none⟩)]) rfl Try.func54 (by kernel_rfl) rfl rfl (by kernel_rfl) ?_)
        have S20 : St F w0 w18 (RDisk gr s :: bytesA (.slice AI s.last.flatten.length s.last.flatten.length) s.last.flatten :: PDisk gd s :: row g1 #[.int .i64 kind, .int .i64 at_, .slice A d.length cd, .slice A2 ps.length cp] 49 :: L) := St.permT [bytesA (.slice AI s.last.flatten.length s.last.flatten.length) s.last.flatten, PDisk gd s, row g1 #[.int .i64 kind, .int .i64 at_, .slice A d.length cd, .slice A2 ps.length cp] 49, RDisk gr s] [3, 0, 1, 2] (by decide) rfl S19'
        refine Calls.mono (rd_image S20) ?_
        rintro _ w21 ⟨v, rfl, S22⟩
        obtain ⟨AR, cR, rfl⟩ := St.vec_v S22 0 rfl
        refine ⟨_, rfl, ?_⟩
        refine wl_gv rfl (gv_call (args := #[.slice AI s.last.flatten.length s.last.flatten.length, .slice AR s.last.flatten.length cR]) rfl Try.func28 (by kernel_rfl) rfl rfl (by kernel_rfl) ?_)
        refine Calls.mono (same_b (decide_eq_true rfl) S22 (RoT.bytes 2 rfl rfl) (rot_vec 0 rfl) (by omega) (by omega)) ?_
        rintro _ w23 ⟨rfl, S24⟩
        refine ⟨_, rfl, ?_⟩
        refine pv tv ?_
        refine wl_end (fr [pq gd, pq gr, .agg #[iv kind, iv at_, .slice A d.length cd, .slice A2 ps.length cp], ud, ud, pq g1, tv, ud, ud, .slice AI s.last.flatten.length s.last.flatten.length, ud, ud, ud, pq g1, iv kind, fv, fv, ud, ud, ud, ud, ud, ud, fv, fv, ud, ud, ud, ud, ud, ud, tv, tv, pq gd, .slice AI s.last.flatten.length s.last.flatten.length, .slice AI s.last.flatten.length s.last.flatten.length, pq gr, .slice AR s.last.flatten.length cR, tv] 47) (by kernel_rfl) ?_
        refine then_n ?_
        refine wp_ret ?_
        refine inb_r ?_
        refine then_r ?_
        refine bodyPost_ret (v := .bool true) (results_t1 rfl (by kernel_rfl)) rfl ?_
        have S25 : St F w0 w23 (PDisk gd s :: RDisk gr s :: L) := St.permT [vec 5 1 (.slice AR s.last.flatten.length cR) s.last.flatten.length (s.last.flatten.map bv), RDisk gr s, bytesA (.slice AI s.last.flatten.length s.last.flatten.length) s.last.flatten, PDisk gd s, row g1 #[.int .i64 kind, .int .i64 at_, .slice A d.length cd, .slice A2 ps.length cp] 49] [3, 1] (by decide) rfl S24
        exact ⟨rfl, S25⟩
      · skip
        refine pv fv ?_
        refine wl_end (fr [pq gd, pq gr, .agg #[iv kind, iv at_, .slice A d.length cd, .slice A2 ps.length cp], ud, ud, pq g1, fv, ud, ud, ud, ud, ud, ud, pq g1, iv kind, fv, fv, ud, ud, ud, ud, ud, ud, fv, fv, ud, ud, ud, ud, ud, ud, fv, fv] 53) (by kernel_rfl) ?_
        refine then_n ?_
        refine wp_cond_false (by kernel_rfl) ?_
        refine wp_seq ?_
        refine wp_region_lit ?_
        refine wl_gv rfl (gv_eq (x := kind) (y := 10) (by kernel_rfl) (fun hb26 => ?_) (fun hb26 => ?_))
        · skip
          refine pv tv ?_
          refine wl_end (fr [pq gd, pq gr, .agg #[iv kind, iv at_, .slice A d.length cd, .slice A2 ps.length cp], ud, ud, pq g1, fv, ud, ud, ud, ud, ud, ud, pq g1, iv kind, fv, fv, ud, ud, ud, ud, ud, ud, fv, fv, ud, ud, ud, ud, ud, ud, fv, fv, ud, ud, ud, ud, ud, ud, tv, tv] 45) (by kernel_rfl) ?_
          refine then_n ?_
          refine wp_cond_true (by kernel_rfl) ?_
          refine wp_seq ?_
          refine wp_region_lit ?_
          refine pv (pq gd) ?_
          refine wl_gv rfl (gv_call (args := #[.pointer (some ⟨gd, 0, none⟩)]) rfl Try.func24 (by kernel_rfl) rfl rfl (by kernel_rfl) ?_)
          have S27 : St F w0 w2 (PDisk gd s :: row g1 #[.int .i64 kind, .int .i64 at_, .slice A d.length cd, .slice A2 ps.length cp] 49 :: RDisk gr s :: L) := St.permT [row g1 #[.int .i64 kind, .int .i64 at_, .slice A d.length cd, .slice A2 ps.length cp] 49, PDisk gd s, RDisk gr s] [1, 0, 2] (by decide) rfl S4
          refine Calls.mono (pd_counts S27) ?_
          rintro _ w28 ⟨rfl, S29⟩
          refine ⟨_, rfl, ?_⟩
          refine wl_gv rfl (gv_new (z := .agg #[.int .i64 0, .int .i64 0, .int .i64 0, .int .i64 0, .int .i64 0]) S29 rfl (by kernel_rfl) (fun g30 w31 hg32 S33 => ?_))
          refine wl_gv rfl (gv_stA (k := 0) (vs := [.int .i64 s.rd, .int .i64 s.wr, .int .i64 s.fl, .int .i64 s.rf, .int .i64 (s.pend.length : Int)]) S33 0 rfl rfl (by kernel_rfl) (by kernel_rfl) (by kernel_rfl) rfl (by simp [Value.oneCell']) (Nat.le_of_ble_eq_true (by kernel_rfl)) (L' := (row g30 #[.int .i64 s.rd, .int .i64 s.wr, .int .i64 s.fl, .int .i64 s.rf, .int .i64 (s.pend.length : Int)] 29 :: PDisk gd s :: row g1 #[.int .i64 kind, .int .i64 at_, .slice A d.length cd, .slice A2 ps.length cp] 49 :: RDisk gr s :: L)) rfl (fun w34 S35 => ?_))
          refine wl_end (fr [pq gd, pq gr, .agg #[iv kind, iv at_, .slice A d.length cd, .slice A2 ps.length cp], ud, ud, pq g1, fv, ud, ud, ud, pq g30, ud, ud, pq g1, iv kind, fv, fv, ud, ud, ud, ud, ud, ud, fv, fv, ud, ud, ud, ud, ud, ud, fv, fv, ud, ud, ud, ud, ud, ud, tv, tv, pq gd, .agg #[iv s.rd, iv s.wr, iv s.fl, iv s.rf, iv (s.pend.length : Int)]] 43) (by kernel_rfl) ?_
          refine then_n ?_
          refine wp_seq ?_
          refine wp_region_lit ?_
          refine pv (pq gr) ?_
          refine wl_gv rfl (gv_call (args := #[.pointer (some ⟨gr, 0, none⟩)]) rfl Try.func84 (by kernel_rfl) rfl rfl (by kernel_rfl) ?_)
          have S36 : St F w0 w34 (RDisk gr s :: row g30 #[.int .i64 s.rd, .int .i64 s.wr, .int .i64 s.fl, .int .i64 s.rf, .int .i64 (s.pend.length : Int)] 29 :: PDisk gd s :: row g1 #[.int .i64 kind, .int .i64 at_, .slice A d.length cd, .slice A2 ps.length cp] 49 :: L) := St.permT [row g30 #[.int .i64 s.rd, .int .i64 s.wr, .int .i64 s.fl, .int .i64 s.rf, .int .i64 (s.pend.length : Int)] 29, PDisk gd s, row g1 #[.int .i64 kind, .int .i64 at_, .slice A d.length cd, .slice A2 ps.length cp] 49, RDisk gr s] [3, 0, 1, 2] (by decide) rfl S35
          refine Calls.mono (rd_counts S36) ?_
          rintro _ w37 ⟨rfl, S38⟩
          refine ⟨_, rfl, ?_⟩
          refine wl_gv rfl (gv_new (z := .agg #[.int .i64 0, .int .i64 0, .int .i64 0, .int .i64 0, .int .i64 0]) S38 rfl (by kernel_rfl) (fun g39 w40 hg41 S42 => ?_))
          refine wl_gv rfl (gv_stA (k := 0) (vs := [.int .i64 s.rd, .int .i64 s.wr, .int .i64 s.fl, .int .i64 s.rf, .int .i64 (s.pend.length : Int)]) S42 0 rfl rfl (by kernel_rfl) (by kernel_rfl) (by kernel_rfl) rfl (by simp [Value.oneCell']) (Nat.le_of_ble_eq_true (by kernel_rfl)) (L' := (row g39 #[.int .i64 s.rd, .int .i64 s.wr, .int .i64 s.fl, .int .i64 s.rf, .int .i64 (s.pend.length : Int)] 29 :: RDisk gr s :: row g30 #[.int .i64 s.rd, .int .i64 s.wr, .int .i64 s.fl, .int .i64 s.rf, .int .i64 (s.pend.length : Int)] 29 :: PDisk gd s :: row g1 #[.int .i64 kind, .int .i64 at_, .slice A d.length cd, .slice A2 ps.length cp] 49 :: L)) rfl (fun w43 S44 => ?_))
          refine wl_end (fr [pq gd, pq gr, .agg #[iv kind, iv at_, .slice A d.length cd, .slice A2 ps.length cp], ud, ud, pq g1, fv, ud, ud, ud, pq g30, pq g39, ud, pq g1, iv kind, fv, fv, ud, ud, ud, ud, ud, ud, fv, fv, ud, ud, ud, ud, ud, ud, fv, fv, ud, ud, ud, ud, ud, ud, tv, tv, pq gd, .agg #[iv s.rd, iv s.wr, iv s.fl, iv s.rf, iv (s.pend.length : Int)], pq gr, .agg #[iv s.rd, iv s.wr, iv s.fl, iv s.rf, iv (s.pend.length : Int)]] 41) (by kernel_rfl) ?_
          refine then_n ?_
          refine wp_seq ?_
          refine wp_region_lit ?_
          refine pv (pq g30) ?_
          refine wl_gv rfl (gv_ldR (v := .int .i64 s.rd) rfl (by kernel_rfl) (by kernel_rfl) (((S44.blk 2 rfl).cell 0).trans rfl) ?_)
          refine pv (pq g39) ?_
          refine wl_gv rfl (gv_ldR (v := .int .i64 s.rd) rfl (by kernel_rfl) (by kernel_rfl) (((S44.blk 0 rfl).cell 0).trans rfl) ?_)
          refine wl_gv rfl (gv_eq (x := s.rd) (y := s.rd) (by kernel_rfl) (fun _ => ?_) (fun hd45 => False.elim (hd45 rfl)))
          refine pv tv ?_
          refine wl_when (by kernel_rfl) (gv_val (v := .pointer (some ⟨g30, 1, none⟩)) (w' := w43) (by kernel_rfl) ?_)
          refine wl_when (by kernel_rfl) (gv_ldR (v := .int .i64 s.wr) rfl (by kernel_rfl) (by kernel_rfl) (((S44.blk 2 rfl).cell 1).trans rfl) ?_)
          refine wl_when (by kernel_rfl) (gv_val (v := .pointer (some ⟨g39, 1, none⟩)) (w' := w43) (by kernel_rfl) ?_)
          refine wl_when (by kernel_rfl) (gv_ldR (v := .int .i64 s.wr) rfl (by kernel_rfl) (by kernel_rfl) (((S44.blk 0 rfl).cell 1).trans rfl) ?_)
          refine wl_when (by kernel_rfl) (gv_eq (x := s.wr) (y := s.wr) (by kernel_rfl) (fun _ => ?_) (fun hd46 => False.elim (hd46 rfl)))
          refine pv tv ?_
          refine pv tv ?_
          refine wl_when (by kernel_rfl) (gv_val (v := .pointer (some ⟨g30, 2, none⟩)) (w' := w43) (by kernel_rfl) ?_)
          refine wl_when (by kernel_rfl) (gv_ldR (v := .int .i64 s.fl) rfl (by kernel_rfl) (by kernel_rfl) (((S44.blk 2 rfl).cell 2).trans rfl) ?_)
          refine wl_when (by kernel_rfl) (gv_val (v := .pointer (some ⟨g39, 2, none⟩)) (w' := w43) (by kernel_rfl) ?_)
          refine wl_when (by kernel_rfl) (gv_ldR (v := .int .i64 s.fl) rfl (by kernel_rfl) (by kernel_rfl) (((S44.blk 0 rfl).cell 2).trans rfl) ?_)
          refine wl_when (by kernel_rfl) (gv_eq (x := s.fl) (y := s.fl) (by kernel_rfl) (fun _ => ?_) (fun hd47 => False.elim (hd47 rfl)))
          refine pv tv ?_
          refine pv tv ?_
          refine wl_when (by kernel_rfl) (gv_val (v := .pointer (some ⟨g30, 3, none⟩)) (w' := w43) (by kernel_rfl) ?_)
          refine wl_when (by kernel_rfl) (gv_ldR (v := .int .i64 s.rf) rfl (by kernel_rfl) (by kernel_rfl) (((S44.blk 2 rfl).cell 3).trans rfl) ?_)
          refine wl_when (by kernel_rfl) (gv_val (v := .pointer (some ⟨g39, 3, none⟩)) (w' := w43) (by kernel_rfl) ?_)
          refine wl_when (by kernel_rfl) (gv_ldR (v := .int .i64 s.rf) rfl (by kernel_rfl) (by kernel_rfl) (((S44.blk 0 rfl).cell 3).trans rfl) ?_)
          refine wl_when (by kernel_rfl) (gv_eq (x := s.rf) (y := s.rf) (by kernel_rfl) (fun _ => ?_) (fun hd48 => False.elim (hd48 rfl)))
          refine pv tv ?_
          refine pv tv ?_
          refine wl_when (by kernel_rfl) (gv_val (v := .pointer (some ⟨g30, 4, none⟩)) (w' := w43) (by kernel_rfl) ?_)
          refine wl_when (by kernel_rfl) (gv_ldR (v := .int .i64 (s.pend.length : Int)) rfl (by kernel_rfl) (by kernel_rfl) (((S44.blk 2 rfl).cell 4).trans rfl) ?_)
          refine wl_when (by kernel_rfl) (gv_val (v := .pointer (some ⟨g39, 4, none⟩)) (w' := w43) (by kernel_rfl) ?_)
          refine wl_when (by kernel_rfl) (gv_ldR (v := .int .i64 (s.pend.length : Int)) rfl (by kernel_rfl) (by kernel_rfl) (((S44.blk 0 rfl).cell 4).trans rfl) ?_)
          refine wl_when (by kernel_rfl) (gv_eq (x := (s.pend.length : Int)) (y := (s.pend.length : Int)) (by kernel_rfl) (fun _ => ?_) (fun hd49 => False.elim (hd49 rfl)))
          refine pv tv ?_
          refine pv tv ?_
          refine wl_end (fr [pq gd, pq gr, .agg #[iv kind, iv at_, .slice A d.length cd, .slice A2 ps.length cp], ud, ud, pq g1, tv, ud, ud, ud, pq g30, pq g39, ud, pq g1, iv kind, fv, fv, ud, ud, ud, ud, ud, ud, fv, fv, ud, ud, ud, ud, ud, ud, fv, fv, ud, ud, ud, ud, ud, ud, tv, tv, pq gd, .agg #[iv s.rd, iv s.wr, iv s.fl, iv s.rf, iv (s.pend.length : Int)], pq gr, .agg #[iv s.rd, iv s.wr, iv s.fl, iv s.rf, iv (s.pend.length : Int)], pq g30, iv s.rd, pq g39, iv s.rd, tv, tv, po g30 1, iv s.wr, po g39 1, iv s.wr, tv, tv, tv, po g30 2, iv s.fl, po g39 2, iv s.fl, tv, tv, tv, po g30 3, iv s.rf, po g39 3, iv s.rf, tv, tv, tv, po g30 4, iv (s.pend.length : Int), po g39 4, iv (s.pend.length : Int), tv, tv] 8) (by kernel_rfl) ?_
          refine then_n ?_
          refine wp_ret ?_
          refine inb_r ?_
          refine then_r ?_
          refine bodyPost_ret (v := .bool true) (results_t1 rfl (by kernel_rfl)) rfl ?_
          have S50 : St F w0 w43 (PDisk gd s :: RDisk gr s :: L) := St.permT [row g39 #[.int .i64 s.rd, .int .i64 s.wr, .int .i64 s.fl, .int .i64 s.rf, .int .i64 (s.pend.length : Int)] 29, RDisk gr s, row g30 #[.int .i64 s.rd, .int .i64 s.wr, .int .i64 s.fl, .int .i64 s.rf, .int .i64 (s.pend.length : Int)] 29, PDisk gd s, row g1 #[.int .i64 kind, .int .i64 at_, .slice A d.length cd, .slice A2 ps.length cp] 49] [3, 1] (by decide) rfl S44
          exact ⟨rfl, S50⟩
        · skip
          refine pv fv ?_
          refine wl_end (fr [pq gd, pq gr, .agg #[iv kind, iv at_, .slice A d.length cd, .slice A2 ps.length cp], ud, ud, pq g1, fv, ud, ud, ud, ud, ud, ud, pq g1, iv kind, fv, fv, ud, ud, ud, ud, ud, ud, fv, fv, ud, ud, ud, ud, ud, ud, fv, fv, ud, ud, ud, ud, ud, ud, fv, fv] 45) (by kernel_rfl) ?_
          refine then_n ?_
          refine wp_cond_false (by kernel_rfl) ?_
          refine wp_seq ?_
          refine wp_region_lit ?_
          refine wl_gv rfl (gv_eq (x := kind) (y := 11) (by kernel_rfl) (fun hb51 => ?_) (fun hb51 => ?_))
          · skip
            refine pv tv ?_
            refine wl_end (fr [pq gd, pq gr, .agg #[iv kind, iv at_, .slice A d.length cd, .slice A2 ps.length cp], ud, ud, pq g1, fv, ud, ud, ud, ud, ud, ud, pq g1, iv kind, fv, fv, ud, ud, ud, ud, ud, ud, fv, fv, ud, ud, ud, ud, ud, ud, fv, fv, ud, ud, ud, ud, ud, ud, fv, fv, ud, ud, ud, ud, ud, ud, ud, ud, ud, ud, ud, ud, ud, ud, ud, ud, ud, ud, ud, ud, ud, ud, ud, ud, ud, ud, ud, ud, ud, ud, ud, ud, ud, ud, ud, ud, ud, tv, tv] 6) (by kernel_rfl) ?_
            refine then_n ?_
            refine wp_cond_true (by kernel_rfl) ?_
            refine wp_seq ?_
            refine wp_region_lit ?_
            refine pv (pq gd) ?_
            refine wl_gv rfl (gv_call (args := #[.pointer (some ⟨gd, 0, none⟩)]) rfl Try.func21 (by kernel_rfl) rfl rfl (by kernel_rfl) ?_)
            refine Calls.mono (pd_sectors S4 1 rfl) ?_
            rintro _ _ ⟨rfl, rfl⟩
            refine ⟨_, rfl, ?_⟩
            refine pv (iv (s.last.length : Int)) ?_
            refine wl_end (fr [pq gd, pq gr, .agg #[iv kind, iv at_, .slice A d.length cd, .slice A2 ps.length cp], ud, ud, pq g1, fv, ud, ud, ud, ud, ud, iv (s.last.length : Int), pq g1, iv kind, fv, fv, ud, ud, ud, ud, ud, ud, fv, fv, ud, ud, ud, ud, ud, ud, fv, fv, ud, ud, ud, ud, ud, ud, fv, fv, ud, ud, ud, ud, ud, ud, ud, ud, ud, ud, ud, ud, ud, ud, ud, ud, ud, ud, ud, ud, ud, ud, ud, ud, ud, ud, ud, ud, ud, ud, ud, ud, ud, ud, ud, ud, ud, tv, tv, pq gd, iv (s.last.length : Int)] 4) (by kernel_rfl) ?_
            refine then_n ?_
            refine wp_seq ?_
            refine wp_region_lit ?_
            refine pv (iv (s.last.length : Int)) ?_
            refine pv (pq gr) ?_
            refine wl_gv rfl (gv_call (args := #[.pointer (some ⟨gr, 0, none⟩)]) rfl Try.func85 (by kernel_rfl) rfl rfl (by kernel_rfl) ?_)
            have S52 : St F w0 w2 (RDisk gr s :: row g1 #[.int .i64 kind, .int .i64 at_, .slice A d.length cd, .slice A2 ps.length cp] 49 :: PDisk gd s :: L) := St.permT [row g1 #[.int .i64 kind, .int .i64 at_, .slice A d.length cd, .slice A2 ps.length cp] 49, PDisk gd s, RDisk gr s] [2, 0, 1] (by decide) rfl S4
            refine Calls.mono (rd_sectors S52) ?_
            rintro _ w53 ⟨rfl, S54⟩
            refine ⟨_, rfl, ?_⟩
            refine wl_gv rfl (gv_eq (x := (s.last.length : Int)) (y := (s.last.length : Int)) (by kernel_rfl) (fun _ => ?_) (fun hd55 => False.elim (hd55 rfl)))
            refine pv tv ?_
            refine wl_end (fr [pq gd, pq gr, .agg #[iv kind, iv at_, .slice A d.length cd, .slice A2 ps.length cp], ud, ud, pq g1, tv, ud, ud, ud, ud, ud, iv (s.last.length : Int), pq g1, iv kind, fv, fv, ud, ud, ud, ud, ud, ud, fv, fv, ud, ud, ud, ud, ud, ud, fv, fv, ud, ud, ud, ud, ud, ud, fv, fv, ud, ud, ud, ud, ud, ud, ud, ud, ud, ud, ud, ud, ud, ud, ud, ud, ud, ud, ud, ud, ud, ud, ud, ud, ud, ud, ud, ud, ud, ud, ud, ud, ud, ud, ud, ud, ud, tv, tv, pq gd, iv (s.last.length : Int), iv (s.last.length : Int), pq gr, iv (s.last.length : Int), tv] 0) (by kernel_rfl) ?_
            refine then_n ?_
            refine wp_ret ?_
            refine inb_r ?_
            refine then_r ?_
            refine bodyPost_ret (v := .bool true) (results_t1 rfl (by kernel_rfl)) rfl ?_
            have S56 : St F w0 w53 (PDisk gd s :: RDisk gr s :: L) := St.permT [RDisk gr s, row g1 #[.int .i64 kind, .int .i64 at_, .slice A d.length cd, .slice A2 ps.length cp] 49, PDisk gd s] [2, 0] (by decide) rfl S54
            exact ⟨rfl, S56⟩
          · skip
            refine pv fv ?_
            refine wl_end (fr [pq gd, pq gr, .agg #[iv kind, iv at_, .slice A d.length cd, .slice A2 ps.length cp], ud, ud, pq g1, fv, ud, ud, ud, ud, ud, ud, pq g1, iv kind, fv, fv, ud, ud, ud, ud, ud, ud, fv, fv, ud, ud, ud, ud, ud, ud, fv, fv, ud, ud, ud, ud, ud, ud, fv, fv, ud, ud, ud, ud, ud, ud, ud, ud, ud, ud, ud, ud, ud, ud, ud, ud, ud, ud, ud, ud, ud, ud, ud, ud, ud, ud, ud, ud, ud, ud, ud, ud, ud, ud, ud, ud, ud, fv, fv] 6) (by kernel_rfl) ?_
            refine then_n ?_
            refine wp_cond_false (by kernel_rfl) ?_
            refine wp_skip ?_
            refine inb_n ?_
            refine then_n ?_
            refine wp_seq ?_
            refine wp_region_lit ?_
            refine pv tv ?_
            refine wl_end (fr [pq gd, pq gr, .agg #[iv kind, iv at_, .slice A d.length cd, .slice A2 ps.length cp], ud, ud, pq g1, tv, ud, ud, ud, ud, ud, ud, pq g1, iv kind, fv, fv, ud, ud, ud, ud, ud, ud, fv, fv, ud, ud, ud, ud, ud, ud, fv, fv, ud, ud, ud, ud, ud, ud, fv, fv, ud, ud, ud, ud, ud, ud, ud, ud, ud, ud, ud, ud, ud, ud, ud, ud, ud, ud, ud, ud, ud, ud, ud, ud, ud, ud, ud, ud, ud, ud, ud, ud, ud, ud, ud, ud, ud, fv, fv] 6) (by kernel_rfl) ?_
            refine then_n ?_
            refine wp_ret ?_
            refine bodyPost_ret (v := .bool true) (results_t1 rfl (by kernel_rfl)) rfl ?_
            have S57 : St F w0 w2 (PDisk gd s :: RDisk gr s :: L) := St.permT [row g1 #[.int .i64 kind, .int .i64 at_, .slice A d.length cd, .slice A2 ps.length cp] 49, PDisk gd s, RDisk gr s] [1, 2] (by decide) rfl S4
            exact ⟨rfl, S57⟩
theorem readR_pend (s : Dsk) (a : Int) : (s.readR a).1.pend = s.pend := by 
  unfold Dsk.readR
  split
  · rfl
  · split <;> rfl
theorem writeR_pend (s : Dsk) (a : Int) (d : List UInt8) : (s.writeR a d).1.pend.length ≤ s.pend.length + 1 := by
  unfold Dsk.writeR
  split
  · exact Nat.le_succ _
  · split
    · exact Nat.le_succ _
    · split
      · exact Nat.le_succ _
      · show (s.pend ++ [_]).length ≤ _; rw [List.length_append]; exact Nat.le_refl _
theorem flushR_pend (s : Dsk) : s.flushR.1.pend.length ≤ s.pend.length + 1 := by 
  unfold Dsk.flushR
  split
  · exact Nat.le_succ _
  · exact Nat.zero_le _
theorem fuseR_pend (s : Dsk) (n : Int) : (s.fuseR n).pend.length ≤ s.pend.length + 1 := by unfold Dsk.fuseR; split <;> exact Nat.le_succ _
theorem St.readR_len {F : Nat → Prop} {w0 w : World} {L : List Ast} {g : Nat} {s : Dsk} (S : St F w0 w (PDisk g s :: L)) (a : Int) : (s.readR a).2.1.length ≤ 9223372036854775807 := by
  obtain ⟨gd, gm, clock, es, fused, left, hf, _⟩ := St.popen S
  unfold Dsk.readR
  split
  · exact Nat.zero_le _
  · split
    · exact Nat.zero_le _
    · rename_i h1 h2
      have hk : a.toNat < s.last.length := by omega
      show (s.now a.toNat).length ≤ _
      unfold Dsk.now
      split
      · rename_i d hd
        have hm := List.mem_of_getLast? hd
        unfold pendOf at hm
        obtain ⟨y, hy, rfl⟩ := List.mem_map.1 hm
        have := (hf.plen y (List.mem_filter.1 hy).1).1; omega
      · have := hf.len _ (List.mem_of_getElem? (mem_getD hk)); omega
theorem step_all {F : Nat → Prop} {w0 w : World} {L : List Ast} {gd gr : Nat} {s : Dsk} {kind at_ : Int} {A A2 : Option Addr} {d : List UInt8} {ps : List Pick} {cd cp : Nat} (S : St F w0 w (PDisk gd s :: RDisk gr s :: L)) (hd : RoT F w0 L A d) (hp : RoV F w0 L A2 (picksV ps)) (hat : at_ ≤ 9223372036854775807) (hdm : d.length ≤ 140737488355328) (hpm : ps.length * 24 ≤ 140737488355328) (hpn : s.pend.length < 4398046511104) :
    Calls Try.prog 32 #[.pointer (some ⟨gd, 0, none⟩), .pointer (some ⟨gr, 0, none⟩), .agg #[.int .i64 kind, .int .i64 at_, .slice A d.length cd, .slice A2 ps.length cp]] w fun e w' => e = .returned (.bool true) ∧ ∃ s', St F w0 w' (PDisk gd s' :: RDisk gr s' :: L) ∧ s'.pend.length ≤ s.pend.length + 1 := by
  have hrl := St.readR_len S at_
  refine wp_enter (fr [pq gd, pq gr, .agg #[iv kind, iv at_, .slice A d.length cd, .slice A2 ps.length cp]] 99) Try.func32 rfl (by kernel_rfl) ?_
  refine wp_seq ?_
  refine wp_region_lit ?_
  refine wl_gv rfl (gv_box (v := .agg #[.int .i64 kind, .int .i64 at_, .slice A d.length cd, .slice A2 ps.length cp]) S rfl (by kernel_rfl) (fun g1 w2 hg3 S4 => ?_))
  refine pv fv ?_
  refine wl_end (fr [pq gd, pq gr, .agg #[iv kind, iv at_, .slice A d.length cd, .slice A2 ps.length cp], ud, ud, pq g1, fv] 95) (by kernel_rfl) ?_
  refine then_n ?_
  refine wp_seq ?_
  refine wp_seq ?_
  refine wp_region_lit ?_
  refine pv (pq g1) ?_
  refine wl_gv rfl (gv_ldR (v := .int .i64 kind) rfl (by kernel_rfl) (by kernel_rfl) (((S4.blk 0 rfl).cell 0).trans rfl) ?_)
  refine wl_end (fr [pq gd, pq gr, .agg #[iv kind, iv at_, .slice A d.length cd, .slice A2 ps.length cp], ud, ud, pq g1, fv, ud, ud, ud, ud, ud, ud, ud, ud, ud, pq g1, iv kind] 84) (by kernel_rfl) ?_
  refine then_n ?_
  refine wp_block ?_
  refine wp_seq ?_
  refine wp_region_lit ?_
  refine wl_gv rfl (gv_eq (x := kind) (y := 1) (by kernel_rfl) (fun hb5 => ?_) (fun hb5 => ?_))
  · skip
    refine pv tv ?_
    refine wl_end (fr [pq gd, pq gr, .agg #[iv kind, iv at_, .slice A d.length cd, .slice A2 ps.length cp], ud, ud, pq g1, fv, ud, ud, ud, ud, ud, ud, ud, ud, ud, pq g1, iv kind, tv, tv] 82) (by kernel_rfl) ?_
    refine then_n ?_
    refine wp_cond_true (by kernel_rfl) ?_
    refine wp_seq ?_
    refine wp_region_lit ?_
    refine pv (pq gd) ?_
    refine pv (po g1 1) ?_
    refine wl_gv rfl (gv_ldR (v := .int .i64 at_) rfl (by kernel_rfl) (by kernel_rfl) (((S4.blk 0 rfl).cell 1).trans rfl) ?_)
    refine wl_gv rfl (gv_call (args := #[.pointer (some ⟨gd, 0, none⟩), .int .i64 at_]) rfl Try.func29 (by kernel_rfl) rfl rfl (by kernel_rfl) ?_)
    have S6 : St F w0 w2 (PDisk gd s :: row g1 #[.int .i64 kind, .int .i64 at_, .slice A d.length cd, .slice A2 ps.length cp] 49 :: RDisk gr s :: L) := St.permT [row g1 #[.int .i64 kind, .int .i64 at_, .slice A d.length cd, .slice A2 ps.length cp] 49, PDisk gd s, RDisk gr s] [1, 0, 2] (by decide) rfl S4
    refine Calls.mono (pd_read S6) ?_
    rintro _ w7 ⟨v, rfl, S8⟩
    obtain ⟨AP, rfl, S8'⟩ := St.bytes_eq S8
    refine ⟨_, rfl, ?_⟩
    refine pv (.tuple #[.slice AP ((s.readR at_).2.1.length) ((s.readR at_).2.1.length), iv ((s.readR at_).2.2)]) ?_
    refine pv (.slice AP ((s.readR at_).2.1.length) ((s.readR at_).2.1.length)) ?_
    refine pv (iv ((s.readR at_).2.2)) ?_
    refine pv (.slice AP ((s.readR at_).2.1.length) ((s.readR at_).2.1.length)) ?_
    refine pv (iv ((s.readR at_).2.2)) ?_
    refine wl_end (fr [pq gd, pq gr, .agg #[iv kind, iv at_, .slice A d.length cd, .slice A2 ps.length cp], ud, ud, pq g1, fv, .slice AP ((s.readR at_).2.1.length) ((s.readR at_).2.1.length), iv ((s.readR at_).2.2), ud, ud, ud, ud, ud, ud, ud, pq g1, iv kind, tv, tv, .tuple #[.slice AP ((s.readR at_).2.1.length) ((s.readR at_).2.1.length), iv ((s.readR at_).2.2)], pq gd, po g1 1, iv at_, .tuple #[.slice AP ((s.readR at_).2.1.length) ((s.readR at_).2.1.length), iv ((s.readR at_).2.2)], .slice AP ((s.readR at_).2.1.length) ((s.readR at_).2.1.length), iv ((s.readR at_).2.2)] 75) (by kernel_rfl) ?_
    refine then_n ?_
    refine wp_seq ?_
    refine wp_region_lit ?_
    refine pv (pq gr) ?_
    refine pv (po g1 1) ?_
    refine wl_gv rfl (gv_ldR (v := .int .i64 at_) rfl (by kernel_rfl) (by kernel_rfl) (((S8'.blk 2 rfl).cell 1).trans rfl) ?_)
    refine wl_gv rfl (gv_call (args := #[.pointer (some ⟨gr, 0, none⟩), .int .i64 at_]) rfl Try.func50 (by kernel_rfl) rfl rfl (by kernel_rfl) ?_)
    have S9 : St F w0 w7 (RDisk gr s :: bytesA (.slice AP ((s.readR at_).2.1.length) ((s.readR at_).2.1.length)) (s.readR at_).2.1 :: PDisk gd (s.readR at_).1 :: row g1 #[.int .i64 kind, .int .i64 at_, .slice A d.length cd, .slice A2 ps.length cp] 49 :: L) := St.permT [bytesA (.slice AP ((s.readR at_).2.1.length) ((s.readR at_).2.1.length)) (s.readR at_).2.1, PDisk gd (s.readR at_).1, row g1 #[.int .i64 kind, .int .i64 at_, .slice A d.length cd, .slice A2 ps.length cp] 49, RDisk gr s] [3, 0, 1, 2] (by decide) rfl S8'
    refine Calls.mono (rd_read S9) ?_
    rintro _ w10 ⟨v, rfl, S11⟩
    obtain ⟨AQ, rfl, S11'⟩ := St.bytes_eq S11
    refine ⟨_, rfl, ?_⟩
    refine pv (.tuple #[.slice AQ ((s.readR at_).2.1.length) ((s.readR at_).2.1.length), iv ((s.readR at_).2.2)]) ?_
    refine pv (.slice AQ ((s.readR at_).2.1.length) ((s.readR at_).2.1.length)) ?_
    refine pv (iv ((s.readR at_).2.2)) ?_
    refine pv (.slice AQ ((s.readR at_).2.1.length) ((s.readR at_).2.1.length)) ?_
    refine pv (iv ((s.readR at_).2.2)) ?_
    refine wl_end (fr [pq gd, pq gr, .agg #[iv kind, iv at_, .slice A d.length cd, .slice A2 ps.length cp], ud, ud, pq g1, fv, .slice AP ((s.readR at_).2.1.length) ((s.readR at_).2.1.length), iv ((s.readR at_).2.2), .slice AQ ((s.readR at_).2.1.length) ((s.readR at_).2.1.length), iv ((s.readR at_).2.2), ud, ud, ud, ud, ud, pq g1, iv kind, tv, tv, .tuple #[.slice AP ((s.readR at_).2.1.length) ((s.readR at_).2.1.length), iv ((s.readR at_).2.2)], pq gd, po g1 1, iv at_, .tuple #[.slice AP ((s.readR at_).2.1.length) ((s.readR at_).2.1.length), iv ((s.readR at_).2.2)], .slice AP ((s.readR at_).2.1.length) ((s.readR at_).2.1.length), iv ((s.readR at_).2.2), .tuple #[.slice AQ ((s.readR at_).2.1.length) ((s.readR at_).2.1.length), iv ((s.readR at_).2.2)], pq gr, po g1 1, iv at_, .tuple #[.slice AQ ((s.readR at_).2.1.length) ((s.readR at_).2.1.length), iv ((s.readR at_).2.2)], .slice AQ ((s.readR at_).2.1.length) ((s.readR at_).2.1.length), iv ((s.readR at_).2.2)] 68) (by kernel_rfl) ?_
    refine then_n ?_
    refine wp_seq ?_
    refine wp_region_lit ?_
    refine pv (iv ((s.readR at_).2.2)) ?_
    refine pv (iv ((s.readR at_).2.2)) ?_
    refine wl_gv rfl (gv_eq (x := ((s.readR at_).2.2)) (y := ((s.readR at_).2.2)) (by kernel_rfl) (fun _ => ?_) (fun hd12 => False.elim (hd12 rfl)))
    refine pv tv ?_
    refine wl_when (by kernel_rfl) (gv_val (v := .slice AP ((s.readR at_).2.1.length) ((s.readR at_).2.1.length)) (w' := w10) (by kernel_rfl) ?_)
    refine wl_when (by kernel_rfl) (gv_val (v := .slice AQ ((s.readR at_).2.1.length) ((s.readR at_).2.1.length)) (w' := w10) (by kernel_rfl) ?_)
    refine wl_when (by kernel_rfl) (gv_call (args := #[.slice AP ((s.readR at_).2.1.length) ((s.readR at_).2.1.length), .slice AQ ((s.readR at_).2.1.length) ((s.readR at_).2.1.length)]) rfl Try.func28 (by kernel_rfl) rfl rfl (by kernel_rfl) ?_)
    refine Calls.mono (same_b (decide_eq_true rfl) S11' (RoT.bytes 2 rfl rfl) (RoT.bytes 0 rfl rfl) hrl hrl) ?_
    rintro _ w13 ⟨rfl, S14⟩
    refine ⟨_, rfl, ?_⟩
    refine pv tv ?_
    refine pv tv ?_
    refine wl_end (fr [pq gd, pq gr, .agg #[iv kind, iv at_, .slice A d.length cd, .slice A2 ps.length cp], ud, ud, pq g1, tv, .slice AP ((s.readR at_).2.1.length) ((s.readR at_).2.1.length), iv ((s.readR at_).2.2), .slice AQ ((s.readR at_).2.1.length) ((s.readR at_).2.1.length), iv ((s.readR at_).2.2), ud, ud, ud, ud, ud, pq g1, iv kind, tv, tv, .tuple #[.slice AP ((s.readR at_).2.1.length) ((s.readR at_).2.1.length), iv ((s.readR at_).2.2)], pq gd, po g1 1, iv at_, .tuple #[.slice AP ((s.readR at_).2.1.length) ((s.readR at_).2.1.length), iv ((s.readR at_).2.2)], .slice AP ((s.readR at_).2.1.length) ((s.readR at_).2.1.length), iv ((s.readR at_).2.2), .tuple #[.slice AQ ((s.readR at_).2.1.length) ((s.readR at_).2.1.length), iv ((s.readR at_).2.2)], pq gr, po g1 1, iv at_, .tuple #[.slice AQ ((s.readR at_).2.1.length) ((s.readR at_).2.1.length), iv ((s.readR at_).2.2)], .slice AQ ((s.readR at_).2.1.length) ((s.readR at_).2.1.length), iv ((s.readR at_).2.2), iv ((s.readR at_).2.2), iv ((s.readR at_).2.2), tv, tv, .slice AP ((s.readR at_).2.1.length) ((s.readR at_).2.1.length), .slice AQ ((s.readR at_).2.1.length) ((s.readR at_).2.1.length), tv, tv] 60) (by kernel_rfl) ?_
    refine then_n ?_
    refine wp_ret ?_
    refine inb_r ?_
    refine then_r ?_
    refine bodyPost_ret (v := .bool true) (results_t1 rfl (by kernel_rfl)) rfl ?_
    have S15 : St F w0 w13 (PDisk gd (s.readR at_).1 :: RDisk gr (s.readR at_).1 :: L) := St.permT [bytesA (.slice AQ ((s.readR at_).2.1.length) ((s.readR at_).2.1.length)) (s.readR at_).2.1, RDisk gr (s.readR at_).1, bytesA (.slice AP ((s.readR at_).2.1.length) ((s.readR at_).2.1.length)) (s.readR at_).2.1, PDisk gd (s.readR at_).1, row g1 #[.int .i64 kind, .int .i64 at_, .slice A d.length cd, .slice A2 ps.length cp] 49] [3, 1] (by decide) rfl S14
    exact ⟨rfl, ((s.readR at_).1), S15, (by rw [readR_pend]; exact Nat.le_succ _)⟩
  · skip
    refine pv fv ?_
    refine wl_end (fr [pq gd, pq gr, .agg #[iv kind, iv at_, .slice A d.length cd, .slice A2 ps.length cp], ud, ud, pq g1, fv, ud, ud, ud, ud, ud, ud, ud, ud, ud, pq g1, iv kind, fv, fv] 82) (by kernel_rfl) ?_
    refine then_n ?_
    refine wp_cond_false (by kernel_rfl) ?_
    refine wp_seq ?_
    refine wp_region_lit ?_
    refine wl_gv rfl (gv_eq (x := kind) (y := 2) (by kernel_rfl) (fun hb16 => ?_) (fun hb16 => ?_))
    · skip
      refine pv tv ?_
      refine wl_end (fr [pq gd, pq gr, .agg #[iv kind, iv at_, .slice A d.length cd, .slice A2 ps.length cp], ud, ud, pq g1, fv, ud, ud, ud, ud, ud, ud, ud, ud, ud, pq g1, iv kind, fv, fv, ud, ud, ud, ud, ud, ud, ud, ud, ud, ud, ud, ud, ud, ud, ud, ud, ud, ud, ud, ud, ud, ud, tv, tv] 58) (by kernel_rfl) ?_
      refine then_n ?_
      refine wp_cond_true (by kernel_rfl) ?_
      refine wp_seq ?_
      refine wp_region_phu (γ := Nat) 7 [5, 6] (fun (c_ : Nat) (i_ : Nat) => (match i_ with | 0 => .pointer (some ⟨gd, 0, none⟩) | 1 => .pointer (some ⟨g1, 1, none⟩) | 2 => .int .i64 at_ | 3 => .pointer (some ⟨g1, 2, none⟩) | 4 => .slice A d.length cd | 5 => .slice (some ⟨c_, 0, none⟩) d.length d.length | 6 => .int .i64 ((s.writeR at_ d).2) | _ => undef : Value)) (fun (c_ : Nat) (p_ : Nat) (w_ : World) => (match p_ with | 0 => St F w0 w_ (row g1 #[.int .i64 kind, .int .i64 at_, .slice A d.length cd, .slice A2 ps.length cp] 49 :: PDisk gd s :: RDisk gr s :: L) | 1 => St F w0 w_ (row c_ (bvs d) 5 :: row g1 #[.int .i64 kind, .int .i64 at_, .slice A d.length cd, .slice A2 ps.length cp] 49 :: PDisk gd s :: RDisk gr s :: L) | _ => St F w0 w_ (PDisk gd (s.writeR at_ d).1 :: row c_ (bvs d) 5 :: row g1 #[.int .i64 kind, .int .i64 at_, .slice A d.length cd, .slice A2 ps.length cp] 49 :: RDisk gr s :: L) : Prop)) (0) (by kernel_rfl) (by kernel_rfl) (by kernel_rfl) (by kernel_rfl) (S4.drew) ?_ ?_ ?_
      · intro i_ c_ p_ vals_ w1 hi_ hiE_ hp_ hk_ hu_ hPh_ hd_
        rcases i_ with _ | _ | _ | _ | _ | _ | _ | i_
        · skip
          refine told_free rfl rfl (gv_env ((⟨Array.replicate 102 undef, []⟩ : Act).put (some 0) (.pointer (some ⟨gd, 0, none⟩))) (by kernel_rfl) (xs := [.tmp 0]) (by kernel_rfl) (alike_cons (fill_past (by kernel_rfl) (by kernel_rfl)) alike_nil) (gv_val (v := .pointer (some ⟨gd, 0, none⟩)) (w' := w1) (by kernel_rfl) ?_))
          exact ⟨rfl, rfl⟩
        · skip
          refine told_free rfl rfl (gv_env ((⟨Array.replicate 102 undef, []⟩ : Act).put (some 5) (.pointer (some ⟨g1, 0, none⟩))) (by kernel_rfl) (xs := [.tmp 5]) (by kernel_rfl) (alike_cons (fill_past (by kernel_rfl) (by kernel_rfl)) alike_nil) (gv_val (v := .pointer (some ⟨g1, 1, none⟩)) (w' := w1) (by kernel_rfl) ?_))
          exact ⟨rfl, rfl⟩
        · skip
          rcases p_ with _ | _ | _ | p_
          · skip
            have S19 : St F w0 w1 (row g1 #[.int .i64 kind, .int .i64 at_, .slice A d.length cd, .slice A2 ps.length cp] 49 :: PDisk gd s :: RDisk gr s :: L) := hPh_
            refine told_free rfl rfl (gv_env ((⟨Array.replicate 102 undef, []⟩ : Act).put (some 45) (.pointer (some ⟨g1, 1, none⟩))) (by kernel_rfl) (xs := [.tmp 45]) (by kernel_rfl) (alike_cons (fill_at (k := 1) (by kernel_rfl) (by kernel_rfl) ((hd_ 1 (by kernel_rfl)).trans (by kernel_rfl))) alike_nil) (gv_ldR (v := .int .i64 at_) rfl (by kernel_rfl) (by kernel_rfl) (((S19.blk 0 rfl).cell 1).trans rfl) ?_))
            exact ⟨rfl, rfl⟩
          · skip
            have S20 : St F w0 w1 (row c_ (bvs d) 5 :: row g1 #[.int .i64 kind, .int .i64 at_, .slice A d.length cd, .slice A2 ps.length cp] 49 :: PDisk gd s :: RDisk gr s :: L) := hPh_
            refine told_free rfl rfl (gv_env ((⟨Array.replicate 102 undef, []⟩ : Act).put (some 45) (.pointer (some ⟨g1, 1, none⟩))) (by kernel_rfl) (xs := [.tmp 45]) (by kernel_rfl) (alike_cons (fill_at (k := 1) (by kernel_rfl) (by kernel_rfl) ((hd_ 1 (by kernel_rfl)).trans (by kernel_rfl))) alike_nil) (gv_ldR (v := .int .i64 at_) rfl (by kernel_rfl) (by kernel_rfl) (((S20.blk 1 rfl).cell 1).trans rfl) ?_))
            exact ⟨rfl, rfl⟩
          · skip
            exact absurd (hu_ 1 (by decide) (by kernel_rfl)) (by decide)
          · exact absurd hp_ (by simp)
        · skip
          refine told_free rfl rfl (gv_env ((⟨Array.replicate 102 undef, []⟩ : Act).put (some 5) (.pointer (some ⟨g1, 0, none⟩))) (by kernel_rfl) (xs := [.tmp 5]) (by kernel_rfl) (alike_cons (fill_past (by kernel_rfl) (by kernel_rfl)) alike_nil) (gv_val (v := .pointer (some ⟨g1, 2, none⟩)) (w' := w1) (by kernel_rfl) ?_))
          exact ⟨rfl, rfl⟩
        · skip
          rcases p_ with _ | _ | _ | p_
          · skip
            have S22 : St F w0 w1 (row g1 #[.int .i64 kind, .int .i64 at_, .slice A d.length cd, .slice A2 ps.length cp] 49 :: PDisk gd s :: RDisk gr s :: L) := hPh_
            refine told_free rfl rfl (gv_env ((⟨Array.replicate 102 undef, []⟩ : Act).put (some 47) (.pointer (some ⟨g1, 2, none⟩))) (by kernel_rfl) (xs := [.tmp 47]) (by kernel_rfl) (alike_cons (fill_at (k := 3) (by kernel_rfl) (by kernel_rfl) ((hd_ 3 (by kernel_rfl)).trans (by kernel_rfl))) alike_nil) (gv_ldR (v := .slice A d.length cd) rfl (by kernel_rfl) (by kernel_rfl) (((S22.blk 0 rfl).cell 2).trans rfl) ?_))
            exact ⟨rfl, rfl⟩
          · skip
            exact absurd (hu_ 0 (by decide) (by kernel_rfl)) (by decide)
          · skip
            exact absurd (hu_ 0 (by decide) (by kernel_rfl)) (by decide)
          · exact absurd hp_ (by simp)
        · skip
          exact absurd hiE_ (by decide)
        · skip
          exact absurd hiE_ (by decide)
        · exact absurd hi_ (by omega)
      · intro k_ c_ vals_ w1 hk_ hPh_ hd_
        rcases k_ with _ | _ | k_
        · skip
          have S23 : St F w0 w1 (row g1 #[.int .i64 kind, .int .i64 at_, .slice A d.length cd, .slice A2 ps.length cp] 49 :: PDisk gd s :: RDisk gr s :: L) := hPh_
          refine told_free rfl rfl (gv_env ((⟨Array.replicate 102 undef, []⟩ : Act).put (some 48) (.slice A d.length cd)) (by kernel_rfl) (xs := [.func 27, .tmp 48]) (by kernel_rfl) (alike_cons eval_fn (alike_cons (fill_at (k := 4) (by kernel_rfl) (by kernel_rfl) ((hd_ 4 (by kernel_rfl)).trans (by kernel_rfl))) alike_nil)) (gv_call (args := #[.slice A d.length cd]) rfl Try.func27 (by kernel_rfl) rfl rfl (by kernel_rfl) ?_))
          refine Calls.mono (ltwinS (l := d) S23 (RoT.more (RoT.more (RoT.more hd))) hdm) ?_
          rintro _ w25 ⟨g24, rfl, S26⟩
          refine ⟨_, rfl, ?_⟩
          refine ⟨(g24), rfl, ?_, S26⟩
          intro i_ hi_ hne_ hdp_
          rcases i_ with _ | _ | _ | _ | _ | _ | _ | i_
          · rfl
          · rfl
          · rfl
          · rfl
          · rfl
          · exact absurd rfl hne_
          · exact (dep_no hdp_ (by kernel_rfl)).elim
          · exact absurd hi_ (by omega)
        · skip
          have S27 : St F w0 w1 (row c_ (bvs d) 5 :: row g1 #[.int .i64 kind, .int .i64 at_, .slice A d.length cd, .slice A2 ps.length cp] 49 :: PDisk gd s :: RDisk gr s :: L) := hPh_
          refine told_free rfl rfl (gv_env ((((⟨Array.replicate 102 undef, []⟩ : Act).put (some 44) (.pointer (some ⟨gd, 0, none⟩))).put (some 46) (.int .i64 at_)).put (some 49) (.slice (some ⟨c_, 0, none⟩) d.length d.length)) (by kernel_rfl) (xs := [.func 35, .tmp 44, .tmp 46, .tmp 49]) (by kernel_rfl) (alike_cons eval_fn (alike_cons (fill_at (k := 0) (by kernel_rfl) (by kernel_rfl) ((hd_ 0 (by kernel_rfl)).trans (by kernel_rfl))) (alike_cons (fill_at (k := 2) (by kernel_rfl) (by kernel_rfl) ((hd_ 2 (by kernel_rfl)).trans (by kernel_rfl))) (alike_cons (fill_at (k := 5) (by kernel_rfl) (by kernel_rfl) ((hd_ 5 (by kernel_rfl)).trans (by kernel_rfl))) alike_nil)))) (gv_call (args := #[.pointer (some ⟨gd, 0, none⟩), .int .i64 at_, .slice (some ⟨c_, 0, none⟩) d.length d.length]) rfl Try.func35 (by kernel_rfl) rfl rfl (by kernel_rfl) ?_))
          have S28 : St F w0 w1 (PDisk gd s :: row c_ (bvs d) 5 :: row g1 #[.int .i64 kind, .int .i64 at_, .slice A d.length cd, .slice A2 ps.length cp] 49 :: RDisk gr s :: L) := St.permT [row c_ (bvs d) 5, row g1 #[.int .i64 kind, .int .i64 at_, .slice A d.length cd, .slice A2 ps.length cp] 49, PDisk gd s, RDisk gr s] [2, 0, 1, 3] (by decide) rfl S27
          refine Calls.mono (pd_write S28 (RoT.item 0 rfl 0 d.length d (by rw [List.drop_zero, List.take_length])) (by omega) hpn) ?_
          rintro _ w29 ⟨rfl, S30⟩
          refine ⟨_, rfl, ?_⟩
          refine ⟨(c_), rfl, ?_, S30⟩
          intro i_ hi_ hne_ hdp_
          rcases i_ with _ | _ | _ | _ | _ | _ | _ | i_
          · rfl
          · rfl
          · rfl
          · rfl
          · rfl
          · rfl
          · exact absurd rfl hne_
          · exact absurd hi_ (by omega)
        · exact absurd hk_ (by simp)
      · intro c_ w1 hPh_
        have S31 : St F w0 w1 (PDisk gd (s.writeR at_ d).1 :: row c_ (bvs d) 5 :: row g1 #[.int .i64 kind, .int .i64 at_, .slice A d.length cd, .slice A2 ps.length cp] 49 :: RDisk gr s :: L) := hPh_
        refine wl_frame (fr [pq gd, pq gr, .agg #[iv kind, iv at_, .slice A d.length cd, .slice A2 ps.length cp], ud, ud, pq g1, fv, ud, ud, ud, ud, ud, ud, ud, ud, ud, pq g1, iv kind, fv, fv, ud, ud, ud, ud, ud, ud, ud, ud, ud, ud, ud, ud, ud, ud, ud, ud, ud, ud, ud, ud, ud, ud, tv, tv, pq gd, po g1 1, iv at_, po g1 2, .slice A d.length cd, sl c_ 0 d.length d.length, iv ((s.writeR at_ d).2)] 51) (by kernel_rfl) ?_
        refine pv (iv ((s.writeR at_ d).2)) ?_
        refine wl_end (fr [pq gd, pq gr, .agg #[iv kind, iv at_, .slice A d.length cd, .slice A2 ps.length cp], ud, ud, pq g1, fv, ud, ud, ud, ud, iv ((s.writeR at_ d).2), ud, ud, ud, ud, pq g1, iv kind, fv, fv, ud, ud, ud, ud, ud, ud, ud, ud, ud, ud, ud, ud, ud, ud, ud, ud, ud, ud, ud, ud, ud, ud, tv, tv, pq gd, po g1 1, iv at_, po g1 2, .slice A d.length cd, sl c_ 0 d.length d.length, iv ((s.writeR at_ d).2)] 51) (by kernel_rfl) ?_
        refine then_n ?_
        refine wp_seq ?_
        refine wp_region_lit ?_
        refine pv (pq gr) ?_
        refine pv (po g1 1) ?_
        refine wl_gv rfl (gv_ldR (v := .int .i64 at_) rfl (by kernel_rfl) (by kernel_rfl) (((S31.blk 2 rfl).cell 1).trans rfl) ?_)
        refine pv (po g1 2) ?_
        refine wl_gv rfl (gv_ldR (v := .slice A d.length cd) rfl (by kernel_rfl) (by kernel_rfl) (((S31.blk 2 rfl).cell 2).trans rfl) ?_)
        refine wl_gv rfl (gv_call (args := #[.pointer (some ⟨gr, 0, none⟩), .int .i64 at_, .slice A d.length cd]) rfl Try.func56 (by kernel_rfl) rfl rfl (by kernel_rfl) ?_)
        have S32 : St F w0 w1 (RDisk gr s :: PDisk gd (s.writeR at_ d).1 :: row c_ (bvs d) 5 :: row g1 #[.int .i64 kind, .int .i64 at_, .slice A d.length cd, .slice A2 ps.length cp] 49 :: L) := St.permT [PDisk gd (s.writeR at_ d).1, row c_ (bvs d) 5, row g1 #[.int .i64 kind, .int .i64 at_, .slice A d.length cd, .slice A2 ps.length cp] 49, RDisk gr s] [3, 0, 1, 2] (by decide) rfl S31
        refine Calls.mono (rd_write S32 (RoT.more (RoT.more (RoT.more hd))) (by omega) hpn) ?_
        rintro _ w33 ⟨rfl, S34⟩
        refine ⟨_, rfl, ?_⟩
        refine pv (iv ((s.writeR at_ d).2)) ?_
        refine wl_end (fr [pq gd, pq gr, .agg #[iv kind, iv at_, .slice A d.length cd, .slice A2 ps.length cp], ud, ud, pq g1, fv, ud, ud, ud, ud, iv ((s.writeR at_ d).2), iv ((s.writeR at_ d).2), ud, ud, ud, pq g1, iv kind, fv, fv, ud, ud, ud, ud, ud, ud, ud, ud, ud, ud, ud, ud, ud, ud, ud, ud, ud, ud, ud, ud, ud, ud, tv, tv, pq gd, po g1 1, iv at_, po g1 2, .slice A d.length cd, sl c_ 0 d.length d.length, iv ((s.writeR at_ d).2), pq gr, po g1 1, iv at_, po g1 2, .slice A d.length cd, iv ((s.writeR at_ d).2)] 45) (by kernel_rfl) ?_
        refine then_n ?_
        refine wp_seq ?_
        refine wp_region_lit ?_
        refine pv (iv ((s.writeR at_ d).2)) ?_
        refine pv (iv ((s.writeR at_ d).2)) ?_
        refine wl_gv rfl (gv_eq (x := ((s.writeR at_ d).2)) (y := ((s.writeR at_ d).2)) (by kernel_rfl) (fun _ => ?_) (fun hd35 => False.elim (hd35 rfl)))
        refine pv tv ?_
        refine wl_end (fr [pq gd, pq gr, .agg #[iv kind, iv at_, .slice A d.length cd, .slice A2 ps.length cp], ud, ud, pq g1, tv, ud, ud, ud, ud, iv ((s.writeR at_ d).2), iv ((s.writeR at_ d).2), ud, ud, ud, pq g1, iv kind, fv, fv, ud, ud, ud, ud, ud, ud, ud, ud, ud, ud, ud, ud, ud, ud, ud, ud, ud, ud, ud, ud, ud, ud, tv, tv, pq gd, po g1 1, iv at_, po g1 2, .slice A d.length cd, sl c_ 0 d.length d.length, iv ((s.writeR at_ d).2), pq gr, po g1 1, iv at_, po g1 2, .slice A d.length cd, iv ((s.writeR at_ d).2), iv ((s.writeR at_ d).2), iv ((s.writeR at_ d).2), tv] 42) (by kernel_rfl) ?_
        refine then_n ?_
        refine wp_ret ?_
        refine inb_r ?_
        refine then_r ?_
        refine bodyPost_ret (v := .bool true) (results_t1 rfl (by kernel_rfl)) rfl ?_
        have S36 : St F w0 w33 (PDisk gd (s.writeR at_ d).1 :: RDisk gr (s.writeR at_ d).1 :: L) := St.permT [RDisk gr (s.writeR at_ d).1, PDisk gd (s.writeR at_ d).1, row c_ (bvs d) 5, row g1 #[.int .i64 kind, .int .i64 at_, .slice A d.length cd, .slice A2 ps.length cp] 49] [1, 0] (by decide) rfl S34
        exact ⟨rfl, ((s.writeR at_ d).1), S36, (writeR_pend s at_ d)⟩
    · skip
      refine pv fv ?_
      refine wl_end (fr [pq gd, pq gr, .agg #[iv kind, iv at_, .slice A d.length cd, .slice A2 ps.length cp], ud, ud, pq g1, fv, ud, ud, ud, ud, ud, ud, ud, ud, ud, pq g1, iv kind, fv, fv, ud, ud, ud, ud, ud, ud, ud, ud, ud, ud, ud, ud, ud, ud, ud, ud, ud, ud, ud, ud, ud, ud, fv, fv] 58) (by kernel_rfl) ?_
      refine then_n ?_
      refine wp_cond_false (by kernel_rfl) ?_
      refine wp_seq ?_
      refine wp_region_lit ?_
      refine wl_gv rfl (gv_eq (x := kind) (y := 3) (by kernel_rfl) (fun hb37 => ?_) (fun hb37 => ?_))
      · skip
        refine pv tv ?_
        refine wl_end (fr [pq gd, pq gr, .agg #[iv kind, iv at_, .slice A d.length cd, .slice A2 ps.length cp], ud, ud, pq g1, fv, ud, ud, ud, ud, ud, ud, ud, ud, ud, pq g1, iv kind, fv, fv, ud, ud, ud, ud, ud, ud, ud, ud, ud, ud, ud, ud, ud, ud, ud, ud, ud, ud, ud, ud, ud, ud, fv, fv, ud, ud, ud, ud, ud, ud, ud, ud, ud, ud, ud, ud, ud, ud, ud, ud, tv, tv] 40) (by kernel_rfl) ?_
        refine then_n ?_
        refine wp_cond_true (by kernel_rfl) ?_
        refine wp_seq ?_
        refine wp_region_lit ?_
        refine pv (pq gd) ?_
        refine wl_gv rfl (gv_call (args := #[.pointer (some ⟨gd, 0, none⟩)]) rfl Try.func41 (by kernel_rfl) rfl rfl (by kernel_rfl) ?_)
        have S38 : St F w0 w2 (PDisk gd s :: row g1 #[.int .i64 kind, .int .i64 at_, .slice A d.length cd, .slice A2 ps.length cp] 49 :: RDisk gr s :: L) := St.permT [row g1 #[.int .i64 kind, .int .i64 at_, .slice A d.length cd, .slice A2 ps.length cp] 49, PDisk gd s, RDisk gr s] [1, 0, 2] (by decide) rfl S4
        refine Calls.mono (pd_flush S38) ?_
        rintro _ w39 ⟨rfl, S40⟩
        refine ⟨_, rfl, ?_⟩
        refine pv (iv s.flushR.2) ?_
        refine wl_end (fr [pq gd, pq gr, .agg #[iv kind, iv at_, .slice A d.length cd, .slice A2 ps.length cp], ud, ud, pq g1, fv, ud, ud, ud, ud, ud, ud, iv s.flushR.2, ud, ud, pq g1, iv kind, fv, fv, ud, ud, ud, ud, ud, ud, ud, ud, ud, ud, ud, ud, ud, ud, ud, ud, ud, ud, ud, ud, ud, ud, fv, fv, ud, ud, ud, ud, ud, ud, ud, ud, ud, ud, ud, ud, ud, ud, ud, ud, tv, tv, pq gd, iv s.flushR.2] 38) (by kernel_rfl) ?_
        refine then_n ?_
        refine wp_seq ?_
        refine wp_region_lit ?_
        refine pv (pq gr) ?_
        refine wl_gv rfl (gv_call (args := #[.pointer (some ⟨gr, 0, none⟩)]) rfl Try.func64 (by kernel_rfl) rfl rfl (by kernel_rfl) ?_)
        have S41 : St F w0 w39 (RDisk gr s :: PDisk gd s.flushR.1 :: row g1 #[.int .i64 kind, .int .i64 at_, .slice A d.length cd, .slice A2 ps.length cp] 49 :: L) := St.permT [PDisk gd s.flushR.1, row g1 #[.int .i64 kind, .int .i64 at_, .slice A d.length cd, .slice A2 ps.length cp] 49, RDisk gr s] [2, 0, 1] (by decide) rfl S40
        refine Calls.mono (rd_flush S41) ?_
        rintro _ w42 ⟨rfl, S43⟩
        refine ⟨_, rfl, ?_⟩
        refine pv (iv s.flushR.2) ?_
        refine wl_end (fr [pq gd, pq gr, .agg #[iv kind, iv at_, .slice A d.length cd, .slice A2 ps.length cp], ud, ud, pq g1, fv, ud, ud, ud, ud, ud, ud, iv s.flushR.2, iv s.flushR.2, ud, pq g1, iv kind, fv, fv, ud, ud, ud, ud, ud, ud, ud, ud, ud, ud, ud, ud, ud, ud, ud, ud, ud, ud, ud, ud, ud, ud, fv, fv, ud, ud, ud, ud, ud, ud, ud, ud, ud, ud, ud, ud, ud, ud, ud, ud, tv, tv, pq gd, iv s.flushR.2, pq gr, iv s.flushR.2] 36) (by kernel_rfl) ?_
        refine then_n ?_
        refine wp_seq ?_
        refine wp_region_lit ?_
        refine pv (iv s.flushR.2) ?_
        refine pv (iv s.flushR.2) ?_
        refine wl_gv rfl (gv_eq (x := s.flushR.2) (y := s.flushR.2) (by kernel_rfl) (fun _ => ?_) (fun hd44 => False.elim (hd44 rfl)))
        refine pv tv ?_
        refine wl_end (fr [pq gd, pq gr, .agg #[iv kind, iv at_, .slice A d.length cd, .slice A2 ps.length cp], ud, ud, pq g1, tv, ud, ud, ud, ud, ud, ud, iv s.flushR.2, iv s.flushR.2, ud, pq g1, iv kind, fv, fv, ud, ud, ud, ud, ud, ud, ud, ud, ud, ud, ud, ud, ud, ud, ud, ud, ud, ud, ud, ud, ud, ud, fv, fv, ud, ud, ud, ud, ud, ud, ud, ud, ud, ud, ud, ud, ud, ud, ud, ud, tv, tv, pq gd, iv s.flushR.2, pq gr, iv s.flushR.2, iv s.flushR.2, iv s.flushR.2, tv] 33) (by kernel_rfl) ?_
        refine then_n ?_
        refine wp_ret ?_
        refine inb_r ?_
        refine then_r ?_
        refine bodyPost_ret (v := .bool true) (results_t1 rfl (by kernel_rfl)) rfl ?_
        have S45 : St F w0 w42 (PDisk gd s.flushR.1 :: RDisk gr s.flushR.1 :: L) := St.permT [RDisk gr s.flushR.1, PDisk gd s.flushR.1, row g1 #[.int .i64 kind, .int .i64 at_, .slice A d.length cd, .slice A2 ps.length cp] 49] [1, 0] (by decide) rfl S43
        exact ⟨rfl, s.flushR.1, S45, (flushR_pend s)⟩
      · skip
        refine pv fv ?_
        refine wl_end (fr [pq gd, pq gr, .agg #[iv kind, iv at_, .slice A d.length cd, .slice A2 ps.length cp], ud, ud, pq g1, fv, ud, ud, ud, ud, ud, ud, ud, ud, ud, pq g1, iv kind, fv, fv, ud, ud, ud, ud, ud, ud, ud, ud, ud, ud, ud, ud, ud, ud, ud, ud, ud, ud, ud, ud, ud, ud, fv, fv, ud, ud, ud, ud, ud, ud, ud, ud, ud, ud, ud, ud, ud, ud, ud, ud, fv, fv] 40) (by kernel_rfl) ?_
        refine then_n ?_
        refine wp_cond_false (by kernel_rfl) ?_
        refine wp_seq ?_
        refine wp_region_lit ?_
        refine wl_gv rfl (gv_eq (x := kind) (y := 4) (by kernel_rfl) (fun hb46 => ?_) (fun hb46 => ?_))
        · skip
          refine pv tv ?_
          refine wl_end (fr [pq gd, pq gr, .agg #[iv kind, iv at_, .slice A d.length cd, .slice A2 ps.length cp], ud, ud, pq g1, fv, ud, ud, ud, ud, ud, ud, ud, ud, ud, pq g1, iv kind, fv, fv, ud, ud, ud, ud, ud, ud, ud, ud, ud, ud, ud, ud, ud, ud, ud, ud, ud, ud, ud, ud, ud, ud, fv, fv, ud, ud, ud, ud, ud, ud, ud, ud, ud, ud, ud, ud, ud, ud, ud, ud, fv, fv, ud, ud, ud, ud, ud, ud, ud, tv, tv] 31) (by kernel_rfl) ?_
          refine then_n ?_
          refine wp_cond_true (by kernel_rfl) ?_
          refine wp_seq ?_
          refine wp_region_lit ?_
          refine pv (pq gd) ?_
          refine pv (po g1 1) ?_
          refine wl_gv rfl (gv_ldR (v := .int .i64 at_) rfl (by kernel_rfl) (by kernel_rfl) (((S4.blk 0 rfl).cell 1).trans rfl) ?_)
          refine wl_gv rfl (gv_call (args := #[.pointer (some ⟨gd, 0, none⟩), .int .i64 at_]) rfl Try.func40 (by kernel_rfl) rfl rfl (by kernel_rfl) ?_)
          have S47 : St F w0 w2 (PDisk gd s :: row g1 #[.int .i64 kind, .int .i64 at_, .slice A d.length cd, .slice A2 ps.length cp] 49 :: RDisk gr s :: L) := St.permT [row g1 #[.int .i64 kind, .int .i64 at_, .slice A d.length cd, .slice A2 ps.length cp] 49, PDisk gd s, RDisk gr s] [1, 0, 2] (by decide) rfl S4
          refine Calls.mono (pd_fuse hat S47) ?_
          rintro _ w48 ⟨rfl, S49⟩
          refine ⟨_, rfl, ?_⟩
          refine wl_end (fr [pq gd, pq gr, .agg #[iv kind, iv at_, .slice A d.length cd, .slice A2 ps.length cp], ud, ud, pq g1, fv, ud, ud, ud, ud, ud, ud, ud, ud, ud, pq g1, iv kind, fv, fv, ud, ud, ud, ud, ud, ud, ud, ud, ud, ud, ud, ud, ud, ud, ud, ud, ud, ud, ud, ud, ud, ud, fv, fv, ud, ud, ud, ud, ud, ud, ud, ud, ud, ud, ud, ud, ud, ud, ud, ud, fv, fv, ud, ud, ud, ud, ud, ud, ud, tv, tv, pq gd, po g1 1, iv at_, .tuple #[]] 27) (by kernel_rfl) ?_
          refine then_n ?_
          refine wp_seq ?_
          refine wp_region_lit ?_
          refine pv (pq gr) ?_
          refine pv (po g1 1) ?_
          refine wl_gv rfl (gv_ldR (v := .int .i64 at_) rfl (by kernel_rfl) (by kernel_rfl) (((S49.blk 1 rfl).cell 1).trans rfl) ?_)
          refine wl_gv rfl (gv_call (args := #[.pointer (some ⟨gr, 0, none⟩), .int .i64 at_]) rfl Try.func65 (by kernel_rfl) rfl rfl (by kernel_rfl) ?_)
          have S50 : St F w0 w48 (RDisk gr s :: PDisk gd (s.fuseR at_) :: row g1 #[.int .i64 kind, .int .i64 at_, .slice A d.length cd, .slice A2 ps.length cp] 49 :: L) := St.permT [PDisk gd (s.fuseR at_), row g1 #[.int .i64 kind, .int .i64 at_, .slice A d.length cd, .slice A2 ps.length cp] 49, RDisk gr s] [2, 0, 1] (by decide) rfl S49
          refine Calls.mono (rd_fuse hat S50) ?_
          rintro _ w51 ⟨rfl, S52⟩
          refine ⟨_, rfl, ?_⟩
          refine wl_end (fr [pq gd, pq gr, .agg #[iv kind, iv at_, .slice A d.length cd, .slice A2 ps.length cp], ud, ud, pq g1, fv, ud, ud, ud, ud, ud, ud, ud, ud, ud, pq g1, iv kind, fv, fv, ud, ud, ud, ud, ud, ud, ud, ud, ud, ud, ud, ud, ud, ud, ud, ud, ud, ud, ud, ud, ud, ud, fv, fv, ud, ud, ud, ud, ud, ud, ud, ud, ud, ud, ud, ud, ud, ud, ud, ud, fv, fv, ud, ud, ud, ud, ud, ud, ud, tv, tv, pq gd, po g1 1, iv at_, .tuple #[], pq gr, po g1 1, iv at_, .tuple #[]] 23) (by kernel_rfl) ?_
          refine then_n ?_
          refine wp_seq ?_
          refine wp_region_lit ?_
          refine pv tv ?_
          refine wl_end (fr [pq gd, pq gr, .agg #[iv kind, iv at_, .slice A d.length cd, .slice A2 ps.length cp], ud, ud, pq g1, tv, ud, ud, ud, ud, ud, ud, ud, ud, ud, pq g1, iv kind, fv, fv, ud, ud, ud, ud, ud, ud, ud, ud, ud, ud, ud, ud, ud, ud, ud, ud, ud, ud, ud, ud, ud, ud, fv, fv, ud, ud, ud, ud, ud, ud, ud, ud, ud, ud, ud, ud, ud, ud, ud, ud, fv, fv, ud, ud, ud, ud, ud, ud, ud, tv, tv, pq gd, po g1 1, iv at_, .tuple #[], pq gr, po g1 1, iv at_, .tuple #[]] 23) (by kernel_rfl) ?_
          refine then_n ?_
          refine wp_ret ?_
          refine inb_r ?_
          refine then_r ?_
          refine bodyPost_ret (v := .bool true) (results_t1 rfl (by kernel_rfl)) rfl ?_
          have S53 : St F w0 w51 (PDisk gd (s.fuseR at_) :: RDisk gr (s.fuseR at_) :: L) := St.permT [RDisk gr (s.fuseR at_), PDisk gd (s.fuseR at_), row g1 #[.int .i64 kind, .int .i64 at_, .slice A d.length cd, .slice A2 ps.length cp] 49] [1, 0] (by decide) rfl S52
          exact ⟨rfl, (s.fuseR at_), S53, (fuseR_pend s at_)⟩
        · skip
          refine pv fv ?_
          refine wl_end (fr [pq gd, pq gr, .agg #[iv kind, iv at_, .slice A d.length cd, .slice A2 ps.length cp], ud, ud, pq g1, fv, ud, ud, ud, ud, ud, ud, ud, ud, ud, pq g1, iv kind, fv, fv, ud, ud, ud, ud, ud, ud, ud, ud, ud, ud, ud, ud, ud, ud, ud, ud, ud, ud, ud, ud, ud, ud, fv, fv, ud, ud, ud, ud, ud, ud, ud, ud, ud, ud, ud, ud, ud, ud, ud, ud, fv, fv, ud, ud, ud, ud, ud, ud, ud, fv, fv] 31) (by kernel_rfl) ?_
          refine then_n ?_
          refine wp_cond_false (by kernel_rfl) ?_
          refine wp_seq ?_
          refine wp_region_lit ?_
          refine wl_gv rfl (gv_eq (x := kind) (y := 6) (by kernel_rfl) (fun hb54 => ?_) (fun hb54 => ?_))
          · skip
            refine pv tv ?_
            refine wl_end (fr [pq gd, pq gr, .agg #[iv kind, iv at_, .slice A d.length cd, .slice A2 ps.length cp], ud, ud, pq g1, fv, ud, ud, ud, ud, ud, ud, ud, ud, ud, pq g1, iv kind, fv, fv, ud, ud, ud, ud, ud, ud, ud, ud, ud, ud, ud, ud, ud, ud, ud, ud, ud, ud, ud, ud, ud, ud, fv, fv, ud, ud, ud, ud, ud, ud, ud, ud, ud, ud, ud, ud, ud, ud, ud, ud, fv, fv, ud, ud, ud, ud, ud, ud, ud, fv, fv, ud, ud, ud, ud, ud, ud, ud, ud, tv, tv] 21) (by kernel_rfl) ?_
            refine then_n ?_
            refine wp_cond_true (by kernel_rfl) ?_
            refine wp_seq ?_
            refine wp_region_lit ?_
            refine pv (pq gd) ?_
            refine pv (po g1 3) ?_
            refine wl_gv rfl (gv_ldR (v := .slice A2 ps.length cp) rfl (by kernel_rfl) (by kernel_rfl) (((S4.blk 0 rfl).cell 3).trans rfl) ?_)
            refine wl_gv rfl (gv_call (args := #[.slice A2 ps.length cp]) rfl Try.func37 (by kernel_rfl) rfl rfl (by kernel_rfl) ?_)
            refine Calls.mono (tpicks (ps := ps) S4 (RoV.more (RoV.more (RoV.more hp))) hpm) ?_
            rintro _ w56 ⟨g55, rfl, S57⟩
            refine ⟨_, rfl, ?_⟩
            refine wl_gv rfl (gv_call (args := #[.pointer (some ⟨gd, 0, none⟩), .slice (some ⟨g55, 0, none⟩) ps.length ps.length]) rfl Try.func36 (by kernel_rfl) rfl rfl (by kernel_rfl) ?_)
            have S58 : St F w0 w56 (PDisk gd s :: row g55 ((picksV ps).toArray) 66 :: row g1 #[.int .i64 kind, .int .i64 at_, .slice A d.length cd, .slice A2 ps.length cp] 49 :: RDisk gr s :: L) := St.permT [row g55 ((picksV ps).toArray) 66, row g1 #[.int .i64 kind, .int .i64 at_, .slice A d.length cd, .slice A2 ps.length cp] 49, PDisk gd s, RDisk gr s] [2, 0, 1, 3] (by decide) rfl S57
            refine Calls.mono (pd_crash S58 (RoV.item 0 rfl) rfl (by omega)) ?_
            rintro _ w59 ⟨rfl, S60⟩
            refine ⟨_, rfl, ?_⟩
            refine wl_end (fr [pq gd, pq gr, .agg #[iv kind, iv at_, .slice A d.length cd, .slice A2 ps.length cp], ud, ud, pq g1, fv, ud, ud, ud, ud, ud, ud, ud, ud, ud, pq g1, iv kind, fv, fv, ud, ud, ud, ud, ud, ud, ud, ud, ud, ud, ud, ud, ud, ud, ud, ud, ud, ud, ud, ud, ud, ud, fv, fv, ud, ud, ud, ud, ud, ud, ud, ud, ud, ud, ud, ud, ud, ud, ud, ud, fv, fv, ud, ud, ud, ud, ud, ud, ud, fv, fv, ud, ud, ud, ud, ud, ud, ud, ud, tv, tv, pq gd, po g1 3, .slice A2 ps.length cp, sl g55 0 ps.length ps.length, .tuple #[]] 16) (by kernel_rfl) ?_
            refine then_n ?_
            refine wp_seq ?_
            refine wp_region_lit ?_
            refine pv (pq gr) ?_
            refine pv (po g1 3) ?_
            refine wl_gv rfl (gv_ldR (v := .slice A2 ps.length cp) rfl (by kernel_rfl) (by kernel_rfl) (((S60.blk 2 rfl).cell 3).trans rfl) ?_)
            refine wl_gv rfl (gv_call (args := #[.pointer (some ⟨gr, 0, none⟩), .slice A2 ps.length cp]) rfl Try.func59 (by kernel_rfl) rfl rfl (by kernel_rfl) ?_)
            have S61 : St F w0 w59 (RDisk gr s :: PDisk gd (s.crashR ps) :: row g55 ((picksV ps).toArray) 66 :: row g1 #[.int .i64 kind, .int .i64 at_, .slice A d.length cd, .slice A2 ps.length cp] 49 :: L) := St.permT [PDisk gd (s.crashR ps), row g55 ((picksV ps).toArray) 66, row g1 #[.int .i64 kind, .int .i64 at_, .slice A d.length cd, .slice A2 ps.length cp] 49, RDisk gr s] [3, 0, 1, 2] (by decide) rfl S60
            refine Calls.mono (rd_crash S61 (RoV.more (RoV.more (RoV.more hp))) rfl (by omega) hpn) ?_
            rintro _ w62 ⟨rfl, S63⟩
            refine ⟨_, rfl, ?_⟩
            refine wl_end (fr [pq gd, pq gr, .agg #[iv kind, iv at_, .slice A d.length cd, .slice A2 ps.length cp], ud, ud, pq g1, fv, ud, ud, ud, ud, ud, ud, ud, ud, ud, pq g1, iv kind, fv, fv, ud, ud, ud, ud, ud, ud, ud, ud, ud, ud, ud, ud, ud, ud, ud, ud, ud, ud, ud, ud, ud, ud, fv, fv, ud, ud, ud, ud, ud, ud, ud, ud, ud, ud, ud, ud, ud, ud, ud, ud, fv, fv, ud, ud, ud, ud, ud, ud, ud, fv, fv, ud, ud, ud, ud, ud, ud, ud, ud, tv, tv, pq gd, po g1 3, .slice A2 ps.length cp, sl g55 0 ps.length ps.length, .tuple #[], pq gr, po g1 3, .slice A2 ps.length cp, .tuple #[]] 12) (by kernel_rfl) ?_
            refine then_n ?_
            refine wp_seq ?_
            refine wp_region_lit ?_
            refine pv tv ?_
            refine wl_end (fr [pq gd, pq gr, .agg #[iv kind, iv at_, .slice A d.length cd, .slice A2 ps.length cp], ud, ud, pq g1, tv, ud, ud, ud, ud, ud, ud, ud, ud, ud, pq g1, iv kind, fv, fv, ud, ud, ud, ud, ud, ud, ud, ud, ud, ud, ud, ud, ud, ud, ud, ud, ud, ud, ud, ud, ud, ud, fv, fv, ud, ud, ud, ud, ud, ud, ud, ud, ud, ud, ud, ud, ud, ud, ud, ud, fv, fv, ud, ud, ud, ud, ud, ud, ud, fv, fv, ud, ud, ud, ud, ud, ud, ud, ud, tv, tv, pq gd, po g1 3, .slice A2 ps.length cp, sl g55 0 ps.length ps.length, .tuple #[], pq gr, po g1 3, .slice A2 ps.length cp, .tuple #[]] 12) (by kernel_rfl) ?_
            refine then_n ?_
            refine wp_ret ?_
            refine inb_r ?_
            refine then_r ?_
            refine bodyPost_ret (v := .bool true) (results_t1 rfl (by kernel_rfl)) rfl ?_
            have S64 : St F w0 w62 (PDisk gd (s.crashR ps) :: RDisk gr (s.crashR ps) :: L) := St.permT [RDisk gr (s.crashR ps), PDisk gd (s.crashR ps), row g55 ((picksV ps).toArray) 66, row g1 #[.int .i64 kind, .int .i64 at_, .slice A d.length cd, .slice A2 ps.length cp] 49] [1, 0] (by decide) rfl S63
            exact ⟨rfl, (s.crashR ps), S64, (Nat.zero_le _)⟩
          · skip
            refine pv fv ?_
            refine wl_end (fr [pq gd, pq gr, .agg #[iv kind, iv at_, .slice A d.length cd, .slice A2 ps.length cp], ud, ud, pq g1, fv, ud, ud, ud, ud, ud, ud, ud, ud, ud, pq g1, iv kind, fv, fv, ud, ud, ud, ud, ud, ud, ud, ud, ud, ud, ud, ud, ud, ud, ud, ud, ud, ud, ud, ud, ud, ud, fv, fv, ud, ud, ud, ud, ud, ud, ud, ud, ud, ud, ud, ud, ud, ud, ud, ud, fv, fv, ud, ud, ud, ud, ud, ud, ud, fv, fv, ud, ud, ud, ud, ud, ud, ud, ud, fv, fv] 21) (by kernel_rfl) ?_
            refine then_n ?_
            refine wp_cond_false (by kernel_rfl) ?_
            refine wp_seq ?_
            refine wp_region_lit ?_
            refine wl_gv rfl (gv_eq (x := kind) (y := 7) (by kernel_rfl) (fun hb65 => ?_) (fun hb65 => ?_))
            · skip
              refine pv tv ?_
              refine wl_end (fr [pq gd, pq gr, .agg #[iv kind, iv at_, .slice A d.length cd, .slice A2 ps.length cp], ud, ud, pq g1, fv, ud, ud, ud, ud, ud, ud, ud, ud, ud, pq g1, iv kind, fv, fv, ud, ud, ud, ud, ud, ud, ud, ud, ud, ud, ud, ud, ud, ud, ud, ud, ud, ud, ud, ud, ud, ud, fv, fv, ud, ud, ud, ud, ud, ud, ud, ud, ud, ud, ud, ud, ud, ud, ud, ud, fv, fv, ud, ud, ud, ud, ud, ud, ud, fv, fv, ud, ud, ud, ud, ud, ud, ud, ud, fv, fv, ud, ud, ud, ud, ud, ud, ud, ud, ud, tv, tv] 10) (by kernel_rfl) ?_
              refine then_n ?_
              refine wp_cond_true (by kernel_rfl) ?_
              refine wp_seq ?_
              refine wp_region_lit ?_
              refine pv (pq gd) ?_
              refine wl_gv rfl (gv_call (args := #[.pointer (some ⟨gd, 0, none⟩)]) rfl Try.func66 (by kernel_rfl) rfl rfl (by kernel_rfl) ?_)
              have S66 : St F w0 w2 (PDisk gd s :: row g1 #[.int .i64 kind, .int .i64 at_, .slice A d.length cd, .slice A2 ps.length cp] 49 :: RDisk gr s :: L) := St.permT [row g1 #[.int .i64 kind, .int .i64 at_, .slice A d.length cd, .slice A2 ps.length cp] 49, PDisk gd s, RDisk gr s] [1, 0, 2] (by decide) rfl S4
              refine Calls.mono (pd_take S66) ?_
              rintro _ w67 ⟨rfl, S68⟩
              refine ⟨_, rfl, ?_⟩
              refine pv (iv (inc s.life)) ?_
              refine wl_end (fr [pq gd, pq gr, .agg #[iv kind, iv at_, .slice A d.length cd, .slice A2 ps.length cp], ud, ud, pq g1, fv, ud, ud, ud, ud, ud, ud, ud, ud, iv (inc s.life), pq g1, iv kind, fv, fv, ud, ud, ud, ud, ud, ud, ud, ud, ud, ud, ud, ud, ud, ud, ud, ud, ud, ud, ud, ud, ud, ud, fv, fv, ud, ud, ud, ud, ud, ud, ud, ud, ud, ud, ud, ud, ud, ud, ud, ud, fv, fv, ud, ud, ud, ud, ud, ud, ud, fv, fv, ud, ud, ud, ud, ud, ud, ud, ud, fv, fv, ud, ud, ud, ud, ud, ud, ud, ud, ud, tv, tv, pq gd, iv (inc s.life)] 8) (by kernel_rfl) ?_
              refine then_n ?_
              refine wp_seq ?_
              refine wp_region_lit ?_
              refine pv (iv (inc s.life)) ?_
              refine pv (pq gr) ?_
              refine wl_gv rfl (gv_call (args := #[.pointer (some ⟨gr, 0, none⟩)]) rfl Try.func67 (by kernel_rfl) rfl rfl (by kernel_rfl) ?_)
              have S69 : St F w0 w67 (RDisk gr s :: PDisk gd ({ s with life := inc s.life }) :: row g1 #[.int .i64 kind, .int .i64 at_, .slice A d.length cd, .slice A2 ps.length cp] 49 :: L) := St.permT [PDisk gd ({ s with life := inc s.life }), row g1 #[.int .i64 kind, .int .i64 at_, .slice A d.length cd, .slice A2 ps.length cp] 49, RDisk gr s] [2, 0, 1] (by decide) rfl S68
              refine Calls.mono (rd_take S69) ?_
              rintro _ w70 ⟨rfl, S71⟩
              refine ⟨_, rfl, ?_⟩
              refine wl_gv rfl (gv_eq (x := (inc s.life)) (y := (inc s.life)) (by kernel_rfl) (fun _ => ?_) (fun hd72 => False.elim (hd72 rfl)))
              refine pv tv ?_
              refine wl_end (fr [pq gd, pq gr, .agg #[iv kind, iv at_, .slice A d.length cd, .slice A2 ps.length cp], ud, ud, pq g1, tv, ud, ud, ud, ud, ud, ud, ud, ud, iv (inc s.life), pq g1, iv kind, fv, fv, ud, ud, ud, ud, ud, ud, ud, ud, ud, ud, ud, ud, ud, ud, ud, ud, ud, ud, ud, ud, ud, ud, fv, fv, ud, ud, ud, ud, ud, ud, ud, ud, ud, ud, ud, ud, ud, ud, ud, ud, fv, fv, ud, ud, ud, ud, ud, ud, ud, fv, fv, ud, ud, ud, ud, ud, ud, ud, ud, fv, fv, ud, ud, ud, ud, ud, ud, ud, ud, ud, tv, tv, pq gd, iv (inc s.life), iv (inc s.life), pq gr, iv (inc s.life), tv] 4) (by kernel_rfl) ?_
              refine then_n ?_
              refine wp_ret ?_
              refine inb_r ?_
              refine then_r ?_
              refine bodyPost_ret (v := .bool true) (results_t1 rfl (by kernel_rfl)) rfl ?_
              have S73 : St F w0 w70 (PDisk gd ({ s with life := inc s.life }) :: RDisk gr ({ s with life := inc s.life }) :: L) := St.permT [RDisk gr ({ s with life := inc s.life }), PDisk gd ({ s with life := inc s.life }), row g1 #[.int .i64 kind, .int .i64 at_, .slice A d.length cd, .slice A2 ps.length cp] 49] [1, 0] (by decide) rfl S71
              exact ⟨rfl, ({ s with life := inc s.life }), S73, (Nat.le_succ _)⟩
            · skip
              refine pv fv ?_
              refine wl_end (fr [pq gd, pq gr, .agg #[iv kind, iv at_, .slice A d.length cd, .slice A2 ps.length cp], ud, ud, pq g1, fv, ud, ud, ud, ud, ud, ud, ud, ud, ud, pq g1, iv kind, fv, fv, ud, ud, ud, ud, ud, ud, ud, ud, ud, ud, ud, ud, ud, ud, ud, ud, ud, ud, ud, ud, ud, ud, fv, fv, ud, ud, ud, ud, ud, ud, ud, ud, ud, ud, ud, ud, ud, ud, ud, ud, fv, fv, ud, ud, ud, ud, ud, ud, ud, fv, fv, ud, ud, ud, ud, ud, ud, ud, ud, fv, fv, ud, ud, ud, ud, ud, ud, ud, ud, ud, fv, fv] 10) (by kernel_rfl) ?_
              refine then_n ?_
              refine wp_cond_false (by kernel_rfl) ?_
              refine wp_skip ?_
              refine inb_n ?_
              refine then_n ?_
              refine wp_seq ?_
              refine wp_region_lit ?_
              refine pv (pq gd) ?_
              refine pv (pq gr) ?_
              refine wl_gv rfl (gv_ldA (k := 0) (n := 4) (vs := [.int .i64 kind, .int .i64 at_, .slice A d.length cd, .slice A2 ps.length cp]) S4 0 rfl rfl (by kernel_rfl) (by kernel_rfl) rfl rfl ?_)
              refine wl_gv rfl (gv_call (args := #[.pointer (some ⟨gd, 0, none⟩), .pointer (some ⟨gr, 0, none⟩), .agg #[.int .i64 kind, .int .i64 at_, .slice A d.length cd, .slice A2 ps.length cp]]) rfl Try.func68 (by kernel_rfl) rfl rfl (by kernel_rfl) ?_)
              have S74 : St F w0 w2 (RDisk gr s :: row g1 #[.int .i64 kind, .int .i64 at_, .slice A d.length cd, .slice A2 ps.length cp] 49 :: PDisk gd s :: L) := St.permT [row g1 #[.int .i64 kind, .int .i64 at_, .slice A d.length cd, .slice A2 ps.length cp] 49, PDisk gd s, RDisk gr s] [2, 0, 1] (by decide) rfl S4
              have S75 : St F w0 w2 (PDisk gd s :: RDisk gr s :: row g1 #[.int .i64 kind, .int .i64 at_, .slice A d.length cd, .slice A2 ps.length cp] 49 :: L) := St.permT [RDisk gr s, row g1 #[.int .i64 kind, .int .i64 at_, .slice A d.length cd, .slice A2 ps.length cp] 49, PDisk gd s] [2, 0, 1] (by decide) rfl S74
              refine Calls.mono (asked_all S75) ?_
              rintro _ w76 ⟨rfl, S77⟩
              refine ⟨_, rfl, ?_⟩
              refine pv tv ?_
              refine wl_end (fr [pq gd, pq gr, .agg #[iv kind, iv at_, .slice A d.length cd, .slice A2 ps.length cp], ud, ud, pq g1, tv, ud, ud, ud, ud, ud, ud, ud, ud, ud, pq g1, iv kind, fv, fv, ud, ud, ud, ud, ud, ud, ud, ud, ud, ud, ud, ud, ud, ud, ud, ud, ud, ud, ud, ud, ud, ud, fv, fv, ud, ud, ud, ud, ud, ud, ud, ud, ud, ud, ud, ud, ud, ud, ud, ud, fv, fv, ud, ud, ud, ud, ud, ud, ud, fv, fv, ud, ud, ud, ud, ud, ud, ud, ud, fv, fv, ud, ud, ud, ud, ud, ud, ud, ud, ud, fv, fv, ud, ud, ud, ud, ud, ud, pq gd, pq gr, .agg #[iv kind, iv at_, .slice A d.length cd, .slice A2 ps.length cp], tv] 0) (by kernel_rfl) ?_
              refine then_n ?_
              refine wp_ret ?_
              refine bodyPost_ret (v := .bool true) (results_t1 rfl (by kernel_rfl)) rfl ?_
              have S78 : St F w0 w76 (PDisk gd s :: RDisk gr s :: L) := St.permT [PDisk gd s, RDisk gr s, row g1 #[.int .i64 kind, .int .i64 at_, .slice A d.length cd, .slice A2 ps.length cp] 49] [0, 1] (by decide) rfl S77
              exact ⟨rfl, s, S78, (Nat.le_succ _)⟩
end Go.Proofs
