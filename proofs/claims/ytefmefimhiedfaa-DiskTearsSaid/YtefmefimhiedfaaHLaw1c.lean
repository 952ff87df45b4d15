/- A step of a script on both disks answers true. -/
import Derived.Test.YtefmefimhiedfaaHRef5
import Derived.Test.YtefmefimhiedfaaHRef2
import Derived.Test.YtefmefimhiedfaaHRef3
import Derived.Test.YtefmefimhiedfaaHCrash2
import Derived.Test.YtefmefimhiedfaaHDisk3
import Derived.Test.YtefmefimhiedfaaHDisk4
import Derived.Test.YtefmefimhiedfaaHDisk6
import Derived.Test.YtefmefimhiedfaaHLaw1a
open Go Go.RowKit Go.Proofs.YtefmefimhiedfaaW.PrintWords Go.Proofs.YtefmefimhiedfaaW.PrintMore
namespace Go.Proofs
open Go.Vel
set_option linter.unusedVariables false
set_option maxRecDepth 100000
set_option maxHeartbeats 4000000
attribute [local irreducible] gives wpList Code.wp

theorem ltwinS {F : Nat → Prop} {w0 w : World} {L : List Ast} {A : Option Addr} {l : List UInt8} {c : Nat} (S : St F w0 w L) (hr : RoT F w0 L A l) (hlm : l.length ≤ 140737488355328) : Calls Try.prog 27 #[.slice A l.length c] w fun e w' => ∃ go, e = .returned (.slice (some ⟨go, 0, none⟩) l.length l.length) ∧ St F w0 w' (row go (bvs l) 5 :: L) := by
  refine wp_enter (fr [.slice A l.length c] 10) Try.func27 rfl (by kernel_rfl) ?_
  refine wp_seq ?_
  refine wp_region_lit ?_
  refine pv (.slice none 0 0) ?_
  refine wl_end (fr [.slice A l.length c, ud, .slice none 0 0] 8) (by kernel_rfl) ?_
  refine then_n ?_
  refine wp_seq ?_
  refine wp_region_lit ?_
  refine pv (.slice A l.length c) ?_
  refine pv (iv (l.length : Nat)) ?_
  refine wl_gv rfl (gv_make (e := 5) (u := (l.length : Nat)) (v := (l.length : Nat)) (z := .int .u8 0) (sz := 1) (by_ := 1) (n := l.length) (c := l.length) (cs := (bvs (List.replicate l.length 0))) S rfl (by kernel_rfl) ⟨by kernel_rfl⟩ (by kernel_rfl) (by kernel_rfl) rfl rfl (Nat.le_refl _) (by omega) (by omega) (mk_bytes _) (fun g1 w2 hg3 S4 => ?_))
  refine pv (sl g1 0 l.length l.length) ?_
  refine wl_end (fr [.slice A l.length c, ud, .slice none 0 0, sl g1 0 l.length l.length, .slice A l.length c, iv (l.length : Nat), sl g1 0 l.length l.length] 4) (by kernel_rfl) ?_
  refine then_n ?_
  refine wp_seq ?_
  refine wp_region_lit ?_
  refine pv (sl g1 0 l.length l.length) ?_
  refine pv (.slice A l.length c) ?_
  refine wl_gv rfl (gv_copy (e := 5) (off := 0) (dLen := l.length) (dCap := l.length) (sLen := l.length) (sCap := c) (A := A) (B := (List.replicate l.length 0)) (l := l) S4 0 rfl rfl (by kernel_rfl) (by kernel_rfl) (by kernel_rfl) (by kernel_rfl) rfl (hr.out _ [row g1 (bvs (List.replicate l.length 0)) 5] S4) (by simp) (L' := (row g1 (bvs l) 5 :: L)) (by rw [copy_all rfl]; rfl) (fun w5 m7 S6 => ?_))
  refine wl_end (fr [.slice A l.length c, ud, .slice none 0 0, sl g1 0 l.length l.length, .slice A l.length c, iv (l.length : Nat), sl g1 0 l.length l.length, sl g1 0 l.length l.length, .slice A l.length c, goInt m7] 1) (by kernel_rfl) ?_
  refine then_n ?_
  refine wp_seq ?_
  refine wp_region_lit ?_
  refine pv (sl g1 0 l.length l.length) ?_
  refine pv (sl g1 0 l.length l.length) ?_
  refine wl_end (fr [.slice A l.length c, ud, sl g1 0 l.length l.length, sl g1 0 l.length l.length, .slice A l.length c, iv (l.length : Nat), sl g1 0 l.length l.length, sl g1 0 l.length l.length, .slice A l.length c, goInt m7, sl g1 0 l.length l.length] 0) (by kernel_rfl) ?_
  refine then_n ?_
  refine wp_ret ?_
  refine bodyPost_ret (v := .slice (some ⟨g1, 0, none⟩) l.length l.length) (results_t1 rfl (by kernel_rfl)) rfl ?_
  exact ⟨_, rfl, S6⟩
theorem splice_full {α : Type} {a b : List α} (h : b.length = a.length) : splice a 0 b = b := by
  simp [splice, h]
theorem len_zc (z : Array Value) (n : Nat) : (madeCells z n).toList.length = n := by simp [madeCells]
theorem picks_one : ∀ (ps : List Pick), ∀ u ∈ picksV ps, u.oneCell' = true := fun ps u hu => by
  obtain ⟨p, _, hp⟩ := List.mem_flatMap.1 hu
  simp [pickCells] at hp
  rcases hp with rfl | rfl | rfl <;> rfl
theorem tpicks {F : Nat → Prop} {w0 w : World} {L : List Ast} {A : Option Addr} {ps : List Pick} {c : Nat} (S : St F w0 w L) (hr : RoV F w0 L A (picksV ps)) (hlm : ps.length * 24 ≤ 140737488355328) : Calls Try.prog 37 #[.slice A ps.length c] w fun e w' => ∃ go, e = .returned (.slice (some ⟨go, 0, none⟩) ps.length ps.length) ∧ St F w0 w' (row go (picksV ps).toArray 66 :: L) := by
  refine wp_enter (fr [.slice A ps.length c] 10) Try.func37 rfl (by kernel_rfl) ?_
  refine wp_seq ?_
  refine wp_region_lit ?_
  refine pv (.slice none 0 0) ?_
  refine wl_end (fr [.slice A ps.length c, ud, .slice none 0 0] 8) (by kernel_rfl) ?_
  refine then_n ?_
  refine wp_seq ?_
  refine wp_region_lit ?_
  refine pv (.slice A ps.length c) ?_
  refine pv (iv (ps.length : Nat)) ?_
  refine wl_gv rfl (gv_make (e := 66) (u := ((ps.length : Nat) : Int)) (v := ((ps.length : Nat) : Int)) (z := .agg #[.int .i64 0, .int .i64 0, .int .i64 0]) (sz := 3) (by_ := 24) (n := ps.length) (c := ps.length) (cs := (madeCells (Value.agg #[.int .i64 0, .int .i64 0, .int .i64 0]).cells (ps.length * 3)).toList.toArray) S rfl (by kernel_rfl) ⟨by kernel_rfl⟩ (by kernel_rfl) (by kernel_rfl) rfl rfl (Nat.le_refl _) (by omega) (by omega) (by simp) (fun g1 w2 hg3 S4 => ?_))
  refine pv (sl g1 0 ps.length ps.length) ?_
  refine wl_end (fr [.slice A ps.length c, ud, .slice none 0 0, sl g1 0 ps.length ps.length, .slice A ps.length c, iv (ps.length : Nat), sl g1 0 ps.length ps.length] 4) (by kernel_rfl) ?_
  refine then_n ?_
  refine wp_seq ?_
  refine wp_region_lit ?_
  refine pv (sl g1 0 ps.length ps.length) ?_
  refine pv (.slice A ps.length c) ?_
  refine wl_gv rfl (gv_copyV (e := 66) (sz := 3) (g := g1) (off := 0) (dLen := ps.length) (dCap := ps.length) (sLen := ps.length) (sCap := c) (A := A) (cs := (madeCells (Value.agg #[.int .i64 0, .int .i64 0, .int .i64 0]).cells (ps.length * 3)).toList) (news := picksV ps) S4 0 rfl rfl (by kernel_rfl) (by kernel_rfl) (by kernel_rfl) (by kernel_rfl) (by rw [length_picksV]; show _ = min ps.length ps.length * 3; rw [Nat.min_self]) (hr.out _ [_] S4) (picks_one ps) (by rw [length_picksV, len_zc]; omega) (L' := (row g1 ((picksV ps).toArray) 66 :: L)) (by rw [splice_full (by rw [length_picksV, len_zc])]; rfl) (fun w5 m6 S7 => ?_))
  refine wl_end (fr [.slice A ps.length c, ud, .slice none 0 0, sl g1 0 ps.length ps.length, .slice A ps.length c, iv (ps.length : Nat), sl g1 0 ps.length ps.length, sl g1 0 ps.length ps.length, .slice A ps.length c, goInt m6] 1) (by kernel_rfl) ?_
  refine then_n ?_
  refine wp_seq ?_
  refine wp_region_lit ?_
  refine pv (sl g1 0 ps.length ps.length) ?_
  refine pv (sl g1 0 ps.length ps.length) ?_
  refine wl_end (fr [.slice A ps.length c, ud, sl g1 0 ps.length ps.length, sl g1 0 ps.length ps.length, .slice A ps.length c, iv (ps.length : Nat), sl g1 0 ps.length ps.length, sl g1 0 ps.length ps.length, .slice A ps.length c, goInt m6, sl g1 0 ps.length ps.length] 0) (by kernel_rfl) ?_
  refine then_n ?_
  refine wp_ret ?_
  refine bodyPost_ret (v := .slice (some ⟨g1, 0, none⟩) ps.length ps.length) (results_t1 rfl (by kernel_rfl)) rfl ?_
  exact ⟨_, rfl, S7⟩
theorem St.pd_small {F : Nat → Prop} {w0 w : World} {L : List Ast} {g : Nat} {s : Dsk} (S : St F w0 w (PDisk g s :: L)) : (∀ l ∈ s.last, l.length = 512) ∧ s.last.length ≤ 2048 := by
  obtain ⟨gd, gm, clock, es, fused, left, hf, _⟩ := St.popen S
  exact ⟨hf.len, hf.n2⟩
theorem rot_vec {F : Nat → Prop} {w0 : World} {L : List Ast} {A : Option Addr} {l : List UInt8} {n c : Nat} (i : Nat) (hi : L[i]? = some (vec 5 1 (.slice A n c) n (l.map bv))) : RoT F w0 L A l := ⟨fun w' L' S' => by
  have h1 : (L' ++ L)[L'.length + i]? = some (vec 5 1 (.slice A n c) n (l.map bv)) := by rw [List.getElem?_append_right (by omega)]; simpa using hi
  exact RdV.bytes (St.vec_rd S' _ h1)⟩
theorem readR_pend (s : Dsk) (a : Int) : (s.readR a).1.pend = s.pend := by 
  unfold Dsk.readR
  split
  · rfl
  · split <;> rfl
theorem writeR_pend (s : Dsk) (a : Int) (d : List UInt8) : (s.writeR a d).1.pend.length ≤ s.pend.length + 1 := by
  unfold Dsk.writeR
  split
  · exact Nat.le_succ _
  · split
    · exact Nat.le_succ _
    · split
      · exact Nat.le_succ _
      · show (s.pend ++ [_]).length ≤ _; rw [List.length_append]; exact Nat.le_refl _
theorem flushR_pend (s : Dsk) : s.flushR.1.pend.length ≤ s.pend.length + 1 := by 
  unfold Dsk.flushR
  split
  · exact Nat.le_succ _
  · exact Nat.zero_le _
theorem fuseR_pend (s : Dsk) (n : Int) : (s.fuseR n).pend.length ≤ s.pend.length + 1 := by unfold Dsk.fuseR; split <;> exact Nat.le_succ _
end Go.Proofs
