/- Burnt, Life, Sectors, Take, Counts, Image, Read of the program's disk. -/
import Derived.Test.YtefmefimhiedfaaHDisk2
open Go Go.RowKit Go.Proofs.YtefmefimhiedfaaW.PrintWords Go.Proofs.YtefmefimhiedfaaW.PrintMore
namespace Go.Proofs
open Go.Vel
set_option linter.unusedVariables false
set_option maxRecDepth 100000
set_option maxHeartbeats 4000000
attribute [local irreducible] gives wpList Code.wp

theorem pd_burnt {F : Nat → Prop} {w0 w : World} {L : List Ast} {g : Nat} {s : Dsk} (S : St F w0 w L) (i : Nat) (hi : L[i]? = some (PDisk g s)) : Calls Try.prog 22 #[.pointer (some ⟨g, 0, none⟩)] w fun e w' => e = .returned (.bool (decide (s.left = 0))) ∧ w = w' := by
  obtain ⟨gd, gm, clock, es, fused, left, hf, S1⟩ := St.popen (L := []) (S.mem i hi)
  exact burnt_b (S1.blk 0 rfl) hf.burnt
theorem pd_life {F : Nat → Prop} {w0 w : World} {L : List Ast} {g : Nat} {s : Dsk} (S : St F w0 w L) (i : Nat) (hi : L[i]? = some (PDisk g s)) : Calls Try.prog 23 #[.pointer (some ⟨g, 0, none⟩)] w fun e w' => e = .returned (.int .i64 s.life) ∧ w = w' := by
  obtain ⟨gd, gm, clock, es, fused, left, hf, S1⟩ := St.popen (L := []) (S.mem i hi)
  exact life_ro (S1.blk 0 rfl)
theorem pd_sectors {F : Nat → Prop} {w0 w : World} {L : List Ast} {g : Nat} {s : Dsk} (S : St F w0 w L) (i : Nat) (hi : L[i]? = some (PDisk g s)) : Calls Try.prog 21 #[.pointer (some ⟨g, 0, none⟩)] w fun e w' => e = .returned (.int .i64 (s.last.length : Int)) ∧ w = w' := by
  obtain ⟨gd, gm, clock, es, fused, left, hf, S1⟩ := St.popen (L := []) (S.mem i hi)
  exact sectors_ro (S1.blk 0 rfl) rfl hf.n2
theorem pd_take {F : Nat → Prop} {w0 w : World} {L : List Ast} {g : Nat} {s : Dsk} (S : St F w0 w (PDisk g s :: L)) : Calls Try.prog 66 #[.pointer (some ⟨g, 0, none⟩)] w fun e w' => e = .returned (.int .i64 (inc s.life)) ∧ St F w0 w' (PDisk g { s with life := inc s.life } :: L) := by
  obtain ⟨gd, gm, clock, es, fused, left, hf, S⟩ := St.popen S
  refine (take_own S).mono fun e w' h => ⟨h.1, St.pclose (gd := gd) (gm := gm) (clock := clock) (es := es) (fused := fused) (left := left) (s := { s with life := inc s.life }) h.2 (hf.congr rfl rfl rfl)⟩
theorem pd_counts {F : Nat → Prop} {w0 w : World} {L : List Ast} {g : Nat} {s : Dsk} (S : St F w0 w (PDisk g s :: L)) : Calls Try.prog 24 #[.pointer (some ⟨g, 0, none⟩)] w fun e w' => e = .returned (.agg #[.int .i64 s.rd, .int .i64 s.wr, .int .i64 s.fl, .int .i64 s.rf, .int .i64 (s.pend.length : Int)]) ∧ St F w0 w' (PDisk g s :: L) := by
  obtain ⟨gd, gm, clock, es, fused, left, hf, S⟩ := St.popen S
  change St F w0 w (row g #[.slice (some ⟨gd, 0, none⟩) (512 * s.last.length) (512 * s.last.length), .map (some gm), .bool fused, .int .i64 left, .int .i64 s.life, .int .i64 s.rd, .int .i64 s.wr, .int .i64 s.fl, .int .i64 s.rf, .int .i64 (s.pend.length : Int)] 87 :: row gd (bvs s.last.flatten) 5 :: pt gm (mapO (es.map PEnt.ent) clock) :: stars (es.map PEnt.ast) :: L) at S
  refine wp_enter (fr [pq g] 6) Try.func24 rfl (by kernel_rfl) ?_
  refine wp_seq ?_
  refine wp_region_lit ?_
  refine wl_gv rfl (gv_new (z := .agg #[.int .i64 0, .int .i64 0, .int .i64 0, .int .i64 0, .int .i64 0]) S rfl (by kernel_rfl) (fun g1 w2 hg3 S4 => ?_))
  refine wl_end (fr [pq g, ud, pq g1] 4) (by kernel_rfl) ?_
  refine then_n ?_
  refine wp_seq ?_
  refine wp_region_lit ?_
  refine pv (pq g) ?_
  refine pv (pq g) ?_
  refine pv (po g 5) ?_
  refine wl_gv rfl (gv_ldA (k := 5) (n := 5) (vs := [.int .i64 s.rd, .int .i64 s.wr, .int .i64 s.fl, .int .i64 s.rf, .int .i64 (s.pend.length : Int)]) S4 1 rfl rfl (by kernel_rfl) (by kernel_rfl) rfl rfl ?_)
  refine wl_gv rfl (gv_stA (k := 0) (vs := [.int .i64 s.rd, .int .i64 s.wr, .int .i64 s.fl, .int .i64 s.rf, .int .i64 (s.pend.length : Int)]) S4 0 rfl rfl (by kernel_rfl) (by kernel_rfl) (by kernel_rfl) rfl (by simp [Value.oneCell']) (Nat.le_of_ble_eq_true (by kernel_rfl)) (L' := (row g1 #[.int .i64 s.rd, .int .i64 s.wr, .int .i64 s.fl, .int .i64 s.rf, .int .i64 (s.pend.length : Int)] 29 :: row g #[.slice (some ⟨gd, 0, none⟩) (512 * s.last.length) (512 * s.last.length), .map (some gm), .bool fused, .int .i64 left, .int .i64 s.life, .int .i64 s.rd, .int .i64 s.wr, .int .i64 s.fl, .int .i64 s.rf, .int .i64 (s.pend.length : Int)] 87 :: row gd (bvs s.last.flatten) 5 :: pt gm (mapO (es.map PEnt.ent) clock) :: stars (es.map PEnt.ast) :: L)) rfl (fun w5 S6 => ?_))
  refine wl_end (fr [pq g, ud, pq g1, pq g, pq g, po g 5, .agg #[iv s.rd, iv s.wr, iv s.fl, iv s.rf, iv (s.pend.length : Int)]] 0) (by kernel_rfl) ?_
  refine then_n ?_
  refine wp_ret ?_
  refine bodyPost_ret (v := .agg #[.int .i64 s.rd, .int .i64 s.wr, .int .i64 s.fl, .int .i64 s.rf, .int .i64 (s.pend.length : Int)]) (results_cell1 rfl _ (S6.get 0 rfl) (by kernel_rfl) (by kernel_rfl)) rfl ?_
  exact ⟨rfl, St.pclose (gd := gd) (gm := gm) (clock := clock) (es := es) (fused := fused) (left := left) (s := s) (St.tail S6) (hf.congr rfl rfl rfl)⟩
theorem pd_image {F : Nat → Prop} {w0 w : World} {L : List Ast} {g : Nat} {s : Dsk} (S : St F w0 w (PDisk g s :: L)) : Calls Try.prog 25 #[.pointer (some ⟨g, 0, none⟩)] w fun e w' => ∃ v, e = .returned v ∧ St F w0 w' (bytesA v s.last.flatten :: PDisk g s :: L) := by
  obtain ⟨gd, gm, clock, es, fused, left, hf, S⟩ := St.popen S
  have hn2 := hf.n2
  change St F w0 w (row g #[.slice (some ⟨gd, 0, none⟩) (512 * s.last.length) (512 * s.last.length), .map (some gm), .bool fused, .int .i64 left, .int .i64 s.life, .int .i64 s.rd, .int .i64 s.wr, .int .i64 s.fl, .int .i64 s.rf, .int .i64 (s.pend.length : Int)] 87 :: row gd (bvs s.last.flatten) 5 :: pt gm (mapO (es.map PEnt.ent) clock) :: stars (es.map PEnt.ast) :: L) at S
  refine wp_enter (fr [pq g] 16) Try.func25 rfl (by kernel_rfl) ?_
  refine wp_seq ?_
  refine wp_region_lit ?_
  refine pv (.slice none 0 0) ?_
  refine wl_end (fr [pq g, ud, .slice none 0 0] 14) (by kernel_rfl) ?_
  refine then_n ?_
  refine wp_seq ?_
  refine wp_region_lit ?_
  refine pv (pq g) ?_
  refine pv (pq g) ?_
  refine pv (pq g) ?_
  refine wl_gv rfl (gv_ldR (v := .slice (some ⟨gd, 0, none⟩) (512 * s.last.length) (512 * s.last.length)) rfl (by kernel_rfl) (by kernel_rfl) (((S.blk 0 rfl).cell 0).trans rfl) ?_)
  refine pv (iv (512 * s.last.length : Nat)) ?_
  refine wl_gv rfl (gv_make (e := 5) (u := (512 * s.last.length : Nat)) (v := (512 * s.last.length : Nat)) (z := .int .u8 0) (sz := 1) (by_ := 1) (n := (512 * s.last.length)) (c := (512 * s.last.length)) (cs := (bvs (List.replicate (512 * s.last.length) 0))) S rfl (by kernel_rfl) ⟨by kernel_rfl⟩ (by kernel_rfl) (by kernel_rfl) rfl rfl (Nat.le_refl _) (by omega) (by omega) (mk_bytes _) (fun g1 w2 hg3 S4 => ?_))
  refine pv (sl g1 0 (512 * s.last.length) (512 * s.last.length)) ?_
  refine wl_end (fr [pq g, ud, .slice none 0 0, sl g1 0 (512 * s.last.length) (512 * s.last.length), pq g, pq g, pq g, sl gd 0 (512 * s.last.length) (512 * s.last.length), iv (512 * s.last.length : Nat), sl g1 0 (512 * s.last.length) (512 * s.last.length)] 7) (by kernel_rfl) ?_
  refine then_n ?_
  refine wp_seq ?_
  refine wp_region_lit ?_
  refine pv (sl g1 0 (512 * s.last.length) (512 * s.last.length)) ?_
  refine pv (pq g) ?_
  refine pv (pq g) ?_
  refine pv (pq g) ?_
  refine wl_gv rfl (gv_ldR (v := .slice (some ⟨gd, 0, none⟩) (512 * s.last.length) (512 * s.last.length)) rfl (by kernel_rfl) (by kernel_rfl) (((S4.blk 1 rfl).cell 0).trans rfl) ?_)
  refine wl_gv rfl (gv_copy (e := 5) (off := 0) (dLen := (512 * s.last.length)) (dCap := (512 * s.last.length)) (sLen := (512 * s.last.length)) (sCap := (512 * s.last.length)) (A := (some ⟨gd, 0, none⟩)) (B := (List.replicate (512 * s.last.length) 0)) (l := s.last.flatten) S4 0 rfl rfl (by kernel_rfl) (by kernel_rfl) (by kernel_rfl) (by kernel_rfl) (flat_len hf.len).symm (RdB.row (S4.blk 2 rfl) 0 _ _ (by rw [List.drop_zero, List.take_of_length_le (Nat.le_of_eq (flat_len hf.len))])) (by rw [List.length_replicate]; omega) (L' := (row g1 (bvs s.last.flatten) 5 :: row g #[.slice (some ⟨gd, 0, none⟩) (512 * s.last.length) (512 * s.last.length), .map (some gm), .bool fused, .int .i64 left, .int .i64 s.life, .int .i64 s.rd, .int .i64 s.wr, .int .i64 s.fl, .int .i64 s.rf, .int .i64 (s.pend.length : Int)] 87 :: row gd (bvs s.last.flatten) 5 :: pt gm (mapO (es.map PEnt.ent) clock) :: stars (es.map PEnt.ast) :: L)) (by rw [copy_all (flat_len hf.len)]; rfl) (fun w5 m7 S6 => ?_))
  refine wl_end (fr [pq g, ud, .slice none 0 0, sl g1 0 (512 * s.last.length) (512 * s.last.length), pq g, pq g, pq g, sl gd 0 (512 * s.last.length) (512 * s.last.length), iv (512 * s.last.length : Nat), sl g1 0 (512 * s.last.length) (512 * s.last.length), sl g1 0 (512 * s.last.length) (512 * s.last.length), pq g, pq g, pq g, sl gd 0 (512 * s.last.length) (512 * s.last.length), goInt m7] 1) (by kernel_rfl) ?_
  refine then_n ?_
  refine wp_seq ?_
  refine wp_region_lit ?_
  refine pv (sl g1 0 (512 * s.last.length) (512 * s.last.length)) ?_
  refine pv (sl g1 0 (512 * s.last.length) (512 * s.last.length)) ?_
  refine wl_end (fr [pq g, ud, sl g1 0 (512 * s.last.length) (512 * s.last.length), sl g1 0 (512 * s.last.length) (512 * s.last.length), pq g, pq g, pq g, sl gd 0 (512 * s.last.length) (512 * s.last.length), iv (512 * s.last.length : Nat), sl g1 0 (512 * s.last.length) (512 * s.last.length), sl g1 0 (512 * s.last.length) (512 * s.last.length), pq g, pq g, pq g, sl gd 0 (512 * s.last.length) (512 * s.last.length), goInt m7, sl g1 0 (512 * s.last.length) (512 * s.last.length)] 0) (by kernel_rfl) ?_
  refine then_n ?_
  refine wp_ret ?_
  refine bodyPost_ret (v := .slice (some ⟨g1, 0, none⟩) (512 * s.last.length) (512 * s.last.length)) (results_t1 rfl (by kernel_rfl)) rfl ?_
  exact ⟨_, rfl, St.bytes_row (St.swap (St.pclose (gd := gd) (gm := gm) (clock := clock) (es := es) (fused := fused) (left := left) (s := s) (St.rot (LA := pdParts g gd gm clock es fused left s) S6) (hf.congr rfl rfl rfl))) (flat_len hf.len).symm (flat_len hf.len).symm⟩
theorem pd_read {at_ : Int} {F : Nat → Prop} {w0 w : World} {L : List Ast} {g : Nat} {s : Dsk} (S : St F w0 w (PDisk g s :: L)) : Calls Try.prog 29 #[.pointer (some ⟨g, 0, none⟩), .int .i64 at_] w fun e w' => ∃ v, e = .returned (.tuple #[v, .int .i64 (s.readR at_).2.2]) ∧ St F w0 w' (bytesA v (s.readR at_).2.1 :: PDisk g (s.readR at_).1 :: L) := by
  obtain ⟨gd, gm, clock, es, fused, left, hf, S⟩ := St.popen S
  have hn2 := hf.n2
  have hbu := hf.burnt
  by_cases hz : s.left = 0
  · have e : s.readR at_ = (s, [], 3) := by unfold Dsk.readR; rw [if_pos hz]
    rw [e]
    have hb : (fused && decide (left = 0)) = true := by rw [hbu]; exact decide_eq_true hz
    change St F w0 w (row g #[.slice (some ⟨gd, 0, none⟩) (512 * s.last.length) (512 * s.last.length), .map (some gm), .bool fused, .int .i64 left, .int .i64 s.life, .int .i64 s.rd, .int .i64 s.wr, .int .i64 s.fl, .int .i64 s.rf, .int .i64 (s.pend.length : Int)] 87 :: row gd (bvs s.last.flatten) 5 :: pt gm (mapO (es.map PEnt.ent) clock) :: stars (es.map PEnt.ast) :: L) at S
    refine wp_enter (fr [pq g, iv at_] 28) Try.func29 rfl (by kernel_rfl) ?_
    refine wp_seq ?_
    refine wp_region_lit ?_
    refine pv (.slice none 0 0) ?_
    refine pv (iv 0) ?_
    refine wl_end (fr [pq g, iv at_, ud, ud, .slice none 0 0, iv 0] 24) (by kernel_rfl) ?_
    refine then_n ?_
    refine wp_seq ?_
    refine wp_seq ?_
    refine wp_region_lit ?_
    refine pv (pq g) ?_
    refine pv (iv at_) ?_
    refine wl_gv rfl (gv_call (args := #[.pointer (some ⟨g, 0, none⟩), .int .i64 at_]) rfl Try.func61 (by kernel_rfl) rfl rfl (by kernel_rfl) ?_)
    refine Calls.mono (there_dead hb S) ?_
    rintro _ w1 ⟨rfl, S2⟩
    refine ⟨_, rfl, ?_⟩
    refine pv (iv 3) ?_
    refine wl_end (fr [pq g, iv at_, ud, ud, .slice none 0 0, iv 0, iv 3, ud, pq g, iv at_, iv 3] 19) (by kernel_rfl) ?_
    refine then_n ?_
    refine wp_seq ?_
    refine wp_region_lit ?_
    refine pv (iv 3) ?_
    refine wl_gv rfl (gv_ne (x := 3) (y := 0) (by kernel_rfl) (fun _ => ?_) (fun hd3 => False.elim (by omega)))
    refine wl_end (fr [pq g, iv at_, ud, ud, .slice none 0 0, iv 0, iv 3, ud, pq g, iv at_, iv 3, iv 3, tv] 17) (by kernel_rfl) ?_
    refine then_n ?_
    refine wp_cond_true (by kernel_rfl) ?_
    refine wp_seq ?_
    refine wp_region_lit ?_
    refine pv (iv 3) ?_
    refine pv (.slice none 0 0) ?_
    refine pv (iv 3) ?_
    refine wl_end (fr [pq g, iv at_, ud, ud, .slice none 0 0, iv 3, iv 3, ud, pq g, iv at_, iv 3, iv 3, tv, iv 3] 16) (by kernel_rfl) ?_
    refine then_n ?_
    refine wp_ret ?_
    refine then_r ?_
    refine bodyPost_ret (v := .tuple #[.slice none 0 0, .int .i64 3]) (results_t2 rfl (by kernel_rfl) (by kernel_rfl)) rfl ?_
    exact ⟨_, rfl, St.bytes_nil (St.pclose (gd := gd) (gm := gm) (clock := clock) (es := es) (fused := fused) (left := left) (s := s) S2 (hf.congr rfl rfl rfl))⟩
  have hb : (fused && decide (left = 0)) = false := by rw [hbu]; exact decide_eq_false hz
  by_cases ho : at_ < 0 ∨ (s.last.length : Int) ≤ at_
  · have e : s.readR at_ = ({ s with rf := inc s.rf }, [], 11) := by unfold Dsk.readR; rw [if_neg hz, if_pos ho]
    rw [e]
    change St F w0 w (row g #[.slice (some ⟨gd, 0, none⟩) (512 * s.last.length) (512 * s.last.length), .map (some gm), .bool fused, .int .i64 left, .int .i64 s.life, .int .i64 s.rd, .int .i64 s.wr, .int .i64 s.fl, .int .i64 s.rf, .int .i64 (s.pend.length : Int)] 87 :: row gd (bvs s.last.flatten) 5 :: pt gm (mapO (es.map PEnt.ent) clock) :: stars (es.map PEnt.ast) :: L) at S
    refine wp_enter (fr [pq g, iv at_] 28) Try.func29 rfl (by kernel_rfl) ?_
    refine wp_seq ?_
    refine wp_region_lit ?_
    refine pv (.slice none 0 0) ?_
    refine pv (iv 0) ?_
    refine wl_end (fr [pq g, iv at_, ud, ud, .slice none 0 0, iv 0] 24) (by kernel_rfl) ?_
    refine then_n ?_
    refine wp_seq ?_
    refine wp_seq ?_
    refine wp_region_lit ?_
    refine pv (pq g) ?_
    refine pv (iv at_) ?_
    refine wl_gv rfl (gv_call (args := #[.pointer (some ⟨g, 0, none⟩), .int .i64 at_]) rfl Try.func61 (by kernel_rfl) rfl rfl (by kernel_rfl) ?_)
    refine Calls.mono (there_out hb rfl hn2 ho S) ?_
    rintro _ w1 ⟨rfl, S2⟩
    refine ⟨_, rfl, ?_⟩
    refine pv (iv 11) ?_
    refine wl_end (fr [pq g, iv at_, ud, ud, .slice none 0 0, iv 0, iv 11, ud, pq g, iv at_, iv 11] 19) (by kernel_rfl) ?_
    refine then_n ?_
    refine wp_seq ?_
    refine wp_region_lit ?_
    refine pv (iv 11) ?_
    refine wl_gv rfl (gv_ne (x := 11) (y := 0) (by kernel_rfl) (fun _ => ?_) (fun hd3 => False.elim (by omega)))
    refine wl_end (fr [pq g, iv at_, ud, ud, .slice none 0 0, iv 0, iv 11, ud, pq g, iv at_, iv 11, iv 11, tv] 17) (by kernel_rfl) ?_
    refine then_n ?_
    refine wp_cond_true (by kernel_rfl) ?_
    refine wp_seq ?_
    refine wp_region_lit ?_
    refine pv (iv 11) ?_
    refine pv (.slice none 0 0) ?_
    refine pv (iv 11) ?_
    refine wl_end (fr [pq g, iv at_, ud, ud, .slice none 0 0, iv 11, iv 11, ud, pq g, iv at_, iv 11, iv 11, tv, iv 11] 16) (by kernel_rfl) ?_
    refine then_n ?_
    refine wp_ret ?_
    refine then_r ?_
    refine bodyPost_ret (v := .tuple #[.slice none 0 0, .int .i64 11]) (results_t2 rfl (by kernel_rfl) (by kernel_rfl)) rfl ?_
    exact ⟨_, rfl, St.bytes_nil (St.pclose (gd := gd) (gm := gm) (clock := clock) (es := es) (fused := fused) (left := left) (s := { s with rf := inc s.rf }) S2 (hf.congr rfl rfl rfl))⟩
  obtain ⟨k, rfl⟩ : ∃ k : Nat, at_ = (k : Int) := ⟨at_.toNat, by omega⟩
  have hk : k < s.last.length := by omega
  have hsk := mem_getD hk
  have hl5 := hf.len _ (List.mem_of_getElem? hsk)
  have hfl := flat_sec hf.len k _ hsk
  have e : s.readR (k : Int) = ({ s with rd := inc s.rd }, s.now k, 0) := by unfold Dsk.readR; rw [if_neg hz, if_neg ho, Int.toNat_natCast]
  rw [e]
  rcases hf.find k with ⟨hp, hno⟩ | ⟨j, p, hj, hat, hp, hne, hje, hke, hfe⟩
  · rw [Dsk.now_none hp]
    change St F w0 w (row g #[.slice (some ⟨gd, 0, none⟩) (512 * s.last.length) (512 * s.last.length), .map (some gm), .bool fused, .int .i64 left, .int .i64 s.life, .int .i64 s.rd, .int .i64 s.wr, .int .i64 s.fl, .int .i64 s.rf, .int .i64 (s.pend.length : Int)] 87 :: row gd (bvs s.last.flatten) 5 :: pt gm (mapO (es.map PEnt.ent) clock) :: stars (es.map PEnt.ast) :: L) at S
    refine wp_enter (fr [pq g, iv ((k : Nat) : Int)] 28) Try.func29 rfl (by kernel_rfl) ?_
    refine wp_seq ?_
    refine wp_region_lit ?_
    refine pv (.slice none 0 0) ?_
    refine pv (iv 0) ?_
    refine wl_end (fr [pq g, iv ((k : Nat) : Int), ud, ud, .slice none 0 0, iv 0] 24) (by kernel_rfl) ?_
    refine then_n ?_
    refine wp_seq ?_
    refine wp_seq ?_
    refine wp_region_lit ?_
    refine pv (pq g) ?_
    refine pv (iv ((k : Nat) : Int)) ?_
    refine wl_gv rfl (gv_call (args := #[.pointer (some ⟨g, 0, none⟩), .int .i64 ((k : Nat) : Int)]) rfl Try.func61 (by kernel_rfl) rfl rfl (by kernel_rfl) ?_)
    refine Calls.mono (there_in hb rfl hn2 hk S) ?_
    rintro _ w1 ⟨rfl, S2⟩
    refine ⟨_, rfl, ?_⟩
    refine pv (iv 0) ?_
    refine wl_end (fr [pq g, iv ((k : Nat) : Int), ud, ud, .slice none 0 0, iv 0, iv 0, ud, pq g, iv ((k : Nat) : Int), iv 0] 19) (by kernel_rfl) ?_
    refine then_n ?_
    refine wp_seq ?_
    refine wp_region_lit ?_
    refine pv (iv 0) ?_
    refine wl_gv rfl (gv_ne (x := 0) (y := 0) (by kernel_rfl) (fun hd3 => False.elim (by omega)) (fun _ => ?_))
    refine wl_end (fr [pq g, iv ((k : Nat) : Int), ud, ud, .slice none 0 0, iv 0, iv 0, ud, pq g, iv ((k : Nat) : Int), iv 0, iv 0, fv] 17) (by kernel_rfl) ?_
    refine then_n ?_
    refine wp_cond_false (by kernel_rfl) ?_
    refine wp_skip ?_
    refine then_n ?_
    refine wp_seq ?_
    refine wp_region_lit ?_
    refine pv (pq g) ?_
    refine pv (pq g) ?_
    refine pv (po g 5) ?_
    refine pv (po g 5) ?_
    refine wl_gv rfl (gv_ldR (v := .int .i64 s.rd) rfl (by kernel_rfl) (by kernel_rfl) (((S2.blk 0 rfl).cell 5).trans rfl) ?_)
    refine pv (iv (inc s.rd)) ?_
    refine pv (pq g) ?_
    refine pv (po g 5) ?_
    refine pv (po g 5) ?_
    refine wl_gv rfl (gv_st (k := 5) (v := .int .i64 (inc s.rd)) S2 0 rfl rfl (by kernel_rfl) (by kernel_rfl) (by kernel_rfl) rfl rfl (L' := (row g #[.slice (some ⟨gd, 0, none⟩) (512 * s.last.length) (512 * s.last.length), .map (some gm), .bool fused, .int .i64 left, .int .i64 s.life, .int .i64 (inc s.rd), .int .i64 s.wr, .int .i64 s.fl, .int .i64 s.rf, .int .i64 (s.pend.length : Int)] 87 :: row gd (bvs s.last.flatten) 5 :: pt gm (mapO (es.map PEnt.ent) clock) :: stars (es.map PEnt.ast) :: L)) rfl (fun w4 S5 => ?_))
    refine wl_end (fr [pq g, iv ((k : Nat) : Int), ud, ud, .slice none 0 0, iv 0, iv 0, ud, pq g, iv ((k : Nat) : Int), iv 0, iv 0, fv, ud, pq g, pq g, po g 5, po g 5, iv s.rd, iv (inc s.rd), pq g, po g 5, po g 5] 7) (by kernel_rfl) ?_
    refine then_n ?_
    refine wp_seq ?_
    refine wp_region_lit ?_
    refine wl_gv rfl (gv_make (e := 5) (u := 512) (v := 512) (z := .int .u8 0) (sz := 1) (by_ := 1) (n := 512) (c := 512) (cs := (bvs (List.replicate 512 0))) S5 rfl (by kernel_rfl) ⟨by kernel_rfl⟩ (by kernel_rfl) (by kernel_rfl) rfl rfl (Nat.le_refl _) (by decide) (by decide) (mk_bytes _) (fun g6 w7 hg8 S9 => ?_))
    refine pv (sl g6 0 512 512) ?_
    refine wl_end (fr [pq g, iv ((k : Nat) : Int), ud, ud, .slice none 0 0, iv 0, iv 0, sl g6 0 512 512, pq g, iv ((k : Nat) : Int), iv 0, iv 0, fv, ud, pq g, pq g, po g 5, po g 5, iv s.rd, iv (inc s.rd), pq g, po g 5, po g 5, sl g6 0 512 512] 6) (by kernel_rfl) ?_
    refine then_n ?_
    refine wp_seq ?_
    refine wp_region_lit ?_
    refine pv (sl g6 0 512 512) ?_
    refine pv (pq g) ?_
    refine pv (iv ((k : Nat) : Int)) ?_
    refine wl_gv rfl (gv_call (args := #[.pointer (some ⟨g, 0, none⟩), .int .i64 ((k : Nat) : Int)]) rfl Try.func62 (by kernel_rfl) rfl rfl (by kernel_rfl) ?_)
    refine Calls.mono (now_home (S9.blk 1 rfl) rfl rfl hn2 hk (S9.get 3 rfl) hno) ?_
    rintro _ _ ⟨rfl, rfl⟩
    refine ⟨_, rfl, ?_⟩
    refine wl_gv rfl (gv_copy (e := 5) (off := 0) (dLen := 512) (dCap := 512) (sLen := 512) (sCap := (512 * s.last.length - 512 * k)) (A := (some ⟨gd, 512 * k, none⟩)) (B := (List.replicate 512 0)) (l := (s.last.getD k [])) S9 0 rfl rfl (by kernel_rfl) (by kernel_rfl) (by kernel_rfl) (by kernel_rfl) hl5.symm (RdB.row (S9.blk 2 rfl) _ 512 _ hfl.symm) (by simp) (L' := (row g6 (bvs (s.last.getD k [])) 5 :: row g #[.slice (some ⟨gd, 0, none⟩) (512 * s.last.length) (512 * s.last.length), .map (some gm), .bool fused, .int .i64 left, .int .i64 s.life, .int .i64 (inc s.rd), .int .i64 s.wr, .int .i64 s.fl, .int .i64 s.rf, .int .i64 (s.pend.length : Int)] 87 :: row gd (bvs s.last.flatten) 5 :: pt gm (mapO (es.map PEnt.ent) clock) :: stars (es.map PEnt.ast) :: L)) (by rw [copy512 hl5]; rfl) (fun w10 m12 S11 => ?_))
    refine wl_end (fr [pq g, iv ((k : Nat) : Int), ud, ud, .slice none 0 0, iv 0, iv 0, sl g6 0 512 512, pq g, iv ((k : Nat) : Int), iv 0, iv 0, fv, ud, pq g, pq g, po g 5, po g 5, iv s.rd, iv (inc s.rd), pq g, po g 5, po g 5, sl g6 0 512 512, sl g6 0 512 512, pq g, iv ((k : Nat) : Int), sl gd (512 * k) 512 (512 * s.last.length - 512 * k), goInt m12] 1) (by kernel_rfl) ?_
    refine then_n ?_
    refine wp_seq ?_
    refine wp_region_lit ?_
    refine pv (sl g6 0 512 512) ?_
    refine pv (sl g6 0 512 512) ?_
    refine pv (iv 0) ?_
    refine wl_end (fr [pq g, iv ((k : Nat) : Int), ud, ud, sl g6 0 512 512, iv 0, iv 0, sl g6 0 512 512, pq g, iv ((k : Nat) : Int), iv 0, iv 0, fv, ud, pq g, pq g, po g 5, po g 5, iv s.rd, iv (inc s.rd), pq g, po g 5, po g 5, sl g6 0 512 512, sl g6 0 512 512, pq g, iv ((k : Nat) : Int), sl gd (512 * k) 512 (512 * s.last.length - 512 * k), goInt m12, sl g6 0 512 512] 0) (by kernel_rfl) ?_
    refine then_n ?_
    refine wp_ret ?_
    refine bodyPost_ret (v := .tuple #[.slice (some ⟨g6, 0, none⟩) 512 512, .int .i64 0]) (results_t2 rfl (by kernel_rfl) (by kernel_rfl)) rfl ?_
    exact ⟨_, rfl, St.bytes_row (St.swap (St.pclose (gd := gd) (gm := gm) (clock := clock) (es := es) (fused := fused) (left := left) (s := { s with rd := inc s.rd }) (St.rot (LA := pdParts g gd gm clock es fused left ({ s with rd := inc s.rd })) S11) (hf.congr rfl rfl rfl))) hl5.symm hl5.symm⟩
  · obtain ⟨x, hx, hxl, hxm⟩ := last_some (f := Prod.snd) hne
    rw [Dsk.now_some hp hxl]
    have hx5 : x.2.length = 512 := by
      have h1 : x.2 ∈ pendOf s k := by rw [hp]; exact List.mem_map.2 ⟨x, hxm, rfl⟩
      obtain ⟨y, hy, e1⟩ := List.mem_map.1 h1
      rw [← e1]; exact (hf.plen y (List.mem_filter.1 hy).1).1
    have hq0 := List.length_pos_iff.2 hne
    have hqm : p.ws.length ≤ 9223372036854775807 := by
      have h1 := hf.pn
      have h2 : p.ws.length = (pendOf s k).length := by rw [hp, List.length_map]
      have h3 : (pendOf s k).length ≤ s.pend.length := by unfold pendOf; rw [List.length_map]; exact List.length_filter_le _ _
      omega
    change St F w0 w (row g #[.slice (some ⟨gd, 0, none⟩) (512 * s.last.length) (512 * s.last.length), .map (some gm), .bool fused, .int .i64 left, .int .i64 s.life, .int .i64 s.rd, .int .i64 s.wr, .int .i64 s.fl, .int .i64 s.rf, .int .i64 (s.pend.length : Int)] 87 :: row gd (bvs s.last.flatten) 5 :: pt gm (mapO (es.map PEnt.ent) clock) :: stars (es.map PEnt.ast) :: L) at S
    refine wp_enter (fr [pq g, iv ((k : Nat) : Int)] 28) Try.func29 rfl (by kernel_rfl) ?_
    refine wp_seq ?_
    refine wp_region_lit ?_
    refine pv (.slice none 0 0) ?_
    refine pv (iv 0) ?_
    refine wl_end (fr [pq g, iv ((k : Nat) : Int), ud, ud, .slice none 0 0, iv 0] 24) (by kernel_rfl) ?_
    refine then_n ?_
    refine wp_seq ?_
    refine wp_seq ?_
    refine wp_region_lit ?_
    refine pv (pq g) ?_
    refine pv (iv ((k : Nat) : Int)) ?_
    refine wl_gv rfl (gv_call (args := #[.pointer (some ⟨g, 0, none⟩), .int .i64 ((k : Nat) : Int)]) rfl Try.func61 (by kernel_rfl) rfl rfl (by kernel_rfl) ?_)
    refine Calls.mono (there_in hb rfl hn2 hk S) ?_
    rintro _ w1 ⟨rfl, S2⟩
    refine ⟨_, rfl, ?_⟩
    refine pv (iv 0) ?_
    refine wl_end (fr [pq g, iv ((k : Nat) : Int), ud, ud, .slice none 0 0, iv 0, iv 0, ud, pq g, iv ((k : Nat) : Int), iv 0] 19) (by kernel_rfl) ?_
    refine then_n ?_
    refine wp_seq ?_
    refine wp_region_lit ?_
    refine pv (iv 0) ?_
    refine wl_gv rfl (gv_ne (x := 0) (y := 0) (by kernel_rfl) (fun hd3 => False.elim (by omega)) (fun _ => ?_))
    refine wl_end (fr [pq g, iv ((k : Nat) : Int), ud, ud, .slice none 0 0, iv 0, iv 0, ud, pq g, iv ((k : Nat) : Int), iv 0, iv 0, fv] 17) (by kernel_rfl) ?_
    refine then_n ?_
    refine wp_cond_false (by kernel_rfl) ?_
    refine wp_skip ?_
    refine then_n ?_
    refine wp_seq ?_
    refine wp_region_lit ?_
    refine pv (pq g) ?_
    refine pv (pq g) ?_
    refine pv (po g 5) ?_
    refine pv (po g 5) ?_
    refine wl_gv rfl (gv_ldR (v := .int .i64 s.rd) rfl (by kernel_rfl) (by kernel_rfl) (((S2.blk 0 rfl).cell 5).trans rfl) ?_)
    refine pv (iv (inc s.rd)) ?_
    refine pv (pq g) ?_
    refine pv (po g 5) ?_
    refine pv (po g 5) ?_
    refine wl_gv rfl (gv_st (k := 5) (v := .int .i64 (inc s.rd)) S2 0 rfl rfl (by kernel_rfl) (by kernel_rfl) (by kernel_rfl) rfl rfl (L' := (row g #[.slice (some ⟨gd, 0, none⟩) (512 * s.last.length) (512 * s.last.length), .map (some gm), .bool fused, .int .i64 left, .int .i64 s.life, .int .i64 (inc s.rd), .int .i64 s.wr, .int .i64 s.fl, .int .i64 s.rf, .int .i64 (s.pend.length : Int)] 87 :: row gd (bvs s.last.flatten) 5 :: pt gm (mapO (es.map PEnt.ent) clock) :: stars (es.map PEnt.ast) :: L)) rfl (fun w4 S5 => ?_))
    refine wl_end (fr [pq g, iv ((k : Nat) : Int), ud, ud, .slice none 0 0, iv 0, iv 0, ud, pq g, iv ((k : Nat) : Int), iv 0, iv 0, fv, ud, pq g, pq g, po g 5, po g 5, iv s.rd, iv (inc s.rd), pq g, po g 5, po g 5] 7) (by kernel_rfl) ?_
    refine then_n ?_
    refine wp_seq ?_
    refine wp_region_lit ?_
    refine wl_gv rfl (gv_make (e := 5) (u := 512) (v := 512) (z := .int .u8 0) (sz := 1) (by_ := 1) (n := 512) (c := 512) (cs := (bvs (List.replicate 512 0))) S5 rfl (by kernel_rfl) ⟨by kernel_rfl⟩ (by kernel_rfl) (by kernel_rfl) rfl rfl (Nat.le_refl _) (by decide) (by decide) (mk_bytes _) (fun g6 w7 hg8 S9 => ?_))
    refine pv (sl g6 0 512 512) ?_
    refine wl_end (fr [pq g, iv ((k : Nat) : Int), ud, ud, .slice none 0 0, iv 0, iv 0, sl g6 0 512 512, pq g, iv ((k : Nat) : Int), iv 0, iv 0, fv, ud, pq g, pq g, po g 5, po g 5, iv s.rd, iv (inc s.rd), pq g, po g 5, po g 5, sl g6 0 512 512] 6) (by kernel_rfl) ?_
    refine then_n ?_
    refine wp_seq ?_
    refine wp_region_lit ?_
    refine pv (sl g6 0 512 512) ?_
    refine pv (pq g) ?_
    refine pv (iv ((k : Nat) : Int)) ?_
    refine wl_gv rfl (gv_call (args := #[.pointer (some ⟨g, 0, none⟩), .int .i64 ((k : Nat) : Int)]) rfl Try.func62 (by kernel_rfl) rfl rfl (by kernel_rfl) ?_)
    obtain ⟨gb, cb, cells, hv, HV, hcell, hdat⟩ := pend_facts S9 4 rfl hj hne
    refine Calls.mono (now_pend (S9.blk 1 rfl) (S9.get 3 rfl) hje hke hfe hv hq0 hqm HV (hcell _ _ hx)) ?_
    rintro _ _ ⟨rfl, rfl⟩
    refine ⟨_, rfl, ?_⟩
    refine wl_gv rfl (gv_copy (e := 5) (off := 0) (dLen := 512) (dCap := 512) (sLen := 512) (sCap := 512) (A := (some ⟨x.1, 0, none⟩)) (B := (List.replicate 512 0)) (l := x.2) S9 0 rfl rfl (by kernel_rfl) (by kernel_rfl) (by kernel_rfl) (by kernel_rfl) hx5.symm (RdB.row (hdat x hxm) 0 512 _ (by rw [List.drop_zero, List.take_of_length_le (by omega)])) (by simp) (L' := (row g6 (bvs x.2) 5 :: row g #[.slice (some ⟨gd, 0, none⟩) (512 * s.last.length) (512 * s.last.length), .map (some gm), .bool fused, .int .i64 left, .int .i64 s.life, .int .i64 (inc s.rd), .int .i64 s.wr, .int .i64 s.fl, .int .i64 s.rf, .int .i64 (s.pend.length : Int)] 87 :: row gd (bvs s.last.flatten) 5 :: pt gm (mapO (es.map PEnt.ent) clock) :: stars (es.map PEnt.ast) :: L)) (by rw [copy512 hx5]; rfl) (fun w10 m12 S11 => ?_))
    refine wl_end (fr [pq g, iv ((k : Nat) : Int), ud, ud, .slice none 0 0, iv 0, iv 0, sl g6 0 512 512, pq g, iv ((k : Nat) : Int), iv 0, iv 0, fv, ud, pq g, pq g, po g 5, po g 5, iv s.rd, iv (inc s.rd), pq g, po g 5, po g 5, sl g6 0 512 512, sl g6 0 512 512, pq g, iv ((k : Nat) : Int), sl x.1 0 512 512, goInt m12] 1) (by kernel_rfl) ?_
    refine then_n ?_
    refine wp_seq ?_
    refine wp_region_lit ?_
    refine pv (sl g6 0 512 512) ?_
    refine pv (sl g6 0 512 512) ?_
    refine pv (iv 0) ?_
    refine wl_end (fr [pq g, iv ((k : Nat) : Int), ud, ud, sl g6 0 512 512, iv 0, iv 0, sl g6 0 512 512, pq g, iv ((k : Nat) : Int), iv 0, iv 0, fv, ud, pq g, pq g, po g 5, po g 5, iv s.rd, iv (inc s.rd), pq g, po g 5, po g 5, sl g6 0 512 512, sl g6 0 512 512, pq g, iv ((k : Nat) : Int), sl x.1 0 512 512, goInt m12, sl g6 0 512 512] 0) (by kernel_rfl) ?_
    refine then_n ?_
    refine wp_ret ?_
    refine bodyPost_ret (v := .tuple #[.slice (some ⟨g6, 0, none⟩) 512 512, .int .i64 0]) (results_t2 rfl (by kernel_rfl) (by kernel_rfl)) rfl ?_
    exact ⟨_, rfl, St.bytes_row (St.swap (St.pclose (gd := gd) (gm := gm) (clock := clock) (es := es) (fused := fused) (left := left) (s := { s with rd := inc s.rd }) (St.rot (LA := pdParts g gd gm clock es fused left ({ s with rd := inc s.rd })) S11) (hf.congr rfl rfl rfl))) hx5.symm hx5.symm⟩
end Go.Proofs
