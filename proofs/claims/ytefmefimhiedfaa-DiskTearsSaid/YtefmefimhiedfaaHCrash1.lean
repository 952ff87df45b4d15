/- What a pick makes of a sector: outcome, and its closure. -/
import Derived.Test.YtefmefimhiedfaaHCrash0
import Derived.Test.YtefmefimhiedfaaHDisk2
import Derived.Test.YtefmefimhiedfaaHReg
open Go Go.RowKit Go.Proofs.YtefmefimhiedfaaW.PrintWords Go.Proofs.YtefmefimhiedfaaW.PrintMore
namespace Go.Proofs
open Go.Vel
set_option linter.unusedVariables false
set_option maxRecDepth 100000
set_option maxHeartbeats 4000000
attribute [local irreducible] gives wpList Code.wp

theorem tmod_nat {a b : Int} {m n : Nat} (ha : a = (m : Int)) (hb : b = (n : Int)) : Int.tmod a b = ((m % n : Nat) : Int) := by subst ha hb; rfl
theorem max_nat (n : Int) : (if (0 : Int) > n then 0 else n) = ((n.toNat : Nat) : Int) := by split <;> omega
/-- Which slice the closure hands back. -/
def CandA (gd k m : Nat) (ws : List (Nat × List UInt8)) (i : Nat) (A : Option Addr) (c : Nat) : Prop := (i = 0 ∧ A = some ⟨gd, 512 * k, none⟩ ∧ c = 512 * m - 512 * k) ∨ ∃ x, i ≠ 0 ∧ ws[i - 1]? = some x ∧ A = some ⟨x.1, 0, none⟩ ∧ c = 512
theorem cand_ro {w : World} {g gd gm m g7 g3 g4 : Nat} {fused : Bool} {left life r wr fl rf pn : Int} {p : PEnt} {t7 t3 t4 : TypeId} {n : Int} {A : Option Addr} {ca : Nat} (HB : Blk w g (dcells gd (512 * m) (512 * m) gm fused left life r wr fl rf pn) 87) (H7 : Blk w g7 #[p.v] t7) (H3 : Blk w g3 #[.pointer (some ⟨g, 0, none⟩)] t3) (H4 : Blk w g4 #[.int .i64 ((p.at_ : Nat) : Int)] t4) (hm : m ≤ 2048) (hk : p.at_ < m) (hq : p.ws.length ≤ 4611686018427387904)
    (hv : ∃ (gb cb : Nat) (cells : Array Value), p.v = .slice (some ⟨gb, 0, none⟩) p.ws.length cb ∧ Blk w gb cells 31 ∧ (∀ (m : Nat) (x : Nat × List UInt8), p.ws[m]? = some x → cells[m]? = some (PEnt.val x))) (hA : CandA gd p.at_ m p.ws (n.toNat % (p.ws.length + 1)) A ca) :
    Calls Try.prog 88 #[.int .i64 n, .pointer (some ⟨g7, 0, none⟩), .pointer (some ⟨g3, 0, none⟩), .pointer (some ⟨g4, 0, none⟩)] w fun e w' => e = .returned (.slice A 512 ca) ∧ w = w' := by
  obtain ⟨gb, cb, cells, hv, HV, hcell⟩ := hv
  rw [hv] at H7
  rcases hA with ⟨h0, rfl, rfl⟩ | ⟨x, h0, hx, rfl, rfl⟩
  · skip
    refine wp_enter (fr [iv n, pq g7, pq g3, pq g4] 18) Try.func88 rfl (by kernel_rfl) ?_
    refine wp_seq ?_
    refine wp_region_lit ?_
    refine pv (.slice none 0 0) ?_
    refine wl_end (fr [iv n, pq g7, pq g3, pq g4, ud, .slice none 0 0] 16) (by kernel_rfl) ?_
    refine then_n ?_
    refine wp_seq ?_
    refine wp_seq ?_
    refine wp_region_lit ?_
    refine pv (iv n) ?_
    refine wl_gv rfl (gv_int (k := .i64) (z := if 0 > n then 0 else n) (z' := ((n.toNat : Nat) : Int)) (by kernel_rfl) (max_nat n) ?_)
    refine wl_gv rfl (gv_ldR (v := .slice (some ⟨gb, 0, none⟩) p.ws.length cb) rfl (by kernel_rfl) (by kernel_rfl) ((H7.cell 0).trans rfl) ?_)
    refine pv (iv (p.ws.length : Nat)) ?_
    refine wl_gv rfl (gv_int (k := .i64) (z := IntKind.i64.wrap ((p.ws.length : Nat) + 1)) (z' := ((p.ws.length + 1 : Nat) : Int)) (by kernel_rfl) (wr_eq (by omega) (by omega) (by omega)) ?_)
    refine wl_gv rfl (gv_int (k := .i64) (z := Int.tmod ((n.toNat : Nat) : Int) ((p.ws.length + 1 : Nat) : Int)) (z' := ((n.toNat % (p.ws.length + 1) : Nat) : Int)) (by kernel_rfl) (tmod_nat rfl rfl) ?_)
    refine pv (iv ((n.toNat % (p.ws.length + 1) : Nat) : Int)) ?_
    refine wl_end (fr [iv ((n.toNat % (p.ws.length + 1) : Nat) : Int), pq g7, pq g3, pq g4, ud, .slice none 0 0, iv n, iv ((n.toNat : Nat) : Int), sl gb 0 p.ws.length cb, iv (p.ws.length : Nat), iv ((p.ws.length + 1 : Nat) : Int), iv ((n.toNat % (p.ws.length + 1) : Nat) : Int)] 10) (by kernel_rfl) ?_
    refine then_n ?_
    refine wp_seq ?_
    refine wp_region_lit ?_
    refine pv (iv ((n.toNat % (p.ws.length + 1) : Nat) : Int)) ?_
    refine wl_gv rfl (gv_dec (p := (((n.toNat % (p.ws.length + 1) : Nat) : Int) : Int) > 0) (by kernel_rfl) (fun hd1 => False.elim (by omega)) (fun _ => ?_))
    refine wl_end (fr [iv ((n.toNat % (p.ws.length + 1) : Nat) : Int), pq g7, pq g3, pq g4, ud, .slice none 0 0, iv n, iv ((n.toNat : Nat) : Int), sl gb 0 p.ws.length cb, iv (p.ws.length : Nat), iv ((p.ws.length + 1 : Nat) : Int), iv ((n.toNat % (p.ws.length + 1) : Nat) : Int), iv ((n.toNat % (p.ws.length + 1) : Nat) : Int), fv] 8) (by kernel_rfl) ?_
    refine then_n ?_
    refine wp_cond_false (by kernel_rfl) ?_
    refine wp_skip ?_
    refine then_n ?_
    refine wp_seq ?_
    refine wp_region_lit ?_
    refine wl_gv rfl (gv_ldR (v := .pointer (some ⟨g, 0, none⟩)) rfl (by kernel_rfl) (by kernel_rfl) ((H3.cell 0).trans rfl) ?_)
    refine wl_gv rfl (gv_ldR (v := .int .i64 ((p.at_ : Nat) : Int)) rfl (by kernel_rfl) (by kernel_rfl) ((H4.cell 0).trans rfl) ?_)
    refine wl_gv rfl (gv_call (args := #[.pointer (some ⟨g, 0, none⟩), .int .i64 ((p.at_ : Nat) : Int)]) rfl Try.func71 (by kernel_rfl) rfl rfl (by kernel_rfl) ?_)
    refine Calls.mono (home_ro HB rfl rfl hm hk) ?_
    rintro _ _ ⟨rfl, rfl⟩
    refine ⟨_, rfl, ?_⟩
    refine pv (sl gd (512 * p.at_) 512 (512 * m - 512 * p.at_)) ?_
    refine wl_end (fr [iv ((n.toNat % (p.ws.length + 1) : Nat) : Int), pq g7, pq g3, pq g4, ud, sl gd (512 * p.at_) 512 (512 * m - 512 * p.at_), iv n, iv ((n.toNat : Nat) : Int), sl gb 0 p.ws.length cb, iv (p.ws.length : Nat), iv ((p.ws.length + 1 : Nat) : Int), iv ((n.toNat % (p.ws.length + 1) : Nat) : Int), iv ((n.toNat % (p.ws.length + 1) : Nat) : Int), fv, ud, ud, ud, ud, ud, pq g, iv ((p.at_ : Nat) : Int), sl gd (512 * p.at_) 512 (512 * m - 512 * p.at_)] 0) (by kernel_rfl) ?_
    refine then_n ?_
    refine wp_ret ?_
    refine bodyPost_ret (v := .slice (some ⟨gd, 512 * p.at_, none⟩) 512 (512 * m - 512 * p.at_)) (results_t1 rfl (by kernel_rfl)) rfl ?_
    exact ⟨rfl, rfl⟩
  · have hlt := (List.getElem?_eq_some_iff.1 hx).1
    refine wp_enter (fr [iv n, pq g7, pq g3, pq g4] 18) Try.func88 rfl (by kernel_rfl) ?_
    refine wp_seq ?_
    refine wp_region_lit ?_
    refine pv (.slice none 0 0) ?_
    refine wl_end (fr [iv n, pq g7, pq g3, pq g4, ud, .slice none 0 0] 16) (by kernel_rfl) ?_
    refine then_n ?_
    refine wp_seq ?_
    refine wp_seq ?_
    refine wp_region_lit ?_
    refine pv (iv n) ?_
    refine wl_gv rfl (gv_int (k := .i64) (z := if 0 > n then 0 else n) (z' := ((n.toNat : Nat) : Int)) (by kernel_rfl) (max_nat n) ?_)
    refine wl_gv rfl (gv_ldR (v := .slice (some ⟨gb, 0, none⟩) p.ws.length cb) rfl (by kernel_rfl) (by kernel_rfl) ((H7.cell 0).trans rfl) ?_)
    refine pv (iv (p.ws.length : Nat)) ?_
    refine wl_gv rfl (gv_int (k := .i64) (z := IntKind.i64.wrap ((p.ws.length : Nat) + 1)) (z' := ((p.ws.length + 1 : Nat) : Int)) (by kernel_rfl) (wr_eq (by omega) (by omega) (by omega)) ?_)
    refine wl_gv rfl (gv_int (k := .i64) (z := Int.tmod ((n.toNat : Nat) : Int) ((p.ws.length + 1 : Nat) : Int)) (z' := ((n.toNat % (p.ws.length + 1) : Nat) : Int)) (by kernel_rfl) (tmod_nat rfl rfl) ?_)
    refine pv (iv ((n.toNat % (p.ws.length + 1) : Nat) : Int)) ?_
    refine wl_end (fr [iv ((n.toNat % (p.ws.length + 1) : Nat) : Int), pq g7, pq g3, pq g4, ud, .slice none 0 0, iv n, iv ((n.toNat : Nat) : Int), sl gb 0 p.ws.length cb, iv (p.ws.length : Nat), iv ((p.ws.length + 1 : Nat) : Int), iv ((n.toNat % (p.ws.length + 1) : Nat) : Int)] 10) (by kernel_rfl) ?_
    refine then_n ?_
    refine wp_seq ?_
    refine wp_region_lit ?_
    refine pv (iv ((n.toNat % (p.ws.length + 1) : Nat) : Int)) ?_
    refine wl_gv rfl (gv_dec (p := (((n.toNat % (p.ws.length + 1) : Nat) : Int) : Int) > 0) (by kernel_rfl) (fun _ => ?_) (fun hd1 => False.elim (by omega)))
    refine wl_end (fr [iv ((n.toNat % (p.ws.length + 1) : Nat) : Int), pq g7, pq g3, pq g4, ud, .slice none 0 0, iv n, iv ((n.toNat : Nat) : Int), sl gb 0 p.ws.length cb, iv (p.ws.length : Nat), iv ((p.ws.length + 1 : Nat) : Int), iv ((n.toNat % (p.ws.length + 1) : Nat) : Int), iv ((n.toNat % (p.ws.length + 1) : Nat) : Int), tv] 8) (by kernel_rfl) ?_
    refine then_n ?_
    refine wp_cond_true (by kernel_rfl) ?_
    refine wp_seq ?_
    refine wp_region_lit ?_
    refine wl_gv rfl (gv_ldR (v := .slice (some ⟨gb, 0, none⟩) p.ws.length cb) rfl (by kernel_rfl) (by kernel_rfl) ((H7.cell 0).trans rfl) ?_)
    refine pv (iv ((n.toNat % (p.ws.length + 1) : Nat) : Int)) ?_
    refine wl_gv rfl (gv_int (k := .i64) (z := IntKind.i64.wrap (((n.toNat % (p.ws.length + 1) : Nat) : Int) - 1)) (z' := ((n.toNat % (p.ws.length + 1) - 1 : Nat) : Int)) (by kernel_rfl) (wr_eq (by omega) (by omega) (by omega)) ?_)
    refine wl_gv rfl (gv_ixE (e := 31) (sz := 1) (g := gb) (off := 0) (n := p.ws.length) (c := cb) (i := ((n.toNat % (p.ws.length + 1) - 1 : Nat) : Int)) (k := .i64) (j := (n.toNat % (p.ws.length + 1) - 1)) (off' := (n.toNat % (p.ws.length + 1) - 1)) rfl (by kernel_rfl) (by kernel_rfl) (by kernel_rfl) (by kernel_rfl) rfl (by omega) (by omega) ?_)
    refine wl_gv rfl (gv_ldR (v := .slice (some ⟨x.1, 0, none⟩) 512 512) rfl (by kernel_rfl) (by kernel_rfl) ((HV.cell _).trans (hcell _ x hx)) ?_)
    refine pv (sl x.1 0 512 512) ?_
    refine wl_end (fr [iv ((n.toNat % (p.ws.length + 1) : Nat) : Int), pq g7, pq g3, pq g4, ud, sl x.1 0 512 512, iv n, iv ((n.toNat : Nat) : Int), sl gb 0 p.ws.length cb, iv (p.ws.length : Nat), iv ((p.ws.length + 1 : Nat) : Int), iv ((n.toNat % (p.ws.length + 1) : Nat) : Int), iv ((n.toNat % (p.ws.length + 1) : Nat) : Int), tv, sl gb 0 p.ws.length cb, iv ((n.toNat % (p.ws.length + 1) : Nat) : Int), iv ((n.toNat % (p.ws.length + 1) - 1 : Nat) : Int), po gb (n.toNat % (p.ws.length + 1) - 1), sl x.1 0 512 512] 3) (by kernel_rfl) ?_
    refine then_n ?_
    refine wp_ret ?_
    refine then_r ?_
    refine bodyPost_ret (v := .slice (some ⟨x.1, 0, none⟩) 512 512) (results_t1 rfl (by kernel_rfl)) rfl ?_
    exact ⟨rfl, rfl⟩
/-- A content of a sector: where it can be read. -/
theorem cand_pick {F : Nat → Prop} {w0 w : World} {L : List Ast} {g gd gm m clock : Nat} {fused : Bool} {left life r wr fl rf pn : Int} {D x : List UInt8} {es : List PEnt} {j : Nat} {p : PEnt} (S : St F w0 w ([row g (dcells gd (512 * m) (512 * m) gm fused left life r wr fl rf pn) 87, row gd (bvs D) 5, pt gm (mapO (es.map PEnt.ent) clock), stars (es.map PEnt.ast)] ++ L)) (hj : es[j]? = some p) (hne : p.ws ≠ []) (hx : x = (D.drop (512 * p.at_)).take 512) (h5 : ∀ x ∈ p.ws, x.2.length = 512) (i : Nat) (hi : i < p.ws.length + 1) :
    ∃ A ca, CandA gd p.at_ m p.ws i A ca ∧ RoT F w0 ([row g (dcells gd (512 * m) (512 * m) gm fused left life r wr fl rf pn) 87, row gd (bvs D) 5, pt gm (mapO (es.map PEnt.ent) clock), stars (es.map PEnt.ast)] ++ L) A ((x :: p.ws.map (·.2)).getD i []) := by
  rcases Nat.eq_zero_or_pos i with rfl | h0
  · exact ⟨_, _, .inl ⟨rfl, rfl, rfl⟩, RoT.item 1 rfl _ 512 _ hx⟩
  · have hl : i - 1 < p.ws.length := by omega
    refine ⟨_, _, .inr ⟨p.ws[i - 1], by omega, List.getElem?_eq_getElem hl, rfl, rfl⟩, ⟨fun w' L' S' => ?_⟩⟩
    have h1 : (L' ++ ([row g (dcells gd (512 * m) (512 * m) gm fused left life r wr fl rf pn) 87, row gd (bvs D) 5, pt gm (mapO (es.map PEnt.ent) clock), stars (es.map PEnt.ast)] ++ L))[L'.length + 3]? = some (stars (es.map PEnt.ast)) := by rw [List.getElem?_append_right (by omega)]; simp
    obtain ⟨_, _, _, _, _, _, hdat⟩ := pend_facts S' _ h1 hj hne
    have hm : p.ws[i - 1] ∈ p.ws := List.getElem_mem hl
    refine RdB.row (hdat _ hm) 0 512 _ ?_
    rw [List.drop_zero, List.take_of_length_le (by rw [h5 _ hm]; exact Nat.le_refl _)]
    obtain ⟨q, rfl⟩ : ∃ q, i = q + 1 := ⟨i - 1, by omega⟩
    simp at hl
    simp [hl]
theorem outcome_own {F : Nat → Prop} {w0 w : World} {L : List Ast} {g gd gm m clock : Nat} {fused : Bool} {left life r wr fl rf pn : Int} {D x : List UInt8} {es : List PEnt} {j : Nat} {p : PEnt} {pa pb pc : Int} (S : St F w0 w ([row g (dcells gd (512 * m) (512 * m) gm fused left life r wr fl rf pn) 87, row gd (bvs D) 5, pt gm (mapO (es.map PEnt.ent) clock), stars (es.map PEnt.ast)] ++ L)) (hj : es[j]? = some p) (hje : (es.map PEnt.ent)[j]? = some p.ent) (hke : p.ent.k = ((p.at_ : Nat) : Int)) (hfe : ∀ (m : Nat) (e : Ent), m < j → (es.map PEnt.ent)[m]? = some e → e.k ≠ ((p.at_ : Nat) : Int)) (hne : p.ws ≠ []) (hx : x = (D.drop (512 * p.at_)).take 512) (hx5 : x.length = 512) (h5 : ∀ x ∈ p.ws, x.2.length = 512) (hm : m ≤ 2048) (hk : p.at_ < m) (hq : p.ws.length ≤ 4611686018427387904) :
    Calls Try.prog 72 #[.pointer (some ⟨g, 0, none⟩), .int .i64 ((p.at_ : Nat) : Int), .agg #[.int .i64 pa, .int .i64 pb, .int .i64 pc]] w fun e w' => ∃ go, e = .returned (.slice (some ⟨go, 0, none⟩) 512 512) ∧ St F w0 w' (row go (bvs (tornS (x :: p.ws.map (·.2)) (pa, pb, pc))) 5 :: ([row g (dcells gd (512 * m) (512 * m) gm fused left life r wr fl rf pn) 87, row gd (bvs D) 5, pt gm (mapO (es.map PEnt.ent) clock), stars (es.map PEnt.ast)] ++ L)) := by
  obtain ⟨Aa, caa, hAa, hRa⟩ := cand_pick S hj hne hx h5 (pa.toNat % (p.ws.length + 1)) (Nat.mod_lt _ (Nat.succ_pos _))
  obtain ⟨Ab, cab, hAb, hRb⟩ := cand_pick S hj hne hx h5 (pb.toNat % (p.ws.length + 1)) (Nat.mod_lt _ (Nat.succ_pos _))
  have hone : p.v.oneCell' = true := by
    obtain ⟨_, _, _, hv, _⟩ := pend_facts S 3 rfl hj hne
    rw [hv]; rfl
  have hcl : ∀ y ∈ (x :: p.ws.map (·.2)), y.length = 512 := fun y hy => by
    rcases List.mem_cons.1 hy with rfl | hy
    · exact hx5
    · obtain ⟨z, hz, rfl⟩ := List.mem_map.1 hy; exact h5 z hz
  have hlen : (x :: p.ws.map (·.2)).length = p.ws.length + 1 := by simp
  have hcl2 : ∀ i, i < p.ws.length + 1 → ((x :: p.ws.map (·.2)).getD i []).length = 512 := fun i hi => by
    rw [List.getD_eq_getElem?_getD, List.getElem?_eq_getElem (by rw [hlen]; exact hi)]; exact hcl _ (List.getElem_mem _)
  have hla := hcl2 _ (Nat.mod_lt pa.toNat (Nat.succ_pos p.ws.length))
  have hlb := hcl2 _ (Nat.mod_lt pb.toNat (Nat.succ_pos p.ws.length))
  have hcm : pc.toNat % 513 < 513 := Nat.mod_lt _ (by decide)
  change St F w0 w (row g #[.slice (some ⟨gd, 0, none⟩) (512 * m) (512 * m), .map (some gm), .bool fused, .int .i64 left, .int .i64 life, .int .i64 r, .int .i64 wr, .int .i64 fl, .int .i64 rf, .int .i64 pn] 87 :: row gd (bvs D) 5 :: pt gm (mapO (es.map PEnt.ent) clock) :: stars (es.map PEnt.ast) :: L) at S
  refine wp_enter (fr [pq g, iv ((p.at_ : Nat) : Int), .agg #[iv pa, iv pb, iv pc]] 35) Try.func72 rfl (by kernel_rfl) ?_
  refine wp_seq ?_
  refine wp_region_lit ?_
  refine wl_gv rfl (gv_box (v := .pointer (some ⟨g, 0, none⟩)) S rfl (by kernel_rfl) (fun g1 w2 hg3 S4 => ?_))
  refine wl_gv rfl (gv_box (v := .int .i64 ((p.at_ : Nat) : Int)) S4 rfl (by kernel_rfl) (fun g5 w6 hg7 S8 => ?_))
  refine wl_gv rfl (gv_box (v := .agg #[.int .i64 pa, .int .i64 pb, .int .i64 pc]) S8 rfl (by kernel_rfl) (fun g9 w10 hg11 S12 => ?_))
  refine pv (.slice none 0 0) ?_
  refine wl_end (fr [pq g, iv ((p.at_ : Nat) : Int), .agg #[iv pa, iv pb, iv pc], pq g1, pq g5, pq g9, .slice none 0 0] 31) (by kernel_rfl) ?_
  refine then_n ?_
  refine wp_seq ?_
  refine wp_region_phu (γ := Nat) 7 [6] (fun (c_ : Nat) (i_ : Nat) => (match i_ with | 0 => .pointer (some ⟨g, 0, none⟩) | 1 => .pointer (some ⟨g, 0, none⟩) | 2 => .pointer (some ⟨g, 1, none⟩) | 3 => .map (some gm) | 4 => .int .i64 ((p.at_ : Nat) : Int) | 5 => p.v | 6 => .pointer (some ⟨c_, 0, none⟩) | _ => undef : Value)) (fun (c_ : Nat) (p_ : Nat) (w_ : World) => (match p_ with | 0 => St F w0 w_ (row g9 #[.int .i64 pa, .int .i64 pb, .int .i64 pc] 66 :: row g5 #[.int .i64 ((p.at_ : Nat) : Int)] 3 :: row g1 #[.pointer (some ⟨g, 0, none⟩)] 22 :: row g #[.slice (some ⟨gd, 0, none⟩) (512 * m) (512 * m), .map (some gm), .bool fused, .int .i64 left, .int .i64 life, .int .i64 r, .int .i64 wr, .int .i64 fl, .int .i64 rf, .int .i64 pn] 87 :: row gd (bvs D) 5 :: pt gm (mapO (es.map PEnt.ent) clock) :: stars (es.map PEnt.ast) :: L) | _ => St F w0 w_ (row c_ #[.slice none 0 0] 52 :: row g9 #[.int .i64 pa, .int .i64 pb, .int .i64 pc] 66 :: row g5 #[.int .i64 ((p.at_ : Nat) : Int)] 3 :: row g1 #[.pointer (some ⟨g, 0, none⟩)] 22 :: row g #[.slice (some ⟨gd, 0, none⟩) (512 * m) (512 * m), .map (some gm), .bool fused, .int .i64 left, .int .i64 life, .int .i64 r, .int .i64 wr, .int .i64 fl, .int .i64 rf, .int .i64 pn] 87 :: row gd (bvs D) 5 :: pt gm (mapO (es.map PEnt.ent) clock) :: stars (es.map PEnt.ast) :: L) : Prop)) (0) (by kernel_rfl) (by kernel_rfl) (by kernel_rfl) (by kernel_rfl) (S12.drew) ?_ ?_ ?_
  · intro i_ c_ p_ vals_ w1 hi_ hiE_ hp_ hk_ hu_ hPh_ hd_
    rcases i_ with _ | _ | _ | _ | _ | _ | _ | i_
    · skip
      rcases p_ with _ | _ | p_
      · skip
        have S13 : St F w0 w1 (row g9 #[.int .i64 pa, .int .i64 pb, .int .i64 pc] 66 :: row g5 #[.int .i64 ((p.at_ : Nat) : Int)] 3 :: row g1 #[.pointer (some ⟨g, 0, none⟩)] 22 :: row g #[.slice (some ⟨gd, 0, none⟩) (512 * m) (512 * m), .map (some gm), .bool fused, .int .i64 left, .int .i64 life, .int .i64 r, .int .i64 wr, .int .i64 fl, .int .i64 rf, .int .i64 pn] 87 :: row gd (bvs D) 5 :: pt gm (mapO (es.map PEnt.ent) clock) :: stars (es.map PEnt.ast) :: L) := hPh_
        refine told_free rfl rfl (gv_env ((⟨Array.replicate 38 undef, []⟩ : Act).put (some 3) (.pointer (some ⟨g1, 0, none⟩))) (by kernel_rfl) (xs := [.tmp 3]) (by kernel_rfl) (alike_cons (fill_past (by kernel_rfl) (by kernel_rfl)) alike_nil) (gv_ldR (v := .pointer (some ⟨g, 0, none⟩)) rfl (by kernel_rfl) (by kernel_rfl) (((S13.blk 2 rfl).cell 0).trans rfl) ?_))
        exact ⟨rfl, rfl⟩
      · skip
        have S14 : St F w0 w1 (row c_ #[.slice none 0 0] 52 :: row g9 #[.int .i64 pa, .int .i64 pb, .int .i64 pc] 66 :: row g5 #[.int .i64 ((p.at_ : Nat) : Int)] 3 :: row g1 #[.pointer (some ⟨g, 0, none⟩)] 22 :: row g #[.slice (some ⟨gd, 0, none⟩) (512 * m) (512 * m), .map (some gm), .bool fused, .int .i64 left, .int .i64 life, .int .i64 r, .int .i64 wr, .int .i64 fl, .int .i64 rf, .int .i64 pn] 87 :: row gd (bvs D) 5 :: pt gm (mapO (es.map PEnt.ent) clock) :: stars (es.map PEnt.ast) :: L) := hPh_
        refine told_free rfl rfl (gv_env ((⟨Array.replicate 38 undef, []⟩ : Act).put (some 3) (.pointer (some ⟨g1, 0, none⟩))) (by kernel_rfl) (xs := [.tmp 3]) (by kernel_rfl) (alike_cons (fill_past (by kernel_rfl) (by kernel_rfl)) alike_nil) (gv_ldR (v := .pointer (some ⟨g, 0, none⟩)) rfl (by kernel_rfl) (by kernel_rfl) (((S14.blk 3 rfl).cell 0).trans rfl) ?_))
        exact ⟨rfl, rfl⟩
      · exact absurd hp_ (by simp)
    · skip
      refine told_free rfl rfl (gv_env ((⟨Array.replicate 38 undef, []⟩ : Act).put (some 11) (.pointer (some ⟨g, 0, none⟩))) (by kernel_rfl) (xs := [.tmp 11]) (by kernel_rfl) (alike_cons (fill_at (k := 0) (by kernel_rfl) (by kernel_rfl) ((hd_ 0 (by kernel_rfl)).trans (by kernel_rfl))) alike_nil) (gv_val (v := .pointer (some ⟨g, 0, none⟩)) (w' := w1) (by kernel_rfl) ?_))
      exact ⟨rfl, rfl⟩
    · skip
      refine told_free rfl rfl (gv_env ((⟨Array.replicate 38 undef, []⟩ : Act).put (some 12) (.pointer (some ⟨g, 0, none⟩))) (by kernel_rfl) (xs := [.tmp 12]) (by kernel_rfl) (alike_cons (fill_at (k := 1) (by kernel_rfl) (by kernel_rfl) ((hd_ 1 (by kernel_rfl)).trans (by kernel_rfl))) alike_nil) (gv_val (v := .pointer (some ⟨g, 1, none⟩)) (w' := w1) (by kernel_rfl) ?_))
      exact ⟨rfl, rfl⟩
    · skip
      rcases p_ with _ | _ | p_
      · skip
        have S17 : St F w0 w1 (row g9 #[.int .i64 pa, .int .i64 pb, .int .i64 pc] 66 :: row g5 #[.int .i64 ((p.at_ : Nat) : Int)] 3 :: row g1 #[.pointer (some ⟨g, 0, none⟩)] 22 :: row g #[.slice (some ⟨gd, 0, none⟩) (512 * m) (512 * m), .map (some gm), .bool fused, .int .i64 left, .int .i64 life, .int .i64 r, .int .i64 wr, .int .i64 fl, .int .i64 rf, .int .i64 pn] 87 :: row gd (bvs D) 5 :: pt gm (mapO (es.map PEnt.ent) clock) :: stars (es.map PEnt.ast) :: L) := hPh_
        refine told_free rfl rfl (gv_env ((⟨Array.replicate 38 undef, []⟩ : Act).put (some 13) (.pointer (some ⟨g, 1, none⟩))) (by kernel_rfl) (xs := [.tmp 13]) (by kernel_rfl) (alike_cons (fill_at (k := 2) (by kernel_rfl) (by kernel_rfl) ((hd_ 2 (by kernel_rfl)).trans (by kernel_rfl))) alike_nil) (gv_ldR (v := .map (some gm)) rfl (by kernel_rfl) (by kernel_rfl) (((S17.blk 3 rfl).cell 1).trans rfl) ?_))
        exact ⟨rfl, rfl⟩
      · skip
        have S18 : St F w0 w1 (row c_ #[.slice none 0 0] 52 :: row g9 #[.int .i64 pa, .int .i64 pb, .int .i64 pc] 66 :: row g5 #[.int .i64 ((p.at_ : Nat) : Int)] 3 :: row g1 #[.pointer (some ⟨g, 0, none⟩)] 22 :: row g #[.slice (some ⟨gd, 0, none⟩) (512 * m) (512 * m), .map (some gm), .bool fused, .int .i64 left, .int .i64 life, .int .i64 r, .int .i64 wr, .int .i64 fl, .int .i64 rf, .int .i64 pn] 87 :: row gd (bvs D) 5 :: pt gm (mapO (es.map PEnt.ent) clock) :: stars (es.map PEnt.ast) :: L) := hPh_
        refine told_free rfl rfl (gv_env ((⟨Array.replicate 38 undef, []⟩ : Act).put (some 13) (.pointer (some ⟨g, 1, none⟩))) (by kernel_rfl) (xs := [.tmp 13]) (by kernel_rfl) (alike_cons (fill_at (k := 2) (by kernel_rfl) (by kernel_rfl) ((hd_ 2 (by kernel_rfl)).trans (by kernel_rfl))) alike_nil) (gv_ldR (v := .map (some gm)) rfl (by kernel_rfl) (by kernel_rfl) (((S18.blk 4 rfl).cell 1).trans rfl) ?_))
        exact ⟨rfl, rfl⟩
      · exact absurd hp_ (by simp)
    · skip
      rcases p_ with _ | _ | p_
      · skip
        have S19 : St F w0 w1 (row g9 #[.int .i64 pa, .int .i64 pb, .int .i64 pc] 66 :: row g5 #[.int .i64 ((p.at_ : Nat) : Int)] 3 :: row g1 #[.pointer (some ⟨g, 0, none⟩)] 22 :: row g #[.slice (some ⟨gd, 0, none⟩) (512 * m) (512 * m), .map (some gm), .bool fused, .int .i64 left, .int .i64 life, .int .i64 r, .int .i64 wr, .int .i64 fl, .int .i64 rf, .int .i64 pn] 87 :: row gd (bvs D) 5 :: pt gm (mapO (es.map PEnt.ent) clock) :: stars (es.map PEnt.ast) :: L) := hPh_
        refine told_free rfl rfl (gv_env ((⟨Array.replicate 38 undef, []⟩ : Act).put (some 4) (.pointer (some ⟨g5, 0, none⟩))) (by kernel_rfl) (xs := [.tmp 4]) (by kernel_rfl) (alike_cons (fill_past (by kernel_rfl) (by kernel_rfl)) alike_nil) (gv_ldR (v := .int .i64 ((p.at_ : Nat) : Int)) rfl (by kernel_rfl) (by kernel_rfl) (((S19.blk 1 rfl).cell 0).trans rfl) ?_))
        exact ⟨rfl, rfl⟩
      · skip
        have S20 : St F w0 w1 (row c_ #[.slice none 0 0] 52 :: row g9 #[.int .i64 pa, .int .i64 pb, .int .i64 pc] 66 :: row g5 #[.int .i64 ((p.at_ : Nat) : Int)] 3 :: row g1 #[.pointer (some ⟨g, 0, none⟩)] 22 :: row g #[.slice (some ⟨gd, 0, none⟩) (512 * m) (512 * m), .map (some gm), .bool fused, .int .i64 left, .int .i64 life, .int .i64 r, .int .i64 wr, .int .i64 fl, .int .i64 rf, .int .i64 pn] 87 :: row gd (bvs D) 5 :: pt gm (mapO (es.map PEnt.ent) clock) :: stars (es.map PEnt.ast) :: L) := hPh_
        refine told_free rfl rfl (gv_env ((⟨Array.replicate 38 undef, []⟩ : Act).put (some 4) (.pointer (some ⟨g5, 0, none⟩))) (by kernel_rfl) (xs := [.tmp 4]) (by kernel_rfl) (alike_cons (fill_past (by kernel_rfl) (by kernel_rfl)) alike_nil) (gv_ldR (v := .int .i64 ((p.at_ : Nat) : Int)) rfl (by kernel_rfl) (by kernel_rfl) (((S20.blk 2 rfl).cell 0).trans rfl) ?_))
        exact ⟨rfl, rfl⟩
      · exact absurd hp_ (by simp)
    · skip
      rcases p_ with _ | _ | p_
      · skip
        have S21 : St F w0 w1 (row g9 #[.int .i64 pa, .int .i64 pb, .int .i64 pc] 66 :: row g5 #[.int .i64 ((p.at_ : Nat) : Int)] 3 :: row g1 #[.pointer (some ⟨g, 0, none⟩)] 22 :: row g #[.slice (some ⟨gd, 0, none⟩) (512 * m) (512 * m), .map (some gm), .bool fused, .int .i64 left, .int .i64 life, .int .i64 r, .int .i64 wr, .int .i64 fl, .int .i64 rf, .int .i64 pn] 87 :: row gd (bvs D) 5 :: pt gm (mapO (es.map PEnt.ent) clock) :: stars (es.map PEnt.ast) :: L) := hPh_
        refine told_free rfl rfl (gv_env (((⟨Array.replicate 38 undef, []⟩ : Act).put (some 14) (.map (some gm))).put (some 15) (.int .i64 ((p.at_ : Nat) : Int))) (by kernel_rfl) (xs := [.tmp 14, .tmp 15]) (by kernel_rfl) (alike_cons (fill_at (k := 3) (by kernel_rfl) (by kernel_rfl) ((hd_ 3 (by kernel_rfl)).trans (by kernel_rfl))) (alike_cons (fill_at (k := 4) (by kernel_rfl) (by kernel_rfl) ((hd_ 4 (by kernel_rfl)).trans (by kernel_rfl))) alike_nil)) (gv_look_some (kT := 3) (eT := 52) (k := ((p.at_ : Nat) : Int)) (S21.get 5 rfl) rfl (by kernel_rfl) (by kernel_rfl) (by kernel_rfl) (by kernel_rfl) hje hke hfe ?_))
        exact ⟨rfl, rfl⟩
      · skip
        have S22 : St F w0 w1 (row c_ #[.slice none 0 0] 52 :: row g9 #[.int .i64 pa, .int .i64 pb, .int .i64 pc] 66 :: row g5 #[.int .i64 ((p.at_ : Nat) : Int)] 3 :: row g1 #[.pointer (some ⟨g, 0, none⟩)] 22 :: row g #[.slice (some ⟨gd, 0, none⟩) (512 * m) (512 * m), .map (some gm), .bool fused, .int .i64 left, .int .i64 life, .int .i64 r, .int .i64 wr, .int .i64 fl, .int .i64 rf, .int .i64 pn] 87 :: row gd (bvs D) 5 :: pt gm (mapO (es.map PEnt.ent) clock) :: stars (es.map PEnt.ast) :: L) := hPh_
        refine told_free rfl rfl (gv_env (((⟨Array.replicate 38 undef, []⟩ : Act).put (some 14) (.map (some gm))).put (some 15) (.int .i64 ((p.at_ : Nat) : Int))) (by kernel_rfl) (xs := [.tmp 14, .tmp 15]) (by kernel_rfl) (alike_cons (fill_at (k := 3) (by kernel_rfl) (by kernel_rfl) ((hd_ 3 (by kernel_rfl)).trans (by kernel_rfl))) (alike_cons (fill_at (k := 4) (by kernel_rfl) (by kernel_rfl) ((hd_ 4 (by kernel_rfl)).trans (by kernel_rfl))) alike_nil)) (gv_look_some (kT := 3) (eT := 52) (k := ((p.at_ : Nat) : Int)) (S22.get 6 rfl) rfl (by kernel_rfl) (by kernel_rfl) (by kernel_rfl) (by kernel_rfl) hje hke hfe ?_))
        exact ⟨rfl, rfl⟩
      · exact absurd hp_ (by simp)
    · skip
      exact absurd hiE_ (by decide)
    · exact absurd hi_ (by omega)
  · intro k_ c_ vals_ w1 hk_ hPh_ hd_
    rcases k_ with _ | k_
    · skip
      have S23 : St F w0 w1 (row g9 #[.int .i64 pa, .int .i64 pb, .int .i64 pc] 66 :: row g5 #[.int .i64 ((p.at_ : Nat) : Int)] 3 :: row g1 #[.pointer (some ⟨g, 0, none⟩)] 22 :: row g #[.slice (some ⟨gd, 0, none⟩) (512 * m) (512 * m), .map (some gm), .bool fused, .int .i64 left, .int .i64 life, .int .i64 r, .int .i64 wr, .int .i64 fl, .int .i64 rf, .int .i64 pn] 87 :: row gd (bvs D) 5 :: pt gm (mapO (es.map PEnt.ent) clock) :: stars (es.map PEnt.ast) :: L) := hPh_
      refine told_free rfl rfl (gv_env (⟨Array.replicate 38 undef, []⟩ : Act) (by kernel_rfl) (xs := []) (by kernel_rfl) alike_nil (gv_new (z := .slice none 0 0) S23 rfl (by kernel_rfl) (fun g24 w25 hg26 S27 => ?_)))
      refine ⟨(g24), rfl, ?_, S27⟩
      intro i_ hi_ hne_ hdp_
      rcases i_ with _ | _ | _ | _ | _ | _ | _ | i_
      · rfl
      · rfl
      · rfl
      · rfl
      · rfl
      · rfl
      · exact absurd rfl hne_
      · exact absurd hi_ (by omega)
    · exact absurd hk_ (by simp)
  · intro c_ w1 hPh_
    have S28 : St F w0 w1 (row c_ #[.slice none 0 0] 52 :: row g9 #[.int .i64 pa, .int .i64 pb, .int .i64 pc] 66 :: row g5 #[.int .i64 ((p.at_ : Nat) : Int)] 3 :: row g1 #[.pointer (some ⟨g, 0, none⟩)] 22 :: row g #[.slice (some ⟨gd, 0, none⟩) (512 * m) (512 * m), .map (some gm), .bool fused, .int .i64 left, .int .i64 life, .int .i64 r, .int .i64 wr, .int .i64 fl, .int .i64 rf, .int .i64 pn] 87 :: row gd (bvs D) 5 :: pt gm (mapO (es.map PEnt.ent) clock) :: stars (es.map PEnt.ast) :: L) := hPh_
    refine wl_frame (fr [pq g, iv ((p.at_ : Nat) : Int), .agg #[iv pa, iv pb, iv pc], pq g1, pq g5, pq g9, .slice none 0 0, pq c_, ud, ud, ud, pq g, pq g, po g 1, .map (some gm), iv ((p.at_ : Nat) : Int), p.v] 21) (by kernel_rfl) ?_
    refine wl_gv rfl (gv_st (k := 0) (v := p.v) S28 0 rfl rfl (by kernel_rfl) (by kernel_rfl) (by kernel_rfl) hone rfl (L' := (row c_ #[p.v] 52 :: row g9 #[.int .i64 pa, .int .i64 pb, .int .i64 pc] 66 :: row g5 #[.int .i64 ((p.at_ : Nat) : Int)] 3 :: row g1 #[.pointer (some ⟨g, 0, none⟩)] 22 :: row g #[.slice (some ⟨gd, 0, none⟩) (512 * m) (512 * m), .map (some gm), .bool fused, .int .i64 left, .int .i64 life, .int .i64 r, .int .i64 wr, .int .i64 fl, .int .i64 rf, .int .i64 pn] 87 :: row gd (bvs D) 5 :: pt gm (mapO (es.map PEnt.ent) clock) :: stars (es.map PEnt.ast) :: L)) rfl (fun w29 S30 => ?_))
    refine wl_end (fr [pq g, iv ((p.at_ : Nat) : Int), .agg #[iv pa, iv pb, iv pc], pq g1, pq g5, pq g9, .slice none 0 0, pq c_, ud, ud, ud, pq g, pq g, po g 1, .map (some gm), iv ((p.at_ : Nat) : Int), p.v] 21) (by kernel_rfl) ?_
    refine then_n ?_
    refine wp_seq ?_
    refine wp_region_lit ?_
    refine pv (.func (.func 88) #[] #[.pointer (some ⟨c_, 0, none⟩), .pointer (some ⟨g1, 0, none⟩), .pointer (some ⟨g5, 0, none⟩)]) ?_
    refine pv (.func (.func 88) #[] #[.pointer (some ⟨c_, 0, none⟩), .pointer (some ⟨g1, 0, none⟩), .pointer (some ⟨g5, 0, none⟩)]) ?_
    refine wl_end (fr [pq g, iv ((p.at_ : Nat) : Int), .agg #[iv pa, iv pb, iv pc], pq g1, pq g5, pq g9, .slice none 0 0, pq c_, .func (.func 88) #[] #[.pointer (some ⟨c_, 0, none⟩), .pointer (some ⟨g1, 0, none⟩), .pointer (some ⟨g5, 0, none⟩)], ud, ud, pq g, pq g, po g 1, .map (some gm), iv ((p.at_ : Nat) : Int), p.v, .func (.func 88) #[] #[.pointer (some ⟨c_, 0, none⟩), .pointer (some ⟨g1, 0, none⟩), .pointer (some ⟨g5, 0, none⟩)]] 20) (by kernel_rfl) ?_
    refine then_n ?_
    refine wp_seq ?_
    refine wp_region_lit ?_
    refine pv (po g9 2) ?_
    refine wl_gv rfl (gv_ldR (v := .int .i64 pc) rfl (by kernel_rfl) (by kernel_rfl) (((S30.blk 1 rfl).cell 2).trans rfl) ?_)
    refine wl_gv rfl (gv_int (k := .i64) (z := if 0 > pc then 0 else pc) (z' := ((pc.toNat : Nat) : Int)) (by kernel_rfl) (max_nat pc) ?_)
    refine wl_gv rfl (gv_int (k := .i64) (z := Int.tmod ((pc.toNat : Nat) : Int) 513) (z' := ((pc.toNat % 513 : Nat) : Int)) (by kernel_rfl) (tmod_nat rfl rfl) ?_)
    refine pv (iv ((pc.toNat % 513 : Nat) : Int)) ?_
    refine wl_end (fr [pq g, iv ((p.at_ : Nat) : Int), .agg #[iv pa, iv pb, iv pc], pq g1, pq g5, pq g9, .slice none 0 0, pq c_, .func (.func 88) #[] #[.pointer (some ⟨c_, 0, none⟩), .pointer (some ⟨g1, 0, none⟩), .pointer (some ⟨g5, 0, none⟩)], iv ((pc.toNat % 513 : Nat) : Int), ud, pq g, pq g, po g 1, .map (some gm), iv ((p.at_ : Nat) : Int), p.v, .func (.func 88) #[] #[.pointer (some ⟨c_, 0, none⟩), .pointer (some ⟨g1, 0, none⟩), .pointer (some ⟨g5, 0, none⟩)], po g9 2, iv pc, iv ((pc.toNat : Nat) : Int), iv ((pc.toNat % 513 : Nat) : Int)] 16) (by kernel_rfl) ?_
    refine then_n ?_
    refine wp_seq ?_
    refine wp_region_lit ?_
    refine wl_gv rfl (gv_make (e := 5) (u := 512) (v := 512) (z := .int .u8 0) (sz := 1) (by_ := 1) (n := 512) (c := 512) (cs := (bvs (List.replicate 512 0))) S30 rfl (by kernel_rfl) ⟨by kernel_rfl⟩ (by kernel_rfl) (by kernel_rfl) rfl rfl (Nat.le_refl _) (by decide) (by decide) (mk_bytes _) (fun g31 w32 hg33 S34 => ?_))
    refine pv (sl g31 0 512 512) ?_
    refine wl_end (fr [pq g, iv ((p.at_ : Nat) : Int), .agg #[iv pa, iv pb, iv pc], pq g1, pq g5, pq g9, .slice none 0 0, pq c_, .func (.func 88) #[] #[.pointer (some ⟨c_, 0, none⟩), .pointer (some ⟨g1, 0, none⟩), .pointer (some ⟨g5, 0, none⟩)], iv ((pc.toNat % 513 : Nat) : Int), sl g31 0 512 512, pq g, pq g, po g 1, .map (some gm), iv ((p.at_ : Nat) : Int), p.v, .func (.func 88) #[] #[.pointer (some ⟨c_, 0, none⟩), .pointer (some ⟨g1, 0, none⟩), .pointer (some ⟨g5, 0, none⟩)], po g9 2, iv pc, iv ((pc.toNat : Nat) : Int), iv ((pc.toNat % 513 : Nat) : Int), sl g31 0 512 512] 15) (by kernel_rfl) ?_
    refine then_n ?_
    refine wp_seq ?_
    refine wp_region_lit ?_
    refine pv (sl g31 0 512 512) ?_
    refine pv (.func (.func 88) #[] #[.pointer (some ⟨c_, 0, none⟩), .pointer (some ⟨g1, 0, none⟩), .pointer (some ⟨g5, 0, none⟩)]) ?_
    refine pv (po g9 1) ?_
    refine wl_gv rfl (gv_ldR (v := .int .i64 pb) rfl (by kernel_rfl) (by kernel_rfl) (((S34.blk 2 rfl).cell 1).trans rfl) ?_)
    refine wl_gv rfl (gv_callC (f := 88) (args := #[.int .i64 pb, .pointer (some ⟨c_, 0, none⟩), .pointer (some ⟨g1, 0, none⟩), .pointer (some ⟨g5, 0, none⟩)]) (caps := #[.pointer (some ⟨c_, 0, none⟩), .pointer (some ⟨g1, 0, none⟩), .pointer (some ⟨g5, 0, none⟩)]) rfl Try.func88 (by kernel_rfl) rfl (by kernel_rfl) (by kernel_rfl) ?_)
    refine Calls.mono (cand_ro (p := p) (S34.blk 5 rfl) (S34.blk 1 rfl) (S34.blk 4 rfl) (S34.blk 3 rfl) hm hk hq ((pend_facts S34 8 rfl hj hne).elim fun a h => h.elim fun b h => h.elim fun c h => ⟨a, b, c, h.1, h.2.1, h.2.2.1⟩) hAb) ?_
    rintro _ _ ⟨rfl, rfl⟩
    refine ⟨_, rfl, ?_⟩
    refine wl_gv rfl (gv_copy (e := 5) (off := 0) (dLen := 512) (dCap := 512) (sLen := 512) (sCap := cab) (A := Ab) (B := (List.replicate 512 0)) (l := ((x :: p.ws.map (·.2)).getD (pb.toNat % (p.ws.length + 1)) [])) S34 0 rfl rfl (by kernel_rfl) (by kernel_rfl) (by kernel_rfl) (by kernel_rfl) hlb.symm (hRb.out _ [row g31 (bvs (List.replicate 512 0)) 5, row c_ #[p.v] 52, row g9 #[.int .i64 pa, .int .i64 pb, .int .i64 pc] 66, row g5 #[.int .i64 ((p.at_ : Nat) : Int)] 3, row g1 #[.pointer (some ⟨g, 0, none⟩)] 22] S34) (by rw [List.length_replicate]; omega) (L' := (row g31 (bvs ((x :: p.ws.map (·.2)).getD (pb.toNat % (p.ws.length + 1)) [])) 5 :: row c_ #[p.v] 52 :: row g9 #[.int .i64 pa, .int .i64 pb, .int .i64 pc] 66 :: row g5 #[.int .i64 ((p.at_ : Nat) : Int)] 3 :: row g1 #[.pointer (some ⟨g, 0, none⟩)] 22 :: row g #[.slice (some ⟨gd, 0, none⟩) (512 * m) (512 * m), .map (some gm), .bool fused, .int .i64 left, .int .i64 life, .int .i64 r, .int .i64 wr, .int .i64 fl, .int .i64 rf, .int .i64 pn] 87 :: row gd (bvs D) 5 :: pt gm (mapO (es.map PEnt.ent) clock) :: stars (es.map PEnt.ast) :: L)) (by rw [copy512 hlb]; rfl) (fun w35 m37 S36 => ?_))
    refine wl_end (fr [pq g, iv ((p.at_ : Nat) : Int), .agg #[iv pa, iv pb, iv pc], pq g1, pq g5, pq g9, .slice none 0 0, pq c_, .func (.func 88) #[] #[.pointer (some ⟨c_, 0, none⟩), .pointer (some ⟨g1, 0, none⟩), .pointer (some ⟨g5, 0, none⟩)], iv ((pc.toNat % 513 : Nat) : Int), sl g31 0 512 512, pq g, pq g, po g 1, .map (some gm), iv ((p.at_ : Nat) : Int), p.v, .func (.func 88) #[] #[.pointer (some ⟨c_, 0, none⟩), .pointer (some ⟨g1, 0, none⟩), .pointer (some ⟨g5, 0, none⟩)], po g9 2, iv pc, iv ((pc.toNat : Nat) : Int), iv ((pc.toNat % 513 : Nat) : Int), sl g31 0 512 512, sl g31 0 512 512, .func (.func 88) #[] #[.pointer (some ⟨c_, 0, none⟩), .pointer (some ⟨g1, 0, none⟩), .pointer (some ⟨g5, 0, none⟩)], po g9 1, iv pb, .slice Ab 512 cab, goInt m37] 9) (by kernel_rfl) ?_
    refine then_n ?_
    refine wp_seq ?_
    refine wp_region_phu (γ := Int) 8 [7] (fun (c2_ : Int) (i_ : Nat) => (match i_ with | 0 => .slice (some ⟨g31, 0, none⟩) 512 512 | 1 => .int .i64 ((pc.toNat % 513 : Nat) : Int) | 2 => .slice (some ⟨g31, 0, none⟩) (pc.toNat % 513) 512 | 3 => .func (.func 88) #[] #[.pointer (some ⟨c_, 0, none⟩), .pointer (some ⟨g1, 0, none⟩), .pointer (some ⟨g5, 0, none⟩)] | 4 => .pointer (some ⟨g9, 0, none⟩) | 5 => .int .i64 pa | 6 => .slice Aa 512 caa | 7 => goInt c2_ | _ => undef : Value)) (fun (c2_ : Int) (p_ : Nat) (w_ : World) => (match p_ with | 0 => St F w0 w_ (row g31 (bvs ((x :: p.ws.map (·.2)).getD (pb.toNat % (p.ws.length + 1)) [])) 5 :: row c_ #[p.v] 52 :: row g9 #[.int .i64 pa, .int .i64 pb, .int .i64 pc] 66 :: row g5 #[.int .i64 ((p.at_ : Nat) : Int)] 3 :: row g1 #[.pointer (some ⟨g, 0, none⟩)] 22 :: row g #[.slice (some ⟨gd, 0, none⟩) (512 * m) (512 * m), .map (some gm), .bool fused, .int .i64 left, .int .i64 life, .int .i64 r, .int .i64 wr, .int .i64 fl, .int .i64 rf, .int .i64 pn] 87 :: row gd (bvs D) 5 :: pt gm (mapO (es.map PEnt.ent) clock) :: stars (es.map PEnt.ast) :: L) | _ => St F w0 w_ (row g31 (bvs (tornS (x :: p.ws.map (·.2)) (pa, pb, pc))) 5 :: row c_ #[p.v] 52 :: row g9 #[.int .i64 pa, .int .i64 pb, .int .i64 pc] 66 :: row g5 #[.int .i64 ((p.at_ : Nat) : Int)] 3 :: row g1 #[.pointer (some ⟨g, 0, none⟩)] 22 :: row g #[.slice (some ⟨gd, 0, none⟩) (512 * m) (512 * m), .map (some gm), .bool fused, .int .i64 left, .int .i64 life, .int .i64 r, .int .i64 wr, .int .i64 fl, .int .i64 rf, .int .i64 pn] 87 :: row gd (bvs D) 5 :: pt gm (mapO (es.map PEnt.ent) clock) :: stars (es.map PEnt.ast) :: L) : Prop)) (0) (by kernel_rfl) (by kernel_rfl) (by kernel_rfl) (by kernel_rfl) (S36.drew) ?_ ?_ ?_
    · intro i_ c2_ p_ vals_ w1 hi_ hiE_ hp_ hk_ hu_ hPh_ hd_
      rcases i_ with _ | _ | _ | _ | _ | _ | _ | _ | i_
      · skip
        refine told_free rfl rfl (gv_env ((⟨Array.replicate 38 undef, []⟩ : Act).put (some 10) (.slice (some ⟨g31, 0, none⟩) 512 512)) (by kernel_rfl) (xs := [.tmp 10]) (by kernel_rfl) (alike_cons (fill_past (by kernel_rfl) (by kernel_rfl)) alike_nil) (gv_val (v := .slice (some ⟨g31, 0, none⟩) 512 512) (w' := w1) (by kernel_rfl) ?_))
        exact ⟨rfl, rfl⟩
      · skip
        refine told_free rfl rfl (gv_env ((⟨Array.replicate 38 undef, []⟩ : Act).put (some 9) (.int .i64 ((pc.toNat % 513 : Nat) : Int))) (by kernel_rfl) (xs := [.tmp 9]) (by kernel_rfl) (alike_cons (fill_past (by kernel_rfl) (by kernel_rfl)) alike_nil) (gv_val (v := .int .i64 ((pc.toNat % 513 : Nat) : Int)) (w' := w1) (by kernel_rfl) ?_))
        exact ⟨rfl, rfl⟩
      · skip
        refine told_free rfl rfl (gv_env (((⟨Array.replicate 38 undef, []⟩ : Act).put (some 29) (.slice (some ⟨g31, 0, none⟩) 512 512)).put (some 30) (.int .i64 ((pc.toNat % 513 : Nat) : Int))) (by kernel_rfl) (xs := [.tmp 29, .tmp 30]) (by kernel_rfl) (alike_cons (fill_at (k := 0) (by kernel_rfl) (by kernel_rfl) ((hd_ 0 (by kernel_rfl)).trans (by kernel_rfl))) (alike_cons (fill_at (k := 1) (by kernel_rfl) (by kernel_rfl) ((hd_ 1 (by kernel_rfl)).trans (by kernel_rfl))) alike_nil)) (gv_cutTo (e := 5) (sz := 1) (A := (some ⟨g31, 0, none⟩)) (n := 512) (c := 512) (kh := .i64) (v := ((pc.toNat % 513 : Nat) : Int)) (hi := (pc.toNat % 513)) rfl (by kernel_rfl) (by kernel_rfl) (by kernel_rfl) (by kernel_rfl) rfl (by omega) ?_))
        exact ⟨rfl, rfl⟩
      · skip
        refine told_free rfl rfl (gv_env ((⟨Array.replicate 38 undef, []⟩ : Act).put (some 8) (.func (.func 88) #[] #[.pointer (some ⟨c_, 0, none⟩), .pointer (some ⟨g1, 0, none⟩), .pointer (some ⟨g5, 0, none⟩)])) (by kernel_rfl) (xs := [.tmp 8]) (by kernel_rfl) (alike_cons (fill_past (by kernel_rfl) (by kernel_rfl)) alike_nil) (gv_val (v := .func (.func 88) #[] #[.pointer (some ⟨c_, 0, none⟩), .pointer (some ⟨g1, 0, none⟩), .pointer (some ⟨g5, 0, none⟩)]) (w' := w1) (by kernel_rfl) ?_))
        exact ⟨rfl, rfl⟩
      · skip
        refine told_free rfl rfl (gv_env ((⟨Array.replicate 38 undef, []⟩ : Act).put (some 5) (.pointer (some ⟨g9, 0, none⟩))) (by kernel_rfl) (xs := [.tmp 5]) (by kernel_rfl) (alike_cons (fill_past (by kernel_rfl) (by kernel_rfl)) alike_nil) (gv_val (v := .pointer (some ⟨g9, 0, none⟩)) (w' := w1) (by kernel_rfl) ?_))
        exact ⟨rfl, rfl⟩
      · skip
        rcases p_ with _ | _ | p_
        · skip
          have S43 : St F w0 w1 (row g31 (bvs ((x :: p.ws.map (·.2)).getD (pb.toNat % (p.ws.length + 1)) [])) 5 :: row c_ #[p.v] 52 :: row g9 #[.int .i64 pa, .int .i64 pb, .int .i64 pc] 66 :: row g5 #[.int .i64 ((p.at_ : Nat) : Int)] 3 :: row g1 #[.pointer (some ⟨g, 0, none⟩)] 22 :: row g #[.slice (some ⟨gd, 0, none⟩) (512 * m) (512 * m), .map (some gm), .bool fused, .int .i64 left, .int .i64 life, .int .i64 r, .int .i64 wr, .int .i64 fl, .int .i64 rf, .int .i64 pn] 87 :: row gd (bvs D) 5 :: pt gm (mapO (es.map PEnt.ent) clock) :: stars (es.map PEnt.ast) :: L) := hPh_
          refine told_free rfl rfl (gv_env ((⟨Array.replicate 38 undef, []⟩ : Act).put (some 33) (.pointer (some ⟨g9, 0, none⟩))) (by kernel_rfl) (xs := [.tmp 33]) (by kernel_rfl) (alike_cons (fill_at (k := 4) (by kernel_rfl) (by kernel_rfl) ((hd_ 4 (by kernel_rfl)).trans (by kernel_rfl))) alike_nil) (gv_ldR (v := .int .i64 pa) rfl (by kernel_rfl) (by kernel_rfl) (((S43.blk 2 rfl).cell 0).trans rfl) ?_))
          exact ⟨rfl, rfl⟩
        · skip
          exact absurd (hu_ 0 (by decide) (by kernel_rfl)) (by decide)
        · exact absurd hp_ (by simp)
      · skip
        rcases p_ with _ | _ | p_
        · skip
          have S44 : St F w0 w1 (row g31 (bvs ((x :: p.ws.map (·.2)).getD (pb.toNat % (p.ws.length + 1)) [])) 5 :: row c_ #[p.v] 52 :: row g9 #[.int .i64 pa, .int .i64 pb, .int .i64 pc] 66 :: row g5 #[.int .i64 ((p.at_ : Nat) : Int)] 3 :: row g1 #[.pointer (some ⟨g, 0, none⟩)] 22 :: row g #[.slice (some ⟨gd, 0, none⟩) (512 * m) (512 * m), .map (some gm), .bool fused, .int .i64 left, .int .i64 life, .int .i64 r, .int .i64 wr, .int .i64 fl, .int .i64 rf, .int .i64 pn] 87 :: row gd (bvs D) 5 :: pt gm (mapO (es.map PEnt.ent) clock) :: stars (es.map PEnt.ast) :: L) := hPh_
          refine told_free rfl rfl (gv_env (((⟨Array.replicate 38 undef, []⟩ : Act).put (some 32) (.func (.func 88) #[] #[.pointer (some ⟨c_, 0, none⟩), .pointer (some ⟨g1, 0, none⟩), .pointer (some ⟨g5, 0, none⟩)])).put (some 34) (.int .i64 pa)) (by kernel_rfl) (xs := [.tmp 32, .tmp 34]) (by kernel_rfl) (alike_cons (fill_at (k := 3) (by kernel_rfl) (by kernel_rfl) ((hd_ 3 (by kernel_rfl)).trans (by kernel_rfl))) (alike_cons (fill_at (k := 5) (by kernel_rfl) (by kernel_rfl) ((hd_ 5 (by kernel_rfl)).trans (by kernel_rfl))) alike_nil)) (gv_callC (f := 88) (args := #[.int .i64 pa, .pointer (some ⟨c_, 0, none⟩), .pointer (some ⟨g1, 0, none⟩), .pointer (some ⟨g5, 0, none⟩)]) (caps := #[.pointer (some ⟨c_, 0, none⟩), .pointer (some ⟨g1, 0, none⟩), .pointer (some ⟨g5, 0, none⟩)]) rfl Try.func88 (by kernel_rfl) rfl (by kernel_rfl) (by kernel_rfl) ?_))
          refine Calls.mono (cand_ro (p := p) (S44.blk 5 rfl) (S44.blk 1 rfl) (S44.blk 4 rfl) (S44.blk 3 rfl) hm hk hq ((pend_facts S44 8 rfl hj hne).elim fun a h => h.elim fun b h => h.elim fun c h => ⟨a, b, c, h.1, h.2.1, h.2.2.1⟩) hAa) ?_
          rintro _ _ ⟨rfl, rfl⟩
          refine ⟨_, rfl, ?_⟩
          exact ⟨rfl, rfl⟩
        · skip
          exact absurd (hu_ 0 (by decide) (by kernel_rfl)) (by decide)
        · exact absurd hp_ (by simp)
      · skip
        exact absurd hiE_ (by decide)
      · exact absurd hi_ (by omega)
    · intro k_ c2_ vals_ w1 hk_ hPh_ hd_
      rcases k_ with _ | k_
      · skip
        have S45 : St F w0 w1 (row g31 (bvs ((x :: p.ws.map (·.2)).getD (pb.toNat % (p.ws.length + 1)) [])) 5 :: row c_ #[p.v] 52 :: row g9 #[.int .i64 pa, .int .i64 pb, .int .i64 pc] 66 :: row g5 #[.int .i64 ((p.at_ : Nat) : Int)] 3 :: row g1 #[.pointer (some ⟨g, 0, none⟩)] 22 :: row g #[.slice (some ⟨gd, 0, none⟩) (512 * m) (512 * m), .map (some gm), .bool fused, .int .i64 left, .int .i64 life, .int .i64 r, .int .i64 wr, .int .i64 fl, .int .i64 rf, .int .i64 pn] 87 :: row gd (bvs D) 5 :: pt gm (mapO (es.map PEnt.ent) clock) :: stars (es.map PEnt.ast) :: L) := hPh_
        refine told_free rfl rfl (gv_env (((⟨Array.replicate 38 undef, []⟩ : Act).put (some 31) (.slice (some ⟨g31, 0, none⟩) (pc.toNat % 513) 512)).put (some 35) (.slice Aa 512 caa)) (by kernel_rfl) (xs := [.tmp 31, .tmp 35]) (by kernel_rfl) (alike_cons (fill_at (k := 2) (by kernel_rfl) (by kernel_rfl) ((hd_ 2 (by kernel_rfl)).trans (by kernel_rfl))) (alike_cons (fill_at (k := 6) (by kernel_rfl) (by kernel_rfl) ((hd_ 6 (by kernel_rfl)).trans (by kernel_rfl))) alike_nil)) (gv_copy (e := 5) (off := 0) (dLen := (pc.toNat % 513)) (dCap := 512) (sLen := 512) (sCap := caa) (A := Aa) (B := ((x :: p.ws.map (·.2)).getD (pb.toNat % (p.ws.length + 1)) [])) (l := ((x :: p.ws.map (·.2)).getD (pa.toNat % (p.ws.length + 1)) [])) S45 0 rfl rfl (by kernel_rfl) (by kernel_rfl) (by kernel_rfl) (by kernel_rfl) hla.symm (hRa.out _ [row g31 (bvs ((x :: p.ws.map (·.2)).getD (pb.toNat % (p.ws.length + 1)) [])) 5, row c_ #[p.v] 52, row g9 #[.int .i64 pa, .int .i64 pb, .int .i64 pc] 66, row g5 #[.int .i64 ((p.at_ : Nat) : Int)] 3, row g1 #[.pointer (some ⟨g, 0, none⟩)] 22] S45) (by rw [hlb]; omega) (L' := (row g31 (bvs (tornS (x :: p.ws.map (·.2)) (pa, pb, pc))) 5 :: row c_ #[p.v] 52 :: row g9 #[.int .i64 pa, .int .i64 pb, .int .i64 pc] 66 :: row g5 #[.int .i64 ((p.at_ : Nat) : Int)] 3 :: row g1 #[.pointer (some ⟨g, 0, none⟩)] 22 :: row g #[.slice (some ⟨gd, 0, none⟩) (512 * m) (512 * m), .map (some gm), .bool fused, .int .i64 left, .int .i64 life, .int .i64 r, .int .i64 wr, .int .i64 fl, .int .i64 rf, .int .i64 pn] 87 :: row gd (bvs D) 5 :: pt gm (mapO (es.map PEnt.ent) clock) :: stars (es.map PEnt.ast) :: L)) (by rw [show splice ((x :: p.ws.map (·.2)).getD (pb.toNat % (p.ws.length + 1)) []) 0 (List.take (pc.toNat % 513) ((x :: p.ws.map (·.2)).getD (pa.toNat % (p.ws.length + 1)) [])) = (tornS (x :: p.ws.map (·.2)) (pa, pb, pc)) from by unfold tornS splice; rw [hlen, List.take_zero, List.nil_append, Nat.zero_add, List.length_take, hla, Nat.min_eq_left (by omega)]]; rfl) (fun w46 m48 S47 => ?_)))
        refine ⟨(m48), rfl, ?_, S47⟩
        intro i_ hi_ hne_ hdp_
        rcases i_ with _ | _ | _ | _ | _ | _ | _ | _ | i_
        · rfl
        · rfl
        · rfl
        · rfl
        · rfl
        · rfl
        · rfl
        · exact absurd rfl hne_
        · exact absurd hi_ (by omega)
      · exact absurd hk_ (by simp)
    · intro c2_ w1 hPh_
      have S49 : St F w0 w1 (row g31 (bvs (tornS (x :: p.ws.map (·.2)) (pa, pb, pc))) 5 :: row c_ #[p.v] 52 :: row g9 #[.int .i64 pa, .int .i64 pb, .int .i64 pc] 66 :: row g5 #[.int .i64 ((p.at_ : Nat) : Int)] 3 :: row g1 #[.pointer (some ⟨g, 0, none⟩)] 22 :: row g #[.slice (some ⟨gd, 0, none⟩) (512 * m) (512 * m), .map (some gm), .bool fused, .int .i64 left, .int .i64 life, .int .i64 r, .int .i64 wr, .int .i64 fl, .int .i64 rf, .int .i64 pn] 87 :: row gd (bvs D) 5 :: pt gm (mapO (es.map PEnt.ent) clock) :: stars (es.map PEnt.ast) :: L) := hPh_
      refine wl_frame (fr [pq g, iv ((p.at_ : Nat) : Int), .agg #[iv pa, iv pb, iv pc], pq g1, pq g5, pq g9, .slice none 0 0, pq c_, .func (.func 88) #[] #[.pointer (some ⟨c_, 0, none⟩), .pointer (some ⟨g1, 0, none⟩), .pointer (some ⟨g5, 0, none⟩)], iv ((pc.toNat % 513 : Nat) : Int), sl g31 0 512 512, pq g, pq g, po g 1, .map (some gm), iv ((p.at_ : Nat) : Int), p.v, .func (.func 88) #[] #[.pointer (some ⟨c_, 0, none⟩), .pointer (some ⟨g1, 0, none⟩), .pointer (some ⟨g5, 0, none⟩)], po g9 2, iv pc, iv ((pc.toNat : Nat) : Int), iv ((pc.toNat % 513 : Nat) : Int), sl g31 0 512 512, sl g31 0 512 512, .func (.func 88) #[] #[.pointer (some ⟨c_, 0, none⟩), .pointer (some ⟨g1, 0, none⟩), .pointer (some ⟨g5, 0, none⟩)], po g9 1, iv pb, .slice Ab 512 cab, goInt m37, sl g31 0 512 512, iv ((pc.toNat % 513 : Nat) : Int), sl g31 0 (pc.toNat % 513) 512, .func (.func 88) #[] #[.pointer (some ⟨c_, 0, none⟩), .pointer (some ⟨g1, 0, none⟩), .pointer (some ⟨g5, 0, none⟩)], pq g9, iv pa, .slice Aa 512 caa, goInt c2_] 1) (by kernel_rfl) ?_
      refine wl_end (fr [pq g, iv ((p.at_ : Nat) : Int), .agg #[iv pa, iv pb, iv pc], pq g1, pq g5, pq g9, .slice none 0 0, pq c_, .func (.func 88) #[] #[.pointer (some ⟨c_, 0, none⟩), .pointer (some ⟨g1, 0, none⟩), .pointer (some ⟨g5, 0, none⟩)], iv ((pc.toNat % 513 : Nat) : Int), sl g31 0 512 512, pq g, pq g, po g 1, .map (some gm), iv ((p.at_ : Nat) : Int), p.v, .func (.func 88) #[] #[.pointer (some ⟨c_, 0, none⟩), .pointer (some ⟨g1, 0, none⟩), .pointer (some ⟨g5, 0, none⟩)], po g9 2, iv pc, iv ((pc.toNat : Nat) : Int), iv ((pc.toNat % 513 : Nat) : Int), sl g31 0 512 512, sl g31 0 512 512, .func (.func 88) #[] #[.pointer (some ⟨c_, 0, none⟩), .pointer (some ⟨g1, 0, none⟩), .pointer (some ⟨g5, 0, none⟩)], po g9 1, iv pb, .slice Ab 512 cab, goInt m37, sl g31 0 512 512, iv ((pc.toNat % 513 : Nat) : Int), sl g31 0 (pc.toNat % 513) 512, .func (.func 88) #[] #[.pointer (some ⟨c_, 0, none⟩), .pointer (some ⟨g1, 0, none⟩), .pointer (some ⟨g5, 0, none⟩)], pq g9, iv pa, .slice Aa 512 caa, goInt c2_] 1) (by kernel_rfl) ?_
      refine then_n ?_
      refine wp_seq ?_
      refine wp_region_lit ?_
      refine pv (sl g31 0 512 512) ?_
      refine pv (sl g31 0 512 512) ?_
      refine wl_end (fr [pq g, iv ((p.at_ : Nat) : Int), .agg #[iv pa, iv pb, iv pc], pq g1, pq g5, pq g9, sl g31 0 512 512, pq c_, .func (.func 88) #[] #[.pointer (some ⟨c_, 0, none⟩), .pointer (some ⟨g1, 0, none⟩), .pointer (some ⟨g5, 0, none⟩)], iv ((pc.toNat % 513 : Nat) : Int), sl g31 0 512 512, pq g, pq g, po g 1, .map (some gm), iv ((p.at_ : Nat) : Int), p.v, .func (.func 88) #[] #[.pointer (some ⟨c_, 0, none⟩), .pointer (some ⟨g1, 0, none⟩), .pointer (some ⟨g5, 0, none⟩)], po g9 2, iv pc, iv ((pc.toNat : Nat) : Int), iv ((pc.toNat % 513 : Nat) : Int), sl g31 0 512 512, sl g31 0 512 512, .func (.func 88) #[] #[.pointer (some ⟨c_, 0, none⟩), .pointer (some ⟨g1, 0, none⟩), .pointer (some ⟨g5, 0, none⟩)], po g9 1, iv pb, .slice Ab 512 cab, goInt m37, sl g31 0 512 512, iv ((pc.toNat % 513 : Nat) : Int), sl g31 0 (pc.toNat % 513) 512, .func (.func 88) #[] #[.pointer (some ⟨c_, 0, none⟩), .pointer (some ⟨g1, 0, none⟩), .pointer (some ⟨g5, 0, none⟩)], pq g9, iv pa, .slice Aa 512 caa, goInt c2_, sl g31 0 512 512] 0) (by kernel_rfl) ?_
      refine then_n ?_
      refine wp_ret ?_
      refine bodyPost_ret (v := .slice (some ⟨g31, 0, none⟩) 512 512) (results_t1 rfl (by kernel_rfl)) rfl ?_
      have S50 : St F w0 w1 (row g31 (bvs (tornS (x :: p.ws.map (·.2)) (pa, pb, pc))) 5 :: row g #[.slice (some ⟨gd, 0, none⟩) (512 * m) (512 * m), .map (some gm), .bool fused, .int .i64 left, .int .i64 life, .int .i64 r, .int .i64 wr, .int .i64 fl, .int .i64 rf, .int .i64 pn] 87 :: row gd (bvs D) 5 :: pt gm (mapO (es.map PEnt.ent) clock) :: stars (es.map PEnt.ast) :: L) := St.permT [row g31 (bvs (tornS (x :: p.ws.map (·.2)) (pa, pb, pc))) 5, row c_ #[p.v] 52, row g9 #[.int .i64 pa, .int .i64 pb, .int .i64 pc] 66, row g5 #[.int .i64 ((p.at_ : Nat) : Int)] 3, row g1 #[.pointer (some ⟨g, 0, none⟩)] 22, row g #[.slice (some ⟨gd, 0, none⟩) (512 * m) (512 * m), .map (some gm), .bool fused, .int .i64 left, .int .i64 life, .int .i64 r, .int .i64 wr, .int .i64 fl, .int .i64 rf, .int .i64 pn] 87, row gd (bvs D) 5, pt gm (mapO (es.map PEnt.ent) clock), stars (es.map PEnt.ast)] [0, 5, 6, 7, 8] (by decide) rfl S49
      exact ⟨_, rfl, S50⟩
end Go.Proofs
