/- Crash of the program's disk. -/
import Derived.Test.YtefmefimhiedfaaHCrash1
import Derived.Test.YtefmefimhiedfaaHDisk5
open Go Go.RowKit Go.Proofs.YtefmefimhiedfaaW.PrintWords Go.Proofs.YtefmefimhiedfaaW.PrintMore
namespace Go.Proofs
open Go.Vel
set_option linter.unusedVariables false
set_option maxRecDepth 100000
set_option maxHeartbeats 4000000
attribute [local irreducible] gives wpList Code.wp

theorem nodup_sub {α : Type} [BEq α] [LawfulBEq α] : ∀ (l m : List α), l.Nodup → (∀ x ∈ l, x ∈ m) → l.length ≤ m.length
  | [], _, _, _ => Nat.zero_le _
  | x :: r, m, hn, h => by
    have hx := h x List.mem_cons_self
    have h1 := nodup_sub r (m.erase x) (List.nodup_cons.1 hn).2 fun y hy => (List.mem_erase_of_ne (fun e => (List.nodup_cons.1 hn).1 (by subst e; exact hy))).2 (h y (List.mem_cons_of_mem _ hy))
    rw [List.length_erase_of_mem hx] at h1
    have := List.length_pos_of_mem hx
    rw [List.length_cons]; omega
theorem PFacts.few {s : Dsk} {clock : Nat} {es : List PEnt} {fused : Bool} {left : Int} (h : PFacts s clock es fused left) {ps : List PEnt} (hps : ∀ p ∈ ps, p ∈ es) (hnd : (ps.map (·.b)).Nodup) : ps.length ≤ 2048 := by
  have h1 := nodup_sub (ps.map (·.b)) (es.map (·.b)) hnd fun x hx => by
    obtain ⟨p, hp, rfl⟩ := List.mem_map.1 hx
    exact List.mem_map.2 ⟨p, hps p hp, rfl⟩
  have h2 := nodup_sub (es.map (·.at_)) (List.range s.last.length) h.keyN fun x hx => by
    obtain ⟨p, hp, rfl⟩ := List.mem_map.1 hx
    obtain ⟨j, _, _, _, _, hk, _⟩ := h.find_mem hp
    exact List.mem_range.2 hk
  have := h.n2
  simp only [List.length_map, List.length_range] at h1 h2; omega
/-- Reading a list's cells, while it stays closed. -/
theorem St.vec_rdv {F : Nat → Prop} {w0 w : World} {L : List Ast} {e : TypeId} {A : Option Addr} {n c : Nat} {vals : List Value} (S : St F w0 w L) (i : Nat) (hi : L[i]? = some (vec e 1 (.slice A n c) n vals)) : RdV w A vals := by
  have S1 := S.mem i hi
  rcases S1.vec_cases with ⟨h, rfl, rfl, _⟩ | ⟨g, c', junk, h, _, h3, _, S2⟩
  · exact fun h => absurd h (Nat.lt_irrefl 0)
  · simp at h
    obtain ⟨rfl, _⟩ := h
    exact fun _ => ⟨_, rfl, fun j u hu => by
      rw [Addr.add_lit, Nat.zero_add, (S2.blk 0 rfl).cell, List.getElem?_toArray, List.getElem?_append_left (List.getElem?_eq_some_iff.1 hu).1]; exact hu⟩
theorem pd_crash {F : Nat → Prop} {w0 w : World} {L : List Ast} {g : Nat} {s : Dsk} {A : Option Addr} {ps : List Pick} {n c : Nat} (S : St F w0 w (PDisk g s :: L)) (hr : RoV F w0 L A (picksV ps)) (hn : n = ps.length) (hpm : ps.length ≤ 9223372036854775807) :
    Calls Try.prog 36 #[.pointer (some ⟨g, 0, none⟩), .slice A n c] w fun e w' => e = .returned (.tuple #[]) ∧ St F w0 w' (PDisk g (s.crashR ps) :: L) := by
  obtain ⟨gd, gm, clock, es, fused, left, hf, S⟩ := St.popen S
  have hn2 := hf.n2
  have hol := hf.out_len ps
  have hkl := keysTo_len s s.last.length
  change (crashKeys s).length ≤ _ at hkl
  have hA : ∀ i, (applyP s.last ((crashOuts s ps).take i)).length = s.last.length ∧ ∀ l ∈ applyP s.last ((crashOuts s ps).take i), l.length = 512 := fun i => ⟨length_applyP _ _, applyP_all _ _ hf.len (fun x hx => hol x (List.mem_of_mem_take hx))⟩
  have hD : ∀ i, (applyP s.last ((crashOuts s ps).take i)).flatten.length = 512 * s.last.length := fun i => (flat_len (hA i).2).trans (by rw [(hA i).1])
  change St F w0 w (row g #[.slice (some ⟨gd, 0, none⟩) (512 * s.last.length) (512 * s.last.length), .map (some gm), .bool fused, .int .i64 left, .int .i64 s.life, .int .i64 s.rd, .int .i64 s.wr, .int .i64 s.fl, .int .i64 s.rf, .int .i64 (s.pend.length : Int)] 87 :: row gd (bvs s.last.flatten) 5 :: pt gm (mapO (es.map PEnt.ent) clock) :: stars (es.map PEnt.ast) :: L) at S
  refine wp_enter (fr [pq g, .slice A n c] 60) Try.func36 rfl (by kernel_rfl) ?_
  refine wp_seq ?_
  refine wp_region_lit ?_
  refine pv (.slice none 0 0) ?_
  refine wl_end (fr [pq g, .slice A n c, ud, ud, .slice none 0 0] 57) (by kernel_rfl) ?_
  refine then_n ?_
  refine wp_seq ?_
  refine wp_seq ?_
  refine wp_region_lit ?_
  refine pv (pq g) ?_
  refine pv (pq g) ?_
  refine pv (po g 1) ?_
  refine wl_gv rfl (gv_ldR (v := .map (some gm)) rfl (by kernel_rfl) (by kernel_rfl) (((S.blk 0 rfl).cell 1).trans rfl) ?_)
  have S1 : St F w0 w (vec 3 1 (.slice none 0 0) 0 [] :: row g #[.slice (some ⟨gd, 0, none⟩) (512 * s.last.length) (512 * s.last.length), .map (some gm), .bool fused, .int .i64 left, .int .i64 s.life, .int .i64 s.rd, .int .i64 s.wr, .int .i64 s.fl, .int .i64 s.rf, .int .i64 (s.pend.length : Int)] 87 :: row gd (bvs s.last.flatten) 5 :: pt gm (mapO (es.map PEnt.ent) clock) :: stars (es.map PEnt.ast) :: L) := St.vec_nil S
  refine wl_gv rfl (gv_range (kT := 3) (eT := 52) (g := gm) (clock := clock) (es := es.map PEnt.ent) S1 3 rfl rfl (by kernel_rfl) (by kernel_rfl) (fun gi2 w3 hg4 S5 => ?_))
  have S6 : St F w0 w3 (vec 3 1 (.slice none 0 0) 0 [] :: pt gi2 (iterO gm clock []) :: row g #[.slice (some ⟨gd, 0, none⟩) (512 * s.last.length) (512 * s.last.length), .map (some gm), .bool fused, .int .i64 left, .int .i64 s.life, .int .i64 s.rd, .int .i64 s.wr, .int .i64 s.fl, .int .i64 s.rf, .int .i64 (s.pend.length : Int)] 87 :: row gd (bvs s.last.flatten) 5 :: pt gm (mapO (es.map PEnt.ent) clock) :: stars (es.map PEnt.ast) :: L) := St.permT [pt gi2 (iterO gm clock []), vec 3 1 (.slice none 0 0) 0 [], row g #[.slice (some ⟨gd, 0, none⟩) (512 * s.last.length) (512 * s.last.length), .map (some gm), .bool fused, .int .i64 left, .int .i64 s.life, .int .i64 s.rd, .int .i64 s.wr, .int .i64 s.fl, .int .i64 s.rf, .int .i64 (s.pend.length : Int)] 87, row gd (bvs s.last.flatten) 5, pt gm (mapO (es.map PEnt.ent) clock), stars (es.map PEnt.ast)] [1, 0, 2, 3, 4, 5] (by decide) rfl S5
  refine wl_end (fr [pq g, .slice A n c, ud, ud, .slice none 0 0, ud, ud, ud, ud, pq g, pq g, po g 1, .map (some gm), pq gi2] 48) (by kernel_rfl) ?_
  refine then_n ?_
  refine wp_block ?_
  refine wp_loop_g (G := List PEnt × Value) (fun (g_ : List PEnt × Value) (a_ : Act) (w_ : World) => ∃ J : Nat → Value, a_ = (fr [pq g, .slice A n c, ud, ud, g_.2, J 5, ud, ud, ud, pq g, pq g, po g 1, .map (some gm), pq gi2, J 14, J 15, J 16, J 17, J 18, J 19, J 20, J 21] 40) ∧ St F w0 w_ (vec 3 1 g_.2 g_.1.length ((g_.1.map fun p => ((p.at_ : Nat) : Int)).map (Value.int .i64)) :: pt gi2 (iterO gm clock (g_.1.map (·.b))) :: row g #[.slice (some ⟨gd, 0, none⟩) (512 * s.last.length) (512 * s.last.length), .map (some gm), .bool fused, .int .i64 left, .int .i64 s.life, .int .i64 s.rd, .int .i64 s.wr, .int .i64 s.fl, .int .i64 s.rf, .int .i64 (s.pend.length : Int)] 87 :: row gd (bvs s.last.flatten) 5 :: pt gm (mapO (es.map PEnt.ent) clock) :: stars (es.map PEnt.ast) :: L) ∧ ((∀ p ∈ g_.1, p ∈ es) ∧ (g_.1.map (·.b)).Nodup)) (fun g_ => (leftE (es.map PEnt.ent) (g_.1.map (·.b))).length) ([], .slice none 0 0) ⟨(jl []), by kernel_rfl, S6, ⟨(fun p hp => by cases hp), List.nodup_nil⟩⟩ ?_
  rintro ⟨es1, v⟩ a_ w7 ⟨J, rfl, S8, hI9⟩
  skip
  have S8 : St F w0 w7 (vec 3 1 v es1.length ((es1.map fun p => ((p.at_ : Nat) : Int)).map (Value.int .i64)) :: pt gi2 (iterO gm clock (es1.map (·.b))) :: row g #[.slice (some ⟨gd, 0, none⟩) (512 * s.last.length) (512 * s.last.length), .map (some gm), .bool fused, .int .i64 left, .int .i64 s.life, .int .i64 s.rd, .int .i64 s.wr, .int .i64 s.fl, .int .i64 s.rf, .int .i64 (s.pend.length : Int)] 87 :: row gd (bvs s.last.flatten) 5 :: pt gm (mapO (es.map PEnt.ent) clock) :: stars (es.map PEnt.ast) :: L) := S8
  have hI9 : ((∀ p ∈ es1, p ∈ es) ∧ (es1.map (·.b)).Nodup) := hI9
  refine wp_seq ?_
  refine wp_region_lit ?_
  have hfw := hf.few hI9.1 hI9.2
  refine wl_gv rfl (gv_next (g := gm) (clock := clock) (es := es.map PEnt.ent) (gi := gi2) (seen := es1.map (·.b)) S8 1 4 rfl rfl (fun e he => by obtain ⟨p, hp, rfl⟩ := List.mem_map.1 he; exact hf.born p hp) rfl (by kernel_rfl) (fun hl => ?_) (fun e w10 hel S11 => ?_))
  · skip
    refine pv fv ?_
    refine wl_end (fr [pq g, .slice A n c, ud, ud, v, J 5, ud, ud, ud, pq g, pq g, po g 1, .map (some gm), pq gi2, .tuple #[fv], fv, J 16, J 17, J 18, J 19, J 20, J 21] 40) (by kernel_rfl) ?_
    refine then_n ?_
    refine wp_seq ?_
    refine wp_cond_false (by kernel_rfl) ?_
    refine wp_exit ?_
    refine then_x ?_
    refine then_x ?_
    refine inb_x ?_
    refine then_n ?_
    refine wp_seq ?_
    refine wp_region_lit ?_
    refine pv v ?_
    refine wl_gv rfl (gv_call (args := #[v]) rfl Try.func70 (by kernel_rfl) rfl rfl (by kernel_rfl) ?_)
    refine Calls.mono (sort_own S8 (by omega)) ?_
    rintro _ w12 ⟨rfl, S13⟩
    refine ⟨_, rfl, ?_⟩
    have hso := hf.sorted hI9.1 hI9.2 hl
    have hkn : es1.length = (crashKeys s).length := by have := congrArg List.length hso; rw [List.length_mergeSort, List.length_map, List.length_map] at this; exact this
    rw [hso, hkn] at S13
    obtain ⟨A1, c1, rfl⟩ := S13.vec_val
    have S14 : St F w0 w12 (vec 3 1 (.slice A1 (crashKeys s).length c1) (crashKeys s).length (((crashKeys s).map fun a => ((a : Nat) : Int)).map (Value.int .i64)) :: row g #[.slice (some ⟨gd, 0, none⟩) (512 * s.last.length) (512 * s.last.length), .map (some gm), .bool fused, .int .i64 left, .int .i64 s.life, .int .i64 s.rd, .int .i64 s.wr, .int .i64 s.fl, .int .i64 s.rf, .int .i64 (s.pend.length : Int)] 87 :: row gd (bvs s.last.flatten) 5 :: pt gm (mapO (es.map PEnt.ent) clock) :: stars (es.map PEnt.ast) :: L) := St.permT [vec 3 1 (.slice A1 (crashKeys s).length c1) (crashKeys s).length (((crashKeys s).map fun a => ((a : Nat) : Int)).map (Value.int .i64)), pt gi2 (iterO gm clock (es1.map (·.b))), row g #[.slice (some ⟨gd, 0, none⟩) (512 * s.last.length) (512 * s.last.length), .map (some gm), .bool fused, .int .i64 left, .int .i64 s.life, .int .i64 s.rd, .int .i64 s.wr, .int .i64 s.fl, .int .i64 s.rf, .int .i64 (s.pend.length : Int)] 87, row gd (bvs s.last.flatten) 5, pt gm (mapO (es.map PEnt.ent) clock), stars (es.map PEnt.ast)] [0, 2, 3, 4, 5] (by decide) rfl S13
    have e0 : s.last.flatten = (applyP s.last ((crashOuts s ps).take 0)).flatten := by rw [List.take_zero]; rfl
    rw [e0] at S14
    refine wl_end (fr [pq g, .slice A n c, ud, ud, .slice A1 ((crashKeys s).length) c1, J 5, ud, ud, ud, pq g, pq g, po g 1, .map (some gm), pq gi2, .tuple #[fv], fv, J 16, J 17, J 18, J 19, J 20, J 21, .slice A1 ((crashKeys s).length) c1, .tuple #[]] 38) (by kernel_rfl) ?_
    refine then_n ?_
    refine wp_seq ?_
    refine wp_seq ?_
    refine wp_region_lit ?_
    refine pv (.slice A1 ((crashKeys s).length) c1) ?_
    refine pv (iv ((crashKeys s).length : Nat)) ?_
    refine pv (iv 0) ?_
    refine wl_end (fr [pq g, .slice A n c, ud, ud, .slice A1 ((crashKeys s).length) c1, J 5, ud, ud, ud, pq g, pq g, po g 1, .map (some gm), pq gi2, .tuple #[fv], fv, J 16, J 17, J 18, J 19, J 20, J 21, .slice A1 ((crashKeys s).length) c1, .tuple #[], .slice A1 ((crashKeys s).length) c1, iv ((crashKeys s).length : Nat), iv 0] 35) (by kernel_rfl) ?_
    refine then_n ?_
    refine wp_block ?_
    refine wp_loop_g (G := Nat) (fun (g_ : Nat) (a_ : Act) (w_ : World) => ∃ J : Nat → Value, a_ = (fr [pq g, .slice A n c, ud, ud, .slice A1 ((crashKeys s).length) c1, J 5, J 6, J 7, J 8, pq g, pq g, po g 1, .map (some gm), pq gi2, .tuple #[fv], fv, J 16, J 17, J 18, J 19, J 20, J 21, .slice A1 ((crashKeys s).length) c1, .tuple #[], .slice A1 ((crashKeys s).length) c1, iv ((crashKeys s).length : Nat), iv ((g_ : Nat) : Int), J 27, J 28, J 29, J 30, J 31, J 32, J 33, J 34, J 35, J 36, J 37, J 38, J 39, J 40, J 41, J 42, J 43, J 44, J 45, J 46, J 47, J 48, J 49] 12) ∧ St F w0 w_ (vec 3 1 (.slice A1 (crashKeys s).length c1) (crashKeys s).length (((crashKeys s).map fun a => ((a : Nat) : Int)).map (Value.int .i64)) :: row g #[.slice (some ⟨gd, 0, none⟩) (512 * s.last.length) (512 * s.last.length), .map (some gm), .bool fused, .int .i64 left, .int .i64 s.life, .int .i64 s.rd, .int .i64 s.wr, .int .i64 s.fl, .int .i64 s.rf, .int .i64 (s.pend.length : Int)] 87 :: row gd (bvs (applyP s.last ((crashOuts s ps).take g_)).flatten) 5 :: pt gm (mapO (es.map PEnt.ent) clock) :: stars (es.map PEnt.ast) :: L) ∧ (g_ ≤ (crashKeys s).length)) (fun g_ => (crashKeys s).length - g_) 0 ⟨(jl [ud, ud, ud, ud, ud, J 5, ud, ud, ud, ud, ud, ud, ud, ud, ud, ud, J 16, J 17, J 18, J 19, J 20, J 21]), by kernel_rfl, S14, (Nat.zero_le _)⟩ ?_
    rintro k a_ w15 ⟨J, rfl, S16, hI17⟩
    skip
    have S16 : St F w0 w15 (vec 3 1 (.slice A1 (crashKeys s).length c1) (crashKeys s).length (((crashKeys s).map fun a => ((a : Nat) : Int)).map (Value.int .i64)) :: row g #[.slice (some ⟨gd, 0, none⟩) (512 * s.last.length) (512 * s.last.length), .map (some gm), .bool fused, .int .i64 left, .int .i64 s.life, .int .i64 s.rd, .int .i64 s.wr, .int .i64 s.fl, .int .i64 s.rf, .int .i64 (s.pend.length : Int)] 87 :: row gd (bvs (applyP s.last ((crashOuts s ps).take k)).flatten) 5 :: pt gm (mapO (es.map PEnt.ent) clock) :: stars (es.map PEnt.ast) :: L) := S16
    have hI17 : (k ≤ (crashKeys s).length) := hI17
    refine wp_seq ?_
    refine wp_region_lit ?_
    refine wl_gv rfl (gv_dec (p := (((k : Nat) : Int) : Int) < ((crashKeys s).length : Nat)) (by kernel_rfl) (fun hb18 => ?_) (fun hb18 => ?_))
    · skip
      have hkk : k < (crashKeys s).length := by omega
      obtain ⟨p, hpe, hat⟩ := hf.key_mem.1 (List.getElem_mem hkk)
      have hK : (crashKeys s)[k]? = some p.at_ := by rw [List.getElem?_eq_getElem hkk, hat]
      obtain ⟨j, hj, hje, hke, hfe, hk, hne, hx512, hle⟩ := hf.find_mem hpe
      have hq : p.ws.length ≤ 4611686018427387904 := by have := hf.pn; omega
      have hgd : (applyP s.last ((crashOuts s ps).take k))[p.at_]? = some (s.last.getD p.at_ []) := by rw [← applyP_getD _ _ _ (out_fst hK)]; exact mem_getD (by rw [(hA k).1]; exact hk)
      have hx := (flat_sec (hA k).2 p.at_ _ hgd).symm
      have hx5 := (hA k).2 _ (List.mem_of_getElem? hgd)
      have hcs : s.last.getD p.at_ [] :: p.ws.map (·.2) = candS s p.at_ := by rw [hf.ws p hpe]; rfl
      have htl : (tornS (candS s p.at_) (pickAt ps k)).length = 512 := tornS_len (hf.cand_len hk) (by simp [candS])
      have hDk := hD k
      obtain ⟨ad1, hAd1, hrd⟩ := (St.vec_rdv S16 0 rfl) (by simp; omega)
      refine wl_end (fr [pq g, .slice A n c, ud, ud, .slice A1 ((crashKeys s).length) c1, J 5, J 6, J 7, J 8, pq g, pq g, po g 1, .map (some gm), pq gi2, .tuple #[fv], fv, J 16, J 17, J 18, J 19, J 20, J 21, .slice A1 ((crashKeys s).length) c1, .tuple #[], .slice A1 ((crashKeys s).length) c1, iv ((crashKeys s).length : Nat), iv ((k : Nat) : Int), tv, J 28, J 29, J 30, J 31, J 32, J 33, J 34, J 35, J 36, J 37, J 38, J 39, J 40, J 41, J 42, J 43, J 44, J 45, J 46, J 47, J 48, J 49] 12) (by kernel_rfl) ?_
      refine then_n ?_
      refine wp_seq ?_
      refine wp_cond_true (by kernel_rfl) ?_
      refine wp_skip ?_
      refine then_n ?_
      refine wp_seq ?_
      refine wp_block ?_
      refine wp_seq ?_
      refine wp_region_lit ?_
      refine pv (iv ((k : Nat) : Int)) ?_
      refine wl_gv rfl (gv_ixB (e := 3) (sz := 1) (n := ((crashKeys s).length)) (c := c1) (i := ((k : Nat) : Int)) (k := .i64) (ad := ad1) (ad' := (ad1.add k)) (j := k) rfl (by kernel_rfl) (by kernel_rfl) (by rw [← hAd1]; kernel_rfl) (by kernel_rfl) rfl (by omega) (by rw [Nat.mul_one]) ?_)
      refine wl_gv rfl (gv_ldR (v := .int .i64 ((p.at_ : Nat) : Int)) rfl (by kernel_rfl) (by kernel_rfl) (hrd k _ (by rw [List.getElem?_map, List.getElem?_map, hK]; rfl)) ?_)
      refine pv (iv ((k : Nat) : Int)) ?_
      refine pv (iv ((p.at_ : Nat) : Int)) ?_
      refine wl_end (fr [pq g, .slice A n c, ud, ud, .slice A1 ((crashKeys s).length) c1, J 5, iv ((k : Nat) : Int), iv ((p.at_ : Nat) : Int), J 8, pq g, pq g, po g 1, .map (some gm), pq gi2, .tuple #[fv], fv, J 16, J 17, J 18, J 19, J 20, J 21, .slice A1 ((crashKeys s).length) c1, .tuple #[], .slice A1 ((crashKeys s).length) c1, iv ((crashKeys s).length : Nat), iv ((k : Nat) : Int), tv, iv ((k : Nat) : Int), .pointer (some (ad1.add k)), iv ((p.at_ : Nat) : Int), J 31, J 32, J 33, J 34, J 35, J 36, J 37, J 38, J 39, J 40, J 41, J 42, J 43, J 44, J 45, J 46, J 47, J 48, J 49] 12) (by kernel_rfl) ?_
      refine then_n ?_
      refine wp_seq ?_
      refine wp_region_lit ?_
      refine wl_gv rfl (gv_new (z := .agg #[.int .i64 0, .int .i64 0, .int .i64 0]) S16 rfl (by kernel_rfl) (fun g19 w20 hg21 S22 => ?_))
      refine wl_end (fr [pq g, .slice A n c, ud, ud, .slice A1 ((crashKeys s).length) c1, J 5, iv ((k : Nat) : Int), iv ((p.at_ : Nat) : Int), pq g19, pq g, pq g, po g 1, .map (some gm), pq gi2, .tuple #[fv], fv, J 16, J 17, J 18, J 19, J 20, J 21, .slice A1 ((crashKeys s).length) c1, .tuple #[], .slice A1 ((crashKeys s).length) c1, iv ((crashKeys s).length : Nat), iv ((k : Nat) : Int), tv, iv ((k : Nat) : Int), .pointer (some (ad1.add k)), iv ((p.at_ : Nat) : Int), J 31, J 32, J 33, J 34, J 35, J 36, J 37, J 38, J 39, J 40, J 41, J 42, J 43, J 44, J 45, J 46, J 47, J 48, J 49] 12) (by kernel_rfl) ?_
      refine then_n ?_
      refine wp_seq ?_
      refine wp_seq ?_
      refine wp_region_lit ?_
      refine pv (.slice A n c) ?_
      refine pv (iv (n : Nat)) ?_
      refine wl_gv rfl (gv_dec (p := ((n : Nat) : Int) > 0) (by kernel_rfl) (fun hb23 => ?_) (fun hb23 => ?_))
      · skip
        have hp0 : 0 < ps.length := by omega
        have hn1 : n = n - 1 + 1 := by omega
        obtain ⟨ad, hAd, hrp⟩ := hr.out _ [row g19 #[.int .i64 0, .int .i64 0, .int .i64 0] 66, vec 3 1 (.slice A1 (crashKeys s).length c1) (crashKeys s).length (((crashKeys s).map fun a => ((a : Nat) : Int)).map (Value.int .i64)), row g #[.slice (some ⟨gd, 0, none⟩) (512 * s.last.length) (512 * s.last.length), .map (some gm), .bool fused, .int .i64 left, .int .i64 s.life, .int .i64 s.rd, .int .i64 s.wr, .int .i64 s.fl, .int .i64 s.rf, .int .i64 (s.pend.length : Int)] 87, row gd (bvs (applyP s.last ((crashOuts s ps).take k)).flatten) 5, pt gm (mapO (es.map PEnt.ent) clock), stars (es.map PEnt.ast)] S22 (by rw [length_picksV]; omega)
        have hrq : RdV w20 (some ad) (picksV ps) := fun _ => ⟨ad, rfl, hrp⟩
        have hkm : k % ps.length < ps.length := Nat.mod_lt _ hp0
        have hpk : ps[k % ps.length]? = some (pickAt ps k) := by unfold pickAt; rw [if_neg (by omega), List.getD_eq_getElem?_getD, List.getElem?_eq_getElem hkm]; rfl
        refine wl_end (fr [pq g, .slice A n c, ud, ud, .slice A1 ((crashKeys s).length) c1, J 5, iv ((k : Nat) : Int), iv ((p.at_ : Nat) : Int), pq g19, pq g, pq g, po g 1, .map (some gm), pq gi2, .tuple #[fv], fv, J 16, J 17, J 18, J 19, J 20, J 21, .slice A1 ((crashKeys s).length) c1, .tuple #[], .slice A1 ((crashKeys s).length) c1, iv ((crashKeys s).length : Nat), iv ((k : Nat) : Int), tv, iv ((k : Nat) : Int), .pointer (some (ad1.add k)), iv ((p.at_ : Nat) : Int), .slice A n c, iv (n : Nat), tv, J 34, J 35, J 36, J 37, J 38, J 39, J 40, J 41, J 42, J 43, J 44, J 45, J 46, J 47, J 48, J 49] 12) (by kernel_rfl) ?_
        refine then_n ?_
        refine wp_cond_true (by kernel_rfl) ?_
        refine wp_region_lit ?_
        refine pv (.slice A n c) ?_
        refine pv (iv ((k : Nat) : Int)) ?_
        refine pv (.slice A n c) ?_
        refine pv (iv (n : Nat)) ?_
        refine wl_gv rfl (gv_int (k := .i64) (z := Int.tmod ((k : Nat) : Int) (n : Nat)) (z' := ((k % ps.length : Nat) : Int)) (by rw [hn1]; kernel_rfl) (tmod_nat rfl (by omega)) ?_)
        refine wl_gv rfl (gv_ixB (e := 66) (sz := 3) (n := n) (c := c) (i := ((k % ps.length : Nat) : Int)) (k := .i64) (ad := ad) (ad' := (ad.add ((k % ps.length) * 3))) (j := (k % ps.length)) rfl (by kernel_rfl) (by kernel_rfl) (by rw [← hAd]; kernel_rfl) (by kernel_rfl) rfl (by omega) rfl ?_)
        refine wl_gv rfl (gv_ldRA (ad := ad.add (k % ps.length * 3)) (vs := [.int .i64 ((pickAt ps k).1), .int .i64 ((pickAt ps k).2.1), .int .i64 ((pickAt ps k).2.2)]) (n := 3) rfl (by kernel_rfl) (by kernel_rfl) rfl (RoV.cells hrq (k % ps.length * 3) (fun j u hu => picksV_at ps _ _ hpk j u hu) (Nat.succ_pos _)) ?_)
        refine wl_gv rfl (gv_stA (k := 0) (vs := [.int .i64 ((pickAt ps k).1), .int .i64 ((pickAt ps k).2.1), .int .i64 ((pickAt ps k).2.2)]) S22 0 rfl rfl (by kernel_rfl) (by kernel_rfl) (by kernel_rfl) rfl (by simp [Value.oneCell']) (Nat.le_of_ble_eq_true (by kernel_rfl)) (L' := (row g19 #[.int .i64 ((pickAt ps k).1), .int .i64 ((pickAt ps k).2.1), .int .i64 ((pickAt ps k).2.2)] 66 :: vec 3 1 (.slice A1 (crashKeys s).length c1) (crashKeys s).length (((crashKeys s).map fun a => ((a : Nat) : Int)).map (Value.int .i64)) :: row g #[.slice (some ⟨gd, 0, none⟩) (512 * s.last.length) (512 * s.last.length), .map (some gm), .bool fused, .int .i64 left, .int .i64 s.life, .int .i64 s.rd, .int .i64 s.wr, .int .i64 s.fl, .int .i64 s.rf, .int .i64 (s.pend.length : Int)] 87 :: row gd (bvs (applyP s.last ((crashOuts s ps).take k)).flatten) 5 :: pt gm (mapO (es.map PEnt.ent) clock) :: stars (es.map PEnt.ast) :: L)) rfl (fun w24 S25 => ?_))
        refine wl_end (fr [pq g, .slice A n c, ud, ud, .slice A1 ((crashKeys s).length) c1, J 5, iv ((k : Nat) : Int), iv ((p.at_ : Nat) : Int), pq g19, pq g, pq g, po g 1, .map (some gm), pq gi2, .tuple #[fv], fv, J 16, J 17, J 18, J 19, J 20, J 21, .slice A1 ((crashKeys s).length) c1, .tuple #[], .slice A1 ((crashKeys s).length) c1, iv ((crashKeys s).length : Nat), iv ((k : Nat) : Int), tv, iv ((k : Nat) : Int), .pointer (some (ad1.add k)), iv ((p.at_ : Nat) : Int), .slice A n c, iv (n : Nat), tv, .slice A n c, iv ((k : Nat) : Int), .slice A n c, iv (n : Nat), iv ((k % ps.length : Nat) : Int), .pointer (some (ad.add ((k % ps.length) * 3))), .agg #[iv ((pickAt ps k).1), iv ((pickAt ps k).2.1), iv ((pickAt ps k).2.2)], J 41, J 42, J 43, J 44, J 45, J 46, J 47, J 48, J 49] 12) (by kernel_rfl) ?_
        refine then_n ?_
        have S26 : St F w0 w24 (row g #[.slice (some ⟨gd, 0, none⟩) (512 * s.last.length) (512 * s.last.length), .map (some gm), .bool fused, .int .i64 left, .int .i64 s.life, .int .i64 s.rd, .int .i64 s.wr, .int .i64 s.fl, .int .i64 s.rf, .int .i64 (s.pend.length : Int)] 87 :: row gd (bvs (applyP s.last ((crashOuts s ps).take k)).flatten) 5 :: pt gm (mapO (es.map PEnt.ent) clock) :: stars (es.map PEnt.ast) :: row g19 #[.int .i64 ((pickAt ps k).1), .int .i64 ((pickAt ps k).2.1), .int .i64 ((pickAt ps k).2.2)] 66 :: vec 3 1 (.slice A1 (crashKeys s).length c1) (crashKeys s).length (((crashKeys s).map fun a => ((a : Nat) : Int)).map (Value.int .i64)) :: L) := St.permT [row g19 #[.int .i64 ((pickAt ps k).1), .int .i64 ((pickAt ps k).2.1), .int .i64 ((pickAt ps k).2.2)] 66, vec 3 1 (.slice A1 (crashKeys s).length c1) (crashKeys s).length (((crashKeys s).map fun a => ((a : Nat) : Int)).map (Value.int .i64)), row g #[.slice (some ⟨gd, 0, none⟩) (512 * s.last.length) (512 * s.last.length), .map (some gm), .bool fused, .int .i64 left, .int .i64 s.life, .int .i64 s.rd, .int .i64 s.wr, .int .i64 s.fl, .int .i64 s.rf, .int .i64 (s.pend.length : Int)] 87, row gd (bvs (applyP s.last ((crashOuts s ps).take k)).flatten) 5, pt gm (mapO (es.map PEnt.ent) clock), stars (es.map PEnt.ast)] [2, 3, 4, 5, 0, 1] (by decide) rfl S25
        refine wp_region_phu (γ := Nat × Int) 8 [6, 7] (fun (c_ : Nat × Int) (i_ : Nat) => (match i_ with | 0 => .pointer (some ⟨g, 0, none⟩) | 1 => .int .i64 ((p.at_ : Nat) : Int) | 2 => .slice (some ⟨gd, 512 * p.at_, none⟩) 512 (512 * s.last.length - 512 * p.at_) | 3 => .pointer (some ⟨g, 0, none⟩) | 4 => .int .i64 ((p.at_ : Nat) : Int) | 5 => .agg #[.int .i64 ((pickAt ps k).1), .int .i64 ((pickAt ps k).2.1), .int .i64 ((pickAt ps k).2.2)] | 6 => .slice (some ⟨c_.1, 0, none⟩) 512 512 | 7 => goInt c_.2 | _ => undef : Value)) (fun (c_ : Nat × Int) (p_ : Nat) (w_ : World) => (match p_ with | 0 => St F w0 w_ (row g #[.slice (some ⟨gd, 0, none⟩) (512 * s.last.length) (512 * s.last.length), .map (some gm), .bool fused, .int .i64 left, .int .i64 s.life, .int .i64 s.rd, .int .i64 s.wr, .int .i64 s.fl, .int .i64 s.rf, .int .i64 (s.pend.length : Int)] 87 :: row gd (bvs (applyP s.last ((crashOuts s ps).take k)).flatten) 5 :: pt gm (mapO (es.map PEnt.ent) clock) :: stars (es.map PEnt.ast) :: row g19 #[.int .i64 ((pickAt ps k).1), .int .i64 ((pickAt ps k).2.1), .int .i64 ((pickAt ps k).2.2)] 66 :: vec 3 1 (.slice A1 (crashKeys s).length c1) (crashKeys s).length (((crashKeys s).map fun a => ((a : Nat) : Int)).map (Value.int .i64)) :: L) | 1 => St F w0 w_ (row c_.1 (bvs (tornS (candS s p.at_) (pickAt ps k))) 5 :: row g #[.slice (some ⟨gd, 0, none⟩) (512 * s.last.length) (512 * s.last.length), .map (some gm), .bool fused, .int .i64 left, .int .i64 s.life, .int .i64 s.rd, .int .i64 s.wr, .int .i64 s.fl, .int .i64 s.rf, .int .i64 (s.pend.length : Int)] 87 :: row gd (bvs (applyP s.last ((crashOuts s ps).take k)).flatten) 5 :: pt gm (mapO (es.map PEnt.ent) clock) :: stars (es.map PEnt.ast) :: row g19 #[.int .i64 ((pickAt ps k).1), .int .i64 ((pickAt ps k).2.1), .int .i64 ((pickAt ps k).2.2)] 66 :: vec 3 1 (.slice A1 (crashKeys s).length c1) (crashKeys s).length (((crashKeys s).map fun a => ((a : Nat) : Int)).map (Value.int .i64)) :: L) | _ => St F w0 w_ (row c_.1 (bvs (tornS (candS s p.at_) (pickAt ps k))) 5 :: row g #[.slice (some ⟨gd, 0, none⟩) (512 * s.last.length) (512 * s.last.length), .map (some gm), .bool fused, .int .i64 left, .int .i64 s.life, .int .i64 s.rd, .int .i64 s.wr, .int .i64 s.fl, .int .i64 s.rf, .int .i64 (s.pend.length : Int)] 87 :: row gd (bvs ((applyP s.last ((crashOuts s ps).take (k + 1))).flatten)) 5 :: pt gm (mapO (es.map PEnt.ent) clock) :: stars (es.map PEnt.ast) :: row g19 #[.int .i64 ((pickAt ps k).1), .int .i64 ((pickAt ps k).2.1), .int .i64 ((pickAt ps k).2.2)] 66 :: vec 3 1 (.slice A1 (crashKeys s).length c1) (crashKeys s).length (((crashKeys s).map fun a => ((a : Nat) : Int)).map (Value.int .i64)) :: L) : Prop)) (0, 0) (by kernel_rfl) (by kernel_rfl) (by kernel_rfl) (by kernel_rfl) (S26.drew) ?_ ?_ ?_
        · intro i_ c_ p_ vals_ w1 hi_ hiE_ hp_ hk_ hu_ hPh_ hd_
          rcases i_ with _ | _ | _ | _ | _ | _ | _ | _ | i_
          · skip
            refine told_free rfl rfl (gv_env ((⟨Array.replicate 62 undef, []⟩ : Act).put (some 0) (.pointer (some ⟨g, 0, none⟩))) (by kernel_rfl) (xs := [.tmp 0]) (by kernel_rfl) (alike_cons (fill_past (by kernel_rfl) (by kernel_rfl)) alike_nil) (gv_val (v := .pointer (some ⟨g, 0, none⟩)) (w' := w1) (by kernel_rfl) ?_))
            exact ⟨rfl, rfl⟩
          · skip
            refine told_free rfl rfl (gv_env ((⟨Array.replicate 62 undef, []⟩ : Act).put (some 7) (.int .i64 ((p.at_ : Nat) : Int))) (by kernel_rfl) (xs := [.tmp 7]) (by kernel_rfl) (alike_cons (fill_past (by kernel_rfl) (by kernel_rfl)) alike_nil) (gv_val (v := .int .i64 ((p.at_ : Nat) : Int)) (w' := w1) (by kernel_rfl) ?_))
            exact ⟨rfl, rfl⟩
          · skip
            rcases p_ with _ | _ | _ | p_
            · skip
              have S29 : St F w0 w1 (row g #[.slice (some ⟨gd, 0, none⟩) (512 * s.last.length) (512 * s.last.length), .map (some gm), .bool fused, .int .i64 left, .int .i64 s.life, .int .i64 s.rd, .int .i64 s.wr, .int .i64 s.fl, .int .i64 s.rf, .int .i64 (s.pend.length : Int)] 87 :: row gd (bvs (applyP s.last ((crashOuts s ps).take k)).flatten) 5 :: pt gm (mapO (es.map PEnt.ent) clock) :: stars (es.map PEnt.ast) :: row g19 #[.int .i64 ((pickAt ps k).1), .int .i64 ((pickAt ps k).2.1), .int .i64 ((pickAt ps k).2.2)] 66 :: vec 3 1 (.slice A1 (crashKeys s).length c1) (crashKeys s).length (((crashKeys s).map fun a => ((a : Nat) : Int)).map (Value.int .i64)) :: L) := hPh_
              refine told_free rfl rfl (gv_env (((⟨Array.replicate 62 undef, []⟩ : Act).put (some 41) (.pointer (some ⟨g, 0, none⟩))).put (some 42) (.int .i64 ((p.at_ : Nat) : Int))) (by kernel_rfl) (xs := [.func 71, .tmp 41, .tmp 42]) (by kernel_rfl) (alike_cons eval_fn (alike_cons (fill_at (k := 0) (by kernel_rfl) (by kernel_rfl) ((hd_ 0 (by kernel_rfl)).trans (by kernel_rfl))) (alike_cons (fill_at (k := 1) (by kernel_rfl) (by kernel_rfl) ((hd_ 1 (by kernel_rfl)).trans (by kernel_rfl))) alike_nil))) (gv_call (args := #[.pointer (some ⟨g, 0, none⟩), .int .i64 ((p.at_ : Nat) : Int)]) rfl Try.func71 (by kernel_rfl) rfl rfl (by kernel_rfl) ?_))
              refine Calls.mono (home_ro (S29.blk 0 rfl) rfl rfl hn2 hk) ?_
              rintro _ _ ⟨rfl, rfl⟩
              refine ⟨_, rfl, ?_⟩
              exact ⟨rfl, rfl⟩
            · skip
              exact absurd (hu_ 0 (by decide) (by kernel_rfl)) (by decide)
            · skip
              exact absurd (hu_ 0 (by decide) (by kernel_rfl)) (by decide)
            · exact absurd hp_ (by simp)
          · skip
            refine told_free rfl rfl (gv_env ((⟨Array.replicate 62 undef, []⟩ : Act).put (some 0) (.pointer (some ⟨g, 0, none⟩))) (by kernel_rfl) (xs := [.tmp 0]) (by kernel_rfl) (alike_cons (fill_past (by kernel_rfl) (by kernel_rfl)) alike_nil) (gv_val (v := .pointer (some ⟨g, 0, none⟩)) (w' := w1) (by kernel_rfl) ?_))
            exact ⟨rfl, rfl⟩
          · skip
            refine told_free rfl rfl (gv_env ((⟨Array.replicate 62 undef, []⟩ : Act).put (some 7) (.int .i64 ((p.at_ : Nat) : Int))) (by kernel_rfl) (xs := [.tmp 7]) (by kernel_rfl) (alike_cons (fill_past (by kernel_rfl) (by kernel_rfl)) alike_nil) (gv_val (v := .int .i64 ((p.at_ : Nat) : Int)) (w' := w1) (by kernel_rfl) ?_))
            exact ⟨rfl, rfl⟩
          · skip
            rcases p_ with _ | _ | _ | p_
            · skip
              have S32 : St F w0 w1 (row g #[.slice (some ⟨gd, 0, none⟩) (512 * s.last.length) (512 * s.last.length), .map (some gm), .bool fused, .int .i64 left, .int .i64 s.life, .int .i64 s.rd, .int .i64 s.wr, .int .i64 s.fl, .int .i64 s.rf, .int .i64 (s.pend.length : Int)] 87 :: row gd (bvs (applyP s.last ((crashOuts s ps).take k)).flatten) 5 :: pt gm (mapO (es.map PEnt.ent) clock) :: stars (es.map PEnt.ast) :: row g19 #[.int .i64 ((pickAt ps k).1), .int .i64 ((pickAt ps k).2.1), .int .i64 ((pickAt ps k).2.2)] 66 :: vec 3 1 (.slice A1 (crashKeys s).length c1) (crashKeys s).length (((crashKeys s).map fun a => ((a : Nat) : Int)).map (Value.int .i64)) :: L) := hPh_
              refine told_free rfl rfl (gv_env ((⟨Array.replicate 62 undef, []⟩ : Act).put (some 8) (.pointer (some ⟨g19, 0, none⟩))) (by kernel_rfl) (xs := [.tmp 8]) (by kernel_rfl) (alike_cons (fill_past (by kernel_rfl) (by kernel_rfl)) alike_nil) (gv_ldA (k := 0) (n := 3) (vs := [.int .i64 ((pickAt ps k).1), .int .i64 ((pickAt ps k).2.1), .int .i64 ((pickAt ps k).2.2)]) S32 4 rfl rfl (by kernel_rfl) (by kernel_rfl) rfl rfl ?_))
              exact ⟨rfl, rfl⟩
            · skip
              exact absurd (hu_ 0 (by decide) (by kernel_rfl)) (by decide)
            · skip
              exact absurd (hu_ 0 (by decide) (by kernel_rfl)) (by decide)
            · exact absurd hp_ (by simp)
          · skip
            exact absurd hiE_ (by decide)
          · skip
            exact absurd hiE_ (by decide)
          · exact absurd hi_ (by omega)
        · intro k_ c_ vals_ w1 hk_ hPh_ hd_
          rcases k_ with _ | _ | k_
          · skip
            have S33 : St F w0 w1 (row g #[.slice (some ⟨gd, 0, none⟩) (512 * s.last.length) (512 * s.last.length), .map (some gm), .bool fused, .int .i64 left, .int .i64 s.life, .int .i64 s.rd, .int .i64 s.wr, .int .i64 s.fl, .int .i64 s.rf, .int .i64 (s.pend.length : Int)] 87 :: row gd (bvs (applyP s.last ((crashOuts s ps).take k)).flatten) 5 :: pt gm (mapO (es.map PEnt.ent) clock) :: stars (es.map PEnt.ast) :: row g19 #[.int .i64 ((pickAt ps k).1), .int .i64 ((pickAt ps k).2.1), .int .i64 ((pickAt ps k).2.2)] 66 :: vec 3 1 (.slice A1 (crashKeys s).length c1) (crashKeys s).length (((crashKeys s).map fun a => ((a : Nat) : Int)).map (Value.int .i64)) :: L) := hPh_
            refine told_free rfl rfl (gv_env ((((⟨Array.replicate 62 undef, []⟩ : Act).put (some 44) (.pointer (some ⟨g, 0, none⟩))).put (some 45) (.int .i64 ((p.at_ : Nat) : Int))).put (some 46) (.agg #[.int .i64 ((pickAt ps k).1), .int .i64 ((pickAt ps k).2.1), .int .i64 ((pickAt ps k).2.2)])) (by kernel_rfl) (xs := [.func 72, .tmp 44, .tmp 45, .tmp 46]) (by kernel_rfl) (alike_cons eval_fn (alike_cons (fill_at (k := 3) (by kernel_rfl) (by kernel_rfl) ((hd_ 3 (by kernel_rfl)).trans (by kernel_rfl))) (alike_cons (fill_at (k := 4) (by kernel_rfl) (by kernel_rfl) ((hd_ 4 (by kernel_rfl)).trans (by kernel_rfl))) (alike_cons (fill_at (k := 5) (by kernel_rfl) (by kernel_rfl) ((hd_ 5 (by kernel_rfl)).trans (by kernel_rfl))) alike_nil)))) (gv_call (args := #[.pointer (some ⟨g, 0, none⟩), .int .i64 ((p.at_ : Nat) : Int), .agg #[.int .i64 ((pickAt ps k).1), .int .i64 ((pickAt ps k).2.1), .int .i64 ((pickAt ps k).2.2)]]) rfl Try.func72 (by kernel_rfl) rfl rfl (by kernel_rfl) ?_))
            refine Calls.mono (outcome_own S33 hj hje hke hfe hne hx hx5 hx512 hn2 hk hq) ?_
            rintro _ w35 ⟨g34, rfl, S36⟩
            rw [hcs] at S36
            refine ⟨_, rfl, ?_⟩
            refine ⟨(g34, c_.2), rfl, ?_, S36⟩
            intro i_ hi_ hne_ hdp_
            rcases i_ with _ | _ | _ | _ | _ | _ | _ | _ | i_
            · rfl
            · rfl
            · rfl
            · rfl
            · rfl
            · rfl
            · exact absurd rfl hne_
            · exact (dep_no hdp_ (by kernel_rfl)).elim
            · exact absurd hi_ (by omega)
          · skip
            have S37 : St F w0 w1 (row c_.1 (bvs (tornS (candS s p.at_) (pickAt ps k))) 5 :: row g #[.slice (some ⟨gd, 0, none⟩) (512 * s.last.length) (512 * s.last.length), .map (some gm), .bool fused, .int .i64 left, .int .i64 s.life, .int .i64 s.rd, .int .i64 s.wr, .int .i64 s.fl, .int .i64 s.rf, .int .i64 (s.pend.length : Int)] 87 :: row gd (bvs (applyP s.last ((crashOuts s ps).take k)).flatten) 5 :: pt gm (mapO (es.map PEnt.ent) clock) :: stars (es.map PEnt.ast) :: row g19 #[.int .i64 ((pickAt ps k).1), .int .i64 ((pickAt ps k).2.1), .int .i64 ((pickAt ps k).2.2)] 66 :: vec 3 1 (.slice A1 (crashKeys s).length c1) (crashKeys s).length (((crashKeys s).map fun a => ((a : Nat) : Int)).map (Value.int .i64)) :: L) := hPh_
            refine told_free rfl rfl (gv_env (((⟨Array.replicate 62 undef, []⟩ : Act).put (some 43) (.slice (some ⟨gd, 512 * p.at_, none⟩) 512 (512 * s.last.length - 512 * p.at_))).put (some 47) (.slice (some ⟨c_.1, 0, none⟩) 512 512)) (by kernel_rfl) (xs := [.tmp 43, .tmp 47]) (by kernel_rfl) (alike_cons (fill_at (k := 2) (by kernel_rfl) (by kernel_rfl) ((hd_ 2 (by kernel_rfl)).trans (by kernel_rfl))) (alike_cons (fill_at (k := 6) (by kernel_rfl) (by kernel_rfl) ((hd_ 6 (by kernel_rfl)).trans (by kernel_rfl))) alike_nil)) (gv_copy (e := 5) (off := 512 * p.at_) (dLen := 512) (dCap := (512 * s.last.length - 512 * p.at_)) (sLen := 512) (sCap := 512) (A := (some ⟨c_.1, 0, none⟩)) (B := ((applyP s.last ((crashOuts s ps).take k)).flatten)) (l := (tornS (candS s p.at_) (pickAt ps k))) S37 2 rfl rfl (by kernel_rfl) (by kernel_rfl) (by kernel_rfl) (by kernel_rfl) htl.symm (RdB.row (S37.blk 0 rfl) 0 512 _ (by rw [List.drop_zero, List.take_of_length_le (by omega)])) (by rw [hDk]; omega) (L' := (row c_.1 (bvs (tornS (candS s p.at_) (pickAt ps k))) 5 :: row g #[.slice (some ⟨gd, 0, none⟩) (512 * s.last.length) (512 * s.last.length), .map (some gm), .bool fused, .int .i64 left, .int .i64 s.life, .int .i64 s.rd, .int .i64 s.wr, .int .i64 s.fl, .int .i64 s.rf, .int .i64 (s.pend.length : Int)] 87 :: row gd (bvs ((applyP s.last ((crashOuts s ps).take (k + 1))).flatten)) 5 :: pt gm (mapO (es.map PEnt.ent) clock) :: stars (es.map PEnt.ast) :: row g19 #[.int .i64 ((pickAt ps k).1), .int .i64 ((pickAt ps k).2.1), .int .i64 ((pickAt ps k).2.2)] 66 :: vec 3 1 (.slice A1 (crashKeys s).length c1) (crashKeys s).length (((crashKeys s).map fun a => ((a : Nat) : Int)).map (Value.int .i64)) :: L)) (by rw [List.take_of_length_le (l := tornS (candS s p.at_) (pickAt ps k)) (Nat.le_of_eq htl), flat_set (hA k).2 _ _ (by rw [(hA k).1]; exact hk) htl, out_take hK, applyP_snoc]; rfl) (fun w38 m40 S39 => ?_)))
            refine ⟨(c_.1, m40), rfl, ?_, S39⟩
            intro i_ hi_ hne_ hdp_
            rcases i_ with _ | _ | _ | _ | _ | _ | _ | _ | i_
            · rfl
            · rfl
            · rfl
            · rfl
            · rfl
            · rfl
            · rfl
            · exact absurd rfl hne_
            · exact absurd hi_ (by omega)
          · exact absurd hk_ (by simp)
        · intro c_ w1 hPh_
          have S41 : St F w0 w1 (row c_.1 (bvs (tornS (candS s p.at_) (pickAt ps k))) 5 :: row g #[.slice (some ⟨gd, 0, none⟩) (512 * s.last.length) (512 * s.last.length), .map (some gm), .bool fused, .int .i64 left, .int .i64 s.life, .int .i64 s.rd, .int .i64 s.wr, .int .i64 s.fl, .int .i64 s.rf, .int .i64 (s.pend.length : Int)] 87 :: row gd (bvs ((applyP s.last ((crashOuts s ps).take (k + 1))).flatten)) 5 :: pt gm (mapO (es.map PEnt.ent) clock) :: stars (es.map PEnt.ast) :: row g19 #[.int .i64 ((pickAt ps k).1), .int .i64 ((pickAt ps k).2.1), .int .i64 ((pickAt ps k).2.2)] 66 :: vec 3 1 (.slice A1 (crashKeys s).length c1) (crashKeys s).length (((crashKeys s).map fun a => ((a : Nat) : Int)).map (Value.int .i64)) :: L) := hPh_
          refine wl_frame (fr [pq g, .slice A n c, ud, ud, .slice A1 ((crashKeys s).length) c1, J 5, iv ((k : Nat) : Int), iv ((p.at_ : Nat) : Int), pq g19, pq g, pq g, po g 1, .map (some gm), pq gi2, .tuple #[fv], fv, J 16, J 17, J 18, J 19, J 20, J 21, .slice A1 ((crashKeys s).length) c1, .tuple #[], .slice A1 ((crashKeys s).length) c1, iv ((crashKeys s).length : Nat), iv ((k : Nat) : Int), tv, iv ((k : Nat) : Int), .pointer (some (ad1.add k)), iv ((p.at_ : Nat) : Int), .slice A n c, iv (n : Nat), tv, .slice A n c, iv ((k : Nat) : Int), .slice A n c, iv (n : Nat), iv ((k % ps.length : Nat) : Int), .pointer (some (ad.add ((k % ps.length) * 3))), .agg #[iv ((pickAt ps k).1), iv ((pickAt ps k).2.1), iv ((pickAt ps k).2.2)], pq g, iv ((p.at_ : Nat) : Int), sl gd (512 * p.at_) 512 (512 * s.last.length - 512 * p.at_), pq g, iv ((p.at_ : Nat) : Int), .agg #[iv ((pickAt ps k).1), iv ((pickAt ps k).2.1), iv ((pickAt ps k).2.2)], sl c_.1 0 512 512, goInt c_.2, J 49] 12) (by kernel_rfl) ?_
          refine wl_end (fr [pq g, .slice A n c, ud, ud, .slice A1 ((crashKeys s).length) c1, J 5, iv ((k : Nat) : Int), iv ((p.at_ : Nat) : Int), pq g19, pq g, pq g, po g 1, .map (some gm), pq gi2, .tuple #[fv], fv, J 16, J 17, J 18, J 19, J 20, J 21, .slice A1 ((crashKeys s).length) c1, .tuple #[], .slice A1 ((crashKeys s).length) c1, iv ((crashKeys s).length : Nat), iv ((k : Nat) : Int), tv, iv ((k : Nat) : Int), .pointer (some (ad1.add k)), iv ((p.at_ : Nat) : Int), .slice A n c, iv (n : Nat), tv, .slice A n c, iv ((k : Nat) : Int), .slice A n c, iv (n : Nat), iv ((k % ps.length : Nat) : Int), .pointer (some (ad.add ((k % ps.length) * 3))), .agg #[iv ((pickAt ps k).1), iv ((pickAt ps k).2.1), iv ((pickAt ps k).2.2)], pq g, iv ((p.at_ : Nat) : Int), sl gd (512 * p.at_) 512 (512 * s.last.length - 512 * p.at_), pq g, iv ((p.at_ : Nat) : Int), .agg #[iv ((pickAt ps k).1), iv ((pickAt ps k).2.1), iv ((pickAt ps k).2.2)], sl c_.1 0 512 512, goInt c_.2, J 49] 12) (by kernel_rfl) ?_
          refine inb_n ?_
          refine then_n ?_
          refine wp_region_lit ?_
          refine wl_gv rfl (gv_int (k := .i64) (z := IntKind.i64.wrap (((k : Nat) : Int) + 1)) (z' := ((k : Nat) : Int) + 1) (by kernel_rfl) (wr_ok (by omega) (by omega)) ?_)
          refine pv (iv (((k : Nat) : Int) + 1)) ?_
          have S42 : St F w0 w1 (vec 3 1 (.slice A1 (crashKeys s).length c1) (crashKeys s).length (((crashKeys s).map fun a => ((a : Nat) : Int)).map (Value.int .i64)) :: row g #[.slice (some ⟨gd, 0, none⟩) (512 * s.last.length) (512 * s.last.length), .map (some gm), .bool fused, .int .i64 left, .int .i64 s.life, .int .i64 s.rd, .int .i64 s.wr, .int .i64 s.fl, .int .i64 s.rf, .int .i64 (s.pend.length : Int)] 87 :: row gd (bvs ((applyP s.last ((crashOuts s ps).take (k + 1))).flatten)) 5 :: pt gm (mapO (es.map PEnt.ent) clock) :: stars (es.map PEnt.ast) :: L) := St.permT [row c_.1 (bvs (tornS (candS s p.at_) (pickAt ps k))) 5, row g #[.slice (some ⟨gd, 0, none⟩) (512 * s.last.length) (512 * s.last.length), .map (some gm), .bool fused, .int .i64 left, .int .i64 s.life, .int .i64 s.rd, .int .i64 s.wr, .int .i64 s.fl, .int .i64 s.rf, .int .i64 (s.pend.length : Int)] 87, row gd (bvs ((applyP s.last ((crashOuts s ps).take (k + 1))).flatten)) 5, pt gm (mapO (es.map PEnt.ent) clock), stars (es.map PEnt.ast), row g19 #[.int .i64 ((pickAt ps k).1), .int .i64 ((pickAt ps k).2.1), .int .i64 ((pickAt ps k).2.2)] 66, vec 3 1 (.slice A1 (crashKeys s).length c1) (crashKeys s).length (((crashKeys s).map fun a => ((a : Nat) : Int)).map (Value.int .i64))] [6, 1, 2, 3, 4] (by decide) rfl S41
          refine wl_end (fr [pq g, .slice A n c, ud, ud, .slice A1 ((crashKeys s).length) c1, J 5, iv ((k : Nat) : Int), iv ((p.at_ : Nat) : Int), pq g19, pq g, pq g, po g 1, .map (some gm), pq gi2, .tuple #[fv], fv, J 16, J 17, J 18, J 19, J 20, J 21, .slice A1 ((crashKeys s).length) c1, .tuple #[], .slice A1 ((crashKeys s).length) c1, iv ((crashKeys s).length : Nat), iv (((k : Nat) : Int) + 1), tv, iv ((k : Nat) : Int), .pointer (some (ad1.add k)), iv ((p.at_ : Nat) : Int), .slice A n c, iv (n : Nat), tv, .slice A n c, iv ((k : Nat) : Int), .slice A n c, iv (n : Nat), iv ((k % ps.length : Nat) : Int), .pointer (some (ad.add ((k % ps.length) * 3))), .agg #[iv ((pickAt ps k).1), iv ((pickAt ps k).2.1), iv ((pickAt ps k).2.2)], pq g, iv ((p.at_ : Nat) : Int), sl gd (512 * p.at_) 512 (512 * s.last.length - 512 * p.at_), pq g, iv ((p.at_ : Nat) : Int), .agg #[iv ((pickAt ps k).1), iv ((pickAt ps k).2.1), iv ((pickAt ps k).2.2)], sl c_.1 0 512 512, goInt c_.2, iv (((k : Nat) : Int) + 1)] 12) (by kernel_rfl) ?_
          refine then_n ?_
          exact ⟨k + 1, ⟨(jl [ud, ud, ud, ud, ud, J 5, iv ((k : Nat) : Int), iv ((p.at_ : Nat) : Int), pq g19, ud, ud, ud, ud, ud, ud, ud, J 16, J 17, J 18, J 19, J 20, J 21, ud, ud, ud, ud, ud, tv, iv ((k : Nat) : Int), .pointer (some (ad1.add k)), iv ((p.at_ : Nat) : Int), .slice A n c, iv (n : Nat), tv, .slice A n c, iv ((k : Nat) : Int), .slice A n c, iv (n : Nat), iv ((k % ps.length : Nat) : Int), .pointer (some (ad.add ((k % ps.length) * 3))), .agg #[iv ((pickAt ps k).1), iv ((pickAt ps k).2.1), iv ((pickAt ps k).2.2)], pq g, iv ((p.at_ : Nat) : Int), sl gd (512 * p.at_) 512 (512 * s.last.length - 512 * p.at_), pq g, iv ((p.at_ : Nat) : Int), .agg #[iv ((pickAt ps k).1), iv ((pickAt ps k).2.1), iv ((pickAt ps k).2.2)], sl c_.1 0 512 512, goInt c_.2, iv (((k : Nat) : Int) + 1)]), by kernel_rfl, S42, (by omega)⟩, (by show (crashKeys s).length - (k + 1) < (crashKeys s).length - k; omega)⟩
      · skip
        have hpk : pickAt ps k = (0, 0, 0) := if_pos (by omega)
        have S43 : St F w0 w20 (row g19 #[.int .i64 ((pickAt ps k).1), .int .i64 ((pickAt ps k).2.1), .int .i64 ((pickAt ps k).2.2)] 66 :: vec 3 1 (.slice A1 (crashKeys s).length c1) (crashKeys s).length (((crashKeys s).map fun a => ((a : Nat) : Int)).map (Value.int .i64)) :: row g #[.slice (some ⟨gd, 0, none⟩) (512 * s.last.length) (512 * s.last.length), .map (some gm), .bool fused, .int .i64 left, .int .i64 s.life, .int .i64 s.rd, .int .i64 s.wr, .int .i64 s.fl, .int .i64 s.rf, .int .i64 (s.pend.length : Int)] 87 :: row gd (bvs (applyP s.last ((crashOuts s ps).take k)).flatten) 5 :: pt gm (mapO (es.map PEnt.ent) clock) :: stars (es.map PEnt.ast) :: L) := (by rw [hpk]; exact S22)
        refine wl_end (fr [pq g, .slice A n c, ud, ud, .slice A1 ((crashKeys s).length) c1, J 5, iv ((k : Nat) : Int), iv ((p.at_ : Nat) : Int), pq g19, pq g, pq g, po g 1, .map (some gm), pq gi2, .tuple #[fv], fv, J 16, J 17, J 18, J 19, J 20, J 21, .slice A1 ((crashKeys s).length) c1, .tuple #[], .slice A1 ((crashKeys s).length) c1, iv ((crashKeys s).length : Nat), iv ((k : Nat) : Int), tv, iv ((k : Nat) : Int), .pointer (some (ad1.add k)), iv ((p.at_ : Nat) : Int), .slice A n c, iv (n : Nat), fv, J 34, J 35, J 36, J 37, J 38, J 39, J 40, J 41, J 42, J 43, J 44, J 45, J 46, J 47, J 48, J 49] 12) (by kernel_rfl) ?_
        refine then_n ?_
        refine wp_cond_false (by kernel_rfl) ?_
        refine wp_skip ?_
        refine then_n ?_
        have S44 : St F w0 w20 (row g #[.slice (some ⟨gd, 0, none⟩) (512 * s.last.length) (512 * s.last.length), .map (some gm), .bool fused, .int .i64 left, .int .i64 s.life, .int .i64 s.rd, .int .i64 s.wr, .int .i64 s.fl, .int .i64 s.rf, .int .i64 (s.pend.length : Int)] 87 :: row gd (bvs (applyP s.last ((crashOuts s ps).take k)).flatten) 5 :: pt gm (mapO (es.map PEnt.ent) clock) :: stars (es.map PEnt.ast) :: row g19 #[.int .i64 ((pickAt ps k).1), .int .i64 ((pickAt ps k).2.1), .int .i64 ((pickAt ps k).2.2)] 66 :: vec 3 1 (.slice A1 (crashKeys s).length c1) (crashKeys s).length (((crashKeys s).map fun a => ((a : Nat) : Int)).map (Value.int .i64)) :: L) := St.permT [row g19 #[.int .i64 ((pickAt ps k).1), .int .i64 ((pickAt ps k).2.1), .int .i64 ((pickAt ps k).2.2)] 66, vec 3 1 (.slice A1 (crashKeys s).length c1) (crashKeys s).length (((crashKeys s).map fun a => ((a : Nat) : Int)).map (Value.int .i64)), row g #[.slice (some ⟨gd, 0, none⟩) (512 * s.last.length) (512 * s.last.length), .map (some gm), .bool fused, .int .i64 left, .int .i64 s.life, .int .i64 s.rd, .int .i64 s.wr, .int .i64 s.fl, .int .i64 s.rf, .int .i64 (s.pend.length : Int)] 87, row gd (bvs (applyP s.last ((crashOuts s ps).take k)).flatten) 5, pt gm (mapO (es.map PEnt.ent) clock), stars (es.map PEnt.ast)] [2, 3, 4, 5, 0, 1] (by decide) rfl S43
        refine wp_region_phu (γ := Nat × Int) 8 [6, 7] (fun (c2_ : Nat × Int) (i_ : Nat) => (match i_ with | 0 => .pointer (some ⟨g, 0, none⟩) | 1 => .int .i64 ((p.at_ : Nat) : Int) | 2 => .slice (some ⟨gd, 512 * p.at_, none⟩) 512 (512 * s.last.length - 512 * p.at_) | 3 => .pointer (some ⟨g, 0, none⟩) | 4 => .int .i64 ((p.at_ : Nat) : Int) | 5 => .agg #[.int .i64 ((pickAt ps k).1), .int .i64 ((pickAt ps k).2.1), .int .i64 ((pickAt ps k).2.2)] | 6 => .slice (some ⟨c2_.1, 0, none⟩) 512 512 | 7 => goInt c2_.2 | _ => undef : Value)) (fun (c2_ : Nat × Int) (p_ : Nat) (w_ : World) => (match p_ with | 0 => St F w0 w_ (row g #[.slice (some ⟨gd, 0, none⟩) (512 * s.last.length) (512 * s.last.length), .map (some gm), .bool fused, .int .i64 left, .int .i64 s.life, .int .i64 s.rd, .int .i64 s.wr, .int .i64 s.fl, .int .i64 s.rf, .int .i64 (s.pend.length : Int)] 87 :: row gd (bvs (applyP s.last ((crashOuts s ps).take k)).flatten) 5 :: pt gm (mapO (es.map PEnt.ent) clock) :: stars (es.map PEnt.ast) :: row g19 #[.int .i64 ((pickAt ps k).1), .int .i64 ((pickAt ps k).2.1), .int .i64 ((pickAt ps k).2.2)] 66 :: vec 3 1 (.slice A1 (crashKeys s).length c1) (crashKeys s).length (((crashKeys s).map fun a => ((a : Nat) : Int)).map (Value.int .i64)) :: L) | 1 => St F w0 w_ (row c2_.1 (bvs (tornS (candS s p.at_) (pickAt ps k))) 5 :: row g #[.slice (some ⟨gd, 0, none⟩) (512 * s.last.length) (512 * s.last.length), .map (some gm), .bool fused, .int .i64 left, .int .i64 s.life, .int .i64 s.rd, .int .i64 s.wr, .int .i64 s.fl, .int .i64 s.rf, .int .i64 (s.pend.length : Int)] 87 :: row gd (bvs (applyP s.last ((crashOuts s ps).take k)).flatten) 5 :: pt gm (mapO (es.map PEnt.ent) clock) :: stars (es.map PEnt.ast) :: row g19 #[.int .i64 ((pickAt ps k).1), .int .i64 ((pickAt ps k).2.1), .int .i64 ((pickAt ps k).2.2)] 66 :: vec 3 1 (.slice A1 (crashKeys s).length c1) (crashKeys s).length (((crashKeys s).map fun a => ((a : Nat) : Int)).map (Value.int .i64)) :: L) | _ => St F w0 w_ (row c2_.1 (bvs (tornS (candS s p.at_) (pickAt ps k))) 5 :: row g #[.slice (some ⟨gd, 0, none⟩) (512 * s.last.length) (512 * s.last.length), .map (some gm), .bool fused, .int .i64 left, .int .i64 s.life, .int .i64 s.rd, .int .i64 s.wr, .int .i64 s.fl, .int .i64 s.rf, .int .i64 (s.pend.length : Int)] 87 :: row gd (bvs ((applyP s.last ((crashOuts s ps).take (k + 1))).flatten)) 5 :: pt gm (mapO (es.map PEnt.ent) clock) :: stars (es.map PEnt.ast) :: row g19 #[.int .i64 ((pickAt ps k).1), .int .i64 ((pickAt ps k).2.1), .int .i64 ((pickAt ps k).2.2)] 66 :: vec 3 1 (.slice A1 (crashKeys s).length c1) (crashKeys s).length (((crashKeys s).map fun a => ((a : Nat) : Int)).map (Value.int .i64)) :: L) : Prop)) (0, 0) (by kernel_rfl) (by kernel_rfl) (by kernel_rfl) (by kernel_rfl) (S44.drew) ?_ ?_ ?_
        · intro i_ c2_ p_ vals_ w1 hi_ hiE_ hp_ hk_ hu_ hPh_ hd_
          rcases i_ with _ | _ | _ | _ | _ | _ | _ | _ | i_
          · skip
            refine told_free rfl rfl (gv_env ((⟨Array.replicate 62 undef, []⟩ : Act).put (some 0) (.pointer (some ⟨g, 0, none⟩))) (by kernel_rfl) (xs := [.tmp 0]) (by kernel_rfl) (alike_cons (fill_past (by kernel_rfl) (by kernel_rfl)) alike_nil) (gv_val (v := .pointer (some ⟨g, 0, none⟩)) (w' := w1) (by kernel_rfl) ?_))
            exact ⟨rfl, rfl⟩
          · skip
            refine told_free rfl rfl (gv_env ((⟨Array.replicate 62 undef, []⟩ : Act).put (some 7) (.int .i64 ((p.at_ : Nat) : Int))) (by kernel_rfl) (xs := [.tmp 7]) (by kernel_rfl) (alike_cons (fill_past (by kernel_rfl) (by kernel_rfl)) alike_nil) (gv_val (v := .int .i64 ((p.at_ : Nat) : Int)) (w' := w1) (by kernel_rfl) ?_))
            exact ⟨rfl, rfl⟩
          · skip
            rcases p_ with _ | _ | _ | p_
            · skip
              have S47 : St F w0 w1 (row g #[.slice (some ⟨gd, 0, none⟩) (512 * s.last.length) (512 * s.last.length), .map (some gm), .bool fused, .int .i64 left, .int .i64 s.life, .int .i64 s.rd, .int .i64 s.wr, .int .i64 s.fl, .int .i64 s.rf, .int .i64 (s.pend.length : Int)] 87 :: row gd (bvs (applyP s.last ((crashOuts s ps).take k)).flatten) 5 :: pt gm (mapO (es.map PEnt.ent) clock) :: stars (es.map PEnt.ast) :: row g19 #[.int .i64 ((pickAt ps k).1), .int .i64 ((pickAt ps k).2.1), .int .i64 ((pickAt ps k).2.2)] 66 :: vec 3 1 (.slice A1 (crashKeys s).length c1) (crashKeys s).length (((crashKeys s).map fun a => ((a : Nat) : Int)).map (Value.int .i64)) :: L) := hPh_
              refine told_free rfl rfl (gv_env (((⟨Array.replicate 62 undef, []⟩ : Act).put (some 41) (.pointer (some ⟨g, 0, none⟩))).put (some 42) (.int .i64 ((p.at_ : Nat) : Int))) (by kernel_rfl) (xs := [.func 71, .tmp 41, .tmp 42]) (by kernel_rfl) (alike_cons eval_fn (alike_cons (fill_at (k := 0) (by kernel_rfl) (by kernel_rfl) ((hd_ 0 (by kernel_rfl)).trans (by kernel_rfl))) (alike_cons (fill_at (k := 1) (by kernel_rfl) (by kernel_rfl) ((hd_ 1 (by kernel_rfl)).trans (by kernel_rfl))) alike_nil))) (gv_call (args := #[.pointer (some ⟨g, 0, none⟩), .int .i64 ((p.at_ : Nat) : Int)]) rfl Try.func71 (by kernel_rfl) rfl rfl (by kernel_rfl) ?_))
              refine Calls.mono (home_ro (S47.blk 0 rfl) rfl rfl hn2 hk) ?_
              rintro _ _ ⟨rfl, rfl⟩
              refine ⟨_, rfl, ?_⟩
              exact ⟨rfl, rfl⟩
            · skip
              exact absurd (hu_ 0 (by decide) (by kernel_rfl)) (by decide)
            · skip
              exact absurd (hu_ 0 (by decide) (by kernel_rfl)) (by decide)
            · exact absurd hp_ (by simp)
          · skip
            refine told_free rfl rfl (gv_env ((⟨Array.replicate 62 undef, []⟩ : Act).put (some 0) (.pointer (some ⟨g, 0, none⟩))) (by kernel_rfl) (xs := [.tmp 0]) (by kernel_rfl) (alike_cons (fill_past (by kernel_rfl) (by kernel_rfl)) alike_nil) (gv_val (v := .pointer (some ⟨g, 0, none⟩)) (w' := w1) (by kernel_rfl) ?_))
            exact ⟨rfl, rfl⟩
          · skip
            refine told_free rfl rfl (gv_env ((⟨Array.replicate 62 undef, []⟩ : Act).put (some 7) (.int .i64 ((p.at_ : Nat) : Int))) (by kernel_rfl) (xs := [.tmp 7]) (by kernel_rfl) (alike_cons (fill_past (by kernel_rfl) (by kernel_rfl)) alike_nil) (gv_val (v := .int .i64 ((p.at_ : Nat) : Int)) (w' := w1) (by kernel_rfl) ?_))
            exact ⟨rfl, rfl⟩
          · skip
            rcases p_ with _ | _ | _ | p_
            · skip
              have S50 : St F w0 w1 (row g #[.slice (some ⟨gd, 0, none⟩) (512 * s.last.length) (512 * s.last.length), .map (some gm), .bool fused, .int .i64 left, .int .i64 s.life, .int .i64 s.rd, .int .i64 s.wr, .int .i64 s.fl, .int .i64 s.rf, .int .i64 (s.pend.length : Int)] 87 :: row gd (bvs (applyP s.last ((crashOuts s ps).take k)).flatten) 5 :: pt gm (mapO (es.map PEnt.ent) clock) :: stars (es.map PEnt.ast) :: row g19 #[.int .i64 ((pickAt ps k).1), .int .i64 ((pickAt ps k).2.1), .int .i64 ((pickAt ps k).2.2)] 66 :: vec 3 1 (.slice A1 (crashKeys s).length c1) (crashKeys s).length (((crashKeys s).map fun a => ((a : Nat) : Int)).map (Value.int .i64)) :: L) := hPh_
              refine told_free rfl rfl (gv_env ((⟨Array.replicate 62 undef, []⟩ : Act).put (some 8) (.pointer (some ⟨g19, 0, none⟩))) (by kernel_rfl) (xs := [.tmp 8]) (by kernel_rfl) (alike_cons (fill_past (by kernel_rfl) (by kernel_rfl)) alike_nil) (gv_ldA (k := 0) (n := 3) (vs := [.int .i64 ((pickAt ps k).1), .int .i64 ((pickAt ps k).2.1), .int .i64 ((pickAt ps k).2.2)]) S50 4 rfl rfl (by kernel_rfl) (by kernel_rfl) rfl rfl ?_))
              exact ⟨rfl, rfl⟩
            · skip
              exact absurd (hu_ 0 (by decide) (by kernel_rfl)) (by decide)
            · skip
              exact absurd (hu_ 0 (by decide) (by kernel_rfl)) (by decide)
            · exact absurd hp_ (by simp)
          · skip
            exact absurd hiE_ (by decide)
          · skip
            exact absurd hiE_ (by decide)
          · exact absurd hi_ (by omega)
        · intro k_ c2_ vals_ w1 hk_ hPh_ hd_
          rcases k_ with _ | _ | k_
          · skip
            have S51 : St F w0 w1 (row g #[.slice (some ⟨gd, 0, none⟩) (512 * s.last.length) (512 * s.last.length), .map (some gm), .bool fused, .int .i64 left, .int .i64 s.life, .int .i64 s.rd, .int .i64 s.wr, .int .i64 s.fl, .int .i64 s.rf, .int .i64 (s.pend.length : Int)] 87 :: row gd (bvs (applyP s.last ((crashOuts s ps).take k)).flatten) 5 :: pt gm (mapO (es.map PEnt.ent) clock) :: stars (es.map PEnt.ast) :: row g19 #[.int .i64 ((pickAt ps k).1), .int .i64 ((pickAt ps k).2.1), .int .i64 ((pickAt ps k).2.2)] 66 :: vec 3 1 (.slice A1 (crashKeys s).length c1) (crashKeys s).length (((crashKeys s).map fun a => ((a : Nat) : Int)).map (Value.int .i64)) :: L) := hPh_
            refine told_free rfl rfl (gv_env ((((⟨Array.replicate 62 undef, []⟩ : Act).put (some 44) (.pointer (some ⟨g, 0, none⟩))).put (some 45) (.int .i64 ((p.at_ : Nat) : Int))).put (some 46) (.agg #[.int .i64 ((pickAt ps k).1), .int .i64 ((pickAt ps k).2.1), .int .i64 ((pickAt ps k).2.2)])) (by kernel_rfl) (xs := [.func 72, .tmp 44, .tmp 45, .tmp 46]) (by kernel_rfl) (alike_cons eval_fn (alike_cons (fill_at (k := 3) (by kernel_rfl) (by kernel_rfl) ((hd_ 3 (by kernel_rfl)).trans (by kernel_rfl))) (alike_cons (fill_at (k := 4) (by kernel_rfl) (by kernel_rfl) ((hd_ 4 (by kernel_rfl)).trans (by kernel_rfl))) (alike_cons (fill_at (k := 5) (by kernel_rfl) (by kernel_rfl) ((hd_ 5 (by kernel_rfl)).trans (by kernel_rfl))) alike_nil)))) (gv_call (args := #[.pointer (some ⟨g, 0, none⟩), .int .i64 ((p.at_ : Nat) : Int), .agg #[.int .i64 ((pickAt ps k).1), .int .i64 ((pickAt ps k).2.1), .int .i64 ((pickAt ps k).2.2)]]) rfl Try.func72 (by kernel_rfl) rfl rfl (by kernel_rfl) ?_))
            refine Calls.mono (outcome_own S51 hj hje hke hfe hne hx hx5 hx512 hn2 hk hq) ?_
            rintro _ w53 ⟨g52, rfl, S54⟩
            rw [hcs] at S54
            refine ⟨_, rfl, ?_⟩
            refine ⟨(g52, c2_.2), rfl, ?_, S54⟩
            intro i_ hi_ hne_ hdp_
            rcases i_ with _ | _ | _ | _ | _ | _ | _ | _ | i_
            · rfl
            · rfl
            · rfl
            · rfl
            · rfl
            · rfl
            · exact absurd rfl hne_
            · exact (dep_no hdp_ (by kernel_rfl)).elim
            · exact absurd hi_ (by omega)
          · skip
            have S55 : St F w0 w1 (row c2_.1 (bvs (tornS (candS s p.at_) (pickAt ps k))) 5 :: row g #[.slice (some ⟨gd, 0, none⟩) (512 * s.last.length) (512 * s.last.length), .map (some gm), .bool fused, .int .i64 left, .int .i64 s.life, .int .i64 s.rd, .int .i64 s.wr, .int .i64 s.fl, .int .i64 s.rf, .int .i64 (s.pend.length : Int)] 87 :: row gd (bvs (applyP s.last ((crashOuts s ps).take k)).flatten) 5 :: pt gm (mapO (es.map PEnt.ent) clock) :: stars (es.map PEnt.ast) :: row g19 #[.int .i64 ((pickAt ps k).1), .int .i64 ((pickAt ps k).2.1), .int .i64 ((pickAt ps k).2.2)] 66 :: vec 3 1 (.slice A1 (crashKeys s).length c1) (crashKeys s).length (((crashKeys s).map fun a => ((a : Nat) : Int)).map (Value.int .i64)) :: L) := hPh_
            refine told_free rfl rfl (gv_env (((⟨Array.replicate 62 undef, []⟩ : Act).put (some 43) (.slice (some ⟨gd, 512 * p.at_, none⟩) 512 (512 * s.last.length - 512 * p.at_))).put (some 47) (.slice (some ⟨c2_.1, 0, none⟩) 512 512)) (by kernel_rfl) (xs := [.tmp 43, .tmp 47]) (by kernel_rfl) (alike_cons (fill_at (k := 2) (by kernel_rfl) (by kernel_rfl) ((hd_ 2 (by kernel_rfl)).trans (by kernel_rfl))) (alike_cons (fill_at (k := 6) (by kernel_rfl) (by kernel_rfl) ((hd_ 6 (by kernel_rfl)).trans (by kernel_rfl))) alike_nil)) (gv_copy (e := 5) (off := 512 * p.at_) (dLen := 512) (dCap := (512 * s.last.length - 512 * p.at_)) (sLen := 512) (sCap := 512) (A := (some ⟨c2_.1, 0, none⟩)) (B := ((applyP s.last ((crashOuts s ps).take k)).flatten)) (l := (tornS (candS s p.at_) (pickAt ps k))) S55 2 rfl rfl (by kernel_rfl) (by kernel_rfl) (by kernel_rfl) (by kernel_rfl) htl.symm (RdB.row (S55.blk 0 rfl) 0 512 _ (by rw [List.drop_zero, List.take_of_length_le (by omega)])) (by rw [hDk]; omega) (L' := (row c2_.1 (bvs (tornS (candS s p.at_) (pickAt ps k))) 5 :: row g #[.slice (some ⟨gd, 0, none⟩) (512 * s.last.length) (512 * s.last.length), .map (some gm), .bool fused, .int .i64 left, .int .i64 s.life, .int .i64 s.rd, .int .i64 s.wr, .int .i64 s.fl, .int .i64 s.rf, .int .i64 (s.pend.length : Int)] 87 :: row gd (bvs ((applyP s.last ((crashOuts s ps).take (k + 1))).flatten)) 5 :: pt gm (mapO (es.map PEnt.ent) clock) :: stars (es.map PEnt.ast) :: row g19 #[.int .i64 ((pickAt ps k).1), .int .i64 ((pickAt ps k).2.1), .int .i64 ((pickAt ps k).2.2)] 66 :: vec 3 1 (.slice A1 (crashKeys s).length c1) (crashKeys s).length (((crashKeys s).map fun a => ((a : Nat) : Int)).map (Value.int .i64)) :: L)) (by rw [List.take_of_length_le (l := tornS (candS s p.at_) (pickAt ps k)) (Nat.le_of_eq htl), flat_set (hA k).2 _ _ (by rw [(hA k).1]; exact hk) htl, out_take hK, applyP_snoc]; rfl) (fun w56 m58 S57 => ?_)))
            refine ⟨(c2_.1, m58), rfl, ?_, S57⟩
            intro i_ hi_ hne_ hdp_
            rcases i_ with _ | _ | _ | _ | _ | _ | _ | _ | i_
            · rfl
            · rfl
            · rfl
            · rfl
            · rfl
            · rfl
            · rfl
            · exact absurd rfl hne_
            · exact absurd hi_ (by omega)
          · exact absurd hk_ (by simp)
        · intro c2_ w1 hPh_
          have S59 : St F w0 w1 (row c2_.1 (bvs (tornS (candS s p.at_) (pickAt ps k))) 5 :: row g #[.slice (some ⟨gd, 0, none⟩) (512 * s.last.length) (512 * s.last.length), .map (some gm), .bool fused, .int .i64 left, .int .i64 s.life, .int .i64 s.rd, .int .i64 s.wr, .int .i64 s.fl, .int .i64 s.rf, .int .i64 (s.pend.length : Int)] 87 :: row gd (bvs ((applyP s.last ((crashOuts s ps).take (k + 1))).flatten)) 5 :: pt gm (mapO (es.map PEnt.ent) clock) :: stars (es.map PEnt.ast) :: row g19 #[.int .i64 ((pickAt ps k).1), .int .i64 ((pickAt ps k).2.1), .int .i64 ((pickAt ps k).2.2)] 66 :: vec 3 1 (.slice A1 (crashKeys s).length c1) (crashKeys s).length (((crashKeys s).map fun a => ((a : Nat) : Int)).map (Value.int .i64)) :: L) := hPh_
          refine wl_frame (fr [pq g, .slice A n c, ud, ud, .slice A1 ((crashKeys s).length) c1, J 5, iv ((k : Nat) : Int), iv ((p.at_ : Nat) : Int), pq g19, pq g, pq g, po g 1, .map (some gm), pq gi2, .tuple #[fv], fv, J 16, J 17, J 18, J 19, J 20, J 21, .slice A1 ((crashKeys s).length) c1, .tuple #[], .slice A1 ((crashKeys s).length) c1, iv ((crashKeys s).length : Nat), iv ((k : Nat) : Int), tv, iv ((k : Nat) : Int), .pointer (some (ad1.add k)), iv ((p.at_ : Nat) : Int), .slice A n c, iv (n : Nat), fv, J 34, J 35, J 36, J 37, J 38, J 39, J 40, pq g, iv ((p.at_ : Nat) : Int), sl gd (512 * p.at_) 512 (512 * s.last.length - 512 * p.at_), pq g, iv ((p.at_ : Nat) : Int), .agg #[iv ((pickAt ps k).1), iv ((pickAt ps k).2.1), iv ((pickAt ps k).2.2)], sl c2_.1 0 512 512, goInt c2_.2, J 49] 12) (by kernel_rfl) ?_
          refine wl_end (fr [pq g, .slice A n c, ud, ud, .slice A1 ((crashKeys s).length) c1, J 5, iv ((k : Nat) : Int), iv ((p.at_ : Nat) : Int), pq g19, pq g, pq g, po g 1, .map (some gm), pq gi2, .tuple #[fv], fv, J 16, J 17, J 18, J 19, J 20, J 21, .slice A1 ((crashKeys s).length) c1, .tuple #[], .slice A1 ((crashKeys s).length) c1, iv ((crashKeys s).length : Nat), iv ((k : Nat) : Int), tv, iv ((k : Nat) : Int), .pointer (some (ad1.add k)), iv ((p.at_ : Nat) : Int), .slice A n c, iv (n : Nat), fv, J 34, J 35, J 36, J 37, J 38, J 39, J 40, pq g, iv ((p.at_ : Nat) : Int), sl gd (512 * p.at_) 512 (512 * s.last.length - 512 * p.at_), pq g, iv ((p.at_ : Nat) : Int), .agg #[iv ((pickAt ps k).1), iv ((pickAt ps k).2.1), iv ((pickAt ps k).2.2)], sl c2_.1 0 512 512, goInt c2_.2, J 49] 12) (by kernel_rfl) ?_
          refine inb_n ?_
          refine then_n ?_
          refine wp_region_lit ?_
          refine wl_gv rfl (gv_int (k := .i64) (z := IntKind.i64.wrap (((k : Nat) : Int) + 1)) (z' := ((k : Nat) : Int) + 1) (by kernel_rfl) (wr_ok (by omega) (by omega)) ?_)
          refine pv (iv (((k : Nat) : Int) + 1)) ?_
          have S60 : St F w0 w1 (vec 3 1 (.slice A1 (crashKeys s).length c1) (crashKeys s).length (((crashKeys s).map fun a => ((a : Nat) : Int)).map (Value.int .i64)) :: row g #[.slice (some ⟨gd, 0, none⟩) (512 * s.last.length) (512 * s.last.length), .map (some gm), .bool fused, .int .i64 left, .int .i64 s.life, .int .i64 s.rd, .int .i64 s.wr, .int .i64 s.fl, .int .i64 s.rf, .int .i64 (s.pend.length : Int)] 87 :: row gd (bvs ((applyP s.last ((crashOuts s ps).take (k + 1))).flatten)) 5 :: pt gm (mapO (es.map PEnt.ent) clock) :: stars (es.map PEnt.ast) :: L) := St.permT [row c2_.1 (bvs (tornS (candS s p.at_) (pickAt ps k))) 5, row g #[.slice (some ⟨gd, 0, none⟩) (512 * s.last.length) (512 * s.last.length), .map (some gm), .bool fused, .int .i64 left, .int .i64 s.life, .int .i64 s.rd, .int .i64 s.wr, .int .i64 s.fl, .int .i64 s.rf, .int .i64 (s.pend.length : Int)] 87, row gd (bvs ((applyP s.last ((crashOuts s ps).take (k + 1))).flatten)) 5, pt gm (mapO (es.map PEnt.ent) clock), stars (es.map PEnt.ast), row g19 #[.int .i64 ((pickAt ps k).1), .int .i64 ((pickAt ps k).2.1), .int .i64 ((pickAt ps k).2.2)] 66, vec 3 1 (.slice A1 (crashKeys s).length c1) (crashKeys s).length (((crashKeys s).map fun a => ((a : Nat) : Int)).map (Value.int .i64))] [6, 1, 2, 3, 4] (by decide) rfl S59
          refine wl_end (fr [pq g, .slice A n c, ud, ud, .slice A1 ((crashKeys s).length) c1, J 5, iv ((k : Nat) : Int), iv ((p.at_ : Nat) : Int), pq g19, pq g, pq g, po g 1, .map (some gm), pq gi2, .tuple #[fv], fv, J 16, J 17, J 18, J 19, J 20, J 21, .slice A1 ((crashKeys s).length) c1, .tuple #[], .slice A1 ((crashKeys s).length) c1, iv ((crashKeys s).length : Nat), iv (((k : Nat) : Int) + 1), tv, iv ((k : Nat) : Int), .pointer (some (ad1.add k)), iv ((p.at_ : Nat) : Int), .slice A n c, iv (n : Nat), fv, J 34, J 35, J 36, J 37, J 38, J 39, J 40, pq g, iv ((p.at_ : Nat) : Int), sl gd (512 * p.at_) 512 (512 * s.last.length - 512 * p.at_), pq g, iv ((p.at_ : Nat) : Int), .agg #[iv ((pickAt ps k).1), iv ((pickAt ps k).2.1), iv ((pickAt ps k).2.2)], sl c2_.1 0 512 512, goInt c2_.2, iv (((k : Nat) : Int) + 1)] 12) (by kernel_rfl) ?_
          refine then_n ?_
          exact ⟨k + 1, ⟨(jl [ud, ud, ud, ud, ud, J 5, iv ((k : Nat) : Int), iv ((p.at_ : Nat) : Int), pq g19, ud, ud, ud, ud, ud, ud, ud, J 16, J 17, J 18, J 19, J 20, J 21, ud, ud, ud, ud, ud, tv, iv ((k : Nat) : Int), .pointer (some (ad1.add k)), iv ((p.at_ : Nat) : Int), .slice A n c, iv (n : Nat), fv, J 34, J 35, J 36, J 37, J 38, J 39, J 40, pq g, iv ((p.at_ : Nat) : Int), sl gd (512 * p.at_) 512 (512 * s.last.length - 512 * p.at_), pq g, iv ((p.at_ : Nat) : Int), .agg #[iv ((pickAt ps k).1), iv ((pickAt ps k).2.1), iv ((pickAt ps k).2.2)], sl c2_.1 0 512 512, goInt c2_.2, iv (((k : Nat) : Int) + 1)]), by kernel_rfl, S60, (by omega)⟩, (by show (crashKeys s).length - (k + 1) < (crashKeys s).length - k; omega)⟩
    · skip
      refine wl_end (fr [pq g, .slice A n c, ud, ud, .slice A1 ((crashKeys s).length) c1, J 5, J 6, J 7, J 8, pq g, pq g, po g 1, .map (some gm), pq gi2, .tuple #[fv], fv, J 16, J 17, J 18, J 19, J 20, J 21, .slice A1 ((crashKeys s).length) c1, .tuple #[], .slice A1 ((crashKeys s).length) c1, iv ((crashKeys s).length : Nat), iv ((k : Nat) : Int), fv, J 28, J 29, J 30, J 31, J 32, J 33, J 34, J 35, J 36, J 37, J 38, J 39, J 40, J 41, J 42, J 43, J 44, J 45, J 46, J 47, J 48, J 49] 12) (by kernel_rfl) ?_
      refine then_n ?_
      refine wp_seq ?_
      refine wp_cond_false (by kernel_rfl) ?_
      refine wp_exit ?_
      refine then_x ?_
      refine then_x ?_
      refine inb_x ?_
      refine then_n ?_
      refine wp_seq ?_
      refine wp_region_lit ?_
      refine pv (pq g) ?_
      refine wl_gv rfl (gv_call (args := #[.pointer (some ⟨g, 0, none⟩)]) rfl Try.func73 (by kernel_rfl) rfl rfl (by kernel_rfl) ?_)
      have hkL : k = (crashKeys s).length := by omega
      have hfin : (crashOuts s ps).take k = crashOuts s ps := List.take_of_length_le (by rw [hkL]; unfold crashOuts; rw [List.length_mapIdx]; exact Nat.le_refl _)
      rw [hfin] at S16
      have S61 : St F w0 w15 (row g #[.slice (some ⟨gd, 0, none⟩) (512 * s.last.length) (512 * s.last.length), .map (some gm), .bool fused, .int .i64 left, .int .i64 s.life, .int .i64 s.rd, .int .i64 s.wr, .int .i64 s.fl, .int .i64 s.rf, .int .i64 (s.pend.length : Int)] 87 :: row gd (bvs (applyP s.last (crashOuts s ps)).flatten) 5 :: pt gm (mapO (es.map PEnt.ent) clock) :: L) := St.permT [vec 3 1 (.slice A1 (crashKeys s).length c1) (crashKeys s).length (((crashKeys s).map fun a => ((a : Nat) : Int)).map (Value.int .i64)), row g #[.slice (some ⟨gd, 0, none⟩) (512 * s.last.length) (512 * s.last.length), .map (some gm), .bool fused, .int .i64 left, .int .i64 s.life, .int .i64 s.rd, .int .i64 s.wr, .int .i64 s.fl, .int .i64 s.rf, .int .i64 (s.pend.length : Int)] 87, row gd (bvs (applyP s.last (crashOuts s ps)).flatten) 5, pt gm (mapO (es.map PEnt.ent) clock), stars (es.map PEnt.ast)] [1, 2, 3] (by decide) rfl S16
      refine Calls.mono (settle_own S61) ?_
      rintro _ w62 ⟨rfl, S63⟩
      refine ⟨_, rfl, ?_⟩
      refine wl_end (fr [pq g, .slice A n c, ud, ud, .slice A1 ((crashKeys s).length) c1, J 5, J 6, J 7, J 8, pq g, pq g, po g 1, .map (some gm), pq gi2, .tuple #[fv], fv, J 16, J 17, J 18, J 19, J 20, J 21, .slice A1 ((crashKeys s).length) c1, .tuple #[], .slice A1 ((crashKeys s).length) c1, iv ((crashKeys s).length : Nat), iv ((k : Nat) : Int), fv, J 28, J 29, J 30, J 31, J 32, J 33, J 34, J 35, J 36, J 37, J 38, J 39, J 40, J 41, J 42, J 43, J 44, J 45, J 46, J 47, J 48, J 49, pq g, .tuple #[]] 10) (by kernel_rfl) ?_
      refine then_n ?_
      refine wp_seq ?_
      refine wp_region_lit ?_
      refine pv (pq g) ?_
      refine pv (pq g) ?_
      refine pv (po g 2) ?_
      refine wl_gv rfl (gv_st (k := 2) (v := .bool false) S63 0 rfl rfl (by kernel_rfl) (by kernel_rfl) (by kernel_rfl) rfl rfl (L' := (row g #[.slice (some ⟨gd, 0, none⟩) (512 * s.last.length) (512 * s.last.length), .map (some gm), .bool false, .int .i64 left, .int .i64 s.life, .int .i64 s.rd, .int .i64 s.wr, .int .i64 s.fl, .int .i64 s.rf, .int .i64 0] 87 :: row gd (bvs (applyP s.last (crashOuts s ps)).flatten) 5 :: pt gm (mapO [] clock) :: L)) rfl (fun w64 S65 => ?_))
      refine wl_end (fr [pq g, .slice A n c, ud, ud, .slice A1 ((crashKeys s).length) c1, J 5, J 6, J 7, J 8, pq g, pq g, po g 1, .map (some gm), pq gi2, .tuple #[fv], fv, J 16, J 17, J 18, J 19, J 20, J 21, .slice A1 ((crashKeys s).length) c1, .tuple #[], .slice A1 ((crashKeys s).length) c1, iv ((crashKeys s).length : Nat), iv ((k : Nat) : Int), fv, J 28, J 29, J 30, J 31, J 32, J 33, J 34, J 35, J 36, J 37, J 38, J 39, J 40, J 41, J 42, J 43, J 44, J 45, J 46, J 47, J 48, J 49, pq g, .tuple #[], pq g, pq g, po g 2] 7) (by kernel_rfl) ?_
      refine then_n ?_
      refine wp_region_lit ?_
      refine pv (pq g) ?_
      refine pv (pq g) ?_
      refine pv (po g 4) ?_
      refine wl_gv rfl (gv_ldR (v := .int .i64 s.life) rfl (by kernel_rfl) (by kernel_rfl) (((S65.blk 0 rfl).cell 4).trans rfl) ?_)
      refine pv (iv (inc s.life)) ?_
      refine pv (pq g) ?_
      refine pv (po g 4) ?_
      refine wl_gv rfl (gv_st (k := 4) (v := .int .i64 (inc s.life)) S65 0 rfl rfl (by kernel_rfl) (by kernel_rfl) (by kernel_rfl) rfl rfl (L' := (row g #[.slice (some ⟨gd, 0, none⟩) (512 * s.last.length) (512 * s.last.length), .map (some gm), .bool false, .int .i64 left, .int .i64 (inc s.life), .int .i64 s.rd, .int .i64 s.wr, .int .i64 s.fl, .int .i64 s.rf, .int .i64 0] 87 :: row gd (bvs (applyP s.last (crashOuts s ps)).flatten) 5 :: pt gm (mapO [] clock) :: L)) rfl (fun w66 S67 => ?_))
      refine wl_end (fr [pq g, .slice A n c, ud, ud, .slice A1 ((crashKeys s).length) c1, J 5, J 6, J 7, J 8, pq g, pq g, po g 1, .map (some gm), pq gi2, .tuple #[fv], fv, J 16, J 17, J 18, J 19, J 20, J 21, .slice A1 ((crashKeys s).length) c1, .tuple #[], .slice A1 ((crashKeys s).length) c1, iv ((crashKeys s).length : Nat), iv ((k : Nat) : Int), fv, J 28, J 29, J 30, J 31, J 32, J 33, J 34, J 35, J 36, J 37, J 38, J 39, J 40, J 41, J 42, J 43, J 44, J 45, J 46, J 47, J 48, J 49, pq g, .tuple #[], pq g, pq g, po g 2, pq g, pq g, po g 4, iv s.life, iv (inc s.life), pq g, po g 4] 0) (by kernel_rfl) ?_
      refine bodyPost_end (v := .tuple #[]) (results_none rfl _ _ _) rfl ?_
      have hlf : (applyP s.last (crashOuts s ps)).length = s.last.length := length_applyP _ _
      rw [← hlf] at S67
      have S9 := St.rot (LA := [_, _, _]) (St.star_nil S67)
      exact ⟨rfl, St.pclose (gd := gd) (gm := gm) (clock := clock) (es := []) (fused := false) (left := left) (s := s.crashR ps) S9 (PFacts.settled (s' := s.crashR ps) hf hlf (applyP_all _ _ hf.len hol) rfl rfl (fun h => absurd (show (0 : Int) ≤ -1 from h) (by decide)) (show (-1 : Int) ≤ -1 ∧ (-1 : Int) ≤ 9223372036854775807 by decide))⟩
  · skip
    obtain ⟨p, hpe, rfl, hpn⟩ := mem_left hel
    refine pv tv ?_
    refine wl_end (fr [pq g, .slice A n c, ud, ud, v, J 5, ud, ud, ud, pq g, pq g, po g 1, .map (some gm), pq gi2, .tuple #[tv, iv ((p.at_ : Nat) : Int), p.v], tv, J 16, J 17, J 18, J 19, J 20, J 21] 40) (by kernel_rfl) ?_
    refine then_n ?_
    refine wp_seq ?_
    refine wp_cond_true (by kernel_rfl) ?_
    refine wp_skip ?_
    refine then_n ?_
    refine wp_block ?_
    refine wp_seq ?_
    refine wp_region_lit ?_
    refine wl_gv rfl (gv_entry (g := gm) (clock := clock) (es := es.map PEnt.ent) (gi := gi2) (seen := es1.map (·.b)) (e := p.ent) S11 1 4 rfl rfl rfl (by kernel_rfl) (List.mem_map.2 ⟨p, hpe, rfl⟩) (fun y hy hb => by obtain ⟨q, hq, rfl⟩ := List.mem_map.1 hy; rw [hf.injB hq hpe hb]) ?_)
    refine pv (iv ((p.at_ : Nat) : Int)) ?_
    refine pv (iv ((p.at_ : Nat) : Int)) ?_
    refine wl_end (fr [pq g, .slice A n c, ud, ud, v, iv ((p.at_ : Nat) : Int), ud, ud, ud, pq g, pq g, po g 1, .map (some gm), pq gi2, .tuple #[tv, iv ((p.at_ : Nat) : Int), p.v], tv, .tuple #[iv ((p.at_ : Nat) : Int), p.v], iv ((p.at_ : Nat) : Int), J 18, J 19, J 20, J 21] 40) (by kernel_rfl) ?_
    refine then_n ?_
    refine wp_region_lit ?_
    refine pv v ?_
    refine pv (iv ((p.at_ : Nat) : Int)) ?_
    refine wl_gv rfl (gv_slit (e := 3) (sz := 1) (z := .int .i64 0) (by_ := 8) (vs := #[(0, .int .i64 ((p.at_ : Nat) : Int))]) (cells := #[.int .i64 ((p.at_ : Nat) : Int)]) S11 rfl (by kernel_rfl) ⟨by kernel_rfl⟩ (by kernel_rfl) (by kernel_rfl) (by kernel_rfl) (by kernel_rfl) (fun g68 w69 hg70 S71 => ?_))
    refine wl_gv rfl (gv_append (e := 3) (sz := 1) (n := es1.length) (v := v) (vals := ((es1.map fun p => ((p.at_ : Nat) : Int)).map (Value.int .i64))) (z := .int .i64 0) (by_ := 8) (m := 1) (c' := 1) (ad := ⟨g68, 0, none⟩) (news := [.int .i64 ((p.at_ : Nat) : Int)]) (St.swap S71) rfl (by kernel_rfl) ⟨by kernel_rfl⟩ rfl (by kernel_rfl) (by kernel_rfl) (by decide) rfl (row_news (S71.blk 0 rfl)) (by intro u hu; simp at hu; subst hu; rfl) (by omega) (by omega) (fun v73 w72 S74 => ?_))
    refine pv v73 ?_
    refine wl_end (fr [pq g, .slice A n c, ud, ud, v73, iv ((p.at_ : Nat) : Int), ud, ud, ud, pq g, pq g, po g 1, .map (some gm), pq gi2, .tuple #[tv, iv ((p.at_ : Nat) : Int), p.v], tv, .tuple #[iv ((p.at_ : Nat) : Int), p.v], iv ((p.at_ : Nat) : Int), v, iv ((p.at_ : Nat) : Int), sl g68 0 1 1, v73] 40) (by kernel_rfl) ?_
    refine inb_n ?_
    refine then_n ?_
    have S75 : St F w0 w72 (vec 3 1 v73 (es1.length + 1) ((es1.map fun p => ((p.at_ : Nat) : Int)).map (Value.int .i64) ++ [.int .i64 ((p.at_ : Nat) : Int)]) :: pt gi2 (iterO gm clock (es1.map (·.b) ++ [p.b])) :: row g #[.slice (some ⟨gd, 0, none⟩) (512 * s.last.length) (512 * s.last.length), .map (some gm), .bool fused, .int .i64 left, .int .i64 s.life, .int .i64 s.rd, .int .i64 s.wr, .int .i64 s.fl, .int .i64 s.rf, .int .i64 (s.pend.length : Int)] 87 :: row gd (bvs s.last.flatten) 5 :: pt gm (mapO (es.map PEnt.ent) clock) :: stars (es.map PEnt.ast) :: L) := St.permT [vec 3 1 v73 (es1.length + 1) ((es1.map fun p => ((p.at_ : Nat) : Int)).map (Value.int .i64) ++ [.int .i64 ((p.at_ : Nat) : Int)]), row g68 #[.int .i64 ((p.at_ : Nat) : Int)] 3, pt gi2 (iterO gm clock (es1.map (·.b) ++ [p.b])), row g #[.slice (some ⟨gd, 0, none⟩) (512 * s.last.length) (512 * s.last.length), .map (some gm), .bool fused, .int .i64 left, .int .i64 s.life, .int .i64 s.rd, .int .i64 s.wr, .int .i64 s.fl, .int .i64 s.rf, .int .i64 (s.pend.length : Int)] 87, row gd (bvs s.last.flatten) 5, pt gm (mapO (es.map PEnt.ent) clock), stars (es.map PEnt.ast)] [0, 2, 3, 4, 5, 6] (by decide) rfl S74
    rw [show es1.map (·.b) ++ [p.b] = (es1 ++ [p]).map (·.b) from by rw [List.map_append]; rfl, show (es1.map fun p => ((p.at_ : Nat) : Int)).map (Value.int .i64) ++ [.int .i64 ((p.at_ : Nat) : Int)] = ((es1 ++ [p]).map fun p => ((p.at_ : Nat) : Int)).map (Value.int .i64) from by rw [List.map_append, List.map_append]; rfl, show es1.length + 1 = (es1 ++ [p]).length from by rw [List.length_append]; rfl] at S75
    exact ⟨(es1 ++ [p], v73), ⟨(jl [ud, ud, ud, ud, ud, iv ((p.at_ : Nat) : Int), ud, ud, ud, ud, ud, ud, ud, ud, .tuple #[tv, iv ((p.at_ : Nat) : Int), p.v], tv, .tuple #[iv ((p.at_ : Nat) : Int), p.v], iv ((p.at_ : Nat) : Int), v, iv ((p.at_ : Nat) : Int), sl g68 0 1 1, v73]), by kernel_rfl, S75, ⟨fun q hq => (List.mem_append.1 hq).elim (hI9.1 q) (fun h => (List.mem_singleton.1 h) ▸ hpe), (by rw [List.map_append]; exact List.nodup_append.2 ⟨hI9.2, List.nodup_cons.2 ⟨List.not_mem_nil, List.nodup_nil⟩, fun a ha b hb => by rw [List.map_singleton, List.mem_singleton] at hb; subst hb; exact fun e => hpn (e ▸ ha)⟩)⟩⟩, (by show (leftE _ ((es1 ++ [p]).map (·.b))).length < _; rw [List.map_append]; exact left_less hel)⟩
end Go.Proofs
