/- floor, Candidates, Torn of the document's disk. -/
import Derived.Test.YtefmefimhiedfaaHRef1
open Go Go.RowKit Go.Proofs.YtefmefimhiedfaaW.PrintWords Go.Proofs.YtefmefimhiedfaaW.PrintMore
namespace Go.Proofs
open Go.Vel
set_option linter.unusedVariables false
set_option maxRecDepth 100000
set_option maxHeartbeats 4000000
attribute [local irreducible] gives wpList Code.wp

theorem tmod_nat' {a b : Int} {m n : Nat} (ha : a = (m : Int)) (hb : b = (n : Int)) : Int.tmod a b = ((m % n : Nat) : Int) := by subst ha hb; rfl
theorem byte_at {w : World} {b i : Nat} {l : List UInt8} {t : TypeId} (h : Blk w b (bvs l) t) (hi : i < l.length) : w.cell? ⟨b, i, none⟩ = some (.int .u8 ((l.getD i 0).toNat : Int)) := by
  rw [h.cell, get_bvs, List.getElem?_eq_getElem hi, List.getD_eq_getElem?_getD, List.getElem?_eq_getElem hi]; rfl
theorem torn_set {a b : List UInt8} {i : Nat} (ha : a.length = 512) (hb : b.length = 512) (hi : i < 512) : (bvs (a.take i ++ b.drop i)).setIfInBounds i (.int .u8 ((a.getD i 0).toNat : Int)) = bvs (a.take (i + 1) ++ b.drop (i + 1)) := by
  apply Array.ext_getElem?
  intro m
  have hla : (a.take i).length = i := by rw [List.length_take]; omega
  have hla1 : (a.take (i + 1)).length = i + 1 := by rw [List.length_take]; omega
  rw [Array.getElem?_setIfInBounds, get_bvs, get_bvs]
  by_cases hm : i = m
  · subst hm
    rw [if_pos rfl, if_pos (by rw [size_bvs, List.length_append, hla, List.length_drop]; omega), List.getElem?_append_left (by omega), List.getElem?_take, if_pos (by omega), List.getD_eq_getElem?_getD, List.getElem?_eq_getElem (by omega)]; rfl
  · rw [if_neg hm]
    by_cases h1 : m < i
    · rw [List.getElem?_append_left (by omega), List.getElem?_append_left (by omega), List.getElem?_take, List.getElem?_take, if_pos h1, if_pos (by omega)]
    · rw [List.getElem?_append_right (by omega), List.getElem?_append_right (by omega), hla, hla1, List.getElem?_drop, List.getElem?_drop, show i + (m - i) = i + 1 + (m - (i + 1)) from by omega]
theorem pend_step {l : List (Nat × List UInt8)} {i k : Nat} {x : Nat × List UInt8} (h : l[i]? = some x) : ((l.take (i + 1)).filter (fun x => x.1 == k)).map (·.2) = ((l.take i).filter (fun x => x.1 == k)).map (·.2) ++ (if x.1 = k then [x.2] else []) := by
  rw [List.take_add_one (l := l) (i := i), h, List.filter_append, List.map_append]
  by_cases e : x.1 = k
  · simp [e]
  · simp [e]
theorem rfloor {w : World} {n : Int} : Calls Try.prog 89 #[.int .i64 n] w fun e w' => e = .returned (.int .i64 ((n.toNat : Nat) : Int)) ∧ w = w' := by
  refine wp_enter (fr [iv n] 5) Try.func89 rfl (by kernel_rfl) ?_
  refine wp_seq ?_
  refine wp_region_lit ?_
  refine pv (iv 0) ?_
  refine wl_end (fr [iv n, ud, iv 0] 3) (by kernel_rfl) ?_
  refine then_n ?_
  refine wp_seq ?_
  refine wp_seq ?_
  refine wp_region_lit ?_
  refine pv (iv n) ?_
  refine wl_gv rfl (gv_dec (p := (n : Int) < 0) (by kernel_rfl) (fun hb1 => ?_) (fun hb1 => ?_))
  · skip
    refine wl_end (fr [iv n, ud, iv 0, iv n, tv] 1) (by kernel_rfl) ?_
    refine then_n ?_
    refine wp_cond_true (by kernel_rfl) ?_
    refine wp_seq ?_
    refine wp_region_lit ?_
    refine pv (iv 0) ?_
    refine wl_end (fr [iv n, ud, iv 0, iv n, tv] 1) (by kernel_rfl) ?_
    refine then_n ?_
    refine wp_ret ?_
    refine then_r ?_
    refine bodyPost_ret (v := .int .i64 0) (results_t1 rfl (by kernel_rfl)) rfl ?_
    rw [show ((n.toNat : Nat) : Int) = 0 from by omega]
    exact ⟨rfl, rfl⟩
  · skip
    refine wl_end (fr [iv n, ud, iv 0, iv n, fv] 1) (by kernel_rfl) ?_
    refine then_n ?_
    refine wp_cond_false (by kernel_rfl) ?_
    refine wp_skip ?_
    refine then_n ?_
    refine wp_seq ?_
    refine wp_region_lit ?_
    refine pv (iv n) ?_
    refine pv (iv n) ?_
    refine wl_end (fr [iv n, ud, iv n, iv n, fv, iv n] 0) (by kernel_rfl) ?_
    refine then_n ?_
    refine wp_ret ?_
    refine bodyPost_ret (v := .int .i64 n) (results_t1 rfl (by kernel_rfl)) rfl ?_
    rw [show ((n.toNat : Nat) : Int) = n from by omega]
    exact ⟨rfl, rfl⟩
theorem rcand {F : Nat → Prop} {w0 w : World} {L : List Ast} {g gl cl c2 : Nat} {A2 : Option Addr} {junk : List Value} {LL : List (Nat × List UInt8)} {PP : List RPut} {pool : List (Nat × List UInt8)} {s : Dsk} (S : St F w0 w (rdParts g gl cl c2 A2 junk LL PP pool s ++ L)) (hf : RFacts s LL PP pool) {k : Nat} (hk : k < s.last.length) (hpn : s.pend.length < 4398046511104) :
    Calls Try.prog 79 #[.pointer (some ⟨g, 0, none⟩), .int .i64 ((k : Nat) : Int)] w fun e w' => ∃ (v : Value) (CC : List (Nat × List UInt8)), e = .returned v ∧ CC.map (·.2) = candS s k ∧ (∀ x ∈ CC, x ∈ pool) ∧ St F w0 w' (vec 31 1 v CC.length (CC.map PEnt.val) :: (rdParts g gl cl c2 A2 junk LL PP pool s ++ L)) := by
  have hn2 := hf.n2
  have hll := hf.ll
  have hpp := hf.pp
  obtain ⟨y, hy, hyp, hyl, hy5⟩ := hf.at hk
  change St F w0 w (row g #[.slice (some ⟨gl, 0, none⟩) LL.length cl, .slice A2 PP.length c2, .int .i64 s.left, .int .i64 s.life, .int .i64 s.rd, .int .i64 s.wr, .int .i64 s.fl, .int .i64 s.rf, .int .i64 0] 96 :: row gl ((LL.map PEnt.val ++ junk).toArray) 31 :: vec 99 2 (.slice A2 PP.length c2) PP.length (putsV PP) :: stars (pool.map PEnt.row) :: L) at S
  refine wp_enter (fr [pq g, iv ((k : Nat) : Int)] 44) Try.func79 rfl (by kernel_rfl) ?_
  refine wp_seq ?_
  refine wp_region_lit ?_
  refine pv (.slice none 0 0) ?_
  refine wl_end (fr [pq g, iv ((k : Nat) : Int), ud, ud, .slice none 0 0] 41) (by kernel_rfl) ?_
  refine then_n ?_
  refine wp_seq ?_
  refine wp_region_lit ?_
  refine pv (pq g) ?_
  refine pv (pq g) ?_
  refine pv (pq g) ?_
  refine wl_gv rfl (gv_ldR (v := .slice (some ⟨gl, 0, none⟩) LL.length cl) rfl (by kernel_rfl) (by kernel_rfl) (((S.blk 0 rfl).cell 0).trans rfl) ?_)
  refine pv (iv ((k : Nat) : Int)) ?_
  refine wl_gv rfl (gv_ixE (e := 31) (sz := 1) (g := gl) (off := 0) (n := LL.length) (c := cl) (i := ((k : Nat) : Int)) (k := .i64) (j := k) (off' := k) rfl (by kernel_rfl) (by kernel_rfl) (by kernel_rfl) (by kernel_rfl) rfl (by omega) (by omega) ?_)
  refine wl_gv rfl (gv_ldR (v := PEnt.val y) rfl (by kernel_rfl) (by kernel_rfl) (((S.blk 1 rfl).cell k).trans (ll_at hy)) ?_)
  refine wl_gv rfl (gv_slit (e := 31) (sz := 1) (z := .slice none 0 0) (by_ := 24) (vs := #[(0, .slice (some ⟨y.1, 0, none⟩) 512 512)]) (cells := #[.slice (some ⟨y.1, 0, none⟩) 512 512]) S rfl (by kernel_rfl) ⟨by kernel_rfl⟩ (by kernel_rfl) (by kernel_rfl) (by kernel_rfl) (by kernel_rfl) (fun g1 w2 hg3 S4 => ?_))
  have S5 : St F w0 w2 (vec 31 1 (.slice (some ⟨g1, 0, none⟩) 1 1) [y].length ([y].map PEnt.val) :: row g #[.slice (some ⟨gl, 0, none⟩) LL.length cl, .slice A2 PP.length c2, .int .i64 s.left, .int .i64 s.life, .int .i64 s.rd, .int .i64 s.wr, .int .i64 s.fl, .int .i64 s.rf, .int .i64 0] 96 :: row gl ((LL.map PEnt.val ++ junk).toArray) 31 :: vec 99 2 (.slice A2 PP.length c2) PP.length (putsV PP) :: stars (pool.map PEnt.row) :: L) := St.vec_mk (vals := [PEnt.val y]) (junk := []) S4 (Nat.le_refl _) rfl rfl
  refine pv (sl g1 0 1 1) ?_
  refine wl_end (fr [pq g, iv ((k : Nat) : Int), ud, ud, .slice none 0 0, sl g1 0 1 1, ud, pq g, pq g, pq g, sl gl 0 LL.length cl, iv ((k : Nat) : Int), po gl k, sl y.1 0 512 512, sl g1 0 1 1] 31) (by kernel_rfl) ?_
  refine then_n ?_
  refine wp_seq ?_
  refine wp_seq ?_
  refine wp_region_lit ?_
  refine pv (iv 0) ?_
  refine wl_end (fr [pq g, iv ((k : Nat) : Int), ud, ud, .slice none 0 0, sl g1 0 1 1, iv 0, pq g, pq g, pq g, sl gl 0 LL.length cl, iv ((k : Nat) : Int), po gl k, sl y.1 0 512 512, sl g1 0 1 1] 31) (by kernel_rfl) ?_
  refine then_n ?_
  refine wp_block ?_
  refine wp_loop_g (G := Nat × Value × List (Nat × List UInt8)) (fun (g_ : Nat × Value × List (Nat × List UInt8)) (a_ : Act) (w_ : World) => ∃ J : Nat → Value, a_ = (fr [pq g, iv ((k : Nat) : Int), ud, ud, .slice none 0 0, g_.2.1, iv ((g_.1 : Nat) : Int), pq g, pq g, pq g, sl gl 0 LL.length cl, iv ((k : Nat) : Int), po gl k, sl y.1 0 512 512, sl g1 0 1 1, J 15, J 16, J 17, J 18, J 19, J 20, J 21, J 22, J 23, J 24, J 25, J 26, J 27, J 28, J 29, J 30, J 31, J 32, J 33, J 34, J 35, J 36, J 37, J 38, J 39, J 40, J 41, J 42, J 43, J 44] 1) ∧ St F w0 w_ (vec 31 1 g_.2.1 g_.2.2.length (g_.2.2.map PEnt.val) :: row g #[.slice (some ⟨gl, 0, none⟩) LL.length cl, .slice A2 PP.length c2, .int .i64 s.left, .int .i64 s.life, .int .i64 s.rd, .int .i64 s.wr, .int .i64 s.fl, .int .i64 s.rf, .int .i64 0] 96 :: row gl ((LL.map PEnt.val ++ junk).toArray) 31 :: vec 99 2 (.slice A2 PP.length c2) PP.length (putsV PP) :: stars (pool.map PEnt.row) :: L) ∧ (g_.1 ≤ PP.length ∧ g_.2.2.length ≤ g_.1 + 1 ∧ g_.2.2.map (·.2) = s.last.getD k [] :: ((s.pend.take g_.1).filter (fun x => x.1 == k)).map (·.2) ∧ (∀ x ∈ g_.2.2, x ∈ pool))) (fun g_ => PP.length - g_.1) (0, .slice (some ⟨g1, 0, none⟩) 1 1, [y]) ⟨(jl []), by kernel_rfl, S5, ⟨Nat.zero_le _, Nat.le_refl _, by rw [hyl]; rfl, fun z hz => by rw [List.mem_singleton] at hz; subst hz; exact hyp⟩⟩ ?_
  rintro ⟨i, v, CC⟩ a_ w6 ⟨J, rfl, S7, hI8⟩
  skip
  have S7 : St F w0 w6 (vec 31 1 v CC.length (CC.map PEnt.val) :: row g #[.slice (some ⟨gl, 0, none⟩) LL.length cl, .slice A2 PP.length c2, .int .i64 s.left, .int .i64 s.life, .int .i64 s.rd, .int .i64 s.wr, .int .i64 s.fl, .int .i64 s.rf, .int .i64 0] 96 :: row gl ((LL.map PEnt.val ++ junk).toArray) 31 :: vec 99 2 (.slice A2 PP.length c2) PP.length (putsV PP) :: stars (pool.map PEnt.row) :: L) := S7
  have hI8 : (i ≤ PP.length ∧ CC.length ≤ i + 1 ∧ CC.map (·.2) = s.last.getD k [] :: ((s.pend.take i).filter (fun x => x.1 == k)).map (·.2) ∧ (∀ x ∈ CC, x ∈ pool)) := hI8
  refine wp_seq ?_
  refine wp_seq ?_
  refine wp_region_lit ?_
  refine pv (iv ((i : Nat) : Int)) ?_
  refine pv (pq g) ?_
  refine pv (pq g) ?_
  refine pv (po g 1) ?_
  refine wl_gv rfl (gv_ldR (v := .slice A2 PP.length c2) rfl (by kernel_rfl) (by kernel_rfl) (((S7.blk 1 rfl).cell 1).trans rfl) ?_)
  refine pv (iv (PP.length : Nat)) ?_
  refine wl_gv rfl (gv_dec (p := (((i : Nat) : Int) : Int) < (PP.length : Nat)) (by kernel_rfl) (fun hb9 => ?_) (fun hb9 => ?_))
  · skip
    obtain ⟨x, hx, hxp, hxs, hx5, hxk⟩ := hf.pat (i := i) (by omega)
    obtain ⟨ad2, hAd2, hrd⟩ := (St.vec_rd S7 3 rfl) (by rw [length_putsV]; omega)
    refine wl_end (fr [pq g, iv ((k : Nat) : Int), ud, ud, .slice none 0 0, v, iv ((i : Nat) : Int), pq g, pq g, pq g, sl gl 0 LL.length cl, iv ((k : Nat) : Int), po gl k, sl y.1 0 512 512, sl g1 0 1 1, iv ((i : Nat) : Int), pq g, pq g, po g 1, .slice A2 PP.length c2, iv (PP.length : Nat), tv, J 22, J 23, J 24, J 25, J 26, J 27, J 28, J 29, J 30, J 31, J 32, J 33, J 34, J 35, J 36, J 37, J 38, J 39, J 40, J 41, J 42, J 43, J 44] 1) (by kernel_rfl) ?_
    refine then_n ?_
    refine wp_cond_true (by kernel_rfl) ?_
    refine wp_skip ?_
    refine then_n ?_
    refine wp_seq ?_
    refine wp_block ?_
    refine wp_seq ?_
    refine wp_region_lit ?_
    refine pv (pq g) ?_
    refine pv (pq g) ?_
    refine pv (po g 1) ?_
    refine wl_gv rfl (gv_ldR (v := .slice A2 PP.length c2) rfl (by kernel_rfl) (by kernel_rfl) (((S7.blk 1 rfl).cell 1).trans rfl) ?_)
    refine pv (iv ((i : Nat) : Int)) ?_
    refine wl_gv rfl (gv_ixB (e := 99) (sz := 2) (n := PP.length) (c := c2) (i := ((i : Nat) : Int)) (k := .i64) (ad := ad2) (ad' := (ad2.add (i * 2))) (j := i) rfl (by kernel_rfl) (by kernel_rfl) (by rw [← hAd2]; kernel_rfl) (by kernel_rfl) rfl (by omega) rfl ?_)
    refine pv (.pointer (some (ad2.add (i * 2)))) ?_
    refine wl_gv rfl (gv_ldR (v := .int .i64 ((x.2.1 : Nat) : Int)) rfl (by kernel_rfl) (by kernel_rfl) (put_at hrd hx) ?_)
    refine pv (iv ((k : Nat) : Int)) ?_
    refine wl_gv rfl (gv_eq (x := ((x.2.1 : Nat) : Int)) (y := ((k : Nat) : Int)) (by kernel_rfl) (fun hb8 => ?_) (fun hb8 => ?_))
    · skip
      have hb9 : x.2.1 = k := by omega
      refine wl_end (fr [pq g, iv ((k : Nat) : Int), ud, ud, .slice none 0 0, v, iv ((i : Nat) : Int), pq g, pq g, pq g, sl gl 0 LL.length cl, iv ((k : Nat) : Int), po gl k, sl y.1 0 512 512, sl g1 0 1 1, iv ((i : Nat) : Int), pq g, pq g, po g 1, .slice A2 PP.length c2, iv (PP.length : Nat), tv, J 22, J 23, pq g, pq g, po g 1, .slice A2 PP.length c2, iv ((i : Nat) : Int), .pointer (some (ad2.add (i * 2))), .pointer (some (ad2.add (i * 2))), iv ((x.2.1 : Nat) : Int), iv ((k : Nat) : Int), tv, J 34, J 35, J 36, J 37, J 38, J 39, J 40, J 41, J 42, J 43, J 44] 1) (by kernel_rfl) ?_
      refine then_n ?_
      refine wp_cond_true (by kernel_rfl) ?_
      refine wp_region_lit ?_
      refine pv v ?_
      refine pv (pq g) ?_
      refine pv (pq g) ?_
      refine pv (po g 1) ?_
      refine wl_gv rfl (gv_ldR (v := .slice A2 PP.length c2) rfl (by kernel_rfl) (by kernel_rfl) (((S7.blk 1 rfl).cell 1).trans rfl) ?_)
      refine pv (iv ((i : Nat) : Int)) ?_
      refine wl_gv rfl (gv_ixB (e := 99) (sz := 2) (n := PP.length) (c := c2) (i := ((i : Nat) : Int)) (k := .i64) (ad := ad2) (ad' := (ad2.add (i * 2))) (j := i) rfl (by kernel_rfl) (by kernel_rfl) (by rw [← hAd2]; kernel_rfl) (by kernel_rfl) rfl (by omega) rfl ?_)
      refine pv (.pointer (some ((ad2.add (i * 2)).add 1))) ?_
      refine wl_gv rfl (gv_ldR (v := PEnt.val x.ref) rfl (by kernel_rfl) (by kernel_rfl) (put_data hrd hx) ?_)
      refine wl_gv rfl (gv_slit (e := 31) (sz := 1) (z := .slice none 0 0) (by_ := 24) (vs := #[(0, .slice (some ⟨x.1, 0, none⟩) 512 512)]) (cells := #[.slice (some ⟨x.1, 0, none⟩) 512 512]) S7 rfl (by kernel_rfl) ⟨by kernel_rfl⟩ (by kernel_rfl) (by kernel_rfl) (by kernel_rfl) (by kernel_rfl) (fun g10 w11 hg12 S13 => ?_))
      refine wl_gv rfl (gv_append (e := 31) (sz := 1) (n := CC.length) (v := v) (vals := (CC.map PEnt.val)) (z := .slice none 0 0) (by_ := 24) (m := 1) (c' := 1) (ad := ⟨g10, 0, none⟩) (news := [.slice (some ⟨x.1, 0, none⟩) 512 512]) (St.swap S13) rfl (by kernel_rfl) ⟨by kernel_rfl⟩ rfl (by kernel_rfl) (by kernel_rfl) (by decide) rfl (row_news (S13.blk 0 rfl)) (by intro u hu; simp at hu; subst hu; rfl) (by omega) (by omega) (fun v15 w14 S16 => ?_))
      refine pv v15 ?_
      refine wl_end (fr [pq g, iv ((k : Nat) : Int), ud, ud, .slice none 0 0, v15, iv ((i : Nat) : Int), pq g, pq g, pq g, sl gl 0 LL.length cl, iv ((k : Nat) : Int), po gl k, sl y.1 0 512 512, sl g1 0 1 1, iv ((i : Nat) : Int), pq g, pq g, po g 1, .slice A2 PP.length c2, iv (PP.length : Nat), tv, J 22, J 23, pq g, pq g, po g 1, .slice A2 PP.length c2, iv ((i : Nat) : Int), .pointer (some (ad2.add (i * 2))), .pointer (some (ad2.add (i * 2))), iv ((x.2.1 : Nat) : Int), iv ((k : Nat) : Int), tv, v, pq g, pq g, po g 1, .slice A2 PP.length c2, iv ((i : Nat) : Int), .pointer (some (ad2.add (i * 2))), .pointer (some ((ad2.add (i * 2)).add 1)), sl x.1 0 512 512, sl g10 0 1 1, v15] 1) (by kernel_rfl) ?_
      refine inb_n ?_
      refine then_n ?_
      refine wp_region_lit ?_
      refine pv (iv ((i : Nat) : Int)) ?_
      refine wl_gv rfl (gv_int (k := .i64) (z := IntKind.i64.wrap (((i : Nat) : Int) + 1)) (z' := ((i + 1 : Nat) : Int)) (by kernel_rfl) (wr_eq (by omega) (by omega) (by omega)) ?_)
      refine pv (iv ((i + 1 : Nat) : Int)) ?_
      refine wl_end (fr [pq g, iv ((k : Nat) : Int), ud, ud, .slice none 0 0, v15, iv ((i + 1 : Nat) : Int), pq g, pq g, pq g, sl gl 0 LL.length cl, iv ((k : Nat) : Int), po gl k, sl y.1 0 512 512, sl g1 0 1 1, iv ((i : Nat) : Int), pq g, pq g, po g 1, .slice A2 PP.length c2, iv (PP.length : Nat), tv, iv ((i : Nat) : Int), iv ((i + 1 : Nat) : Int), pq g, pq g, po g 1, .slice A2 PP.length c2, iv ((i : Nat) : Int), .pointer (some (ad2.add (i * 2))), .pointer (some (ad2.add (i * 2))), iv ((x.2.1 : Nat) : Int), iv ((k : Nat) : Int), tv, v, pq g, pq g, po g 1, .slice A2 PP.length c2, iv ((i : Nat) : Int), .pointer (some (ad2.add (i * 2))), .pointer (some ((ad2.add (i * 2)).add 1)), sl x.1 0 512 512, sl g10 0 1 1, v15] 1) (by kernel_rfl) ?_
      refine then_n ?_
      have S17 : St F w0 w14 (vec 31 1 v15 (CC.length + 1) (CC.map PEnt.val ++ [.slice (some ⟨x.1, 0, none⟩) 512 512]) :: row g #[.slice (some ⟨gl, 0, none⟩) LL.length cl, .slice A2 PP.length c2, .int .i64 s.left, .int .i64 s.life, .int .i64 s.rd, .int .i64 s.wr, .int .i64 s.fl, .int .i64 s.rf, .int .i64 0] 96 :: row gl ((LL.map PEnt.val ++ junk).toArray) 31 :: vec 99 2 (.slice A2 PP.length c2) PP.length (putsV PP) :: stars (pool.map PEnt.row) :: L) := St.permT [vec 31 1 v15 (CC.length + 1) (CC.map PEnt.val ++ [.slice (some ⟨x.1, 0, none⟩) 512 512]), row g10 #[.slice (some ⟨x.1, 0, none⟩) 512 512] 31, row g #[.slice (some ⟨gl, 0, none⟩) LL.length cl, .slice A2 PP.length c2, .int .i64 s.left, .int .i64 s.life, .int .i64 s.rd, .int .i64 s.wr, .int .i64 s.fl, .int .i64 s.rf, .int .i64 0] 96, row gl ((LL.map PEnt.val ++ junk).toArray) 31, vec 99 2 (.slice A2 PP.length c2) PP.length (putsV PP), stars (pool.map PEnt.row)] [0, 2, 3, 4, 5] (by decide) rfl S16
      have hv9 : CC.map PEnt.val ++ [.slice (some ⟨x.1, 0, none⟩) 512 512] = (CC ++ [x.ref]).map PEnt.val := by rw [List.map_append]; rfl
      have hn9 : CC.length + 1 = (CC ++ [x.ref]).length := by rw [List.length_append]; rfl
      rw [hv9, hn9] at S17
      exact ⟨(i + 1, v15, CC ++ [x.ref]), ⟨(jl [ud, ud, ud, ud, ud, ud, ud, ud, ud, ud, ud, ud, ud, ud, ud, iv ((i : Nat) : Int), pq g, pq g, po g 1, .slice A2 PP.length c2, iv (PP.length : Nat), tv, iv ((i : Nat) : Int), iv ((i + 1 : Nat) : Int), pq g, pq g, po g 1, .slice A2 PP.length c2, iv ((i : Nat) : Int), .pointer (some (ad2.add (i * 2))), .pointer (some (ad2.add (i * 2))), iv ((x.2.1 : Nat) : Int), iv ((k : Nat) : Int), tv, v, pq g, pq g, po g 1, .slice A2 PP.length c2, iv ((i : Nat) : Int), .pointer (some (ad2.add (i * 2))), .pointer (some ((ad2.add (i * 2)).add 1)), sl x.1 0 512 512, sl g10 0 1 1, v15]), by kernel_rfl, S17, ⟨by omega, by rw [List.length_append]; show CC.length + 1 ≤ i + 1 + 1; omega, by rw [pend_step hxs, if_pos hb9, List.map_append, hI8.2.2.1]; rfl, fun z hz => (List.mem_append.1 hz).elim (hI8.2.2.2 z) (fun h => by rw [List.mem_singleton] at h; subst h; exact hxp)⟩⟩, (by show PP.length - (i + 1) < PP.length - i; omega)⟩
    · skip
      have hb9 : ¬ x.2.1 = k := by omega
      refine wl_end (fr [pq g, iv ((k : Nat) : Int), ud, ud, .slice none 0 0, v, iv ((i : Nat) : Int), pq g, pq g, pq g, sl gl 0 LL.length cl, iv ((k : Nat) : Int), po gl k, sl y.1 0 512 512, sl g1 0 1 1, iv ((i : Nat) : Int), pq g, pq g, po g 1, .slice A2 PP.length c2, iv (PP.length : Nat), tv, J 22, J 23, pq g, pq g, po g 1, .slice A2 PP.length c2, iv ((i : Nat) : Int), .pointer (some (ad2.add (i * 2))), .pointer (some (ad2.add (i * 2))), iv ((x.2.1 : Nat) : Int), iv ((k : Nat) : Int), fv, J 34, J 35, J 36, J 37, J 38, J 39, J 40, J 41, J 42, J 43, J 44] 1) (by kernel_rfl) ?_
      refine then_n ?_
      refine wp_cond_false (by kernel_rfl) ?_
      refine wp_skip ?_
      refine inb_n ?_
      refine then_n ?_
      refine wp_region_lit ?_
      refine pv (iv ((i : Nat) : Int)) ?_
      refine wl_gv rfl (gv_int (k := .i64) (z := IntKind.i64.wrap (((i : Nat) : Int) + 1)) (z' := ((i + 1 : Nat) : Int)) (by kernel_rfl) (wr_eq (by omega) (by omega) (by omega)) ?_)
      refine pv (iv ((i + 1 : Nat) : Int)) ?_
      refine wl_end (fr [pq g, iv ((k : Nat) : Int), ud, ud, .slice none 0 0, v, iv ((i + 1 : Nat) : Int), pq g, pq g, pq g, sl gl 0 LL.length cl, iv ((k : Nat) : Int), po gl k, sl y.1 0 512 512, sl g1 0 1 1, iv ((i : Nat) : Int), pq g, pq g, po g 1, .slice A2 PP.length c2, iv (PP.length : Nat), tv, iv ((i : Nat) : Int), iv ((i + 1 : Nat) : Int), pq g, pq g, po g 1, .slice A2 PP.length c2, iv ((i : Nat) : Int), .pointer (some (ad2.add (i * 2))), .pointer (some (ad2.add (i * 2))), iv ((x.2.1 : Nat) : Int), iv ((k : Nat) : Int), fv, J 34, J 35, J 36, J 37, J 38, J 39, J 40, J 41, J 42, J 43, J 44] 1) (by kernel_rfl) ?_
      refine then_n ?_
      exact ⟨(i + 1, v, CC), ⟨(jl [ud, ud, ud, ud, ud, ud, ud, ud, ud, ud, ud, ud, ud, ud, ud, iv ((i : Nat) : Int), pq g, pq g, po g 1, .slice A2 PP.length c2, iv (PP.length : Nat), tv, iv ((i : Nat) : Int), iv ((i + 1 : Nat) : Int), pq g, pq g, po g 1, .slice A2 PP.length c2, iv ((i : Nat) : Int), .pointer (some (ad2.add (i * 2))), .pointer (some (ad2.add (i * 2))), iv ((x.2.1 : Nat) : Int), iv ((k : Nat) : Int), fv, J 34, J 35, J 36, J 37, J 38, J 39, J 40, J 41, J 42, J 43, J 44]), by kernel_rfl, S7, ⟨by omega, (by show CC.length ≤ i + 1 + 1; have := hI8.2.1; omega), by rw [pend_step hxs, if_neg hb9, List.append_nil]; exact hI8.2.2.1, hI8.2.2.2⟩⟩, (by show PP.length - (i + 1) < PP.length - i; omega)⟩
  · skip
    refine wl_end (fr [pq g, iv ((k : Nat) : Int), ud, ud, .slice none 0 0, v, iv ((i : Nat) : Int), pq g, pq g, pq g, sl gl 0 LL.length cl, iv ((k : Nat) : Int), po gl k, sl y.1 0 512 512, sl g1 0 1 1, iv ((i : Nat) : Int), pq g, pq g, po g 1, .slice A2 PP.length c2, iv (PP.length : Nat), fv, J 22, J 23, J 24, J 25, J 26, J 27, J 28, J 29, J 30, J 31, J 32, J 33, J 34, J 35, J 36, J 37, J 38, J 39, J 40, J 41, J 42, J 43, J 44] 1) (by kernel_rfl) ?_
    refine then_n ?_
    refine wp_cond_false (by kernel_rfl) ?_
    refine wp_exit ?_
    refine then_x ?_
    refine then_x ?_
    refine inb_x ?_
    refine then_n ?_
    refine wp_seq ?_
    refine wp_region_lit ?_
    refine pv v ?_
    refine pv v ?_
    refine wl_end (fr [pq g, iv ((k : Nat) : Int), ud, ud, v, v, iv ((i : Nat) : Int), pq g, pq g, pq g, sl gl 0 LL.length cl, iv ((k : Nat) : Int), po gl k, sl y.1 0 512 512, sl g1 0 1 1, iv ((i : Nat) : Int), pq g, pq g, po g 1, .slice A2 PP.length c2, iv (PP.length : Nat), fv, J 22, J 23, J 24, J 25, J 26, J 27, J 28, J 29, J 30, J 31, J 32, J 33, J 34, J 35, J 36, J 37, J 38, J 39, J 40, J 41, J 42, J 43, J 44, v] 0) (by kernel_rfl) ?_
    refine then_n ?_
    refine wp_ret ?_
    refine bodyPost_ret (v := v) (results_t1 rfl (by kernel_rfl)) rfl ?_
    have htk : s.pend.take i = s.pend := List.take_of_length_le (by omega)
    rw [htk] at hI8
    exact ⟨_, CC, rfl, hI8.2.2.1, hI8.2.2.2, S7⟩
theorem rtorn {F : Nat → Prop} {w0 w : World} {L : List Ast} {A1 : Option Addr} {c1 : Nat} {CC pool : List (Nat × List UInt8)} {pa pb pc : Int} (S : St F w0 w (vec 31 1 (.slice A1 CC.length c1) CC.length (CC.map PEnt.val) :: stars (pool.map PEnt.row) :: L)) (hC : ∀ x ∈ CC, x ∈ pool) (h5 : ∀ x ∈ CC, x.2.length = 512) (h0 : 0 < CC.length) (hlm : CC.length ≤ 9223372036854775807) :
    Calls Try.prog 80 #[.slice A1 CC.length c1, .agg #[.int .i64 pa, .int .i64 pb, .int .i64 pc]] w fun e w' => ∃ go, e = .returned (.slice (some ⟨go, 0, none⟩) 512 512) ∧ St F w0 w' (row go (bvs (tornS (CC.map (·.2)) (pa, pb, pc))) 5 :: vec 31 1 (.slice A1 CC.length c1) CC.length (CC.map PEnt.val) :: stars (pool.map PEnt.row) :: L) := by
  have hn1 : CC.length = CC.length - 1 + 1 := by omega
  have hma : pa.toNat % CC.length < CC.length := Nat.mod_lt _ h0
  have hmb : pb.toNat % CC.length < CC.length := Nat.mod_lt _ h0
  have hcm : pc.toNat % 513 < 513 := Nat.mod_lt _ (by decide)
  obtain ⟨a, ha⟩ : ∃ a, CC[pa.toNat % CC.length]? = some a := ⟨_, List.getElem?_eq_getElem hma⟩
  obtain ⟨b, hb⟩ : ∃ b, CC[pb.toNat % CC.length]? = some b := ⟨_, List.getElem?_eq_getElem hmb⟩
  have ham := List.mem_of_getElem? ha
  have hbm := List.mem_of_getElem? hb
  have ha5 := h5 a ham
  have hb5 := h5 b hbm
  have ht : tornS (CC.map (·.2)) (pa, pb, pc) = a.2.take (pc.toNat % 513) ++ b.2.drop (pc.toNat % 513) := by
    unfold tornS
    rw [List.length_map, List.getD_eq_getElem?_getD, List.getD_eq_getElem?_getD, List.getElem?_map, List.getElem?_map, ha, hb]; rfl
  rw [ht]
  obtain ⟨ad2, hAd2, hrd⟩ := (St.vec_rd S 0 rfl) (by rw [List.length_map]; exact h0)
  refine wp_enter (fr [.slice A1 CC.length c1, .agg #[iv pa, iv pb, iv pc]] 45) Try.func80 rfl (by kernel_rfl) ?_
  refine wp_seq ?_
  refine wp_region_lit ?_
  refine wl_gv rfl (gv_box (v := .agg #[.int .i64 pa, .int .i64 pb, .int .i64 pc]) S rfl (by kernel_rfl) (fun g1 w2 hg3 S4 => ?_))
  refine pv (.slice none 0 0) ?_
  refine wl_end (fr [.slice A1 CC.length c1, .agg #[iv pa, iv pb, iv pc], ud, pq g1, .slice none 0 0] 42) (by kernel_rfl) ?_
  refine then_n ?_
  refine wp_seq ?_
  refine wp_region_lit ?_
  refine pv (.slice A1 CC.length c1) ?_
  refine pv (pq g1) ?_
  refine wl_gv rfl (gv_ldR (v := .int .i64 pa) rfl (by kernel_rfl) (by kernel_rfl) (((S4.blk 0 rfl).cell 0).trans rfl) ?_)
  refine wl_gv rfl (gv_call (args := #[.int .i64 pa]) rfl Try.func89 (by kernel_rfl) rfl rfl (by kernel_rfl) ?_)
  refine Calls.mono rfloor ?_
  rintro _ _ ⟨rfl, rfl⟩
  refine ⟨_, rfl, ?_⟩
  refine pv (.slice A1 CC.length c1) ?_
  refine pv (iv (CC.length : Nat)) ?_
  refine wl_gv rfl (gv_int (k := .i64) (z := Int.tmod ((pa.toNat : Nat) : Int) (CC.length : Nat)) (z' := ((pa.toNat % CC.length : Nat) : Int)) (by rw [hn1]; kernel_rfl) (tmod_nat' rfl rfl) ?_)
  refine wl_gv rfl (gv_ixB (e := 31) (sz := 1) (n := CC.length) (c := c1) (i := ((pa.toNat % CC.length : Nat) : Int)) (k := .i64) (ad := ad2) (ad' := (ad2.add (pa.toNat % CC.length))) (j := (pa.toNat % CC.length)) rfl (by kernel_rfl) (by kernel_rfl) (by rw [← hAd2]; kernel_rfl) (by kernel_rfl) rfl (by omega) (by rw [Nat.mul_one]) ?_)
  refine wl_gv rfl (gv_ldR (v := PEnt.val a) rfl (by kernel_rfl) (by kernel_rfl) (rdv_at (St.vec_rd S4 1 rfl) hAd2 (by rw [List.length_map]; exact h0) _ _ (by rw [List.getElem?_map, ha]; rfl)) ?_)
  refine pv (sl a.1 0 512 512) ?_
  refine wl_end (fr [.slice A1 CC.length c1, .agg #[iv pa, iv pb, iv pc], ud, pq g1, .slice none 0 0, sl a.1 0 512 512, ud, ud, ud, ud, .slice A1 CC.length c1, pq g1, iv pa, iv ((pa.toNat : Nat) : Int), .slice A1 CC.length c1, iv (CC.length : Nat), iv ((pa.toNat % CC.length : Nat) : Int), .pointer (some (ad2.add (pa.toNat % CC.length))), sl a.1 0 512 512] 28) (by kernel_rfl) ?_
  refine then_n ?_
  refine wp_seq ?_
  refine wp_region_lit ?_
  refine pv (.slice A1 CC.length c1) ?_
  refine pv (po g1 1) ?_
  refine wl_gv rfl (gv_ldR (v := .int .i64 pb) rfl (by kernel_rfl) (by kernel_rfl) (((S4.blk 0 rfl).cell 1).trans rfl) ?_)
  refine wl_gv rfl (gv_call (args := #[.int .i64 pb]) rfl Try.func89 (by kernel_rfl) rfl rfl (by kernel_rfl) ?_)
  refine Calls.mono rfloor ?_
  rintro _ _ ⟨rfl, rfl⟩
  refine ⟨_, rfl, ?_⟩
  refine pv (.slice A1 CC.length c1) ?_
  refine pv (iv (CC.length : Nat)) ?_
  refine wl_gv rfl (gv_int (k := .i64) (z := Int.tmod ((pb.toNat : Nat) : Int) (CC.length : Nat)) (z' := ((pb.toNat % CC.length : Nat) : Int)) (by rw [hn1]; kernel_rfl) (tmod_nat' rfl rfl) ?_)
  refine wl_gv rfl (gv_ixB (e := 31) (sz := 1) (n := CC.length) (c := c1) (i := ((pb.toNat % CC.length : Nat) : Int)) (k := .i64) (ad := ad2) (ad' := (ad2.add (pb.toNat % CC.length))) (j := (pb.toNat % CC.length)) rfl (by kernel_rfl) (by kernel_rfl) (by rw [← hAd2]; kernel_rfl) (by kernel_rfl) rfl (by omega) (by rw [Nat.mul_one]) ?_)
  refine wl_gv rfl (gv_ldR (v := PEnt.val b) rfl (by kernel_rfl) (by kernel_rfl) (rdv_at (St.vec_rd S4 1 rfl) hAd2 (by rw [List.length_map]; exact h0) _ _ (by rw [List.getElem?_map, hb]; rfl)) ?_)
  refine pv (sl b.1 0 512 512) ?_
  refine wl_end (fr [.slice A1 CC.length c1, .agg #[iv pa, iv pb, iv pc], ud, pq g1, .slice none 0 0, sl a.1 0 512 512, sl b.1 0 512 512, ud, ud, ud, .slice A1 CC.length c1, pq g1, iv pa, iv ((pa.toNat : Nat) : Int), .slice A1 CC.length c1, iv (CC.length : Nat), iv ((pa.toNat % CC.length : Nat) : Int), .pointer (some (ad2.add (pa.toNat % CC.length))), sl a.1 0 512 512, .slice A1 CC.length c1, po g1 1, iv pb, iv ((pb.toNat : Nat) : Int), .slice A1 CC.length c1, iv (CC.length : Nat), iv ((pb.toNat % CC.length : Nat) : Int), .pointer (some (ad2.add (pb.toNat % CC.length))), sl b.1 0 512 512] 19) (by kernel_rfl) ?_
  refine then_n ?_
  refine wp_seq ?_
  refine wp_region_lit ?_
  refine pv (po g1 2) ?_
  refine wl_gv rfl (gv_ldR (v := .int .i64 pc) rfl (by kernel_rfl) (by kernel_rfl) (((S4.blk 0 rfl).cell 2).trans rfl) ?_)
  refine wl_gv rfl (gv_call (args := #[.int .i64 pc]) rfl Try.func89 (by kernel_rfl) rfl rfl (by kernel_rfl) ?_)
  refine Calls.mono rfloor ?_
  rintro _ _ ⟨rfl, rfl⟩
  refine ⟨_, rfl, ?_⟩
  refine wl_gv rfl (gv_int (k := .i64) (z := Int.tmod ((pc.toNat : Nat) : Int) 513) (z' := ((pc.toNat % 513 : Nat) : Int)) (by kernel_rfl) (tmod_nat' rfl rfl) ?_)
  refine pv (iv ((pc.toNat % 513 : Nat) : Int)) ?_
  refine wl_end (fr [.slice A1 CC.length c1, .agg #[iv pa, iv pb, iv pc], ud, pq g1, .slice none 0 0, sl a.1 0 512 512, sl b.1 0 512 512, iv ((pc.toNat % 513 : Nat) : Int), ud, ud, .slice A1 CC.length c1, pq g1, iv pa, iv ((pa.toNat : Nat) : Int), .slice A1 CC.length c1, iv (CC.length : Nat), iv ((pa.toNat % CC.length : Nat) : Int), .pointer (some (ad2.add (pa.toNat % CC.length))), sl a.1 0 512 512, .slice A1 CC.length c1, po g1 1, iv pb, iv ((pb.toNat : Nat) : Int), .slice A1 CC.length c1, iv (CC.length : Nat), iv ((pb.toNat % CC.length : Nat) : Int), .pointer (some (ad2.add (pb.toNat % CC.length))), sl b.1 0 512 512, po g1 2, iv pc, iv ((pc.toNat : Nat) : Int), iv ((pc.toNat % 513 : Nat) : Int)] 15) (by kernel_rfl) ?_
  refine then_n ?_
  refine wp_seq ?_
  refine wp_region_lit ?_
  refine pv (sl b.1 0 512 512) ?_
  refine wl_gv rfl (gv_call (args := #[.slice (some ⟨b.1, 0, none⟩) 512 512]) rfl Try.func75 (by kernel_rfl) rfl rfl (by kernel_rfl) ?_)
  refine Calls.mono (rtwinS (l := b.2) S4 (rot_pool 2 rfl (hC b hbm) hb5) hb5 (by omega)) ?_
  rintro _ w6 ⟨g5, rfl, S7⟩
  refine ⟨_, rfl, ?_⟩
  rw [show b.2 = a.2.take 0 ++ b.2.drop 0 from rfl] at S7
  refine pv (sl g5 0 512 512) ?_
  refine wl_end (fr [.slice A1 CC.length c1, .agg #[iv pa, iv pb, iv pc], ud, pq g1, .slice none 0 0, sl a.1 0 512 512, sl b.1 0 512 512, iv ((pc.toNat % 513 : Nat) : Int), sl g5 0 512 512, ud, .slice A1 CC.length c1, pq g1, iv pa, iv ((pa.toNat : Nat) : Int), .slice A1 CC.length c1, iv (CC.length : Nat), iv ((pa.toNat % CC.length : Nat) : Int), .pointer (some (ad2.add (pa.toNat % CC.length))), sl a.1 0 512 512, .slice A1 CC.length c1, po g1 1, iv pb, iv ((pb.toNat : Nat) : Int), .slice A1 CC.length c1, iv (CC.length : Nat), iv ((pb.toNat % CC.length : Nat) : Int), .pointer (some (ad2.add (pb.toNat % CC.length))), sl b.1 0 512 512, po g1 2, iv pc, iv ((pc.toNat : Nat) : Int), iv ((pc.toNat % 513 : Nat) : Int), sl b.1 0 512 512, sl g5 0 512 512] 13) (by kernel_rfl) ?_
  refine then_n ?_
  refine wp_seq ?_
  refine wp_seq ?_
  refine wp_region_lit ?_
  refine pv (iv 0) ?_
  refine wl_end (fr [.slice A1 CC.length c1, .agg #[iv pa, iv pb, iv pc], ud, pq g1, .slice none 0 0, sl a.1 0 512 512, sl b.1 0 512 512, iv ((pc.toNat % 513 : Nat) : Int), sl g5 0 512 512, iv 0, .slice A1 CC.length c1, pq g1, iv pa, iv ((pa.toNat : Nat) : Int), .slice A1 CC.length c1, iv (CC.length : Nat), iv ((pa.toNat % CC.length : Nat) : Int), .pointer (some (ad2.add (pa.toNat % CC.length))), sl a.1 0 512 512, .slice A1 CC.length c1, po g1 1, iv pb, iv ((pb.toNat : Nat) : Int), .slice A1 CC.length c1, iv (CC.length : Nat), iv ((pb.toNat % CC.length : Nat) : Int), .pointer (some (ad2.add (pb.toNat % CC.length))), sl b.1 0 512 512, po g1 2, iv pc, iv ((pc.toNat : Nat) : Int), iv ((pc.toNat % 513 : Nat) : Int), sl b.1 0 512 512, sl g5 0 512 512] 13) (by kernel_rfl) ?_
  refine then_n ?_
  refine wp_block ?_
  refine wp_loop_g (G := Nat) (fun (g_ : Nat) (a_ : Act) (w_ : World) => ∃ J : Nat → Value, a_ = (fr [.slice A1 CC.length c1, .agg #[iv pa, iv pb, iv pc], ud, pq g1, .slice none 0 0, sl a.1 0 512 512, sl b.1 0 512 512, iv ((pc.toNat % 513 : Nat) : Int), sl g5 0 512 512, iv ((g_ : Nat) : Int), .slice A1 CC.length c1, pq g1, iv pa, iv ((pa.toNat : Nat) : Int), .slice A1 CC.length c1, iv (CC.length : Nat), iv ((pa.toNat % CC.length : Nat) : Int), .pointer (some (ad2.add (pa.toNat % CC.length))), sl a.1 0 512 512, .slice A1 CC.length c1, po g1 1, iv pb, iv ((pb.toNat : Nat) : Int), .slice A1 CC.length c1, iv (CC.length : Nat), iv ((pb.toNat % CC.length : Nat) : Int), .pointer (some (ad2.add (pb.toNat % CC.length))), sl b.1 0 512 512, po g1 2, iv pc, iv ((pc.toNat : Nat) : Int), iv ((pc.toNat % 513 : Nat) : Int), sl b.1 0 512 512, sl g5 0 512 512, J 34, J 35, J 36, J 37, J 38, J 39, J 40, J 41, J 42, J 43, J 44, J 45] 1) ∧ St F w0 w_ (row g5 (bvs (a.2.take g_ ++ b.2.drop g_)) 5 :: row g1 #[.int .i64 pa, .int .i64 pb, .int .i64 pc] 66 :: vec 31 1 (.slice A1 CC.length c1) CC.length (CC.map PEnt.val) :: stars (pool.map PEnt.row) :: L) ∧ (g_ ≤ pc.toNat % 513)) (fun g_ => pc.toNat % 513 - g_) 0 ⟨(jl []), by kernel_rfl, S7, Nat.zero_le _⟩ ?_
  rintro i a_ w8 ⟨J, rfl, S9, hI10⟩
  skip
  have S9 : St F w0 w8 (row g5 (bvs (a.2.take i ++ b.2.drop i)) 5 :: row g1 #[.int .i64 pa, .int .i64 pb, .int .i64 pc] 66 :: vec 31 1 (.slice A1 CC.length c1) CC.length (CC.map PEnt.val) :: stars (pool.map PEnt.row) :: L) := S9
  have hI10 : (i ≤ pc.toNat % 513) := hI10
  refine wp_seq ?_
  refine wp_seq ?_
  refine wp_region_lit ?_
  refine pv (iv ((i : Nat) : Int)) ?_
  refine pv (iv ((pc.toNat % 513 : Nat) : Int)) ?_
  refine wl_gv rfl (gv_dec (p := (((i : Nat) : Int) : Int) < ((pc.toNat % 513 : Nat) : Int)) (by kernel_rfl) (fun hb11 => ?_) (fun hb11 => ?_))
  · skip
    refine wl_end (fr [.slice A1 CC.length c1, .agg #[iv pa, iv pb, iv pc], ud, pq g1, .slice none 0 0, sl a.1 0 512 512, sl b.1 0 512 512, iv ((pc.toNat % 513 : Nat) : Int), sl g5 0 512 512, iv ((i : Nat) : Int), .slice A1 CC.length c1, pq g1, iv pa, iv ((pa.toNat : Nat) : Int), .slice A1 CC.length c1, iv (CC.length : Nat), iv ((pa.toNat % CC.length : Nat) : Int), .pointer (some (ad2.add (pa.toNat % CC.length))), sl a.1 0 512 512, .slice A1 CC.length c1, po g1 1, iv pb, iv ((pb.toNat : Nat) : Int), .slice A1 CC.length c1, iv (CC.length : Nat), iv ((pb.toNat % CC.length : Nat) : Int), .pointer (some (ad2.add (pb.toNat % CC.length))), sl b.1 0 512 512, po g1 2, iv pc, iv ((pc.toNat : Nat) : Int), iv ((pc.toNat % 513 : Nat) : Int), sl b.1 0 512 512, sl g5 0 512 512, iv ((i : Nat) : Int), iv ((pc.toNat % 513 : Nat) : Int), tv, J 37, J 38, J 39, J 40, J 41, J 42, J 43, J 44, J 45] 1) (by kernel_rfl) ?_
    refine then_n ?_
    refine wp_cond_true (by kernel_rfl) ?_
    refine wp_skip ?_
    refine then_n ?_
    refine wp_seq ?_
    refine wp_block ?_
    refine wp_region_lit ?_
    refine pv (sl g5 0 512 512) ?_
    refine pv (iv ((i : Nat) : Int)) ?_
    refine pv (sl a.1 0 512 512) ?_
    refine pv (iv ((i : Nat) : Int)) ?_
    refine wl_gv rfl (gv_ixE (e := 5) (sz := 1) (g := a.1) (off := 0) (n := 512) (c := 512) (i := ((i : Nat) : Int)) (k := .i64) (j := i) (off' := i) rfl (by kernel_rfl) (by kernel_rfl) (by kernel_rfl) (by kernel_rfl) rfl (by omega) (by omega) ?_)
    refine wl_gv rfl (gv_ldR (v := .int .u8 ((a.2.getD i 0).toNat : Int)) rfl (by kernel_rfl) (by kernel_rfl) (byte_at (St.pool_rd S9 3 rfl (hC a ham)) (by omega)) ?_)
    refine wl_gv rfl (gv_ixE (e := 5) (sz := 1) (g := g5) (off := 0) (n := 512) (c := 512) (i := ((i : Nat) : Int)) (k := .i64) (j := i) (off' := i) rfl (by kernel_rfl) (by kernel_rfl) (by kernel_rfl) (by kernel_rfl) rfl (by omega) (by omega) ?_)
    refine wl_gv rfl (gv_st (k := i) (v := .int .u8 ((a.2.getD i 0).toNat : Int)) S9 0 rfl rfl (by kernel_rfl) (by kernel_rfl) (by kernel_rfl) rfl (Nat.ble_eq_true_of_le (by rw [size_bvs, List.length_append, List.length_take, List.length_drop]; omega)) (L' := (row g5 (bvs (a.2.take (i + 1) ++ b.2.drop (i + 1))) 5 :: row g1 #[.int .i64 pa, .int .i64 pb, .int .i64 pc] 66 :: vec 31 1 (.slice A1 CC.length c1) CC.length (CC.map PEnt.val) :: stars (pool.map PEnt.row) :: L)) (by rw [torn_set ha5 hb5 (by omega)]; rfl) (fun w12 S13 => ?_))
    refine wl_end (fr [.slice A1 CC.length c1, .agg #[iv pa, iv pb, iv pc], ud, pq g1, .slice none 0 0, sl a.1 0 512 512, sl b.1 0 512 512, iv ((pc.toNat % 513 : Nat) : Int), sl g5 0 512 512, iv ((i : Nat) : Int), .slice A1 CC.length c1, pq g1, iv pa, iv ((pa.toNat : Nat) : Int), .slice A1 CC.length c1, iv (CC.length : Nat), iv ((pa.toNat % CC.length : Nat) : Int), .pointer (some (ad2.add (pa.toNat % CC.length))), sl a.1 0 512 512, .slice A1 CC.length c1, po g1 1, iv pb, iv ((pb.toNat : Nat) : Int), .slice A1 CC.length c1, iv (CC.length : Nat), iv ((pb.toNat % CC.length : Nat) : Int), .pointer (some (ad2.add (pb.toNat % CC.length))), sl b.1 0 512 512, po g1 2, iv pc, iv ((pc.toNat : Nat) : Int), iv ((pc.toNat % 513 : Nat) : Int), sl b.1 0 512 512, sl g5 0 512 512, iv ((i : Nat) : Int), iv ((pc.toNat % 513 : Nat) : Int), tv, J 37, J 38, sl g5 0 512 512, iv ((i : Nat) : Int), sl a.1 0 512 512, iv ((i : Nat) : Int), po a.1 i, .int .u8 ((a.2.getD i 0).toNat : Int), po g5 i] 1) (by kernel_rfl) ?_
    refine inb_n ?_
    refine then_n ?_
    refine wp_region_lit ?_
    refine pv (iv ((i : Nat) : Int)) ?_
    refine wl_gv rfl (gv_int (k := .i64) (z := IntKind.i64.wrap (((i : Nat) : Int) + 1)) (z' := ((i + 1 : Nat) : Int)) (by kernel_rfl) (wr_eq (by omega) (by omega) (by omega)) ?_)
    refine pv (iv ((i + 1 : Nat) : Int)) ?_
    refine wl_end (fr [.slice A1 CC.length c1, .agg #[iv pa, iv pb, iv pc], ud, pq g1, .slice none 0 0, sl a.1 0 512 512, sl b.1 0 512 512, iv ((pc.toNat % 513 : Nat) : Int), sl g5 0 512 512, iv ((i + 1 : Nat) : Int), .slice A1 CC.length c1, pq g1, iv pa, iv ((pa.toNat : Nat) : Int), .slice A1 CC.length c1, iv (CC.length : Nat), iv ((pa.toNat % CC.length : Nat) : Int), .pointer (some (ad2.add (pa.toNat % CC.length))), sl a.1 0 512 512, .slice A1 CC.length c1, po g1 1, iv pb, iv ((pb.toNat : Nat) : Int), .slice A1 CC.length c1, iv (CC.length : Nat), iv ((pb.toNat % CC.length : Nat) : Int), .pointer (some (ad2.add (pb.toNat % CC.length))), sl b.1 0 512 512, po g1 2, iv pc, iv ((pc.toNat : Nat) : Int), iv ((pc.toNat % 513 : Nat) : Int), sl b.1 0 512 512, sl g5 0 512 512, iv ((i : Nat) : Int), iv ((pc.toNat % 513 : Nat) : Int), tv, iv ((i : Nat) : Int), iv ((i + 1 : Nat) : Int), sl g5 0 512 512, iv ((i : Nat) : Int), sl a.1 0 512 512, iv ((i : Nat) : Int), po a.1 i, .int .u8 ((a.2.getD i 0).toNat : Int), po g5 i] 1) (by kernel_rfl) ?_
    refine then_n ?_
    exact ⟨i + 1, ⟨(jl [ud, ud, ud, ud, ud, ud, ud, ud, ud, ud, ud, ud, ud, ud, ud, ud, ud, ud, ud, ud, ud, ud, ud, ud, ud, ud, ud, ud, ud, ud, ud, ud, ud, ud, iv ((i : Nat) : Int), iv ((pc.toNat % 513 : Nat) : Int), tv, iv ((i : Nat) : Int), iv ((i + 1 : Nat) : Int), sl g5 0 512 512, iv ((i : Nat) : Int), sl a.1 0 512 512, iv ((i : Nat) : Int), po a.1 i, .int .u8 ((a.2.getD i 0).toNat : Int), po g5 i]), by kernel_rfl, S13, (by omega)⟩, (by show pc.toNat % 513 - (i + 1) < pc.toNat % 513 - i; omega)⟩
  · skip
    refine wl_end (fr [.slice A1 CC.length c1, .agg #[iv pa, iv pb, iv pc], ud, pq g1, .slice none 0 0, sl a.1 0 512 512, sl b.1 0 512 512, iv ((pc.toNat % 513 : Nat) : Int), sl g5 0 512 512, iv ((i : Nat) : Int), .slice A1 CC.length c1, pq g1, iv pa, iv ((pa.toNat : Nat) : Int), .slice A1 CC.length c1, iv (CC.length : Nat), iv ((pa.toNat % CC.length : Nat) : Int), .pointer (some (ad2.add (pa.toNat % CC.length))), sl a.1 0 512 512, .slice A1 CC.length c1, po g1 1, iv pb, iv ((pb.toNat : Nat) : Int), .slice A1 CC.length c1, iv (CC.length : Nat), iv ((pb.toNat % CC.length : Nat) : Int), .pointer (some (ad2.add (pb.toNat % CC.length))), sl b.1 0 512 512, po g1 2, iv pc, iv ((pc.toNat : Nat) : Int), iv ((pc.toNat % 513 : Nat) : Int), sl b.1 0 512 512, sl g5 0 512 512, iv ((i : Nat) : Int), iv ((pc.toNat % 513 : Nat) : Int), fv, J 37, J 38, J 39, J 40, J 41, J 42, J 43, J 44, J 45] 1) (by kernel_rfl) ?_
    refine then_n ?_
    refine wp_cond_false (by kernel_rfl) ?_
    refine wp_exit ?_
    refine then_x ?_
    refine then_x ?_
    refine inb_x ?_
    refine then_n ?_
    refine wp_seq ?_
    refine wp_region_lit ?_
    refine pv (sl g5 0 512 512) ?_
    refine pv (sl g5 0 512 512) ?_
    refine wl_end (fr [.slice A1 CC.length c1, .agg #[iv pa, iv pb, iv pc], ud, pq g1, sl g5 0 512 512, sl a.1 0 512 512, sl b.1 0 512 512, iv ((pc.toNat % 513 : Nat) : Int), sl g5 0 512 512, iv ((i : Nat) : Int), .slice A1 CC.length c1, pq g1, iv pa, iv ((pa.toNat : Nat) : Int), .slice A1 CC.length c1, iv (CC.length : Nat), iv ((pa.toNat % CC.length : Nat) : Int), .pointer (some (ad2.add (pa.toNat % CC.length))), sl a.1 0 512 512, .slice A1 CC.length c1, po g1 1, iv pb, iv ((pb.toNat : Nat) : Int), .slice A1 CC.length c1, iv (CC.length : Nat), iv ((pb.toNat % CC.length : Nat) : Int), .pointer (some (ad2.add (pb.toNat % CC.length))), sl b.1 0 512 512, po g1 2, iv pc, iv ((pc.toNat : Nat) : Int), iv ((pc.toNat % 513 : Nat) : Int), sl b.1 0 512 512, sl g5 0 512 512, iv ((i : Nat) : Int), iv ((pc.toNat % 513 : Nat) : Int), fv, J 37, J 38, J 39, J 40, J 41, J 42, J 43, J 44, J 45, sl g5 0 512 512] 0) (by kernel_rfl) ?_
    refine then_n ?_
    refine wp_ret ?_
    refine bodyPost_ret (v := .slice (some ⟨g5, 0, none⟩) 512 512) (results_t1 rfl (by kernel_rfl)) rfl ?_
    have S14 : St F w0 w8 (row g5 (bvs (a.2.take i ++ b.2.drop i)) 5 :: vec 31 1 (.slice A1 CC.length c1) CC.length (CC.map PEnt.val) :: stars (pool.map PEnt.row) :: L) := St.permT [row g5 (bvs (a.2.take i ++ b.2.drop i)) 5, row g1 #[.int .i64 pa, .int .i64 pb, .int .i64 pc] 66, vec 31 1 (.slice A1 CC.length c1) CC.length (CC.map PEnt.val), stars (pool.map PEnt.row)] [0, 2, 3] (by decide) rfl S9
    have hi9 : i = pc.toNat % 513 := by omega
    rw [hi9] at S14
    exact ⟨_, rfl, S14⟩
end Go.Proofs
