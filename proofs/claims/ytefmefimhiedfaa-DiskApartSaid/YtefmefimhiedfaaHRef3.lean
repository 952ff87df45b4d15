/- Image, Zeros, New, Load of the document's disk. -/
import Derived.Test.YtefmefimhiedfaaHRef1
import Derived.Test.YtefmefimhiedfaaHDisk6
open Go Go.RowKit Go.Proofs.YtefmefimhiedfaaW.PrintWords Go.Proofs.YtefmefimhiedfaaW.PrintMore
namespace Go.Proofs
open Go.Vel
set_option linter.unusedVariables false
set_option maxRecDepth 100000
set_option maxHeartbeats 4000000
attribute [local irreducible] gives wpList Code.wp

theorem flat_take_succ {l : List (List UInt8)} {i : Nat} {x : List UInt8} (h : l[i]? = some x) : (l.take (i + 1)).flatten = (l.take i).flatten ++ x := by
  rw [List.take_add_one, h, List.flatten_append]; simp
theorem bv_flat {l : List (List UInt8)} {i : Nat} {x : List UInt8} (h : l[i]? = some x) : ((l.take i).flatten.map bv) ++ x.map bv = (l.take (i + 1)).flatten.map bv := by
  rw [flat_take_succ h, List.map_append]
theorem secs_get : ∀ (n : Nat) (l : List UInt8) (i : Nat), i < n → (secs l n)[i]? = some ((l.drop (512 * i)).take 512)
  | 0, _, i, h => absurd h (Nat.not_lt_zero i)
  | n + 1, l, 0, _ => by simp [secs]
  | n + 1, l, i + 1, h => by
    have := secs_get n (l.drop 512) i (by omega)
    rw [List.drop_drop] at this
    rw [secs, List.getElem?_cons_succ, this, show 512 + 512 * i = 512 * (i + 1) from by omega]
theorem RFacts.mk0 {l : List (List UInt8)} {LL pool : List (Nat × List UInt8)} (h0 : LL.map (·.2) = l) (h : ∀ x ∈ l, x.length = 512) (h1 : 1 ≤ l.length) (h2 : l.length ≤ 2048) (hp : ∀ x ∈ LL, x ∈ pool) : RFacts (Dsk.mk0 l) LL [] pool :=
  ⟨h0, rfl, hp, fun x hx => (by cases hx), h, fun x hx => (by cases hx), h1, h2, show (-1 : Int) ≤ -1 ∧ (-1 : Int) ≤ 9223372036854775807 by decide, Nat.zero_le _⟩
theorem RdV.bytes {w : World} {A : Option Addr} {l : List UInt8} (h : RdV w A (l.map bv)) : RdB w A l := fun h0 => h (by rw [List.length_map]; exact h0)
theorem rd_image {F : Nat → Prop} {w0 w : World} {L : List Ast} {g : Nat} {s : Dsk} (S : St F w0 w (RDisk g s :: L)) : Calls Try.prog 54 #[.pointer (some ⟨g, 0, none⟩)] w fun e w' => ∃ v, e = .returned v ∧ St F w0 w' (vec 5 1 v s.last.flatten.length (s.last.flatten.map bv) :: RDisk g s :: L) := by
  obtain ⟨gl, cl, c2, A2, junk, LL, PP, pool, hf, hcl, hju, S⟩ := St.ropen S
  have hn2 := hf.n2
  have hll := hf.ll
  have hpp := hf.pp
  have hpn := hf.pn
  change St F w0 w (row g #[.slice (some ⟨gl, 0, none⟩) LL.length cl, .slice A2 PP.length c2, .int .i64 s.left, .int .i64 s.life, .int .i64 s.rd, .int .i64 s.wr, .int .i64 s.fl, .int .i64 s.rf, .int .i64 0] 96 :: row gl ((LL.map PEnt.val ++ junk).toArray) 31 :: vec 99 2 (.slice A2 PP.length c2) PP.length (putsV PP) :: stars (pool.map PEnt.row) :: L) at S
  refine wp_enter (fr [pq g] 30) Try.func54 rfl (by kernel_rfl) ?_
  refine wp_seq ?_
  refine wp_region_lit ?_
  refine pv (.slice none 0 0) ?_
  refine wl_end (fr [pq g, ud, .slice none 0 0] 28) (by kernel_rfl) ?_
  refine then_n ?_
  refine wp_seq ?_
  refine wp_region_lit ?_
  refine pv (pq g) ?_
  refine pv (pq g) ?_
  refine pv (pq g) ?_
  refine wl_gv rfl (gv_ldR (v := .slice (some ⟨gl, 0, none⟩) LL.length cl) rfl (by kernel_rfl) (by kernel_rfl) (((S.blk 0 rfl).cell 0).trans rfl) ?_)
  refine pv (iv (LL.length : Nat)) ?_
  refine wl_gv rfl (gv_int (k := .i64) (z := IntKind.i64.wrap ((LL.length : Nat) * 512)) (z' := ((512 * LL.length : Nat) : Int)) (by kernel_rfl) (wr_eq (by omega) (by omega) (by omega)) ?_)
  refine wl_gv rfl (gv_make (e := 5) (u := 0) (v := ((512 * LL.length : Nat) : Int)) (z := .int .u8 0) (sz := 1) (by_ := 1) (n := 0) (c := 512 * LL.length) (cs := bvs (List.replicate (512 * LL.length) 0)) S rfl (by kernel_rfl) ⟨by kernel_rfl⟩ (by kernel_rfl) (by kernel_rfl) rfl rfl (Nat.zero_le _) (by omega) (by omega) (mk_bytes _) (fun g1 w2 hg3 S4 => ?_))
  have S5 : St F w0 w2 (vec 5 1 (.slice (some ⟨g1, 0, none⟩) 0 (512 * LL.length)) 0 [] :: row g #[.slice (some ⟨gl, 0, none⟩) LL.length cl, .slice A2 PP.length c2, .int .i64 s.left, .int .i64 s.life, .int .i64 s.rd, .int .i64 s.wr, .int .i64 s.fl, .int .i64 s.rf, .int .i64 0] 96 :: row gl ((LL.map PEnt.val ++ junk).toArray) 31 :: vec 99 2 (.slice A2 PP.length c2) PP.length (putsV PP) :: stars (pool.map PEnt.row) :: L) := St.vec_mk (vals := []) (junk := (List.replicate (512 * LL.length) (0 : UInt8)).map bv) S4 (Nat.zero_le _) rfl (by simp)
  refine pv (sl g1 0 0 (512 * LL.length)) ?_
  refine wl_end (fr [pq g, ud, .slice none 0 0, sl g1 0 0 (512 * LL.length), ud, pq g, pq g, pq g, sl gl 0 LL.length cl, iv (LL.length : Nat), iv ((512 * LL.length : Nat) : Int), sl g1 0 0 (512 * LL.length)] 19) (by kernel_rfl) ?_
  refine then_n ?_
  refine wp_seq ?_
  refine wp_seq ?_
  refine wp_region_lit ?_
  refine pv (iv 0) ?_
  refine wl_end (fr [pq g, ud, .slice none 0 0, sl g1 0 0 (512 * LL.length), iv 0, pq g, pq g, pq g, sl gl 0 LL.length cl, iv (LL.length : Nat), iv ((512 * LL.length : Nat) : Int), sl g1 0 0 (512 * LL.length)] 19) (by kernel_rfl) ?_
  refine then_n ?_
  refine wp_block ?_
  refine wp_loop_g (G := Nat × Value) (fun (g_ : Nat × Value) (a_ : Act) (w_ : World) => ∃ J : Nat → Value, a_ = (fr [pq g, ud, .slice none 0 0, g_.2, iv ((g_.1 : Nat) : Int), pq g, pq g, pq g, sl gl 0 LL.length cl, iv (LL.length : Nat), iv ((512 * LL.length : Nat) : Int), sl g1 0 0 (512 * LL.length), J 12, J 13, J 14, J 15, J 16, J 17, J 18, J 19, J 20, J 21, J 22, J 23, J 24, J 25, J 26, J 27, J 28, J 29] 1) ∧ St F w0 w_ (vec 5 1 g_.2 (512 * g_.1) ((s.last.take g_.1).flatten.map bv) :: row g #[.slice (some ⟨gl, 0, none⟩) LL.length cl, .slice A2 PP.length c2, .int .i64 s.left, .int .i64 s.life, .int .i64 s.rd, .int .i64 s.wr, .int .i64 s.fl, .int .i64 s.rf, .int .i64 0] 96 :: row gl ((LL.map PEnt.val ++ junk).toArray) 31 :: vec 99 2 (.slice A2 PP.length c2) PP.length (putsV PP) :: stars (pool.map PEnt.row) :: L) ∧ (g_.1 ≤ LL.length)) (fun g_ => LL.length - g_.1) (0, .slice (some ⟨g1, 0, none⟩) 0 (512 * LL.length)) ⟨(jl []), by kernel_rfl, S5, Nat.zero_le _⟩ ?_
  rintro ⟨i, v⟩ a_ w6 ⟨J, rfl, S7, hI8⟩
  skip
  have S7 : St F w0 w6 (vec 5 1 v (512 * i) ((s.last.take i).flatten.map bv) :: row g #[.slice (some ⟨gl, 0, none⟩) LL.length cl, .slice A2 PP.length c2, .int .i64 s.left, .int .i64 s.life, .int .i64 s.rd, .int .i64 s.wr, .int .i64 s.fl, .int .i64 s.rf, .int .i64 0] 96 :: row gl ((LL.map PEnt.val ++ junk).toArray) 31 :: vec 99 2 (.slice A2 PP.length c2) PP.length (putsV PP) :: stars (pool.map PEnt.row) :: L) := S7
  have hI8 : (i ≤ LL.length) := hI8
  refine wp_seq ?_
  refine wp_seq ?_
  refine wp_region_lit ?_
  refine pv (iv ((i : Nat) : Int)) ?_
  refine pv (pq g) ?_
  refine pv (pq g) ?_
  refine pv (pq g) ?_
  refine wl_gv rfl (gv_ldR (v := .slice (some ⟨gl, 0, none⟩) LL.length cl) rfl (by kernel_rfl) (by kernel_rfl) (((S7.blk 1 rfl).cell 0).trans rfl) ?_)
  refine pv (iv (LL.length : Nat)) ?_
  refine wl_gv rfl (gv_dec (p := (((i : Nat) : Int) : Int) < (LL.length : Nat)) (by kernel_rfl) (fun hb9 => ?_) (fun hb9 => ?_))
  · skip
    obtain ⟨x, hx, hxp, hxl, hx5⟩ := hf.at (k := i) (by omega)
    have hxs : s.last[i]? = some x.2 := by rw [← hxl]; exact mem_getD (by omega)
    refine wl_end (fr [pq g, ud, .slice none 0 0, v, iv ((i : Nat) : Int), pq g, pq g, pq g, sl gl 0 LL.length cl, iv (LL.length : Nat), iv ((512 * LL.length : Nat) : Int), sl g1 0 0 (512 * LL.length), iv ((i : Nat) : Int), pq g, pq g, pq g, sl gl 0 LL.length cl, iv (LL.length : Nat), tv, J 19, J 20, J 21, J 22, J 23, J 24, J 25, J 26, J 27, J 28, J 29] 1) (by kernel_rfl) ?_
    refine then_n ?_
    refine wp_cond_true (by kernel_rfl) ?_
    refine wp_skip ?_
    refine then_n ?_
    refine wp_seq ?_
    refine wp_block ?_
    refine wp_region_lit ?_
    refine pv v ?_
    refine pv (pq g) ?_
    refine pv (pq g) ?_
    refine pv (pq g) ?_
    refine wl_gv rfl (gv_ldR (v := .slice (some ⟨gl, 0, none⟩) LL.length cl) rfl (by kernel_rfl) (by kernel_rfl) (((S7.blk 1 rfl).cell 0).trans rfl) ?_)
    refine pv (iv ((i : Nat) : Int)) ?_
    refine wl_gv rfl (gv_ixE (e := 31) (sz := 1) (g := gl) (off := 0) (n := LL.length) (c := cl) (i := ((i : Nat) : Int)) (k := .i64) (j := i) (off' := i) rfl (by kernel_rfl) (by kernel_rfl) (by kernel_rfl) (by kernel_rfl) rfl (by omega) (by omega) ?_)
    refine wl_gv rfl (gv_ldR (v := PEnt.val x) rfl (by kernel_rfl) (by kernel_rfl) (((S7.blk 2 rfl).cell i).trans (ll_at hx)) ?_)
    refine wl_gv rfl (gv_append (e := 5) (sz := 1) (n := 512 * i) (v := v) (vals := (s.last.take i).flatten.map bv) (z := .int .u8 0) (by_ := 1) (m := 512) (c' := 512) (ad := ⟨x.1, 0, none⟩) (news := x.2.map bv) S7 rfl (by kernel_rfl) ⟨by kernel_rfl⟩ rfl (by kernel_rfl) (by kernel_rfl) (by decide) (by rw [List.length_map, hx5]) (row_news (St.pool_rd S7 4 rfl hxp)) (bvs_one x.2) (by omega) (by omega) (fun v11 w10 S12 => ?_))
    rw [bv_flat hxs, show 512 * i + 512 = 512 * (i + 1) from by omega] at S12
    refine pv v11 ?_
    refine wl_end (fr [pq g, ud, .slice none 0 0, v11, iv ((i : Nat) : Int), pq g, pq g, pq g, sl gl 0 LL.length cl, iv (LL.length : Nat), iv ((512 * LL.length : Nat) : Int), sl g1 0 0 (512 * LL.length), iv ((i : Nat) : Int), pq g, pq g, pq g, sl gl 0 LL.length cl, iv (LL.length : Nat), tv, J 19, J 20, v, pq g, pq g, pq g, sl gl 0 LL.length cl, iv ((i : Nat) : Int), po gl i, sl x.1 0 512 512, v11] 1) (by kernel_rfl) ?_
    refine inb_n ?_
    refine then_n ?_
    refine wp_region_lit ?_
    refine pv (iv ((i : Nat) : Int)) ?_
    refine wl_gv rfl (gv_int (k := .i64) (z := IntKind.i64.wrap (((i : Nat) : Int) + 1)) (z' := ((i + 1 : Nat) : Int)) (by kernel_rfl) (wr_eq (by omega) (by omega) (by omega)) ?_)
    refine pv (iv ((i + 1 : Nat) : Int)) ?_
    refine wl_end (fr [pq g, ud, .slice none 0 0, v11, iv ((i + 1 : Nat) : Int), pq g, pq g, pq g, sl gl 0 LL.length cl, iv (LL.length : Nat), iv ((512 * LL.length : Nat) : Int), sl g1 0 0 (512 * LL.length), iv ((i : Nat) : Int), pq g, pq g, pq g, sl gl 0 LL.length cl, iv (LL.length : Nat), tv, iv ((i : Nat) : Int), iv ((i + 1 : Nat) : Int), v, pq g, pq g, pq g, sl gl 0 LL.length cl, iv ((i : Nat) : Int), po gl i, sl x.1 0 512 512, v11] 1) (by kernel_rfl) ?_
    refine then_n ?_
    exact ⟨(i + 1, v11), ⟨(jl [ud, ud, ud, ud, ud, ud, ud, ud, ud, ud, ud, ud, iv ((i : Nat) : Int), pq g, pq g, pq g, sl gl 0 LL.length cl, iv (LL.length : Nat), tv, iv ((i : Nat) : Int), iv ((i + 1 : Nat) : Int), v, pq g, pq g, pq g, sl gl 0 LL.length cl, iv ((i : Nat) : Int), po gl i, sl x.1 0 512 512, v11]), by kernel_rfl, S12, (by omega)⟩, (by show LL.length - (i + 1) < LL.length - i; omega)⟩
  · skip
    refine wl_end (fr [pq g, ud, .slice none 0 0, v, iv ((i : Nat) : Int), pq g, pq g, pq g, sl gl 0 LL.length cl, iv (LL.length : Nat), iv ((512 * LL.length : Nat) : Int), sl g1 0 0 (512 * LL.length), iv ((i : Nat) : Int), pq g, pq g, pq g, sl gl 0 LL.length cl, iv (LL.length : Nat), fv, J 19, J 20, J 21, J 22, J 23, J 24, J 25, J 26, J 27, J 28, J 29] 1) (by kernel_rfl) ?_
    refine then_n ?_
    refine wp_cond_false (by kernel_rfl) ?_
    refine wp_exit ?_
    refine then_x ?_
    refine then_x ?_
    refine inb_x ?_
    refine then_n ?_
    refine wp_seq ?_
    refine wp_region_lit ?_
    refine pv v ?_
    refine pv v ?_
    refine wl_end (fr [pq g, ud, v, v, iv ((i : Nat) : Int), pq g, pq g, pq g, sl gl 0 LL.length cl, iv (LL.length : Nat), iv ((512 * LL.length : Nat) : Int), sl g1 0 0 (512 * LL.length), iv ((i : Nat) : Int), pq g, pq g, pq g, sl gl 0 LL.length cl, iv (LL.length : Nat), fv, J 19, J 20, J 21, J 22, J 23, J 24, J 25, J 26, J 27, J 28, J 29, v] 0) (by kernel_rfl) ?_
    refine then_n ?_
    refine wp_ret ?_
    refine bodyPost_ret (v := v) (results_t1 rfl (by kernel_rfl)) rfl ?_
    have hiL : i = LL.length := by omega
    have htk : s.last.take i = s.last := List.take_of_length_le (by omega)
    have hfl := flat_len hf.len
    rw [htk, show 512 * i = s.last.flatten.length from by rw [hfl]; omega] at S7
    exact ⟨_, rfl, St.swap (St.rclose (gl := gl) (cl := cl) (c2 := c2) (A2 := A2) (junk := junk) (LL := LL) (PP := PP) (pool := pool) (s := s) (St.rot (LA := rdParts g gl cl c2 A2 junk LL PP pool s) S7) (hf.upd rfl rfl hf.lb) hcl hju)⟩
theorem rzeros {F : Nat → Prop} {w0 w : World} {L : List Ast} (S : St F w0 w L) : Calls Try.prog 81 #[] w fun e w' => ∃ z, e = .returned (.slice (some ⟨z, 0, none⟩) 512 512) ∧ St F w0 w' (row z (bvs zsec) 5 :: L) := by
  refine wp_enter (fr [] 2) Try.func81 rfl (by kernel_rfl) ?_
  refine wp_seq ?_
  refine wp_region_lit ?_
  refine pv (.slice none 0 0) ?_
  refine wl_end (fr [.slice none 0 0] 1) (by kernel_rfl) ?_
  refine then_n ?_
  refine wp_seq ?_
  refine wp_region_lit ?_
  refine wl_gv rfl (gv_make (e := 5) (u := 512) (v := 512) (z := .int .u8 0) (sz := 1) (by_ := 1) (n := 512) (c := 512) (cs := (bvs (List.replicate 512 0))) S rfl (by kernel_rfl) ⟨by kernel_rfl⟩ (by kernel_rfl) (by kernel_rfl) rfl rfl (Nat.le_refl _) (by decide) (by decide) (mk_bytes _) (fun g1 w2 hg3 S4 => ?_))
  refine pv (sl g1 0 512 512) ?_
  refine wl_end (fr [sl g1 0 512 512, sl g1 0 512 512] 0) (by kernel_rfl) ?_
  refine then_n ?_
  refine wp_ret ?_
  refine bodyPost_ret (v := .slice (some ⟨g1, 0, none⟩) 512 512) (results_t1 rfl (by kernel_rfl)) rfl ?_
  exact ⟨_, rfl, S4⟩
theorem rd_new_bad {n : Int} (hn : n < 1 ∨ 2048 < n) {F : Nat → Prop} {w0 w : World} {L : List Ast} (S : St F w0 w L) : Calls Try.prog 63 #[.int .i64 n] w fun e w' => e = .returned (.tuple #[.pointer none, .int .i64 10]) ∧ St F w0 w' L := by
  refine wp_enter (fr [iv n] 31) Try.func63 rfl (by kernel_rfl) ?_
  refine wp_seq ?_
  refine wp_region_lit ?_
  refine pv pn ?_
  refine pv (iv 0) ?_
  refine wl_end (fr [iv n, ud, pn, iv 0] 28) (by kernel_rfl) ?_
  refine then_n ?_
  refine wp_seq ?_
  refine wp_seq ?_
  refine wp_region_lit ?_
  refine pv (iv n) ?_
  refine wl_gv rfl (gv_dec (p := (n : Int) < 1) (by kernel_rfl) (fun hb1 => ?_) (fun hb1 => ?_))
  · skip
    refine pv tv ?_
    refine wl_not (by kernel_rfl) ?_
    refine wl_not (by kernel_rfl) ?_
    refine pv tv ?_
    refine wl_end (fr [iv n, ud, pn, iv 0, ud, ud, ud, iv n, tv, tv, ud, ud, tv] 19) (by kernel_rfl) ?_
    refine then_n ?_
    refine wp_cond_true (by kernel_rfl) ?_
    refine wp_seq ?_
    refine wp_region_lit ?_
    refine pv pn ?_
    refine pv (iv 10) ?_
    refine wl_end (fr [iv n, ud, pn, iv 10, ud, ud, ud, iv n, tv, tv, ud, ud, tv] 19) (by kernel_rfl) ?_
    refine then_n ?_
    refine wp_ret ?_
    refine then_r ?_
    refine bodyPost_ret (v := .tuple #[.pointer none, .int .i64 10]) (results_t2 rfl (by kernel_rfl) (by kernel_rfl)) rfl ?_
    exact ⟨rfl, S⟩
  · skip
    refine pv fv ?_
    refine wl_when (by kernel_rfl) (gv_val (v := .int .i64 n) (w' := w) (by kernel_rfl) ?_)
    refine wl_when (by kernel_rfl) (gv_dec (p := (n : Int) > 2048) (by kernel_rfl) (fun _ => ?_) (fun hd2 => False.elim (by omega)))
    refine pv tv ?_
    refine wl_end (fr [iv n, ud, pn, iv 0, ud, ud, ud, iv n, fv, fv, iv n, tv, tv] 19) (by kernel_rfl) ?_
    refine then_n ?_
    refine wp_cond_true (by kernel_rfl) ?_
    refine wp_seq ?_
    refine wp_region_lit ?_
    refine pv pn ?_
    refine pv (iv 10) ?_
    refine wl_end (fr [iv n, ud, pn, iv 10, ud, ud, ud, iv n, fv, fv, iv n, tv, tv] 19) (by kernel_rfl) ?_
    refine then_n ?_
    refine wp_ret ?_
    refine then_r ?_
    refine bodyPost_ret (v := .tuple #[.pointer none, .int .i64 10]) (results_t2 rfl (by kernel_rfl) (by kernel_rfl)) rfl ?_
    exact ⟨rfl, S⟩
theorem rd_new {m : Nat} (h1 : 1 ≤ m) (h2 : m ≤ 2048) {F : Nat → Prop} {w0 w : World} {L : List Ast} (S : St F w0 w L) : Calls Try.prog 63 #[.int .i64 ((m : Nat) : Int)] w fun e w' => ∃ g, e = .returned (.tuple #[.pointer (some ⟨g, 0, none⟩), .int .i64 0]) ∧ St F w0 w' (RDisk g (Dsk.mk0 (List.replicate m zsec)) :: L) := by
  refine wp_enter (fr [iv ((m : Nat) : Int)] 31) Try.func63 rfl (by kernel_rfl) ?_
  refine wp_seq ?_
  refine wp_region_lit ?_
  refine pv pn ?_
  refine pv (iv 0) ?_
  refine wl_end (fr [iv ((m : Nat) : Int), ud, pn, iv 0] 28) (by kernel_rfl) ?_
  refine then_n ?_
  refine wp_seq ?_
  refine wp_seq ?_
  refine wp_region_lit ?_
  refine pv (iv ((m : Nat) : Int)) ?_
  refine wl_gv rfl (gv_dec (p := (((m : Nat) : Int) : Int) < 1) (by kernel_rfl) (fun hd1 => False.elim (by omega)) (fun _ => ?_))
  refine pv fv ?_
  refine wl_when (by kernel_rfl) (gv_val (v := .int .i64 ((m : Nat) : Int)) (w' := w) (by kernel_rfl) ?_)
  refine wl_when (by kernel_rfl) (gv_dec (p := (((m : Nat) : Int) : Int) > 2048) (by kernel_rfl) (fun hd2 => False.elim (by omega)) (fun _ => ?_))
  refine pv fv ?_
  refine wl_end (fr [iv ((m : Nat) : Int), ud, pn, iv 0, ud, ud, ud, iv ((m : Nat) : Int), fv, fv, iv ((m : Nat) : Int), fv, fv] 19) (by kernel_rfl) ?_
  refine then_n ?_
  refine wp_cond_false (by kernel_rfl) ?_
  refine wp_skip ?_
  refine then_n ?_
  refine wp_seq ?_
  refine wp_region_lit ?_
  refine wl_gv rfl (gv_call (args := #[]) rfl Try.func81 (by kernel_rfl) rfl rfl (by kernel_rfl) ?_)
  refine Calls.mono (rzeros S) ?_
  rintro _ w4 ⟨z3, rfl, S5⟩
  refine ⟨_, rfl, ?_⟩
  have S6 : St F w0 w4 (vec 31 1 (.slice none 0 0) 0 [] :: row z3 (bvs zsec) 5 :: L) := St.vec_nil S5
  refine pv (sl z3 0 512 512) ?_
  refine wl_end (fr [iv ((m : Nat) : Int), ud, pn, iv 0, sl z3 0 512 512, ud, ud, iv ((m : Nat) : Int), fv, fv, iv ((m : Nat) : Int), fv, fv, sl z3 0 512 512] 18) (by kernel_rfl) ?_
  refine then_n ?_
  refine wp_seq ?_
  refine wp_region_lit ?_
  refine pv (.agg #[.slice none 0 0, .slice none 0 0, iv (-1), iv 1, iv 0, iv 0, iv 0, iv 0, iv 0]) ?_
  refine wl_gv rfl (gv_box (v := .agg #[.slice none 0 0, .slice none 0 0, .int .i64 (-1), .int .i64 1, .int .i64 0, .int .i64 0, .int .i64 0, .int .i64 0, .int .i64 0]) S6 rfl (by kernel_rfl) (fun g7 w8 hg9 S10 => ?_))
  refine pv (pq g7) ?_
  refine wl_end (fr [iv ((m : Nat) : Int), ud, pn, iv 0, sl z3 0 512 512, pq g7, ud, iv ((m : Nat) : Int), fv, fv, iv ((m : Nat) : Int), fv, fv, sl z3 0 512 512, .agg #[.slice none 0 0, .slice none 0 0, iv (-1), iv 1, iv 0, iv 0, iv 0, iv 0, iv 0], pq g7] 16) (by kernel_rfl) ?_
  refine then_n ?_
  refine wp_seq ?_
  refine wp_seq ?_
  refine wp_region_lit ?_
  refine pv (iv 0) ?_
  refine wl_end (fr [iv ((m : Nat) : Int), ud, pn, iv 0, sl z3 0 512 512, pq g7, iv 0, iv ((m : Nat) : Int), fv, fv, iv ((m : Nat) : Int), fv, fv, sl z3 0 512 512, .agg #[.slice none 0 0, .slice none 0 0, iv (-1), iv 1, iv 0, iv 0, iv 0, iv 0, iv 0], pq g7] 16) (by kernel_rfl) ?_
  refine then_n ?_
  refine wp_block ?_
  have S11 : St F w0 w8 (vec 31 1 (.slice none 0 0) 0 [] :: row g7 #[.slice none 0 0, .slice none 0 0, .int .i64 (-1), .int .i64 1, .int .i64 0, .int .i64 0, .int .i64 0, .int .i64 0, .int .i64 0] 96 :: row z3 (bvs zsec) 5 :: L) := St.permT [row g7 #[.slice none 0 0, .slice none 0 0, .int .i64 (-1), .int .i64 1, .int .i64 0, .int .i64 0, .int .i64 0, .int .i64 0, .int .i64 0] 96, vec 31 1 (.slice none 0 0) 0 [], row z3 (bvs zsec) 5] [1, 0, 2] (by decide) rfl S10
  refine wp_loop_g (G := Nat × Value) (fun (g_ : Nat × Value) (a_ : Act) (w_ : World) => ∃ J : Nat → Value, a_ = (fr [iv ((m : Nat) : Int), ud, pn, iv 0, sl z3 0 512 512, pq g7, iv ((g_.1 : Nat) : Int), iv ((m : Nat) : Int), fv, fv, iv ((m : Nat) : Int), fv, fv, sl z3 0 512 512, .agg #[.slice none 0 0, .slice none 0 0, iv (-1), iv 1, iv 0, iv 0, iv 0, iv 0, iv 0], pq g7, J 16, J 17, J 18, J 19, J 20, J 21, J 22, J 23, J 24, J 25, J 26, J 27, J 28, J 29, J 30] 1) ∧ St F w0 w_ (vec 31 1 g_.2 g_.1 (List.replicate g_.1 (PEnt.val (z3, zsec))) :: row g7 #[g_.2, .slice none 0 0, .int .i64 (-1), .int .i64 1, .int .i64 0, .int .i64 0, .int .i64 0, .int .i64 0, .int .i64 0] 96 :: row z3 (bvs zsec) 5 :: L) ∧ (g_.1 ≤ m)) (fun g_ => m - g_.1) (0, .slice none 0 0) ⟨(jl []), by kernel_rfl, S11, Nat.zero_le _⟩ ?_
  rintro ⟨i, v⟩ a_ w12 ⟨J, rfl, S13, hI14⟩
  skip
  have S13 : St F w0 w12 (vec 31 1 v i (List.replicate i (PEnt.val (z3, zsec))) :: row g7 #[v, .slice none 0 0, .int .i64 (-1), .int .i64 1, .int .i64 0, .int .i64 0, .int .i64 0, .int .i64 0, .int .i64 0] 96 :: row z3 (bvs zsec) 5 :: L) := S13
  have hI14 : (i ≤ m) := hI14
  refine wp_seq ?_
  refine wp_seq ?_
  refine wp_region_lit ?_
  refine pv (iv ((i : Nat) : Int)) ?_
  refine pv (iv ((m : Nat) : Int)) ?_
  refine wl_gv rfl (gv_dec (p := (((i : Nat) : Int) : Int) < ((m : Nat) : Int)) (by kernel_rfl) (fun hb15 => ?_) (fun hb15 => ?_))
  · skip
    refine wl_end (fr [iv ((m : Nat) : Int), ud, pn, iv 0, sl z3 0 512 512, pq g7, iv ((i : Nat) : Int), iv ((m : Nat) : Int), fv, fv, iv ((m : Nat) : Int), fv, fv, sl z3 0 512 512, .agg #[.slice none 0 0, .slice none 0 0, iv (-1), iv 1, iv 0, iv 0, iv 0, iv 0, iv 0], pq g7, iv ((i : Nat) : Int), iv ((m : Nat) : Int), tv, J 19, J 20, J 21, J 22, J 23, J 24, J 25, J 26, J 27, J 28, J 29, J 30] 1) (by kernel_rfl) ?_
    refine then_n ?_
    refine wp_cond_true (by kernel_rfl) ?_
    refine wp_skip ?_
    refine then_n ?_
    refine wp_seq ?_
    refine wp_block ?_
    refine wp_region_lit ?_
    refine pv (pq g7) ?_
    refine pv (pq g7) ?_
    refine pv (pq g7) ?_
    refine pv (pq g7) ?_
    refine wl_gv rfl (gv_ldR (v := v) rfl (by kernel_rfl) (by kernel_rfl) (((S13.blk 1 rfl).cell 0).trans rfl) ?_)
    refine pv (sl z3 0 512 512) ?_
    refine wl_gv rfl (gv_slit (e := 31) (sz := 1) (z := .slice none 0 0) (by_ := 24) (vs := #[(0, .slice (some ⟨z3, 0, none⟩) 512 512)]) (cells := #[.slice (some ⟨z3, 0, none⟩) 512 512]) S13 rfl (by kernel_rfl) ⟨by kernel_rfl⟩ (by kernel_rfl) (by kernel_rfl) (by kernel_rfl) (by kernel_rfl) (fun g16 w17 hg18 S19 => ?_))
    refine wl_gv rfl (gv_append (e := 31) (sz := 1) (n := i) (v := v) (vals := (List.replicate i (PEnt.val (z3, zsec)))) (z := .slice none 0 0) (by_ := 24) (m := 1) (c' := 1) (ad := ⟨g16, 0, none⟩) (news := [.slice (some ⟨z3, 0, none⟩) 512 512]) (St.swap S19) rfl (by kernel_rfl) ⟨by kernel_rfl⟩ rfl (by kernel_rfl) (by kernel_rfl) (by decide) rfl (row_news (S19.blk 0 rfl)) (by intro u hu; simp at hu; subst hu; rfl) (by omega) (by omega) (fun v21 w20 S22 => ?_))
    refine pv (pq g7) ?_
    refine pv (pq g7) ?_
    refine wl_gv rfl (gv_st (k := 0) (v := v21) S22 2 rfl rfl (by kernel_rfl) (by kernel_rfl) (by kernel_rfl) (St.vec_one S22 0 rfl) rfl (L' := (vec 31 1 v21 (i + 1) (List.replicate i (PEnt.val (z3, zsec)) ++ [.slice (some ⟨z3, 0, none⟩) 512 512]) :: row g16 #[.slice (some ⟨z3, 0, none⟩) 512 512] 31 :: row g7 #[v21, .slice none 0 0, .int .i64 (-1), .int .i64 1, .int .i64 0, .int .i64 0, .int .i64 0, .int .i64 0, .int .i64 0] 96 :: row z3 (bvs zsec) 5 :: L)) rfl (fun w23 S24 => ?_))
    refine wl_end (fr [iv ((m : Nat) : Int), ud, pn, iv 0, sl z3 0 512 512, pq g7, iv ((i : Nat) : Int), iv ((m : Nat) : Int), fv, fv, iv ((m : Nat) : Int), fv, fv, sl z3 0 512 512, .agg #[.slice none 0 0, .slice none 0 0, iv (-1), iv 1, iv 0, iv 0, iv 0, iv 0, iv 0], pq g7, iv ((i : Nat) : Int), iv ((m : Nat) : Int), tv, J 19, J 20, pq g7, pq g7, pq g7, pq g7, v, sl z3 0 512 512, sl g16 0 1 1, v21, pq g7, pq g7] 1) (by kernel_rfl) ?_
    refine inb_n ?_
    refine then_n ?_
    refine wp_region_lit ?_
    refine pv (iv ((i : Nat) : Int)) ?_
    refine wl_gv rfl (gv_int (k := .i64) (z := IntKind.i64.wrap (((i : Nat) : Int) + 1)) (z' := ((i + 1 : Nat) : Int)) (by kernel_rfl) (wr_eq (by omega) (by omega) (by omega)) ?_)
    refine pv (iv ((i + 1 : Nat) : Int)) ?_
    refine wl_end (fr [iv ((m : Nat) : Int), ud, pn, iv 0, sl z3 0 512 512, pq g7, iv ((i + 1 : Nat) : Int), iv ((m : Nat) : Int), fv, fv, iv ((m : Nat) : Int), fv, fv, sl z3 0 512 512, .agg #[.slice none 0 0, .slice none 0 0, iv (-1), iv 1, iv 0, iv 0, iv 0, iv 0, iv 0], pq g7, iv ((i : Nat) : Int), iv ((m : Nat) : Int), tv, iv ((i : Nat) : Int), iv ((i + 1 : Nat) : Int), pq g7, pq g7, pq g7, pq g7, v, sl z3 0 512 512, sl g16 0 1 1, v21, pq g7, pq g7] 1) (by kernel_rfl) ?_
    refine then_n ?_
    have S25 : St F w0 w23 (vec 31 1 v21 (i + 1) (List.replicate i (PEnt.val (z3, zsec)) ++ [.slice (some ⟨z3, 0, none⟩) 512 512]) :: row g7 #[v21, .slice none 0 0, .int .i64 (-1), .int .i64 1, .int .i64 0, .int .i64 0, .int .i64 0, .int .i64 0, .int .i64 0] 96 :: row z3 (bvs zsec) 5 :: L) := St.permT [vec 31 1 v21 (i + 1) (List.replicate i (PEnt.val (z3, zsec)) ++ [.slice (some ⟨z3, 0, none⟩) 512 512]), row g16 #[.slice (some ⟨z3, 0, none⟩) 512 512] 31, row g7 #[v21, .slice none 0 0, .int .i64 (-1), .int .i64 1, .int .i64 0, .int .i64 0, .int .i64 0, .int .i64 0, .int .i64 0] 96, row z3 (bvs zsec) 5] [0, 2, 3] (by decide) rfl S24
    rw [show List.replicate i (PEnt.val (z3, zsec)) ++ [.slice (some ⟨z3, 0, none⟩) 512 512] = List.replicate (i + 1) (PEnt.val (z3, zsec)) from List.replicate_succ'.symm] at S25
    exact ⟨(i + 1, v21), ⟨(jl [ud, ud, ud, ud, ud, ud, ud, ud, ud, ud, ud, ud, ud, ud, ud, ud, iv ((i : Nat) : Int), iv ((m : Nat) : Int), tv, iv ((i : Nat) : Int), iv ((i + 1 : Nat) : Int), pq g7, pq g7, pq g7, pq g7, v, sl z3 0 512 512, sl g16 0 1 1, v21, pq g7, pq g7]), by kernel_rfl, S25, (by omega)⟩, (by show m - (i + 1) < m - i; omega)⟩
  · skip
    refine wl_end (fr [iv ((m : Nat) : Int), ud, pn, iv 0, sl z3 0 512 512, pq g7, iv ((i : Nat) : Int), iv ((m : Nat) : Int), fv, fv, iv ((m : Nat) : Int), fv, fv, sl z3 0 512 512, .agg #[.slice none 0 0, .slice none 0 0, iv (-1), iv 1, iv 0, iv 0, iv 0, iv 0, iv 0], pq g7, iv ((i : Nat) : Int), iv ((m : Nat) : Int), fv, J 19, J 20, J 21, J 22, J 23, J 24, J 25, J 26, J 27, J 28, J 29, J 30] 1) (by kernel_rfl) ?_
    refine then_n ?_
    refine wp_cond_false (by kernel_rfl) ?_
    refine wp_exit ?_
    refine then_x ?_
    refine then_x ?_
    refine inb_x ?_
    refine then_n ?_
    refine wp_seq ?_
    refine wp_region_lit ?_
    refine pv (pq g7) ?_
    refine pv (pq g7) ?_
    refine pv (iv 0) ?_
    refine wl_end (fr [iv ((m : Nat) : Int), ud, pq g7, iv 0, sl z3 0 512 512, pq g7, iv ((i : Nat) : Int), iv ((m : Nat) : Int), fv, fv, iv ((m : Nat) : Int), fv, fv, sl z3 0 512 512, .agg #[.slice none 0 0, .slice none 0 0, iv (-1), iv 1, iv 0, iv 0, iv 0, iv 0, iv 0], pq g7, iv ((i : Nat) : Int), iv ((m : Nat) : Int), fv, J 19, J 20, J 21, J 22, J 23, J 24, J 25, J 26, J 27, J 28, J 29, J 30, pq g7] 0) (by kernel_rfl) ?_
    refine then_n ?_
    refine wp_ret ?_
    refine bodyPost_ret (v := .tuple #[.pointer (some ⟨g7, 0, none⟩), .int .i64 0]) (results_t2 rfl (by kernel_rfl) (by kernel_rfl)) rfl ?_
    obtain rfl : i = m := by omega
    obtain ⟨gl, cl, junk, rfl, hcl, hle, hju, S8⟩ := St.vec_open S13 h1
    have S9 := St.permT [_, _, _, _] [2, 1, 0, 3] (by decide) rfl (St.vec_nil (e := 99) (sz := 2) S8)
    have S10 : St F w0 _ ([row g7 _ 96, row gl _ _, vec _ _ _ _ _, row z3 _ _] ++ L) := S9
    have S11 := St.permT [_, _, _, _] [0, 1, 2, 3] (by decide) rfl S10
    have hll : (List.replicate i ((z3, zsec) : Nat × List UInt8)).length = i := List.length_replicate
    have hmp : (List.replicate i ((z3, zsec) : Nat × List UInt8)).map PEnt.val = List.replicate i (PEnt.val (z3, zsec)) := List.map_replicate
    have hms : (List.replicate i ((z3, zsec) : Nat × List UInt8)).map (·.2) = List.replicate i zsec := List.map_replicate
    refine ⟨g7, rfl, St.rclose (gl := gl) (cl := cl) (c2 := 0) (A2 := none) (junk := junk) (LL := List.replicate i (z3, zsec)) (PP := []) (pool := [(z3, zsec)]) ?_ (RFacts.mk0 hms (fun x hx => by rw [(List.mem_replicate.1 hx).2]; exact List.length_replicate) (by rw [List.length_replicate]; exact h1) (by rw [List.length_replicate]; exact h2) (fun x hx => by rw [(List.mem_replicate.1 hx).2]; exact List.mem_singleton.2 rfl)) (by rw [hll]; exact hcl) (by rw [hmp]; exact hju)⟩
    unfold rdParts; rw [hll, hmp]
    exact (St.permT [_, _, _, _] [1, 2, 3, 0] (by decide) rfl (St.one_star (St.permT [_, _, _, _] [3, 0, 1, 2] (by decide) rfl S11)))
theorem rd_load_odd {F : Nat → Prop} {w0 w : World} {L : List Ast} (S : St F w0 w L) {A : Option Addr} {l : List UInt8} {ca : Nat} (hr : RoT F w0 L A l) (hlm : l.length ≤ 140737488355328) (ho : l.length % 512 ≠ 0) : Calls Try.prog 46 #[.slice A l.length ca] w fun e w' => e = .returned (.tuple #[.pointer none, .int .i64 2]) ∧ St F w0 w' L := by
  refine wp_enter (fr [.slice A l.length ca] 44) Try.func46 rfl (by kernel_rfl) ?_
  refine wp_seq ?_
  refine wp_region_lit ?_
  refine pv pn ?_
  refine pv (iv 0) ?_
  refine wl_end (fr [.slice A l.length ca, ud, pn, iv 0] 41) (by kernel_rfl) ?_
  refine then_n ?_
  refine wp_seq ?_
  refine wp_seq ?_
  refine wp_region_lit ?_
  refine pv (.slice A l.length ca) ?_
  refine pv (iv (l.length : Nat)) ?_
  refine wl_gv rfl (gv_int (k := .i64) (z := Int.tmod (l.length : Nat) 512) (z' := ((l.length % 512 : Nat) : Int)) (by kernel_rfl) (by rw [Int.tmod_eq_emod_of_nonneg (by omega)]; omega) ?_)
  refine wl_gv rfl (gv_ne (x := ((l.length % 512 : Nat) : Int)) (y := 0) (by kernel_rfl) (fun _ => ?_) (fun hd1 => False.elim (by omega)))
  refine wl_end (fr [.slice A l.length ca, ud, pn, iv 0, ud, ud, ud, .slice A l.length ca, iv (l.length : Nat), iv ((l.length % 512 : Nat) : Int), tv] 34) (by kernel_rfl) ?_
  refine then_n ?_
  refine wp_cond_true (by kernel_rfl) ?_
  refine wp_seq ?_
  refine wp_region_lit ?_
  refine pv pn ?_
  refine pv (iv 2) ?_
  refine wl_end (fr [.slice A l.length ca, ud, pn, iv 2, ud, ud, ud, .slice A l.length ca, iv (l.length : Nat), iv ((l.length % 512 : Nat) : Int), tv] 34) (by kernel_rfl) ?_
  refine then_n ?_
  refine wp_ret ?_
  refine then_r ?_
  refine bodyPost_ret (v := .tuple #[.pointer none, .int .i64 2]) (results_t2 rfl (by kernel_rfl) (by kernel_rfl)) rfl ?_
  exact ⟨rfl, S⟩
theorem rd_load_bad {F : Nat → Prop} {w0 w : World} {L : List Ast} (S : St F w0 w L) {A : Option Addr} {l : List UInt8} {ca : Nat} (hr : RoT F w0 L A l) (hlm : l.length ≤ 140737488355328) (ho : l.length % 512 = 0) (hb : l.length / 512 < 1 ∨ 2048 < l.length / 512) : Calls Try.prog 46 #[.slice A l.length ca] w fun e w' => e = .returned (.tuple #[.pointer none, .int .i64 10]) ∧ St F w0 w' L := by
  refine wp_enter (fr [.slice A l.length ca] 44) Try.func46 rfl (by kernel_rfl) ?_
  refine wp_seq ?_
  refine wp_region_lit ?_
  refine pv pn ?_
  refine pv (iv 0) ?_
  refine wl_end (fr [.slice A l.length ca, ud, pn, iv 0] 41) (by kernel_rfl) ?_
  refine then_n ?_
  refine wp_seq ?_
  refine wp_seq ?_
  refine wp_region_lit ?_
  refine pv (.slice A l.length ca) ?_
  refine pv (iv (l.length : Nat)) ?_
  refine wl_gv rfl (gv_int (k := .i64) (z := Int.tmod (l.length : Nat) 512) (z' := ((l.length % 512 : Nat) : Int)) (by kernel_rfl) (by rw [Int.tmod_eq_emod_of_nonneg (by omega)]; omega) ?_)
  refine wl_gv rfl (gv_ne (x := ((l.length % 512 : Nat) : Int)) (y := 0) (by kernel_rfl) (fun hd1 => False.elim (by omega)) (fun _ => ?_))
  refine wl_end (fr [.slice A l.length ca, ud, pn, iv 0, ud, ud, ud, .slice A l.length ca, iv (l.length : Nat), iv ((l.length % 512 : Nat) : Int), fv] 34) (by kernel_rfl) ?_
  refine then_n ?_
  refine wp_cond_false (by kernel_rfl) ?_
  refine wp_skip ?_
  refine then_n ?_
  refine wp_seq ?_
  refine wp_region_lit ?_
  refine pv (.slice A l.length ca) ?_
  refine pv (iv (l.length : Nat)) ?_
  refine wl_gv rfl (gv_int (k := .i64) (z := IntKind.i64.wrap (Int.tdiv (l.length : Nat) 512)) (z' := ((l.length / 512 : Nat) : Int)) (by kernel_rfl) (wr_eq (by rw [Int.tdiv_eq_ediv_of_nonneg (by omega)]; omega) (by omega) (by omega)) ?_)
  refine pv (iv ((l.length / 512 : Nat) : Int)) ?_
  refine wl_end (fr [.slice A l.length ca, ud, pn, iv 0, iv ((l.length / 512 : Nat) : Int), ud, ud, .slice A l.length ca, iv (l.length : Nat), iv ((l.length % 512 : Nat) : Int), fv, .slice A l.length ca, iv (l.length : Nat), iv ((l.length / 512 : Nat) : Int)] 31) (by kernel_rfl) ?_
  refine then_n ?_
  refine wp_seq ?_
  refine wp_seq ?_
  refine wp_region_lit ?_
  refine pv (iv ((l.length / 512 : Nat) : Int)) ?_
  refine wl_gv rfl (gv_dec (p := (((l.length / 512 : Nat) : Int) : Int) < 1) (by kernel_rfl) (fun hb2 => ?_) (fun hb2 => ?_))
  · skip
    refine pv tv ?_
    refine wl_not (by kernel_rfl) ?_
    refine wl_not (by kernel_rfl) ?_
    refine pv tv ?_
    refine wl_end (fr [.slice A l.length ca, ud, pn, iv 0, iv ((l.length / 512 : Nat) : Int), ud, ud, .slice A l.length ca, iv (l.length : Nat), iv ((l.length % 512 : Nat) : Int), fv, .slice A l.length ca, iv (l.length : Nat), iv ((l.length / 512 : Nat) : Int), iv ((l.length / 512 : Nat) : Int), tv, tv, ud, ud, tv] 25) (by kernel_rfl) ?_
    refine then_n ?_
    refine wp_cond_true (by kernel_rfl) ?_
    refine wp_seq ?_
    refine wp_region_lit ?_
    refine pv pn ?_
    refine pv (iv 10) ?_
    refine wl_end (fr [.slice A l.length ca, ud, pn, iv 10, iv ((l.length / 512 : Nat) : Int), ud, ud, .slice A l.length ca, iv (l.length : Nat), iv ((l.length % 512 : Nat) : Int), fv, .slice A l.length ca, iv (l.length : Nat), iv ((l.length / 512 : Nat) : Int), iv ((l.length / 512 : Nat) : Int), tv, tv, ud, ud, tv] 25) (by kernel_rfl) ?_
    refine then_n ?_
    refine wp_ret ?_
    refine then_r ?_
    refine bodyPost_ret (v := .tuple #[.pointer none, .int .i64 10]) (results_t2 rfl (by kernel_rfl) (by kernel_rfl)) rfl ?_
    exact ⟨rfl, S⟩
  · skip
    refine pv fv ?_
    refine wl_when (by kernel_rfl) (gv_val (v := .int .i64 ((l.length / 512 : Nat) : Int)) (w' := w) (by kernel_rfl) ?_)
    refine wl_when (by kernel_rfl) (gv_dec (p := (((l.length / 512 : Nat) : Int) : Int) > 2048) (by kernel_rfl) (fun _ => ?_) (fun hd3 => False.elim (by omega)))
    refine pv tv ?_
    refine wl_end (fr [.slice A l.length ca, ud, pn, iv 0, iv ((l.length / 512 : Nat) : Int), ud, ud, .slice A l.length ca, iv (l.length : Nat), iv ((l.length % 512 : Nat) : Int), fv, .slice A l.length ca, iv (l.length : Nat), iv ((l.length / 512 : Nat) : Int), iv ((l.length / 512 : Nat) : Int), fv, fv, iv ((l.length / 512 : Nat) : Int), tv, tv] 25) (by kernel_rfl) ?_
    refine then_n ?_
    refine wp_cond_true (by kernel_rfl) ?_
    refine wp_seq ?_
    refine wp_region_lit ?_
    refine pv pn ?_
    refine pv (iv 10) ?_
    refine wl_end (fr [.slice A l.length ca, ud, pn, iv 10, iv ((l.length / 512 : Nat) : Int), ud, ud, .slice A l.length ca, iv (l.length : Nat), iv ((l.length % 512 : Nat) : Int), fv, .slice A l.length ca, iv (l.length : Nat), iv ((l.length / 512 : Nat) : Int), iv ((l.length / 512 : Nat) : Int), fv, fv, iv ((l.length / 512 : Nat) : Int), tv, tv] 25) (by kernel_rfl) ?_
    refine then_n ?_
    refine wp_ret ?_
    refine then_r ?_
    refine bodyPost_ret (v := .tuple #[.pointer none, .int .i64 10]) (results_t2 rfl (by kernel_rfl) (by kernel_rfl)) rfl ?_
    exact ⟨rfl, S⟩
theorem rd_load {F : Nat → Prop} {w0 w : World} {m : Nat} {L : List Ast} (S : St F w0 w L) {A : Option Addr} {l : List UInt8} {ca : Nat} (hr : RoT F w0 L A l) (hlm : l.length ≤ 140737488355328) (hca : l.length ≤ ca) (ho : l.length = 512 * m) (h1 : 1 ≤ m) (h2 : m ≤ 2048) : Calls Try.prog 46 #[.slice A l.length ca] w fun e w' => ∃ g, e = .returned (.tuple #[.pointer (some ⟨g, 0, none⟩), .int .i64 0]) ∧ St F w0 w' (RDisk g (Dsk.mk0 (secs l m)) :: L) := by
  obtain ⟨ada, rfl⟩ := (hr.now S).at (k := 0) (by omega)
  refine wp_enter (fr [.slice (some ada) l.length ca] 44) Try.func46 rfl (by kernel_rfl) ?_
  refine wp_seq ?_
  refine wp_region_lit ?_
  refine pv pn ?_
  refine pv (iv 0) ?_
  refine wl_end (fr [.slice (some ada) l.length ca, ud, pn, iv 0] 41) (by kernel_rfl) ?_
  refine then_n ?_
  refine wp_seq ?_
  refine wp_seq ?_
  refine wp_region_lit ?_
  refine pv (.slice (some ada) l.length ca) ?_
  refine pv (iv (l.length : Nat)) ?_
  refine wl_gv rfl (gv_int (k := .i64) (z := Int.tmod (l.length : Nat) 512) (z' := ((l.length % 512 : Nat) : Int)) (by kernel_rfl) (by rw [Int.tmod_eq_emod_of_nonneg (by omega)]; omega) ?_)
  refine wl_gv rfl (gv_ne (x := ((l.length % 512 : Nat) : Int)) (y := 0) (by kernel_rfl) (fun hd1 => False.elim (by omega)) (fun _ => ?_))
  refine wl_end (fr [.slice (some ada) l.length ca, ud, pn, iv 0, ud, ud, ud, .slice (some ada) l.length ca, iv (l.length : Nat), iv ((l.length % 512 : Nat) : Int), fv] 34) (by kernel_rfl) ?_
  refine then_n ?_
  refine wp_cond_false (by kernel_rfl) ?_
  refine wp_skip ?_
  refine then_n ?_
  refine wp_seq ?_
  refine wp_region_lit ?_
  refine pv (.slice (some ada) l.length ca) ?_
  refine pv (iv (l.length : Nat)) ?_
  refine wl_gv rfl (gv_int (k := .i64) (z := IntKind.i64.wrap (Int.tdiv (l.length : Nat) 512)) (z' := ((m : Nat) : Int)) (by kernel_rfl) (wr_eq (by rw [Int.tdiv_eq_ediv_of_nonneg (by omega)]; omega) (by omega) (by omega)) ?_)
  refine pv (iv ((m : Nat) : Int)) ?_
  refine wl_end (fr [.slice (some ada) l.length ca, ud, pn, iv 0, iv ((m : Nat) : Int), ud, ud, .slice (some ada) l.length ca, iv (l.length : Nat), iv ((l.length % 512 : Nat) : Int), fv, .slice (some ada) l.length ca, iv (l.length : Nat), iv ((m : Nat) : Int)] 31) (by kernel_rfl) ?_
  refine then_n ?_
  refine wp_seq ?_
  refine wp_seq ?_
  refine wp_region_lit ?_
  refine pv (iv ((m : Nat) : Int)) ?_
  refine wl_gv rfl (gv_dec (p := (((m : Nat) : Int) : Int) < 1) (by kernel_rfl) (fun hd2 => False.elim (by omega)) (fun _ => ?_))
  refine pv fv ?_
  refine wl_when (by kernel_rfl) (gv_val (v := .int .i64 ((m : Nat) : Int)) (w' := w) (by kernel_rfl) ?_)
  refine wl_when (by kernel_rfl) (gv_dec (p := (((m : Nat) : Int) : Int) > 2048) (by kernel_rfl) (fun hd3 => False.elim (by omega)) (fun _ => ?_))
  refine pv fv ?_
  refine wl_end (fr [.slice (some ada) l.length ca, ud, pn, iv 0, iv ((m : Nat) : Int), ud, ud, .slice (some ada) l.length ca, iv (l.length : Nat), iv ((l.length % 512 : Nat) : Int), fv, .slice (some ada) l.length ca, iv (l.length : Nat), iv ((m : Nat) : Int), iv ((m : Nat) : Int), fv, fv, iv ((m : Nat) : Int), fv, fv] 25) (by kernel_rfl) ?_
  refine then_n ?_
  refine wp_cond_false (by kernel_rfl) ?_
  refine wp_skip ?_
  refine then_n ?_
  refine wp_seq ?_
  refine wp_region_lit ?_
  refine pv (.agg #[.slice none 0 0, .slice none 0 0, iv (-1), iv 1, iv 0, iv 0, iv 0, iv 0, iv 0]) ?_
  refine wl_gv rfl (gv_box (v := .agg #[.slice none 0 0, .slice none 0 0, .int .i64 (-1), .int .i64 1, .int .i64 0, .int .i64 0, .int .i64 0, .int .i64 0, .int .i64 0]) S rfl (by kernel_rfl) (fun g4 w5 hg6 S7 => ?_))
  have S8 : St F w0 w5 (stars (([] : List (Nat × List UInt8)).map PEnt.row) :: row g4 #[.slice none 0 0, .slice none 0 0, .int .i64 (-1), .int .i64 1, .int .i64 0, .int .i64 0, .int .i64 0, .int .i64 0, .int .i64 0] 96 :: L) := St.star_nil S7
  have S9 : St F w0 w5 (vec 31 1 (.slice none 0 0) 0 [] :: stars (([] : List (Nat × List UInt8)).map PEnt.row) :: row g4 #[.slice none 0 0, .slice none 0 0, .int .i64 (-1), .int .i64 1, .int .i64 0, .int .i64 0, .int .i64 0, .int .i64 0, .int .i64 0] 96 :: L) := St.vec_nil S8
  have S10 : St F w0 w5 (vec 31 1 (.slice none 0 0) 0 [] :: row g4 #[.slice none 0 0, .slice none 0 0, .int .i64 (-1), .int .i64 1, .int .i64 0, .int .i64 0, .int .i64 0, .int .i64 0, .int .i64 0] 96 :: stars (([] : List (Nat × List UInt8)).map PEnt.row) :: L) := St.permT [vec 31 1 (.slice none 0 0) 0 [], stars (([] : List (Nat × List UInt8)).map PEnt.row), row g4 #[.slice none 0 0, .slice none 0 0, .int .i64 (-1), .int .i64 1, .int .i64 0, .int .i64 0, .int .i64 0, .int .i64 0, .int .i64 0] 96] [0, 2, 1] (by decide) rfl S9
  refine pv (pq g4) ?_
  refine wl_end (fr [.slice (some ada) l.length ca, ud, pn, iv 0, iv ((m : Nat) : Int), pq g4, ud, .slice (some ada) l.length ca, iv (l.length : Nat), iv ((l.length % 512 : Nat) : Int), fv, .slice (some ada) l.length ca, iv (l.length : Nat), iv ((m : Nat) : Int), iv ((m : Nat) : Int), fv, fv, iv ((m : Nat) : Int), fv, fv, .agg #[.slice none 0 0, .slice none 0 0, iv (-1), iv 1, iv 0, iv 0, iv 0, iv 0, iv 0], pq g4] 23) (by kernel_rfl) ?_
  refine then_n ?_
  refine wp_seq ?_
  refine wp_seq ?_
  refine wp_region_lit ?_
  refine pv (iv 0) ?_
  refine wl_end (fr [.slice (some ada) l.length ca, ud, pn, iv 0, iv ((m : Nat) : Int), pq g4, iv 0, .slice (some ada) l.length ca, iv (l.length : Nat), iv ((l.length % 512 : Nat) : Int), fv, .slice (some ada) l.length ca, iv (l.length : Nat), iv ((m : Nat) : Int), iv ((m : Nat) : Int), fv, fv, iv ((m : Nat) : Int), fv, fv, .agg #[.slice none 0 0, .slice none 0 0, iv (-1), iv 1, iv 0, iv 0, iv 0, iv 0, iv 0], pq g4] 23) (by kernel_rfl) ?_
  refine then_n ?_
  refine wp_block ?_
  refine wp_loop_g (G := Nat × Value × List (Nat × List UInt8)) (fun (g_ : Nat × Value × List (Nat × List UInt8)) (a_ : Act) (w_ : World) => ∃ J : Nat → Value, a_ = (fr [.slice (some ada) l.length ca, ud, pn, iv 0, iv ((m : Nat) : Int), pq g4, iv ((g_.1 : Nat) : Int), .slice (some ada) l.length ca, iv (l.length : Nat), iv ((l.length % 512 : Nat) : Int), fv, .slice (some ada) l.length ca, iv (l.length : Nat), iv ((m : Nat) : Int), iv ((m : Nat) : Int), fv, fv, iv ((m : Nat) : Int), fv, fv, .agg #[.slice none 0 0, .slice none 0 0, iv (-1), iv 1, iv 0, iv 0, iv 0, iv 0, iv 0], pq g4, J 22, J 23, J 24, J 25, J 26, J 27, J 28, J 29, J 30, J 31, J 32, J 33, J 34, J 35, J 36, J 37, J 38, J 39, J 40, J 41, J 42, J 43] 1) ∧ St F w0 w_ (vec 31 1 g_.2.1 g_.2.2.length (g_.2.2.map PEnt.val) :: row g4 #[g_.2.1, .slice none 0 0, .int .i64 (-1), .int .i64 1, .int .i64 0, .int .i64 0, .int .i64 0, .int .i64 0, .int .i64 0] 96 :: stars (g_.2.2.map PEnt.row) :: L) ∧ (g_.1 ≤ m ∧ g_.2.2.map (·.2) = (secs l m).take g_.1)) (fun g_ => m - g_.1) (0, .slice none 0 0, []) ⟨(jl []), by kernel_rfl, S10, ⟨Nat.zero_le _, rfl⟩⟩ ?_
  rintro ⟨i, v, LL1⟩ a_ w11 ⟨J, rfl, S12, hI13⟩
  skip
  have S12 : St F w0 w11 (vec 31 1 v LL1.length (LL1.map PEnt.val) :: row g4 #[v, .slice none 0 0, .int .i64 (-1), .int .i64 1, .int .i64 0, .int .i64 0, .int .i64 0, .int .i64 0, .int .i64 0] 96 :: stars (LL1.map PEnt.row) :: L) := S12
  have hI13 : (i ≤ m ∧ LL1.map (·.2) = (secs l m).take i) := hI13
  refine wp_seq ?_
  refine wp_seq ?_
  refine wp_region_lit ?_
  refine pv (iv ((i : Nat) : Int)) ?_
  refine pv (iv ((m : Nat) : Int)) ?_
  refine wl_gv rfl (gv_dec (p := (((i : Nat) : Int) : Int) < ((m : Nat) : Int)) (by kernel_rfl) (fun hb14 => ?_) (fun hb14 => ?_))
  · skip
    have hl1 : LL1.length = i := by have := congrArg List.length hI13.2; rw [List.length_map, List.length_take, length_secs] at this; omega
    have hx5 : ((l.drop (512 * i)).take 512).length = 512 := by rw [List.length_take, List.length_drop]; omega
    refine wl_end (fr [.slice (some ada) l.length ca, ud, pn, iv 0, iv ((m : Nat) : Int), pq g4, iv ((i : Nat) : Int), .slice (some ada) l.length ca, iv (l.length : Nat), iv ((l.length % 512 : Nat) : Int), fv, .slice (some ada) l.length ca, iv (l.length : Nat), iv ((m : Nat) : Int), iv ((m : Nat) : Int), fv, fv, iv ((m : Nat) : Int), fv, fv, .agg #[.slice none 0 0, .slice none 0 0, iv (-1), iv 1, iv 0, iv 0, iv 0, iv 0, iv 0], pq g4, iv ((i : Nat) : Int), iv ((m : Nat) : Int), tv, J 25, J 26, J 27, J 28, J 29, J 30, J 31, J 32, J 33, J 34, J 35, J 36, J 37, J 38, J 39, J 40, J 41, J 42, J 43] 1) (by kernel_rfl) ?_
    refine then_n ?_
    refine wp_cond_true (by kernel_rfl) ?_
    refine wp_skip ?_
    refine then_n ?_
    refine wp_seq ?_
    refine wp_block ?_
    refine wp_region_phu (γ := Nat × Nat × Value) 18 [12, 13, 14, 17] (fun (c_ : Nat × Nat × Value) (i_ : Nat) => (match i_ with | 0 => .pointer (some ⟨g4, 0, none⟩) | 1 => .pointer (some ⟨g4, 0, none⟩) | 2 => .pointer (some ⟨g4, 0, none⟩) | 3 => .pointer (some ⟨g4, 0, none⟩) | 4 => v | 5 => .slice (some ada) l.length ca | 6 => .int .i64 ((i : Nat) : Int) | 7 => .int .i64 ((512 * i : Nat) : Int) | 8 => .int .i64 ((i : Nat) : Int) | 9 => .int .i64 ((512 * i : Nat) : Int) | 10 => .int .i64 ((512 * i + 512 : Nat) : Int) | 11 => .slice (some (ada.add (512 * i))) 512 (ca - 512 * i) | 12 => .slice (some ⟨c_.1, 0, none⟩) 512 512 | 13 => .slice (some ⟨c_.2.1, 0, none⟩) 1 1 | 14 => c_.2.2 | 15 => .pointer (some ⟨g4, 0, none⟩) | 16 => .pointer (some ⟨g4, 0, none⟩) | 17 => undef | _ => undef : Value)) (fun (c_ : Nat × Nat × Value) (p_ : Nat) (w_ : World) => (match p_ with | 0 => St F w0 w_ (vec 31 1 v LL1.length (LL1.map PEnt.val) :: row g4 #[v, .slice none 0 0, .int .i64 (-1), .int .i64 1, .int .i64 0, .int .i64 0, .int .i64 0, .int .i64 0, .int .i64 0] 96 :: stars (LL1.map PEnt.row) :: L) | 1 => St F w0 w_ (row c_.1 (bvs ((l.drop (512 * i)).take 512)) 5 :: vec 31 1 v LL1.length (LL1.map PEnt.val) :: row g4 #[v, .slice none 0 0, .int .i64 (-1), .int .i64 1, .int .i64 0, .int .i64 0, .int .i64 0, .int .i64 0, .int .i64 0] 96 :: stars (LL1.map PEnt.row) :: L) | 2 => St F w0 w_ (row c_.2.1 #[.slice (some ⟨c_.1, 0, none⟩) 512 512] 31 :: row c_.1 (bvs ((l.drop (512 * i)).take 512)) 5 :: vec 31 1 v LL1.length (LL1.map PEnt.val) :: row g4 #[v, .slice none 0 0, .int .i64 (-1), .int .i64 1, .int .i64 0, .int .i64 0, .int .i64 0, .int .i64 0, .int .i64 0] 96 :: stars (LL1.map PEnt.row) :: L) | 3 => St F w0 w_ (vec 31 1 c_.2.2 (LL1.length + 1) (LL1.map PEnt.val ++ [.slice (some ⟨c_.1, 0, none⟩) 512 512]) :: row c_.2.1 #[.slice (some ⟨c_.1, 0, none⟩) 512 512] 31 :: row c_.1 (bvs ((l.drop (512 * i)).take 512)) 5 :: row g4 #[v, .slice none 0 0, .int .i64 (-1), .int .i64 1, .int .i64 0, .int .i64 0, .int .i64 0, .int .i64 0, .int .i64 0] 96 :: stars (LL1.map PEnt.row) :: L) | _ => St F w0 w_ (vec 31 1 c_.2.2 (LL1.length + 1) (LL1.map PEnt.val ++ [.slice (some ⟨c_.1, 0, none⟩) 512 512]) :: row c_.2.1 #[.slice (some ⟨c_.1, 0, none⟩) 512 512] 31 :: row c_.1 (bvs ((l.drop (512 * i)).take 512)) 5 :: row g4 #[c_.2.2, .slice none 0 0, .int .i64 (-1), .int .i64 1, .int .i64 0, .int .i64 0, .int .i64 0, .int .i64 0, .int .i64 0] 96 :: stars (LL1.map PEnt.row) :: L) : Prop)) (0, 0, undef) (by kernel_rfl) (by kernel_rfl) (by kernel_rfl) (by kernel_rfl) (S12.drew) ?_ ?_ ?_
    · intro i_ c_ p_ vals_ w1 hi_ hiE_ hp_ hk_ hu_ hPh_ hd_
      rcases i_ with _ | _ | _ | _ | _ | _ | _ | _ | _ | _ | _ | _ | _ | _ | _ | _ | _ | _ | i_
      · skip
        refine told_free rfl rfl (gv_env ((⟨Array.replicate 45 undef, []⟩ : Act).put (some 5) (.pointer (some ⟨g4, 0, none⟩))) (by kernel_rfl) (xs := [.tmp 5]) (by kernel_rfl) (alike_cons (fill_past (by kernel_rfl) (by kernel_rfl)) alike_nil) (gv_val (v := .pointer (some ⟨g4, 0, none⟩)) (w' := w1) (by kernel_rfl) ?_))
        exact ⟨rfl, rfl⟩
      · skip
        refine told_free rfl rfl (gv_env ((⟨Array.replicate 45 undef, []⟩ : Act).put (some 5) (.pointer (some ⟨g4, 0, none⟩))) (by kernel_rfl) (xs := [.tmp 5]) (by kernel_rfl) (alike_cons (fill_past (by kernel_rfl) (by kernel_rfl)) alike_nil) (gv_val (v := .pointer (some ⟨g4, 0, none⟩)) (w' := w1) (by kernel_rfl) ?_))
        exact ⟨rfl, rfl⟩
      · skip
        refine told_free rfl rfl (gv_env ((⟨Array.replicate 45 undef, []⟩ : Act).put (some 28) (.pointer (some ⟨g4, 0, none⟩))) (by kernel_rfl) (xs := [.tmp 28]) (by kernel_rfl) (alike_cons (fill_at (k := 1) (by kernel_rfl) (by kernel_rfl) ((hd_ 1 (by kernel_rfl)).trans (by kernel_rfl))) alike_nil) (gv_val (v := .pointer (some ⟨g4, 0, none⟩)) (w' := w1) (by kernel_rfl) ?_))
        exact ⟨rfl, rfl⟩
      · skip
        refine told_free rfl rfl (gv_env ((⟨Array.replicate 45 undef, []⟩ : Act).put (some 29) (.pointer (some ⟨g4, 0, none⟩))) (by kernel_rfl) (xs := [.tmp 29]) (by kernel_rfl) (alike_cons (fill_at (k := 2) (by kernel_rfl) (by kernel_rfl) ((hd_ 2 (by kernel_rfl)).trans (by kernel_rfl))) alike_nil) (gv_val (v := .pointer (some ⟨g4, 0, none⟩)) (w' := w1) (by kernel_rfl) ?_))
        exact ⟨rfl, rfl⟩
      · skip
        rcases p_ with _ | _ | _ | _ | _ | p_
        · skip
          have S19 : St F w0 w1 (vec 31 1 v LL1.length (LL1.map PEnt.val) :: row g4 #[v, .slice none 0 0, .int .i64 (-1), .int .i64 1, .int .i64 0, .int .i64 0, .int .i64 0, .int .i64 0, .int .i64 0] 96 :: stars (LL1.map PEnt.row) :: L) := hPh_
          refine told_free rfl rfl (gv_env ((⟨Array.replicate 45 undef, []⟩ : Act).put (some 30) (.pointer (some ⟨g4, 0, none⟩))) (by kernel_rfl) (xs := [.tmp 30]) (by kernel_rfl) (alike_cons (fill_at (k := 3) (by kernel_rfl) (by kernel_rfl) ((hd_ 3 (by kernel_rfl)).trans (by kernel_rfl))) alike_nil) (gv_ldR (v := v) rfl (by kernel_rfl) (by kernel_rfl) (((S19.blk 1 rfl).cell 0).trans rfl) ?_))
          exact ⟨rfl, rfl⟩
        · skip
          have S20 : St F w0 w1 (row c_.1 (bvs ((l.drop (512 * i)).take 512)) 5 :: vec 31 1 v LL1.length (LL1.map PEnt.val) :: row g4 #[v, .slice none 0 0, .int .i64 (-1), .int .i64 1, .int .i64 0, .int .i64 0, .int .i64 0, .int .i64 0, .int .i64 0] 96 :: stars (LL1.map PEnt.row) :: L) := hPh_
          refine told_free rfl rfl (gv_env ((⟨Array.replicate 45 undef, []⟩ : Act).put (some 30) (.pointer (some ⟨g4, 0, none⟩))) (by kernel_rfl) (xs := [.tmp 30]) (by kernel_rfl) (alike_cons (fill_at (k := 3) (by kernel_rfl) (by kernel_rfl) ((hd_ 3 (by kernel_rfl)).trans (by kernel_rfl))) alike_nil) (gv_ldR (v := v) rfl (by kernel_rfl) (by kernel_rfl) (((S20.blk 2 rfl).cell 0).trans rfl) ?_))
          exact ⟨rfl, rfl⟩
        · skip
          have S21 : St F w0 w1 (row c_.2.1 #[.slice (some ⟨c_.1, 0, none⟩) 512 512] 31 :: row c_.1 (bvs ((l.drop (512 * i)).take 512)) 5 :: vec 31 1 v LL1.length (LL1.map PEnt.val) :: row g4 #[v, .slice none 0 0, .int .i64 (-1), .int .i64 1, .int .i64 0, .int .i64 0, .int .i64 0, .int .i64 0, .int .i64 0] 96 :: stars (LL1.map PEnt.row) :: L) := hPh_
          refine told_free rfl rfl (gv_env ((⟨Array.replicate 45 undef, []⟩ : Act).put (some 30) (.pointer (some ⟨g4, 0, none⟩))) (by kernel_rfl) (xs := [.tmp 30]) (by kernel_rfl) (alike_cons (fill_at (k := 3) (by kernel_rfl) (by kernel_rfl) ((hd_ 3 (by kernel_rfl)).trans (by kernel_rfl))) alike_nil) (gv_ldR (v := v) rfl (by kernel_rfl) (by kernel_rfl) (((S21.blk 3 rfl).cell 0).trans rfl) ?_))
          exact ⟨rfl, rfl⟩
        · skip
          exact absurd (hu_ 2 (by decide) (by kernel_rfl)) (by decide)
        · skip
          exact absurd (hu_ 2 (by decide) (by kernel_rfl)) (by decide)
        · exact absurd hp_ (by simp)
      · skip
        refine told_free rfl rfl (gv_env ((⟨Array.replicate 45 undef, []⟩ : Act).put (some 0) (.slice (some ada) l.length ca)) (by kernel_rfl) (xs := [.tmp 0]) (by kernel_rfl) (alike_cons (fill_past (by kernel_rfl) (by kernel_rfl)) alike_nil) (gv_val (v := .slice (some ada) l.length ca) (w' := w1) (by kernel_rfl) ?_))
        exact ⟨rfl, rfl⟩
      · skip
        refine told_free rfl rfl (gv_env ((⟨Array.replicate 45 undef, []⟩ : Act).put (some 6) (.int .i64 ((i : Nat) : Int))) (by kernel_rfl) (xs := [.tmp 6]) (by kernel_rfl) (alike_cons (fill_past (by kernel_rfl) (by kernel_rfl)) alike_nil) (gv_val (v := .int .i64 ((i : Nat) : Int)) (w' := w1) (by kernel_rfl) ?_))
        exact ⟨rfl, rfl⟩
      · skip
        refine told_free rfl rfl (gv_env ((⟨Array.replicate 45 undef, []⟩ : Act).put (some 33) (.int .i64 ((i : Nat) : Int))) (by kernel_rfl) (xs := [.tmp 33, .const (.int .i64 512)]) (by kernel_rfl) (alike_cons (fill_at (k := 6) (by kernel_rfl) (by kernel_rfl) ((hd_ 6 (by kernel_rfl)).trans (by kernel_rfl))) (alike_cons eval_c alike_nil)) (gv_int (k := .i64) (z := IntKind.i64.wrap (((i : Nat) : Int) * 512)) (z' := ((512 * i : Nat) : Int)) (by kernel_rfl) (wr_eq (by omega) (by omega) (by omega)) ?_))
        exact ⟨rfl, rfl⟩
      · skip
        refine told_free rfl rfl (gv_env ((⟨Array.replicate 45 undef, []⟩ : Act).put (some 6) (.int .i64 ((i : Nat) : Int))) (by kernel_rfl) (xs := [.tmp 6]) (by kernel_rfl) (alike_cons (fill_past (by kernel_rfl) (by kernel_rfl)) alike_nil) (gv_val (v := .int .i64 ((i : Nat) : Int)) (w' := w1) (by kernel_rfl) ?_))
        exact ⟨rfl, rfl⟩
      · skip
        refine told_free rfl rfl (gv_env ((⟨Array.replicate 45 undef, []⟩ : Act).put (some 35) (.int .i64 ((i : Nat) : Int))) (by kernel_rfl) (xs := [.tmp 35, .const (.int .i64 512)]) (by kernel_rfl) (alike_cons (fill_at (k := 8) (by kernel_rfl) (by kernel_rfl) ((hd_ 8 (by kernel_rfl)).trans (by kernel_rfl))) (alike_cons eval_c alike_nil)) (gv_int (k := .i64) (z := IntKind.i64.wrap (((i : Nat) : Int) * 512)) (z' := ((512 * i : Nat) : Int)) (by kernel_rfl) (wr_eq (by omega) (by omega) (by omega)) ?_))
        exact ⟨rfl, rfl⟩
      · skip
        refine told_free rfl rfl (gv_env ((⟨Array.replicate 45 undef, []⟩ : Act).put (some 36) (.int .i64 ((512 * i : Nat) : Int))) (by kernel_rfl) (xs := [.tmp 36, .const (.int .i64 512)]) (by kernel_rfl) (alike_cons (fill_at (k := 9) (by kernel_rfl) (by kernel_rfl) ((hd_ 9 (by kernel_rfl)).trans (by kernel_rfl))) (alike_cons eval_c alike_nil)) (gv_int (k := .i64) (z := IntKind.i64.wrap (((512 * i : Nat) : Int) + 512)) (z' := ((512 * i + 512 : Nat) : Int)) (by kernel_rfl) (wr_eq (by omega) (by omega) (by omega)) ?_))
        exact ⟨rfl, rfl⟩
      · skip
        refine told_free rfl rfl (gv_env ((((⟨Array.replicate 45 undef, []⟩ : Act).put (some 32) (.slice (some ada) l.length ca)).put (some 34) (.int .i64 ((512 * i : Nat) : Int))).put (some 37) (.int .i64 ((512 * i + 512 : Nat) : Int))) (by kernel_rfl) (xs := [.tmp 32, .tmp 34, .tmp 37]) (by kernel_rfl) (alike_cons (fill_at (k := 5) (by kernel_rfl) (by kernel_rfl) ((hd_ 5 (by kernel_rfl)).trans (by kernel_rfl))) (alike_cons (fill_at (k := 7) (by kernel_rfl) (by kernel_rfl) ((hd_ 7 (by kernel_rfl)).trans (by kernel_rfl))) (alike_cons (fill_at (k := 10) (by kernel_rfl) (by kernel_rfl) ((hd_ 10 (by kernel_rfl)).trans (by kernel_rfl))) alike_nil))) (gv_cutA (e := 5) (sz := 1) (ad := ada) (n := l.length) (c := ca) (kl := .i64) (kh := .i64) (u := ((512 * i : Nat) : Int)) (v := ((512 * i + 512 : Nat) : Int)) (lo := (512 * i)) (hi := (512 * i + 512)) (ad' := (ada.add (512 * i))) (n' := 512) (c' := (ca - 512 * i)) rfl (by kernel_rfl) (by kernel_rfl) (by kernel_rfl) (by kernel_rfl) (by kernel_rfl) rfl rfl (by omega) (by omega) (by omega) (by rw [Nat.mul_one]) (by omega) (by omega) ?_))
        exact ⟨rfl, rfl⟩
      · skip
        exact absurd hiE_ (by decide)
      · skip
        exact absurd hiE_ (by decide)
      · skip
        exact absurd hiE_ (by decide)
      · skip
        refine told_free rfl rfl (gv_env ((⟨Array.replicate 45 undef, []⟩ : Act).put (some 27) (.pointer (some ⟨g4, 0, none⟩))) (by kernel_rfl) (xs := [.tmp 27]) (by kernel_rfl) (alike_cons (fill_at (k := 0) (by kernel_rfl) (by kernel_rfl) ((hd_ 0 (by kernel_rfl)).trans (by kernel_rfl))) alike_nil) (gv_val (v := .pointer (some ⟨g4, 0, none⟩)) (w' := w1) (by kernel_rfl) ?_))
        exact ⟨rfl, rfl⟩
      · skip
        refine told_free rfl rfl (gv_env ((⟨Array.replicate 45 undef, []⟩ : Act).put (some 42) (.pointer (some ⟨g4, 0, none⟩))) (by kernel_rfl) (xs := [.tmp 42]) (by kernel_rfl) (alike_cons (fill_at (k := 15) (by kernel_rfl) (by kernel_rfl) ((hd_ 15 (by kernel_rfl)).trans (by kernel_rfl))) alike_nil) (gv_val (v := .pointer (some ⟨g4, 0, none⟩)) (w' := w1) (by kernel_rfl) ?_))
        exact ⟨rfl, rfl⟩
      · skip
        exact absurd hiE_ (by decide)
      · exact absurd hi_ (by omega)
    · intro k_ c_ vals_ w1 hk_ hPh_ hd_
      rcases k_ with _ | _ | _ | _ | k_
      · skip
        have S31 : St F w0 w1 (vec 31 1 v LL1.length (LL1.map PEnt.val) :: row g4 #[v, .slice none 0 0, .int .i64 (-1), .int .i64 1, .int .i64 0, .int .i64 0, .int .i64 0, .int .i64 0, .int .i64 0] 96 :: stars (LL1.map PEnt.row) :: L) := hPh_
        refine told_free rfl rfl (gv_env ((⟨Array.replicate 45 undef, []⟩ : Act).put (some 38) (.slice (some (ada.add (512 * i))) 512 (ca - 512 * i))) (by kernel_rfl) (xs := [.func 75, .tmp 38]) (by kernel_rfl) (alike_cons eval_fn (alike_cons (fill_at (k := 11) (by kernel_rfl) (by kernel_rfl) ((hd_ 11 (by kernel_rfl)).trans (by kernel_rfl))) alike_nil)) (gv_call (args := #[.slice (some (ada.add (512 * i))) 512 (ca - 512 * i)]) rfl Try.func75 (by kernel_rfl) rfl rfl (by kernel_rfl) ?_))
        refine Calls.mono (rtwinS (l := (l.drop (512 * i)).take 512) S31 (RoT.more (RoT.more (RoT.more (hr.sub (512 * i) 512)))) hx5 (by omega)) ?_
        rintro _ w33 ⟨g32, rfl, S34⟩
        refine ⟨_, rfl, ?_⟩
        refine ⟨(g32, c_.2.1, c_.2.2), rfl, ?_, S34⟩
        intro i_ hi_ hne_ hdp_
        rcases i_ with _ | _ | _ | _ | _ | _ | _ | _ | _ | _ | _ | _ | _ | _ | _ | _ | _ | _ | i_
        · rfl
        · rfl
        · rfl
        · rfl
        · rfl
        · rfl
        · rfl
        · rfl
        · rfl
        · rfl
        · rfl
        · rfl
        · exact absurd rfl hne_
        · exact (dep_no hdp_ (by kernel_rfl)).elim
        · exact (dep_no hdp_ (by kernel_rfl)).elim
        · exact (dep_no hdp_ (by kernel_rfl)).elim
        · exact (dep_no hdp_ (by kernel_rfl)).elim
        · exact (dep_no hdp_ (by kernel_rfl)).elim
        · exact absurd hi_ (by omega)
      · skip
        have S35 : St F w0 w1 (row c_.1 (bvs ((l.drop (512 * i)).take 512)) 5 :: vec 31 1 v LL1.length (LL1.map PEnt.val) :: row g4 #[v, .slice none 0 0, .int .i64 (-1), .int .i64 1, .int .i64 0, .int .i64 0, .int .i64 0, .int .i64 0, .int .i64 0] 96 :: stars (LL1.map PEnt.row) :: L) := hPh_
        refine told_free rfl rfl (gv_env ((⟨Array.replicate 45 undef, []⟩ : Act).put (some 39) (.slice (some ⟨c_.1, 0, none⟩) 512 512)) (by kernel_rfl) (xs := [.tmp 39]) (by kernel_rfl) (alike_cons (fill_at (k := 12) (by kernel_rfl) (by kernel_rfl) ((hd_ 12 (by kernel_rfl)).trans (by kernel_rfl))) alike_nil) (gv_slit (e := 31) (sz := 1) (z := .slice none 0 0) (by_ := 24) (vs := #[(0, .slice (some ⟨c_.1, 0, none⟩) 512 512)]) (cells := #[.slice (some ⟨c_.1, 0, none⟩) 512 512]) S35 rfl (by kernel_rfl) ⟨by kernel_rfl⟩ (by kernel_rfl) (by kernel_rfl) (by kernel_rfl) (by kernel_rfl) (fun g36 w37 hg38 S39 => ?_)))
        refine ⟨(c_.1, g36, c_.2.2), rfl, ?_, S39⟩
        intro i_ hi_ hne_ hdp_
        rcases i_ with _ | _ | _ | _ | _ | _ | _ | _ | _ | _ | _ | _ | _ | _ | _ | _ | _ | _ | i_
        · rfl
        · rfl
        · rfl
        · rfl
        · rfl
        · rfl
        · rfl
        · rfl
        · rfl
        · rfl
        · rfl
        · rfl
        · rfl
        · exact absurd rfl hne_
        · exact (dep_no hdp_ (by kernel_rfl)).elim
        · exact (dep_no hdp_ (by kernel_rfl)).elim
        · exact (dep_no hdp_ (by kernel_rfl)).elim
        · exact (dep_no hdp_ (by kernel_rfl)).elim
        · exact absurd hi_ (by omega)
      · skip
        have S40 : St F w0 w1 (row c_.2.1 #[.slice (some ⟨c_.1, 0, none⟩) 512 512] 31 :: row c_.1 (bvs ((l.drop (512 * i)).take 512)) 5 :: vec 31 1 v LL1.length (LL1.map PEnt.val) :: row g4 #[v, .slice none 0 0, .int .i64 (-1), .int .i64 1, .int .i64 0, .int .i64 0, .int .i64 0, .int .i64 0, .int .i64 0] 96 :: stars (LL1.map PEnt.row) :: L) := hPh_
        have S41 : St F w0 w1 (row c_.2.1 #[.slice (some ⟨c_.1, 0, none⟩) 512 512] 31 :: vec 31 1 v LL1.length (LL1.map PEnt.val) :: row c_.1 (bvs ((l.drop (512 * i)).take 512)) 5 :: row g4 #[v, .slice none 0 0, .int .i64 (-1), .int .i64 1, .int .i64 0, .int .i64 0, .int .i64 0, .int .i64 0, .int .i64 0] 96 :: stars (LL1.map PEnt.row) :: L) := St.permT [row c_.2.1 #[.slice (some ⟨c_.1, 0, none⟩) 512 512] 31, row c_.1 (bvs ((l.drop (512 * i)).take 512)) 5, vec 31 1 v LL1.length (LL1.map PEnt.val), row g4 #[v, .slice none 0 0, .int .i64 (-1), .int .i64 1, .int .i64 0, .int .i64 0, .int .i64 0, .int .i64 0, .int .i64 0] 96, stars (LL1.map PEnt.row)] [0, 2, 1, 3, 4] (by decide) rfl S40
        refine told_free rfl rfl (gv_env (((⟨Array.replicate 45 undef, []⟩ : Act).put (some 31) (v)).put (some 40) (.slice (some ⟨c_.2.1, 0, none⟩) 1 1)) (by kernel_rfl) (xs := [.tmp 31, .tmp 40]) (by kernel_rfl) (alike_cons (fill_at (k := 4) (by kernel_rfl) (by kernel_rfl) ((hd_ 4 (by kernel_rfl)).trans (by kernel_rfl))) (alike_cons (fill_at (k := 13) (by kernel_rfl) (by kernel_rfl) ((hd_ 13 (by kernel_rfl)).trans (by kernel_rfl))) alike_nil)) (gv_append (e := 31) (sz := 1) (n := LL1.length) (v := v) (vals := (LL1.map PEnt.val)) (z := .slice none 0 0) (by_ := 24) (m := 1) (c' := 1) (ad := ⟨c_.2.1, 0, none⟩) (news := [.slice (some ⟨c_.1, 0, none⟩) 512 512]) (St.swap S41) rfl (by kernel_rfl) ⟨by kernel_rfl⟩ rfl (by kernel_rfl) (by kernel_rfl) (by decide) rfl (row_news (S41.blk 0 rfl)) (by intro u hu; simp at hu; subst hu; rfl) (by omega) (by omega) (fun v43 w42 S44 => ?_)))
        refine ⟨(c_.1, c_.2.1, v43), rfl, ?_, S44⟩
        intro i_ hi_ hne_ hdp_
        rcases i_ with _ | _ | _ | _ | _ | _ | _ | _ | _ | _ | _ | _ | _ | _ | _ | _ | _ | _ | i_
        · rfl
        · rfl
        · rfl
        · rfl
        · rfl
        · rfl
        · rfl
        · rfl
        · rfl
        · rfl
        · rfl
        · rfl
        · rfl
        · rfl
        · exact absurd rfl hne_
        · exact (dep_no hdp_ (by kernel_rfl)).elim
        · exact (dep_no hdp_ (by kernel_rfl)).elim
        · exact (dep_no hdp_ (by kernel_rfl)).elim
        · exact absurd hi_ (by omega)
      · skip
        have S45 : St F w0 w1 (vec 31 1 c_.2.2 (LL1.length + 1) (LL1.map PEnt.val ++ [.slice (some ⟨c_.1, 0, none⟩) 512 512]) :: row c_.2.1 #[.slice (some ⟨c_.1, 0, none⟩) 512 512] 31 :: row c_.1 (bvs ((l.drop (512 * i)).take 512)) 5 :: row g4 #[v, .slice none 0 0, .int .i64 (-1), .int .i64 1, .int .i64 0, .int .i64 0, .int .i64 0, .int .i64 0, .int .i64 0] 96 :: stars (LL1.map PEnt.row) :: L) := hPh_
        refine told_free rfl rfl (gv_env (((⟨Array.replicate 45 undef, []⟩ : Act).put (some 43) (.pointer (some ⟨g4, 0, none⟩))).put (some 41) (c_.2.2)) (by kernel_rfl) (xs := [.tmp 43, .tmp 41]) (by kernel_rfl) (alike_cons (fill_at (k := 16) (by kernel_rfl) (by kernel_rfl) ((hd_ 16 (by kernel_rfl)).trans (by kernel_rfl))) (alike_cons (fill_at (k := 14) (by kernel_rfl) (by kernel_rfl) ((hd_ 14 (by kernel_rfl)).trans (by kernel_rfl))) alike_nil)) (gv_st (k := 0) (v := c_.2.2) S45 3 rfl rfl (by kernel_rfl) (by kernel_rfl) (by kernel_rfl) (St.vec_one S45 0 rfl) rfl (L' := (vec 31 1 c_.2.2 (LL1.length + 1) (LL1.map PEnt.val ++ [.slice (some ⟨c_.1, 0, none⟩) 512 512]) :: row c_.2.1 #[.slice (some ⟨c_.1, 0, none⟩) 512 512] 31 :: row c_.1 (bvs ((l.drop (512 * i)).take 512)) 5 :: row g4 #[c_.2.2, .slice none 0 0, .int .i64 (-1), .int .i64 1, .int .i64 0, .int .i64 0, .int .i64 0, .int .i64 0, .int .i64 0] 96 :: stars (LL1.map PEnt.row) :: L)) rfl (fun w46 S47 => ?_)))
        refine ⟨(c_.1, c_.2.1, c_.2.2), rfl, ?_, S47⟩
        intro i_ hi_ hne_ hdp_
        rcases i_ with _ | _ | _ | _ | _ | _ | _ | _ | _ | _ | _ | _ | _ | _ | _ | _ | _ | _ | i_
        · rfl
        · rfl
        · rfl
        · rfl
        · rfl
        · rfl
        · rfl
        · rfl
        · rfl
        · rfl
        · rfl
        · rfl
        · rfl
        · rfl
        · rfl
        · rfl
        · rfl
        · exact absurd rfl hne_
        · exact absurd hi_ (by omega)
      · exact absurd hk_ (by simp)
    · intro c_ w1 hPh_
      have S48 : St F w0 w1 (vec 31 1 c_.2.2 (LL1.length + 1) (LL1.map PEnt.val ++ [.slice (some ⟨c_.1, 0, none⟩) 512 512]) :: row c_.2.1 #[.slice (some ⟨c_.1, 0, none⟩) 512 512] 31 :: row c_.1 (bvs ((l.drop (512 * i)).take 512)) 5 :: row g4 #[c_.2.2, .slice none 0 0, .int .i64 (-1), .int .i64 1, .int .i64 0, .int .i64 0, .int .i64 0, .int .i64 0, .int .i64 0] 96 :: stars (LL1.map PEnt.row) :: L) := hPh_
      refine wl_frame (fr [.slice (some ada) l.length ca, ud, pn, iv 0, iv ((m : Nat) : Int), pq g4, iv ((i : Nat) : Int), .slice (some ada) l.length ca, iv (l.length : Nat), iv ((l.length % 512 : Nat) : Int), fv, .slice (some ada) l.length ca, iv (l.length : Nat), iv ((m : Nat) : Int), iv ((m : Nat) : Int), fv, fv, iv ((m : Nat) : Int), fv, fv, .agg #[.slice none 0 0, .slice none 0 0, iv (-1), iv 1, iv 0, iv 0, iv 0, iv 0, iv 0], pq g4, iv ((i : Nat) : Int), iv ((m : Nat) : Int), tv, J 25, J 26, pq g4, pq g4, pq g4, pq g4, v, .slice (some ada) l.length ca, iv ((i : Nat) : Int), iv ((512 * i : Nat) : Int), iv ((i : Nat) : Int), iv ((512 * i : Nat) : Int), iv ((512 * i + 512 : Nat) : Int), .slice (some (ada.add (512 * i))) 512 (ca - 512 * i), sl c_.1 0 512 512, sl c_.2.1 0 1 1, c_.2.2, pq g4, pq g4] 1) (by kernel_rfl) ?_
      refine wl_end (fr [.slice (some ada) l.length ca, ud, pn, iv 0, iv ((m : Nat) : Int), pq g4, iv ((i : Nat) : Int), .slice (some ada) l.length ca, iv (l.length : Nat), iv ((l.length % 512 : Nat) : Int), fv, .slice (some ada) l.length ca, iv (l.length : Nat), iv ((m : Nat) : Int), iv ((m : Nat) : Int), fv, fv, iv ((m : Nat) : Int), fv, fv, .agg #[.slice none 0 0, .slice none 0 0, iv (-1), iv 1, iv 0, iv 0, iv 0, iv 0, iv 0], pq g4, iv ((i : Nat) : Int), iv ((m : Nat) : Int), tv, J 25, J 26, pq g4, pq g4, pq g4, pq g4, v, .slice (some ada) l.length ca, iv ((i : Nat) : Int), iv ((512 * i : Nat) : Int), iv ((i : Nat) : Int), iv ((512 * i : Nat) : Int), iv ((512 * i + 512 : Nat) : Int), .slice (some (ada.add (512 * i))) 512 (ca - 512 * i), sl c_.1 0 512 512, sl c_.2.1 0 1 1, c_.2.2, pq g4, pq g4] 1) (by kernel_rfl) ?_
      refine inb_n ?_
      refine then_n ?_
      refine wp_region_lit ?_
      refine pv (iv ((i : Nat) : Int)) ?_
      refine wl_gv rfl (gv_int (k := .i64) (z := IntKind.i64.wrap (((i : Nat) : Int) + 1)) (z' := ((i + 1 : Nat) : Int)) (by kernel_rfl) (wr_eq (by omega) (by omega) (by omega)) ?_)
      refine pv (iv ((i + 1 : Nat) : Int)) ?_
      refine wl_end (fr [.slice (some ada) l.length ca, ud, pn, iv 0, iv ((m : Nat) : Int), pq g4, iv ((i + 1 : Nat) : Int), .slice (some ada) l.length ca, iv (l.length : Nat), iv ((l.length % 512 : Nat) : Int), fv, .slice (some ada) l.length ca, iv (l.length : Nat), iv ((m : Nat) : Int), iv ((m : Nat) : Int), fv, fv, iv ((m : Nat) : Int), fv, fv, .agg #[.slice none 0 0, .slice none 0 0, iv (-1), iv 1, iv 0, iv 0, iv 0, iv 0, iv 0], pq g4, iv ((i : Nat) : Int), iv ((m : Nat) : Int), tv, iv ((i : Nat) : Int), iv ((i + 1 : Nat) : Int), pq g4, pq g4, pq g4, pq g4, v, .slice (some ada) l.length ca, iv ((i : Nat) : Int), iv ((512 * i : Nat) : Int), iv ((i : Nat) : Int), iv ((512 * i : Nat) : Int), iv ((512 * i + 512 : Nat) : Int), .slice (some (ada.add (512 * i))) 512 (ca - 512 * i), sl c_.1 0 512 512, sl c_.2.1 0 1 1, c_.2.2, pq g4, pq g4] 1) (by kernel_rfl) ?_
      refine then_n ?_
      have S49 : St F w0 w1 (stars (LL1.map PEnt.row) :: row c_.1 (bvs ((l.drop (512 * i)).take 512)) 5 :: vec 31 1 c_.2.2 (LL1.length + 1) (LL1.map PEnt.val ++ [.slice (some ⟨c_.1, 0, none⟩) 512 512]) :: row g4 #[c_.2.2, .slice none 0 0, .int .i64 (-1), .int .i64 1, .int .i64 0, .int .i64 0, .int .i64 0, .int .i64 0, .int .i64 0] 96 :: L) := St.permT [vec 31 1 c_.2.2 (LL1.length + 1) (LL1.map PEnt.val ++ [.slice (some ⟨c_.1, 0, none⟩) 512 512]), row c_.2.1 #[.slice (some ⟨c_.1, 0, none⟩) 512 512] 31, row c_.1 (bvs ((l.drop (512 * i)).take 512)) 5, row g4 #[c_.2.2, .slice none 0 0, .int .i64 (-1), .int .i64 1, .int .i64 0, .int .i64 0, .int .i64 0, .int .i64 0, .int .i64 0] 96, stars (LL1.map PEnt.row)] [4, 2, 0, 3] (by decide) rfl S48
      have S8 := (St.star_join (LB := [_]) (St.swap (St.one_star (St.swap S49))))
      have hm9 : LL1.map PEnt.row ++ [row c_.1 (bvs ((l.drop (512 * i)).take 512)) 5] = (LL1 ++ [((c_.1, (l.drop (512 * i)).take 512) : Nat × List UInt8)]).map PEnt.row := by rw [List.map_append]; rfl
      have hv9 : LL1.map PEnt.val ++ [.slice (some ⟨c_.1, 0, none⟩) 512 512] = (LL1 ++ [((c_.1, (l.drop (512 * i)).take 512) : Nat × List UInt8)]).map PEnt.val := by rw [List.map_append]; rfl
      have hn9 : LL1.length + 1 = (LL1 ++ [((c_.1, (l.drop (512 * i)).take 512) : Nat × List UInt8)]).length := by rw [List.length_append]; rfl
      rw [hm9, hv9, hn9] at S8
      have S50 : St F w0 w1 (vec 31 1 c_.2.2 (LL1 ++ [((c_.1, (l.drop (512 * i)).take 512) : Nat × List UInt8)]).length ((LL1 ++ [((c_.1, (l.drop (512 * i)).take 512) : Nat × List UInt8)]).map PEnt.val) :: row g4 #[c_.2.2, .slice none 0 0, .int .i64 (-1), .int .i64 1, .int .i64 0, .int .i64 0, .int .i64 0, .int .i64 0, .int .i64 0] 96 :: stars ((LL1 ++ [((c_.1, (l.drop (512 * i)).take 512) : Nat × List UInt8)]).map PEnt.row) :: L) := St.permT [stars ((LL1 ++ [((c_.1, (l.drop (512 * i)).take 512) : Nat × List UInt8)]).map PEnt.row), vec 31 1 c_.2.2 (LL1 ++ [((c_.1, (l.drop (512 * i)).take 512) : Nat × List UInt8)]).length ((LL1 ++ [((c_.1, (l.drop (512 * i)).take 512) : Nat × List UInt8)]).map PEnt.val), row g4 #[c_.2.2, .slice none 0 0, .int .i64 (-1), .int .i64 1, .int .i64 0, .int .i64 0, .int .i64 0, .int .i64 0, .int .i64 0] 96] [1, 2, 0] (by decide) rfl S8
      exact ⟨(i + 1, c_.2.2, LL1 ++ [(c_.1, (l.drop (512 * i)).take 512)]), ⟨(jl [ud, ud, ud, ud, ud, ud, ud, ud, ud, ud, ud, ud, ud, ud, ud, ud, ud, ud, ud, ud, ud, ud, iv ((i : Nat) : Int), iv ((m : Nat) : Int), tv, iv ((i : Nat) : Int), iv ((i + 1 : Nat) : Int), pq g4, pq g4, pq g4, pq g4, v, .slice (some ada) l.length ca, iv ((i : Nat) : Int), iv ((512 * i : Nat) : Int), iv ((i : Nat) : Int), iv ((512 * i : Nat) : Int), iv ((512 * i + 512 : Nat) : Int), .slice (some (ada.add (512 * i))) 512 (ca - 512 * i), sl c_.1 0 512 512, sl c_.2.1 0 1 1, c_.2.2, pq g4, pq g4]), by kernel_rfl, S50, ⟨by omega, by rw [List.map_append, hI13.2, show (secs l m).take ((i + 1 : Nat)) = (secs l m).take i ++ [(l.drop (512 * i)).take 512] from by rw [List.take_add_one (l := secs l m) (i := i), secs_get _ _ _ (show i < m by omega)]; rfl]; rfl⟩⟩, (by show m - (i + 1) < m - i; omega)⟩
  · skip
    refine wl_end (fr [.slice (some ada) l.length ca, ud, pn, iv 0, iv ((m : Nat) : Int), pq g4, iv ((i : Nat) : Int), .slice (some ada) l.length ca, iv (l.length : Nat), iv ((l.length % 512 : Nat) : Int), fv, .slice (some ada) l.length ca, iv (l.length : Nat), iv ((m : Nat) : Int), iv ((m : Nat) : Int), fv, fv, iv ((m : Nat) : Int), fv, fv, .agg #[.slice none 0 0, .slice none 0 0, iv (-1), iv 1, iv 0, iv 0, iv 0, iv 0, iv 0], pq g4, iv ((i : Nat) : Int), iv ((m : Nat) : Int), fv, J 25, J 26, J 27, J 28, J 29, J 30, J 31, J 32, J 33, J 34, J 35, J 36, J 37, J 38, J 39, J 40, J 41, J 42, J 43] 1) (by kernel_rfl) ?_
    refine then_n ?_
    refine wp_cond_false (by kernel_rfl) ?_
    refine wp_exit ?_
    refine then_x ?_
    refine then_x ?_
    refine inb_x ?_
    refine then_n ?_
    refine wp_seq ?_
    refine wp_region_lit ?_
    refine pv (pq g4) ?_
    refine pv (pq g4) ?_
    refine pv (iv 0) ?_
    refine wl_end (fr [.slice (some ada) l.length ca, ud, pq g4, iv 0, iv ((m : Nat) : Int), pq g4, iv ((i : Nat) : Int), .slice (some ada) l.length ca, iv (l.length : Nat), iv ((l.length % 512 : Nat) : Int), fv, .slice (some ada) l.length ca, iv (l.length : Nat), iv ((m : Nat) : Int), iv ((m : Nat) : Int), fv, fv, iv ((m : Nat) : Int), fv, fv, .agg #[.slice none 0 0, .slice none 0 0, iv (-1), iv 1, iv 0, iv 0, iv 0, iv 0, iv 0], pq g4, iv ((i : Nat) : Int), iv ((m : Nat) : Int), fv, J 25, J 26, J 27, J 28, J 29, J 30, J 31, J 32, J 33, J 34, J 35, J 36, J 37, J 38, J 39, J 40, J 41, J 42, J 43, pq g4] 0) (by kernel_rfl) ?_
    refine then_n ?_
    refine wp_ret ?_
    refine bodyPost_ret (v := .tuple #[.pointer (some ⟨g4, 0, none⟩), .int .i64 0]) (results_t2 rfl (by kernel_rfl) (by kernel_rfl)) rfl ?_
    obtain rfl : i = m := by omega
    have hsl := length_secs i l
    have hms : LL1.map (·.2) = secs l i := hI13.2.trans (List.take_of_length_le (by rw [hsl]; exact Nat.le_refl _))
    have hl1 : LL1.length = i := by have := congrArg List.length hms; rw [List.length_map, hsl] at this; exact this
    obtain ⟨gl, cl, junk, rfl, hcl, hle, hju, S8⟩ := St.vec_open S12 (by omega)
    have S9 := St.permT [_, _, _, _] [2, 1, 0, 3] (by decide) rfl (St.vec_nil (e := 99) (sz := 2) S8)
    exact ⟨g4, rfl, St.rclose (gl := gl) (cl := cl) (c2 := 0) (A2 := none) (junk := junk) (LL := LL1) (PP := []) (pool := LL1) S9 (RFacts.mk0 hms (secs_len i l ho) (by rw [hsl]; exact h1) (by rw [hsl]; exact h2) (fun x hx => hx)) hcl hju⟩
end Go.Proofs
