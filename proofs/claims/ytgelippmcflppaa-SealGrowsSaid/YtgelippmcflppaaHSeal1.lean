/- Lists of bytes are copied, compared, summed. -/
import Derived.Test.YtgelippmcflppaaHByte
import Derived.Test.YtgelippmcflppaaHSeal
open Go Go.RowKit Go.Proofs.YtgelippmcflppaaW.PrintWords Go.Proofs.YtgelippmcflppaaW.PrintMore
namespace Go.Proofs
open Go.Vel
set_option linter.unusedVariables false
set_option maxRecDepth 100000
set_option maxHeartbeats 4000000
attribute [local irreducible] gives wpList Code.wp

theorem tw3 {F : Nat → Prop} {w0 w : World} {L : List Ast} (S : St F w0 w L) {A : Option Addr} {l : List UInt8} {ca : Nat} (hr : RoT F w0 L A l) (hlm : l.length ≤ 140737488355328) : Calls Try.prog 26 #[.slice A l.length ca] w fun e w' => ∃ A c, e = .returned (.slice A l.length c) ∧ St F w0 w' (vec 5 1 (.slice A l.length c) l.length (l.map bv) :: L) := by
  have S1 : St F w0 w (vec 5 1 (.slice none 0 0) 0 ([].map bv) :: L) := St.vec_nil S
  refine wp_enter (fr [.slice A l.length ca] 18) Try.func26 rfl (by kernel_rfl) ?_
  refine wp_seq ?_
  refine wp_region_lit ?_
  refine pv (.slice none 0 0) ?_
  refine wl_end (fr [.slice A l.length ca, ud, .slice none 0 0] 16) (by kernel_rfl) ?_
  refine then_n ?_
  refine wp_seq ?_
  refine wp_region_lit ?_
  refine pv (.slice none 0 0) ?_
  refine wl_end (fr [.slice A l.length ca, ud, .slice none 0 0, .slice none 0 0] 15) (by kernel_rfl) ?_
  refine then_n ?_
  refine wp_seq ?_
  refine wp_seq ?_
  refine wp_region_lit ?_
  refine pv (iv 0) ?_
  refine wl_end (fr [.slice A l.length ca, ud, .slice none 0 0, .slice none 0 0, iv 0] 14) (by kernel_rfl) ?_
  refine then_n ?_
  refine wp_block ?_
  refine wp_loop_g (G := Nat × Option Addr × Nat) (fun (g_ : Nat × Option Addr × Nat) (a_ : Act) (w_ : World) => ∃ J : Nat → Value, a_ = (fr [.slice A l.length ca, ud, .slice none 0 0, .slice g_.2.1 g_.1 g_.2.2, iv ((g_.1 : Nat) : Int), J 5, J 6, J 7, J 8, J 9, J 10, J 11, J 12, J 13, J 14, J 15, J 16, J 17] 1) ∧ St F w0 w_ (vec 5 1 (.slice g_.2.1 g_.1 g_.2.2) g_.1 ((pre l g_.1).map bv) :: L) ∧ (g_.1 ≤ l.length)) (fun g_ => l.length - g_.1) (0, none, 0) ⟨(jl []), by kernel_rfl, S1, Nat.zero_le _⟩ ?_
  rintro ⟨i, A5, c5⟩ a_ w2 ⟨J, rfl, S3, hI4⟩
  skip
  have S3 : St F w0 w2 (vec 5 1 (.slice A5 i c5) i ((pre l i).map bv) :: L) := S3
  have hI4 : (i ≤ l.length) := hI4
  refine wp_seq ?_
  refine wp_seq ?_
  refine wp_region_lit ?_
  refine pv (iv ((i : Nat) : Int)) ?_
  refine pv (.slice A l.length ca) ?_
  refine pv (iv (l.length : Nat)) ?_
  refine wl_gv rfl (gv_dec (p := (((i : Nat) : Int) : Int) < (l.length : Nat)) (by kernel_rfl) (fun hb5 => ?_) (fun hb5 => ?_))
  · skip
    have hi : i < l.length := by omega
    obtain ⟨ad, had⟩ := (hr.out _ [vec 5 1 (.slice A5 i c5) i ((pre l i).map bv)] S3).at hi
    refine wl_end (fr [.slice A l.length ca, ud, .slice none 0 0, .slice A5 i c5, iv ((i : Nat) : Int), iv ((i : Nat) : Int), .slice A l.length ca, iv (l.length : Nat), tv, J 9, J 10, J 11, J 12, J 13, J 14, J 15, J 16, J 17] 1) (by kernel_rfl) ?_
    refine then_n ?_
    refine wp_cond_true (by kernel_rfl) ?_
    refine wp_skip ?_
    refine then_n ?_
    refine wp_seq ?_
    refine wp_block ?_
    refine wp_region_lit ?_
    refine pv (.slice A5 i c5) ?_
    refine pv (.slice A l.length ca) ?_
    refine pv (iv ((i : Nat) : Int)) ?_
    refine wl_gv rfl (gv_ixB (e := 5) (sz := 1) (n := l.length) (c := ca) (i := ((i : Nat) : Int)) (k := .i64) (ad := ad) (ad' := (ad.add i)) (j := i) rfl (by kernel_rfl) (by kernel_rfl) (by rw [← had]; kernel_rfl) (by kernel_rfl) rfl hi (by rw [Nat.mul_one]) ?_)
    refine wl_gv rfl (gv_ldR (v := .int .u8 ((l.getD i 0).toNat : Int)) rfl (by kernel_rfl) (by kernel_rfl) ((had ▸ hr.out _ [vec 5 1 (.slice A5 i c5) i ((pre l i).map bv)] S3 : RdB _ (some ad) l).cell hi) ?_)
    refine wl_gv rfl (gv_slit (e := 5) (sz := 1) (z := .int .u8 0) (by_ := 1) (vs := #[(0, .int .u8 ((l.getD i 0).toNat : Int))]) (cells := #[.int .u8 ((l.getD i 0).toNat : Int)]) S3 rfl (by kernel_rfl) ⟨by kernel_rfl⟩ (by kernel_rfl) (by kernel_rfl) (by kernel_rfl) (by kernel_rfl) (fun g6 w7 hg8 S9 => ?_))
    have S10 : St F w0 w7 (row g6 #[.int .u8 ((l.getD i 0).toNat : Int)] 5 :: vec 5 1 (.slice A5 i c5) i ((pre l i).map bv) :: L) := St.permT [row g6 #[.int .u8 ((l.getD i 0).toNat : Int)] 5, vec 5 1 (.slice A5 i c5) i ((pre l i).map bv)] [0, 1] (by decide) rfl S9
    refine wl_gv rfl (gv_append (e := 5) (sz := 1) (n := i) (v := (.slice A5 i c5)) (vals := ((pre l i).map bv)) (z := .int .u8 0) (by_ := 1) (m := 1) (c' := 1) (ad := ⟨g6, 0, none⟩) (news := [.int .u8 ((l.getD i 0).toNat : Int)]) (St.swap S10) rfl (by kernel_rfl) ⟨by kernel_rfl⟩ rfl (by kernel_rfl) (by kernel_rfl) (by decide) rfl (row_news (S10.blk 0 rfl)) (by intro u hu; simp at hu; subst hu; rfl) (by omega) (by omega) (fun v12 w11 S13 => ?_))
    have S14 : St F w0 w11 (vec 5 1 v12 (i + 1) ((pre l i).map bv ++ [.int .u8 ((l.getD i 0).toNat : Int)]) :: L) := St.permT [vec 5 1 v12 (i + 1) ((pre l i).map bv ++ [.int .u8 ((l.getD i 0).toNat : Int)]), row g6 #[.int .u8 ((l.getD i 0).toNat : Int)] 5] [0] (by decide) rfl S13
    rw [pre_succ] at S14
    obtain ⟨A15, c16, rfl⟩ := St.vecV S14 0 rfl
    change St F w0 w11 (vec 5 1 (.slice A15 (i + 1) c16) (i + 1) ((pre l (i + 1)).map bv) :: L) at S14
    refine pv (.slice A15 (i + 1) c16) ?_
    refine wl_end (fr [.slice A l.length ca, ud, .slice none 0 0, .slice A15 (i + 1) c16, iv ((i : Nat) : Int), iv ((i : Nat) : Int), .slice A l.length ca, iv (l.length : Nat), tv, J 9, J 10, .slice A5 i c5, .slice A l.length ca, iv ((i : Nat) : Int), .pointer (some (ad.add i)), .int .u8 ((l.getD i 0).toNat : Int), sl g6 0 1 1, .slice A15 (i + 1) c16] 1) (by kernel_rfl) ?_
    refine inb_n ?_
    refine then_n ?_
    refine wp_region_lit ?_
    refine pv (iv ((i : Nat) : Int)) ?_
    refine wl_gv rfl (gv_int (k := .i64) (z := IntKind.i64.wrap (((i : Nat) : Int) + 1)) (z' := ((i + 1 : Nat) : Int)) (by kernel_rfl) (wr_eq (by omega) (by omega) (by omega)) ?_)
    refine pv (iv ((i + 1 : Nat) : Int)) ?_
    refine wl_end (fr [.slice A l.length ca, ud, .slice none 0 0, .slice A15 (i + 1) c16, iv ((i + 1 : Nat) : Int), iv ((i : Nat) : Int), .slice A l.length ca, iv (l.length : Nat), tv, iv ((i : Nat) : Int), iv ((i + 1 : Nat) : Int), .slice A5 i c5, .slice A l.length ca, iv ((i : Nat) : Int), .pointer (some (ad.add i)), .int .u8 ((l.getD i 0).toNat : Int), sl g6 0 1 1, .slice A15 (i + 1) c16] 1) (by kernel_rfl) ?_
    refine then_n ?_
    exact ⟨(i + 1, A15, c16), ⟨(jl [ud, ud, ud, ud, ud, iv ((i : Nat) : Int), .slice A l.length ca, iv (l.length : Nat), tv, iv ((i : Nat) : Int), iv ((i + 1 : Nat) : Int), .slice A5 i c5, .slice A l.length ca, iv ((i : Nat) : Int), .pointer (some (ad.add i)), .int .u8 ((l.getD i 0).toNat : Int), sl g6 0 1 1, .slice A15 (i + 1) c16]), by kernel_rfl, S14, (by omega)⟩, (by show l.length - (i + 1) < l.length - i; omega)⟩
  · skip
    refine wl_end (fr [.slice A l.length ca, ud, .slice none 0 0, .slice A5 i c5, iv ((i : Nat) : Int), iv ((i : Nat) : Int), .slice A l.length ca, iv (l.length : Nat), fv, J 9, J 10, J 11, J 12, J 13, J 14, J 15, J 16, J 17] 1) (by kernel_rfl) ?_
    refine then_n ?_
    refine wp_cond_false (by kernel_rfl) ?_
    refine wp_exit ?_
    refine then_x ?_
    refine then_x ?_
    refine inb_x ?_
    refine then_n ?_
    refine wp_seq ?_
    refine wp_region_lit ?_
    refine pv (.slice A5 i c5) ?_
    refine pv (.slice A5 i c5) ?_
    refine wl_end (fr [.slice A l.length ca, ud, .slice A5 i c5, .slice A5 i c5, iv ((i : Nat) : Int), iv ((i : Nat) : Int), .slice A l.length ca, iv (l.length : Nat), fv, J 9, J 10, J 11, J 12, J 13, J 14, J 15, J 16, J 17, .slice A5 i c5] 0) (by kernel_rfl) ?_
    refine then_n ?_
    refine wp_ret ?_
    refine bodyPost_ret (v := .slice A5 i c5) (results_t1 rfl (by kernel_rfl)) rfl ?_
    have hie : i = l.length := by omega
    rw [hie, pre_all] at S3
    exact ⟨_, _, by rw [hie], S3⟩
/-- 512 bytes that begin with these. -/
def sec3 (l : List UInt8) : List UInt8 := pre l 512
theorem sec3_len (l : List UInt8) : (sec3 l).length = 512 := length_pre l 512
theorem se3 {F : Nat → Prop} {w0 w : World} {L : List Ast} (S : St F w0 w L) {A : Option Addr} {l : List UInt8} {ca : Nat} (hr : RoT F w0 L A l) (hlm : l.length ≤ 140737488355328) : Calls Try.prog 18 #[.slice A l.length ca] w fun e w' => ∃ A c, e = .returned (.slice A 512 c) ∧ St F w0 w' (vec 5 1 (.slice A 512 c) 512 ((sec3 l).map bv) :: L) := by
  have S1 : St F w0 w (vec 5 1 (.slice none 0 0) 0 ([].map bv) :: L) := St.vec_nil S
  refine wp_enter (fr [.slice A l.length ca] 23) Try.func18 rfl (by kernel_rfl) ?_
  refine wp_seq ?_
  refine wp_region_lit ?_
  refine pv (.slice none 0 0) ?_
  refine wl_end (fr [.slice A l.length ca, ud, .slice none 0 0] 21) (by kernel_rfl) ?_
  refine then_n ?_
  refine wp_seq ?_
  refine wp_region_lit ?_
  refine pv (.slice none 0 0) ?_
  refine wl_end (fr [.slice A l.length ca, ud, .slice none 0 0, .slice none 0 0] 20) (by kernel_rfl) ?_
  refine then_n ?_
  refine wp_seq ?_
  refine wp_seq ?_
  refine wp_region_lit ?_
  refine pv (iv 0) ?_
  refine wl_end (fr [.slice A l.length ca, ud, .slice none 0 0, .slice none 0 0, iv 0] 19) (by kernel_rfl) ?_
  refine then_n ?_
  refine wp_block ?_
  refine wp_loop_g (G := Nat × Option Addr × Nat) (fun (g_ : Nat × Option Addr × Nat) (a_ : Act) (w_ : World) => ∃ J : Nat → Value, a_ = (fr [.slice A l.length ca, ud, .slice none 0 0, .slice g_.2.1 g_.1 g_.2.2, iv ((g_.1 : Nat) : Int), J 5, J 6, J 7, J 8, J 9, J 10, J 11, J 12, J 13, J 14, J 15, J 16, J 17, J 18, J 19, J 20, J 21, J 22] 1) ∧ St F w0 w_ (vec 5 1 (.slice g_.2.1 g_.1 g_.2.2) g_.1 ((pre l g_.1).map bv) :: L) ∧ (g_.1 ≤ 512)) (fun g_ => 512 - g_.1) (0, none, 0) ⟨(jl []), by kernel_rfl, S1, Nat.zero_le _⟩ ?_
  rintro ⟨i, A5, c5⟩ a_ w2 ⟨J, rfl, S3, hI4⟩
  skip
  have S3 : St F w0 w2 (vec 5 1 (.slice A5 i c5) i ((pre l i).map bv) :: L) := S3
  have hI4 : (i ≤ 512) := hI4
  refine wp_seq ?_
  refine wp_seq ?_
  refine wp_region_lit ?_
  refine pv (iv ((i : Nat) : Int)) ?_
  refine wl_gv rfl (gv_dec (p := (((i : Nat) : Int) : Int) < 512) (by kernel_rfl) (fun hb5 => ?_) (fun hb5 => ?_))
  · skip
    refine wl_end (fr [.slice A l.length ca, ud, .slice none 0 0, .slice A5 i c5, iv ((i : Nat) : Int), iv ((i : Nat) : Int), tv, J 7, J 8, J 9, J 10, J 11, J 12, J 13, J 14, J 15, J 16, J 17, J 18, J 19, J 20, J 21, J 22] 1) (by kernel_rfl) ?_
    refine then_n ?_
    refine wp_cond_true (by kernel_rfl) ?_
    refine wp_skip ?_
    refine then_n ?_
    refine wp_seq ?_
    refine wp_block ?_
    refine wp_seq ?_
    refine wp_region_lit ?_
    refine pv (iv ((i : Nat) : Int)) ?_
    refine pv (.slice A l.length ca) ?_
    refine pv (iv (l.length : Nat)) ?_
    refine wl_gv rfl (gv_dec (p := (((i : Nat) : Int) : Int) < (l.length : Nat)) (by kernel_rfl) (fun hb6 => ?_) (fun hb6 => ?_))
    · skip
      have hi : i < l.length := by omega
      obtain ⟨ad, had⟩ := (hr.out _ [vec 5 1 (.slice A5 i c5) i ((pre l i).map bv)] S3).at hi
      refine wl_end (fr [.slice A l.length ca, ud, .slice none 0 0, .slice A5 i c5, iv ((i : Nat) : Int), iv ((i : Nat) : Int), tv, J 7, J 8, iv ((i : Nat) : Int), .slice A l.length ca, iv (l.length : Nat), tv, J 13, J 14, J 15, J 16, J 17, J 18, J 19, J 20, J 21, J 22] 1) (by kernel_rfl) ?_
      refine then_n ?_
      refine wp_cond_true (by kernel_rfl) ?_
      refine wp_region_lit ?_
      refine pv (.slice A5 i c5) ?_
      refine pv (.slice A l.length ca) ?_
      refine pv (iv ((i : Nat) : Int)) ?_
      refine wl_gv rfl (gv_ixB (e := 5) (sz := 1) (n := l.length) (c := ca) (i := ((i : Nat) : Int)) (k := .i64) (ad := ad) (ad' := (ad.add i)) (j := i) rfl (by kernel_rfl) (by kernel_rfl) (by rw [← had]; kernel_rfl) (by kernel_rfl) rfl hi (by rw [Nat.mul_one]) ?_)
      refine wl_gv rfl (gv_ldR (v := .int .u8 ((l.getD i 0).toNat : Int)) rfl (by kernel_rfl) (by kernel_rfl) ((had ▸ hr.out _ [vec 5 1 (.slice A5 i c5) i ((pre l i).map bv)] S3 : RdB _ (some ad) l).cell hi) ?_)
      refine wl_gv rfl (gv_slit (e := 5) (sz := 1) (z := .int .u8 0) (by_ := 1) (vs := #[(0, .int .u8 ((l.getD i 0).toNat : Int))]) (cells := #[.int .u8 ((l.getD i 0).toNat : Int)]) S3 rfl (by kernel_rfl) ⟨by kernel_rfl⟩ (by kernel_rfl) (by kernel_rfl) (by kernel_rfl) (by kernel_rfl) (fun g7 w8 hg9 S10 => ?_))
      have S11 : St F w0 w8 (row g7 #[.int .u8 ((l.getD i 0).toNat : Int)] 5 :: vec 5 1 (.slice A5 i c5) i ((pre l i).map bv) :: L) := St.permT [row g7 #[.int .u8 ((l.getD i 0).toNat : Int)] 5, vec 5 1 (.slice A5 i c5) i ((pre l i).map bv)] [0, 1] (by decide) rfl S10
      refine wl_gv rfl (gv_append (e := 5) (sz := 1) (n := i) (v := (.slice A5 i c5)) (vals := ((pre l i).map bv)) (z := .int .u8 0) (by_ := 1) (m := 1) (c' := 1) (ad := ⟨g7, 0, none⟩) (news := [.int .u8 ((l.getD i 0).toNat : Int)]) (St.swap S11) rfl (by kernel_rfl) ⟨by kernel_rfl⟩ rfl (by kernel_rfl) (by kernel_rfl) (by decide) rfl (row_news (S11.blk 0 rfl)) (by intro u hu; simp at hu; subst hu; rfl) (by omega) (by omega) (fun v13 w12 S14 => ?_))
      have S15 : St F w0 w12 (vec 5 1 v13 (i + 1) ((pre l i).map bv ++ [.int .u8 ((l.getD i 0).toNat : Int)]) :: L) := St.permT [vec 5 1 v13 (i + 1) ((pre l i).map bv ++ [.int .u8 ((l.getD i 0).toNat : Int)]), row g7 #[.int .u8 ((l.getD i 0).toNat : Int)] 5] [0] (by decide) rfl S14
      rw [pre_succ] at S15
      obtain ⟨A16, c17, rfl⟩ := St.vecV S15 0 rfl
      change St F w0 w12 (vec 5 1 (.slice A16 (i + 1) c17) (i + 1) ((pre l (i + 1)).map bv) :: L) at S15
      refine pv (.slice A16 (i + 1) c17) ?_
      refine wl_end (fr [.slice A l.length ca, ud, .slice none 0 0, .slice A16 (i + 1) c17, iv ((i : Nat) : Int), iv ((i : Nat) : Int), tv, J 7, J 8, iv ((i : Nat) : Int), .slice A l.length ca, iv (l.length : Nat), tv, .slice A5 i c5, .slice A l.length ca, iv ((i : Nat) : Int), .pointer (some (ad.add i)), .int .u8 ((l.getD i 0).toNat : Int), sl g7 0 1 1, .slice A16 (i + 1) c17, J 20, J 21, J 22] 1) (by kernel_rfl) ?_
      refine inb_n ?_
      refine then_n ?_
      refine wp_region_lit ?_
      refine pv (iv ((i : Nat) : Int)) ?_
      refine wl_gv rfl (gv_int (k := .i64) (z := IntKind.i64.wrap (((i : Nat) : Int) + 1)) (z' := ((i + 1 : Nat) : Int)) (by kernel_rfl) (wr_eq (by omega) (by omega) (by omega)) ?_)
      refine pv (iv ((i + 1 : Nat) : Int)) ?_
      refine wl_end (fr [.slice A l.length ca, ud, .slice none 0 0, .slice A16 (i + 1) c17, iv ((i + 1 : Nat) : Int), iv ((i : Nat) : Int), tv, iv ((i : Nat) : Int), iv ((i + 1 : Nat) : Int), iv ((i : Nat) : Int), .slice A l.length ca, iv (l.length : Nat), tv, .slice A5 i c5, .slice A l.length ca, iv ((i : Nat) : Int), .pointer (some (ad.add i)), .int .u8 ((l.getD i 0).toNat : Int), sl g7 0 1 1, .slice A16 (i + 1) c17, J 20, J 21, J 22] 1) (by kernel_rfl) ?_
      refine then_n ?_
      exact ⟨(i + 1, A16, c17), ⟨(jl [ud, ud, ud, ud, ud, iv ((i : Nat) : Int), tv, iv ((i : Nat) : Int), iv ((i + 1 : Nat) : Int), iv ((i : Nat) : Int), .slice A l.length ca, iv (l.length : Nat), tv, .slice A5 i c5, .slice A l.length ca, iv ((i : Nat) : Int), .pointer (some (ad.add i)), .int .u8 ((l.getD i 0).toNat : Int), sl g7 0 1 1, .slice A16 (i + 1) c17, J 20, J 21, J 22]), by kernel_rfl, S15, (by omega)⟩, (by show 512 - (i + 1) < 512 - i; omega)⟩
    · skip
      have hz : ((l.getD i 0).toNat : Int) = 0 := getD_past (by omega)
      refine wl_end (fr [.slice A l.length ca, ud, .slice none 0 0, .slice A5 i c5, iv ((i : Nat) : Int), iv ((i : Nat) : Int), tv, J 7, J 8, iv ((i : Nat) : Int), .slice A l.length ca, iv (l.length : Nat), fv, J 13, J 14, J 15, J 16, J 17, J 18, J 19, J 20, J 21, J 22] 1) (by kernel_rfl) ?_
      refine then_n ?_
      refine wp_cond_false (by kernel_rfl) ?_
      refine wp_region_lit ?_
      refine pv (.slice A5 i c5) ?_
      refine wl_gv rfl (gv_slit (e := 5) (sz := 1) (z := .int .u8 0) (by_ := 1) (vs := #[(0, .int .u8 0)]) (cells := #[.int .u8 0]) S3 rfl (by kernel_rfl) ⟨by kernel_rfl⟩ (by kernel_rfl) (by kernel_rfl) (by kernel_rfl) (by kernel_rfl) (fun g18 w19 hg20 S21 => ?_))
      have S22 : St F w0 w19 (row g18 #[.int .u8 ((l.getD i 0).toNat : Int)] 5 :: vec 5 1 (.slice A5 i c5) i ((pre l i).map bv) :: L) := (by rw [hz]; exact S21)
      have S23 : St F w0 w19 (row g18 #[.int .u8 ((l.getD i 0).toNat : Int)] 5 :: vec 5 1 (.slice A5 i c5) i ((pre l i).map bv) :: L) := St.permT [row g18 #[.int .u8 ((l.getD i 0).toNat : Int)] 5, vec 5 1 (.slice A5 i c5) i ((pre l i).map bv)] [0, 1] (by decide) rfl S22
      refine wl_gv rfl (gv_append (e := 5) (sz := 1) (n := i) (v := (.slice A5 i c5)) (vals := ((pre l i).map bv)) (z := .int .u8 0) (by_ := 1) (m := 1) (c' := 1) (ad := ⟨g18, 0, none⟩) (news := [.int .u8 ((l.getD i 0).toNat : Int)]) (St.swap S23) rfl (by kernel_rfl) ⟨by kernel_rfl⟩ rfl (by kernel_rfl) (by kernel_rfl) (by decide) rfl (row_news (S23.blk 0 rfl)) (by intro u hu; simp at hu; subst hu; rfl) (by omega) (by omega) (fun v25 w24 S26 => ?_))
      have S27 : St F w0 w24 (vec 5 1 v25 (i + 1) ((pre l i).map bv ++ [.int .u8 ((l.getD i 0).toNat : Int)]) :: L) := St.permT [vec 5 1 v25 (i + 1) ((pre l i).map bv ++ [.int .u8 ((l.getD i 0).toNat : Int)]), row g18 #[.int .u8 ((l.getD i 0).toNat : Int)] 5] [0] (by decide) rfl S26
      rw [pre_succ] at S27
      obtain ⟨A28, c29, rfl⟩ := St.vecV S27 0 rfl
      change St F w0 w24 (vec 5 1 (.slice A28 (i + 1) c29) (i + 1) ((pre l (i + 1)).map bv) :: L) at S27
      refine pv (.slice A28 (i + 1) c29) ?_
      refine wl_end (fr [.slice A l.length ca, ud, .slice none 0 0, .slice A28 (i + 1) c29, iv ((i : Nat) : Int), iv ((i : Nat) : Int), tv, J 7, J 8, iv ((i : Nat) : Int), .slice A l.length ca, iv (l.length : Nat), fv, J 13, J 14, J 15, J 16, J 17, J 18, J 19, .slice A5 i c5, sl g18 0 1 1, .slice A28 (i + 1) c29] 1) (by kernel_rfl) ?_
      refine inb_n ?_
      refine then_n ?_
      refine wp_region_lit ?_
      refine pv (iv ((i : Nat) : Int)) ?_
      refine wl_gv rfl (gv_int (k := .i64) (z := IntKind.i64.wrap (((i : Nat) : Int) + 1)) (z' := ((i + 1 : Nat) : Int)) (by kernel_rfl) (wr_eq (by omega) (by omega) (by omega)) ?_)
      refine pv (iv ((i + 1 : Nat) : Int)) ?_
      refine wl_end (fr [.slice A l.length ca, ud, .slice none 0 0, .slice A28 (i + 1) c29, iv ((i + 1 : Nat) : Int), iv ((i : Nat) : Int), tv, iv ((i : Nat) : Int), iv ((i + 1 : Nat) : Int), iv ((i : Nat) : Int), .slice A l.length ca, iv (l.length : Nat), fv, J 13, J 14, J 15, J 16, J 17, J 18, J 19, .slice A5 i c5, sl g18 0 1 1, .slice A28 (i + 1) c29] 1) (by kernel_rfl) ?_
      refine then_n ?_
      exact ⟨(i + 1, A28, c29), ⟨(jl [ud, ud, ud, ud, ud, iv ((i : Nat) : Int), tv, iv ((i : Nat) : Int), iv ((i + 1 : Nat) : Int), iv ((i : Nat) : Int), .slice A l.length ca, iv (l.length : Nat), fv, J 13, J 14, J 15, J 16, J 17, J 18, J 19, .slice A5 i c5, sl g18 0 1 1, .slice A28 (i + 1) c29]), by kernel_rfl, S27, (by omega)⟩, (by show 512 - (i + 1) < 512 - i; omega)⟩
  · skip
    refine wl_end (fr [.slice A l.length ca, ud, .slice none 0 0, .slice A5 i c5, iv ((i : Nat) : Int), iv ((i : Nat) : Int), fv, J 7, J 8, J 9, J 10, J 11, J 12, J 13, J 14, J 15, J 16, J 17, J 18, J 19, J 20, J 21, J 22] 1) (by kernel_rfl) ?_
    refine then_n ?_
    refine wp_cond_false (by kernel_rfl) ?_
    refine wp_exit ?_
    refine then_x ?_
    refine then_x ?_
    refine inb_x ?_
    refine then_n ?_
    refine wp_seq ?_
    refine wp_region_lit ?_
    refine pv (.slice A5 i c5) ?_
    refine pv (.slice A5 i c5) ?_
    refine wl_end (fr [.slice A l.length ca, ud, .slice A5 i c5, .slice A5 i c5, iv ((i : Nat) : Int), iv ((i : Nat) : Int), fv, J 7, J 8, J 9, J 10, J 11, J 12, J 13, J 14, J 15, J 16, J 17, J 18, J 19, J 20, J 21, J 22, .slice A5 i c5] 0) (by kernel_rfl) ?_
    refine then_n ?_
    refine wp_ret ?_
    refine bodyPost_ret (v := .slice A5 i c5) (results_t1 rfl (by kernel_rfl)) rfl ?_
    have hie : i = 512 := by omega
    rw [hie] at S3
    exact ⟨_, _, by rw [hie], S3⟩
theorem up3 {F : Nat → Prop} {w0 w : World} {L : List Ast} (S : St F w0 w L) {A : Option Addr} {l : List UInt8} {ca : Nat} (hr : RoT F w0 L A l) (hlm : l.length ≤ 140737488355328) {n : Int} : Calls Try.prog 16 #[.slice A l.length ca, .int .i64 n] w fun e w' => ∃ A c, e = .returned (.slice A (l.take n.toNat).length c) ∧ St F w0 w' (vec 5 1 (.slice A (l.take n.toNat).length c) (l.take n.toNat).length ((l.take n.toNat).map bv) :: L) := by
  have S1 : St F w0 w (vec 5 1 (.slice none 0 0) 0 ([].map bv) :: L) := St.vec_nil S
  refine wp_enter (fr [.slice A l.length ca, iv n] 24) Try.func16 rfl (by kernel_rfl) ?_
  refine wp_seq ?_
  refine wp_region_lit ?_
  refine pv (.slice none 0 0) ?_
  refine wl_end (fr [.slice A l.length ca, iv n, ud, ud, .slice none 0 0] 21) (by kernel_rfl) ?_
  refine then_n ?_
  refine wp_seq ?_
  refine wp_region_lit ?_
  refine pv (.slice none 0 0) ?_
  refine wl_end (fr [.slice A l.length ca, iv n, ud, ud, .slice none 0 0, .slice none 0 0] 20) (by kernel_rfl) ?_
  refine then_n ?_
  refine wp_seq ?_
  refine wp_seq ?_
  refine wp_region_lit ?_
  refine pv (iv 0) ?_
  refine wl_end (fr [.slice A l.length ca, iv n, ud, ud, .slice none 0 0, .slice none 0 0, iv 0] 19) (by kernel_rfl) ?_
  refine then_n ?_
  refine wp_block ?_
  refine wp_loop_g (G := Nat × Option Addr × Nat) (fun (g_ : Nat × Option Addr × Nat) (a_ : Act) (w_ : World) => ∃ J : Nat → Value, a_ = (fr [.slice A l.length ca, iv n, ud, ud, .slice none 0 0, .slice g_.2.1 g_.1 g_.2.2, iv ((g_.1 : Nat) : Int), J 7, J 8, J 9, J 10, J 11, J 12, J 13, J 14, J 15, J 16, J 17, J 18, J 19, J 20, J 21, J 22, J 23, J 24] 1) ∧ St F w0 w_ (vec 5 1 (.slice g_.2.1 g_.1 g_.2.2) g_.1 ((pre l g_.1).map bv) :: L) ∧ (g_.1 ≤ l.length ∧ g_.1 ≤ n.toNat)) (fun g_ => l.length - g_.1) (0, none, 0) ⟨(jl []), by kernel_rfl, S1, ⟨Nat.zero_le _, Nat.zero_le _⟩⟩ ?_
  rintro ⟨i, A5, c5⟩ a_ w2 ⟨J, rfl, S3, hI4⟩
  skip
  have S3 : St F w0 w2 (vec 5 1 (.slice A5 i c5) i ((pre l i).map bv) :: L) := S3
  have hI4 : (i ≤ l.length ∧ i ≤ n.toNat) := hI4
  refine wp_seq ?_
  refine wp_seq ?_
  refine wp_region_lit ?_
  refine pv (iv ((i : Nat) : Int)) ?_
  refine pv (.slice A l.length ca) ?_
  refine pv (iv (l.length : Nat)) ?_
  refine wl_gv rfl (gv_dec (p := (((i : Nat) : Int) : Int) < (l.length : Nat)) (by kernel_rfl) (fun hb5 => ?_) (fun hb5 => ?_))
  · skip
    refine pv tv ?_
    refine wl_when (by kernel_rfl) (gv_val (v := .int .i64 ((i : Nat) : Int)) (w' := w2) (by kernel_rfl) ?_)
    refine wl_when (by kernel_rfl) (gv_val (v := .int .i64 n) (w' := w2) (by kernel_rfl) ?_)
    refine wl_when (by kernel_rfl) (gv_dec (p := (((i : Nat) : Int) : Int) < n) (by kernel_rfl) (fun hb6 => ?_) (fun hb6 => ?_))
    · skip
      have hi : i < l.length := by omega
      obtain ⟨ad, had⟩ := (hr.out _ [vec 5 1 (.slice A5 i c5) i ((pre l i).map bv)] S3).at hi
      refine pv tv ?_
      refine wl_end (fr [.slice A l.length ca, iv n, ud, ud, .slice none 0 0, .slice A5 i c5, iv ((i : Nat) : Int), iv ((i : Nat) : Int), .slice A l.length ca, iv (l.length : Nat), tv, tv, iv ((i : Nat) : Int), iv n, tv, tv, J 16, J 17, J 18, J 19, J 20, J 21, J 22, J 23, J 24] 1) (by kernel_rfl) ?_
      refine then_n ?_
      refine wp_cond_true (by kernel_rfl) ?_
      refine wp_skip ?_
      refine then_n ?_
      refine wp_seq ?_
      refine wp_block ?_
      refine wp_region_lit ?_
      refine pv (.slice A5 i c5) ?_
      refine pv (.slice A l.length ca) ?_
      refine pv (iv ((i : Nat) : Int)) ?_
      refine wl_gv rfl (gv_ixB (e := 5) (sz := 1) (n := l.length) (c := ca) (i := ((i : Nat) : Int)) (k := .i64) (ad := ad) (ad' := (ad.add i)) (j := i) rfl (by kernel_rfl) (by kernel_rfl) (by rw [← had]; kernel_rfl) (by kernel_rfl) rfl hi (by rw [Nat.mul_one]) ?_)
      refine wl_gv rfl (gv_ldR (v := .int .u8 ((l.getD i 0).toNat : Int)) rfl (by kernel_rfl) (by kernel_rfl) ((had ▸ hr.out _ [vec 5 1 (.slice A5 i c5) i ((pre l i).map bv)] S3 : RdB _ (some ad) l).cell hi) ?_)
      refine wl_gv rfl (gv_slit (e := 5) (sz := 1) (z := .int .u8 0) (by_ := 1) (vs := #[(0, .int .u8 ((l.getD i 0).toNat : Int))]) (cells := #[.int .u8 ((l.getD i 0).toNat : Int)]) S3 rfl (by kernel_rfl) ⟨by kernel_rfl⟩ (by kernel_rfl) (by kernel_rfl) (by kernel_rfl) (by kernel_rfl) (fun g7 w8 hg9 S10 => ?_))
      have S11 : St F w0 w8 (row g7 #[.int .u8 ((l.getD i 0).toNat : Int)] 5 :: vec 5 1 (.slice A5 i c5) i ((pre l i).map bv) :: L) := St.permT [row g7 #[.int .u8 ((l.getD i 0).toNat : Int)] 5, vec 5 1 (.slice A5 i c5) i ((pre l i).map bv)] [0, 1] (by decide) rfl S10
      refine wl_gv rfl (gv_append (e := 5) (sz := 1) (n := i) (v := (.slice A5 i c5)) (vals := ((pre l i).map bv)) (z := .int .u8 0) (by_ := 1) (m := 1) (c' := 1) (ad := ⟨g7, 0, none⟩) (news := [.int .u8 ((l.getD i 0).toNat : Int)]) (St.swap S11) rfl (by kernel_rfl) ⟨by kernel_rfl⟩ rfl (by kernel_rfl) (by kernel_rfl) (by decide) rfl (row_news (S11.blk 0 rfl)) (by intro u hu; simp at hu; subst hu; rfl) (by omega) (by omega) (fun v13 w12 S14 => ?_))
      have S15 : St F w0 w12 (vec 5 1 v13 (i + 1) ((pre l i).map bv ++ [.int .u8 ((l.getD i 0).toNat : Int)]) :: L) := St.permT [vec 5 1 v13 (i + 1) ((pre l i).map bv ++ [.int .u8 ((l.getD i 0).toNat : Int)]), row g7 #[.int .u8 ((l.getD i 0).toNat : Int)] 5] [0] (by decide) rfl S14
      rw [pre_succ] at S15
      obtain ⟨A16, c17, rfl⟩ := St.vecV S15 0 rfl
      change St F w0 w12 (vec 5 1 (.slice A16 (i + 1) c17) (i + 1) ((pre l (i + 1)).map bv) :: L) at S15
      refine pv (.slice A16 (i + 1) c17) ?_
      refine wl_end (fr [.slice A l.length ca, iv n, ud, ud, .slice none 0 0, .slice A16 (i + 1) c17, iv ((i : Nat) : Int), iv ((i : Nat) : Int), .slice A l.length ca, iv (l.length : Nat), tv, tv, iv ((i : Nat) : Int), iv n, tv, tv, J 16, J 17, .slice A5 i c5, .slice A l.length ca, iv ((i : Nat) : Int), .pointer (some (ad.add i)), .int .u8 ((l.getD i 0).toNat : Int), sl g7 0 1 1, .slice A16 (i + 1) c17] 1) (by kernel_rfl) ?_
      refine inb_n ?_
      refine then_n ?_
      refine wp_region_lit ?_
      refine pv (iv ((i : Nat) : Int)) ?_
      refine wl_gv rfl (gv_int (k := .i64) (z := IntKind.i64.wrap (((i : Nat) : Int) + 1)) (z' := ((i + 1 : Nat) : Int)) (by kernel_rfl) (wr_eq (by omega) (by omega) (by omega)) ?_)
      refine pv (iv ((i + 1 : Nat) : Int)) ?_
      refine wl_end (fr [.slice A l.length ca, iv n, ud, ud, .slice none 0 0, .slice A16 (i + 1) c17, iv ((i + 1 : Nat) : Int), iv ((i : Nat) : Int), .slice A l.length ca, iv (l.length : Nat), tv, tv, iv ((i : Nat) : Int), iv n, tv, tv, iv ((i : Nat) : Int), iv ((i + 1 : Nat) : Int), .slice A5 i c5, .slice A l.length ca, iv ((i : Nat) : Int), .pointer (some (ad.add i)), .int .u8 ((l.getD i 0).toNat : Int), sl g7 0 1 1, .slice A16 (i + 1) c17] 1) (by kernel_rfl) ?_
      refine then_n ?_
      exact ⟨(i + 1, A16, c17), ⟨(jl [ud, ud, ud, ud, ud, ud, ud, iv ((i : Nat) : Int), .slice A l.length ca, iv (l.length : Nat), tv, tv, iv ((i : Nat) : Int), iv n, tv, tv, iv ((i : Nat) : Int), iv ((i + 1 : Nat) : Int), .slice A5 i c5, .slice A l.length ca, iv ((i : Nat) : Int), .pointer (some (ad.add i)), .int .u8 ((l.getD i 0).toNat : Int), sl g7 0 1 1, .slice A16 (i + 1) c17]), by kernel_rfl, S15, ⟨by omega, by omega⟩⟩, (by show l.length - (i + 1) < l.length - i; omega)⟩
    · skip
      refine pv fv ?_
      refine wl_end (fr [.slice A l.length ca, iv n, ud, ud, .slice none 0 0, .slice A5 i c5, iv ((i : Nat) : Int), iv ((i : Nat) : Int), .slice A l.length ca, iv (l.length : Nat), tv, tv, iv ((i : Nat) : Int), iv n, fv, fv, J 16, J 17, J 18, J 19, J 20, J 21, J 22, J 23, J 24] 1) (by kernel_rfl) ?_
      refine then_n ?_
      refine wp_cond_false (by kernel_rfl) ?_
      refine wp_exit ?_
      refine then_x ?_
      refine then_x ?_
      refine inb_x ?_
      refine then_n ?_
      refine wp_seq ?_
      refine wp_region_lit ?_
      refine pv (.slice A5 i c5) ?_
      refine pv (.slice A5 i c5) ?_
      refine wl_end (fr [.slice A l.length ca, iv n, ud, ud, .slice A5 i c5, .slice A5 i c5, iv ((i : Nat) : Int), iv ((i : Nat) : Int), .slice A l.length ca, iv (l.length : Nat), tv, tv, iv ((i : Nat) : Int), iv n, fv, fv, J 16, J 17, J 18, J 19, J 20, J 21, J 22, J 23, J 24, .slice A5 i c5] 0) (by kernel_rfl) ?_
      refine then_n ?_
      refine wp_ret ?_
      refine bodyPost_ret (v := .slice A5 i c5) (results_t1 rfl (by kernel_rfl)) rfl ?_
      have hie : i = (l.take n.toNat).length := by rw [List.length_take]; omega
      have hit : pre l i = l.take n.toNat := by rw [pre_take (by omega), hie, List.length_take]; exact List.take_eq_take_min.symm
      rw [hit, hie] at S3
      exact ⟨_, _, by rw [hie], S3⟩
  · skip
    refine pv fv ?_
    refine wl_not (by kernel_rfl) ?_
    refine wl_not (by kernel_rfl) ?_
    refine wl_not (by kernel_rfl) ?_
    refine pv fv ?_
    refine wl_end (fr [.slice A l.length ca, iv n, ud, ud, .slice none 0 0, .slice A5 i c5, iv ((i : Nat) : Int), iv ((i : Nat) : Int), .slice A l.length ca, iv (l.length : Nat), fv, fv, ud, ud, ud, fv, J 16, J 17, J 18, J 19, J 20, J 21, J 22, J 23, J 24] 1) (by kernel_rfl) ?_
    refine then_n ?_
    refine wp_cond_false (by kernel_rfl) ?_
    refine wp_exit ?_
    refine then_x ?_
    refine then_x ?_
    refine inb_x ?_
    refine then_n ?_
    refine wp_seq ?_
    refine wp_region_lit ?_
    refine pv (.slice A5 i c5) ?_
    refine pv (.slice A5 i c5) ?_
    refine wl_end (fr [.slice A l.length ca, iv n, ud, ud, .slice A5 i c5, .slice A5 i c5, iv ((i : Nat) : Int), iv ((i : Nat) : Int), .slice A l.length ca, iv (l.length : Nat), fv, fv, ud, ud, ud, fv, J 16, J 17, J 18, J 19, J 20, J 21, J 22, J 23, J 24, .slice A5 i c5] 0) (by kernel_rfl) ?_
    refine then_n ?_
    refine wp_ret ?_
    refine bodyPost_ret (v := .slice A5 i c5) (results_t1 rfl (by kernel_rfl)) rfl ?_
    have hie : i = (l.take n.toNat).length := by rw [List.length_take]; omega
    have hit : pre l i = l.take n.toNat := by rw [pre_take (by omega), hie, List.length_take]; exact List.take_eq_take_min.symm
    rw [hit, hie] at S3
    exact ⟨_, _, by rw [hie], S3⟩
theorem byte_eq3 {a b : List UInt8} {k : Nat} (h : ¬ ((a.getD k 0).toNat : Int) = ((b.getD k 0).toNat : Int)) : a ≠ b := fun e => h (by rw [e])
theorem bytes_ext3 {a b : List UInt8} (hl : a.length = b.length) (h : ∀ m, m < a.length → ((a.getD m 0).toNat : Int) = ((b.getD m 0).toNat : Int)) : a = b := by
  apply List.ext_getElem hl
  intro m h1 h2
  have := h m h1
  rw [List.getD_eq_getElem?_getD, List.getD_eq_getElem?_getD, List.getElem?_eq_getElem h1, List.getElem?_eq_getElem h2] at this
  simp only [Option.getD_some] at this
  exact UInt8.toNat_inj.1 (by omega)
theorem same3_ {F : Nat → Prop} {w0 w : World} {L : List Ast} {A B : Option Addr} {a b : List UInt8} {ca cb : Nat} (S : St F w0 w L) (hx : RoT F w0 L A a) (hy : RoT F w0 L B b) (hm : a.length ≤ 9223372036854775807) (hm2 : b.length ≤ 9223372036854775807) :
    Calls Try.prog 28 #[.slice A a.length ca, .slice B b.length cb] w fun e w' => e = .returned (.bool (decide (a = b))) ∧ St F w0 w' L := by
  refine wp_enter (fr [.slice A a.length ca, .slice B b.length cb] 24) Try.func28 rfl (by kernel_rfl) ?_
  refine wp_seq ?_
  refine wp_region_lit ?_
  refine pv fv ?_
  refine wl_end (fr [.slice A a.length ca, .slice B b.length cb, ud, ud, fv] 21) (by kernel_rfl) ?_
  refine then_n ?_
  refine wp_seq ?_
  refine wp_seq ?_
  refine wp_region_lit ?_
  refine pv (.slice A a.length ca) ?_
  refine pv (iv (a.length : Nat)) ?_
  refine pv (.slice B b.length cb) ?_
  refine pv (iv (b.length : Nat)) ?_
  refine wl_gv rfl (gv_ne (x := (a.length : Nat)) (y := (b.length : Nat)) (by kernel_rfl) (fun hb1 => ?_) (fun hb1 => ?_))
  · skip
    have hlen : ¬ a.length = b.length := fun e => hb1 (by rw [e])
    refine wl_end (fr [.slice A a.length ca, .slice B b.length cb, ud, ud, fv, ud, .slice A a.length ca, iv (a.length : Nat), .slice B b.length cb, iv (b.length : Nat), tv] 15) (by kernel_rfl) ?_
    refine then_n ?_
    refine wp_cond_true (by kernel_rfl) ?_
    refine wp_seq ?_
    refine wp_region_lit ?_
    refine pv fv ?_
    refine wl_end (fr [.slice A a.length ca, .slice B b.length cb, ud, ud, fv, ud, .slice A a.length ca, iv (a.length : Nat), .slice B b.length cb, iv (b.length : Nat), tv] 15) (by kernel_rfl) ?_
    refine then_n ?_
    refine wp_ret ?_
    refine then_r ?_
    refine bodyPost_ret (v := .bool false) (results_t1 rfl (by kernel_rfl)) rfl ?_
    exact ⟨by rw [decide_eq_false (fun e => hlen (by rw [e]))], S⟩
  · skip
    have hlen : a.length = b.length := Int.ofNat.inj hb1
    refine wl_end (fr [.slice A a.length ca, .slice B b.length cb, ud, ud, fv, ud, .slice A a.length ca, iv (a.length : Nat), .slice B b.length cb, iv (b.length : Nat), fv] 15) (by kernel_rfl) ?_
    refine then_n ?_
    refine wp_cond_false (by kernel_rfl) ?_
    refine wp_skip ?_
    refine then_n ?_
    refine wp_seq ?_
    refine wp_seq ?_
    refine wp_region_lit ?_
    refine pv (iv 0) ?_
    refine wl_end (fr [.slice A a.length ca, .slice B b.length cb, ud, ud, fv, iv 0, .slice A a.length ca, iv (a.length : Nat), .slice B b.length cb, iv (b.length : Nat), fv] 15) (by kernel_rfl) ?_
    refine then_n ?_
    refine wp_block ?_
    refine wp_loop_g (G := Nat) (fun (g_ : Nat) (a_ : Act) (w_ : World) => ∃ J : Nat → Value, a_ = (fr [.slice A a.length ca, .slice B b.length cb, ud, ud, J 4, iv ((g_ : Nat) : Int), .slice A a.length ca, iv (a.length : Nat), .slice B b.length cb, iv (b.length : Nat), fv, J 11, J 12, J 13, J 14, J 15, J 16, J 17, J 18, J 19, J 20, J 21, J 22, J 23, J 24, J 25] 0) ∧ St F w0 w_ (L) ∧ (g_ ≤ a.length ∧ ∀ m, m < g_ → ((a.getD m 0).toNat : Int) = ((b.getD m 0).toNat : Int))) (fun g_ => a.length - g_) 0 ⟨(jl [ud, ud, ud, ud, fv]), by kernel_rfl, S, ⟨Nat.zero_le _, fun m h => absurd h (Nat.not_lt_zero _)⟩⟩ ?_
    rintro k a_ w2 ⟨J, rfl, S3, hI4⟩
    skip
    have S3 : St F w0 w2 (L) := S3
    have hI4 : (k ≤ a.length ∧ ∀ m, m < k → ((a.getD m 0).toNat : Int) = ((b.getD m 0).toNat : Int)) := hI4
    refine wp_seq ?_
    refine wp_seq ?_
    refine wp_region_lit ?_
    refine pv (iv ((k : Nat) : Int)) ?_
    refine pv (.slice A a.length ca) ?_
    refine pv (iv (a.length : Nat)) ?_
    refine wl_gv rfl (gv_dec (p := (((k : Nat) : Int) : Int) < (a.length : Nat)) (by kernel_rfl) (fun hb5 => ?_) (fun hb5 => ?_))
    · skip
      have hk : k < a.length := by omega
      obtain ⟨ada, rfl⟩ := (hx.now S3).at hk
      obtain ⟨adb, rfl⟩ := (hy.now S3).at (hlen ▸ hk)
      refine wl_end (fr [.slice (some ada) a.length ca, .slice (some adb) b.length cb, ud, ud, J 4, iv ((k : Nat) : Int), .slice (some ada) a.length ca, iv (a.length : Nat), .slice (some adb) b.length cb, iv (b.length : Nat), fv, iv ((k : Nat) : Int), .slice (some ada) a.length ca, iv (a.length : Nat), tv, J 15, J 16, J 17, J 18, J 19, J 20, J 21, J 22, J 23, J 24, J 25] 0) (by kernel_rfl) ?_
      refine then_n ?_
      refine wp_cond_true (by kernel_rfl) ?_
      refine wp_skip ?_
      refine then_n ?_
      refine wp_seq ?_
      refine wp_block ?_
      refine wp_seq ?_
      refine wp_region_phu (γ := Unit) 9 [] (fun (c_ : Unit) (i_ : Nat) => (match i_ with | 0 => .slice (some ada) a.length ca | 1 => .int .i64 ((k : Nat) : Int) | 2 => .pointer (some (ada.add k)) | 3 => .int .u8 ((a.getD k 0).toNat : Int) | 4 => .slice (some adb) b.length cb | 5 => .int .i64 ((k : Nat) : Int) | 6 => .pointer (some (adb.add k)) | 7 => .int .u8 ((b.getD k 0).toNat : Int) | 8 => .bool (((a.getD k 0).toNat : Int) != ((b.getD k 0).toNat : Int)) | _ => undef : Value)) (fun (c_ : Unit) (p_ : Nat) (w_ : World) => (match p_ with  | _ => St F w0 w_ (L) : Prop)) () (by kernel_rfl) (by kernel_rfl) (by kernel_rfl) (by kernel_rfl) (S3.drew) ?_ ?_ ?_
      · intro i_ c_ p_ vals_ w1 hi_ hiE_ hp_ hk_ hu_ hPh_ hd_
        rcases i_ with _ | _ | _ | _ | _ | _ | _ | _ | _ | i_
        · skip
          refine told_free rfl rfl (gv_env ((⟨Array.replicate 26 undef, []⟩ : Act).put (some 0) (.slice (some ada) a.length ca)) (by kernel_rfl) (xs := [.tmp 0]) (by kernel_rfl) (alike_cons (fill_past (by kernel_rfl) (by kernel_rfl)) alike_nil) (gv_val (v := .slice (some ada) a.length ca) (w' := w1) (by kernel_rfl) ?_))
          exact ⟨rfl, rfl⟩
        · skip
          refine told_free rfl rfl (gv_env ((⟨Array.replicate 26 undef, []⟩ : Act).put (some 5) (.int .i64 ((k : Nat) : Int))) (by kernel_rfl) (xs := [.tmp 5]) (by kernel_rfl) (alike_cons (fill_past (by kernel_rfl) (by kernel_rfl)) alike_nil) (gv_val (v := .int .i64 ((k : Nat) : Int)) (w' := w1) (by kernel_rfl) ?_))
          exact ⟨rfl, rfl⟩
        · skip
          refine told_free rfl rfl (gv_env (((⟨Array.replicate 26 undef, []⟩ : Act).put (some 17) (.slice (some ada) a.length ca)).put (some 18) (.int .i64 ((k : Nat) : Int))) (by kernel_rfl) (xs := [.tmp 17, .tmp 18]) (by kernel_rfl) (alike_cons (fill_at (k := 0) (by kernel_rfl) (by kernel_rfl) ((hd_ 0 (by kernel_rfl)).trans (by kernel_rfl))) (alike_cons (fill_at (k := 1) (by kernel_rfl) (by kernel_rfl) ((hd_ 1 (by kernel_rfl)).trans (by kernel_rfl))) alike_nil)) (gv_ixB (e := 5) (sz := 1) (n := a.length) (c := ca) (i := ((k : Nat) : Int)) (k := .i64) (ad := ada) (ad' := (ada.add k)) (j := k) rfl (by kernel_rfl) (by kernel_rfl) (by kernel_rfl) (by kernel_rfl) rfl hk (by rw [Nat.mul_one]) ?_))
          exact ⟨rfl, rfl⟩
        · skip
          have S9 : St F w0 w1 (L) := hPh_
          refine told_free rfl rfl (gv_env ((⟨Array.replicate 26 undef, []⟩ : Act).put (some 19) (.pointer (some (ada.add k)))) (by kernel_rfl) (xs := [.tmp 19]) (by kernel_rfl) (alike_cons (fill_at (k := 2) (by kernel_rfl) (by kernel_rfl) ((hd_ 2 (by kernel_rfl)).trans (by kernel_rfl))) alike_nil) (gv_ldR (v := .int .u8 ((a.getD k 0).toNat : Int)) rfl (by kernel_rfl) (by kernel_rfl) ((hx.now S9).cell hk) ?_))
          exact ⟨rfl, rfl⟩
        · skip
          refine told_free rfl rfl (gv_env ((⟨Array.replicate 26 undef, []⟩ : Act).put (some 1) (.slice (some adb) b.length cb)) (by kernel_rfl) (xs := [.tmp 1]) (by kernel_rfl) (alike_cons (fill_past (by kernel_rfl) (by kernel_rfl)) alike_nil) (gv_val (v := .slice (some adb) b.length cb) (w' := w1) (by kernel_rfl) ?_))
          exact ⟨rfl, rfl⟩
        · skip
          refine told_free rfl rfl (gv_env ((⟨Array.replicate 26 undef, []⟩ : Act).put (some 5) (.int .i64 ((k : Nat) : Int))) (by kernel_rfl) (xs := [.tmp 5]) (by kernel_rfl) (alike_cons (fill_past (by kernel_rfl) (by kernel_rfl)) alike_nil) (gv_val (v := .int .i64 ((k : Nat) : Int)) (w' := w1) (by kernel_rfl) ?_))
          exact ⟨rfl, rfl⟩
        · skip
          refine told_free rfl rfl (gv_env (((⟨Array.replicate 26 undef, []⟩ : Act).put (some 21) (.slice (some adb) b.length cb)).put (some 22) (.int .i64 ((k : Nat) : Int))) (by kernel_rfl) (xs := [.tmp 21, .tmp 22]) (by kernel_rfl) (alike_cons (fill_at (k := 4) (by kernel_rfl) (by kernel_rfl) ((hd_ 4 (by kernel_rfl)).trans (by kernel_rfl))) (alike_cons (fill_at (k := 5) (by kernel_rfl) (by kernel_rfl) ((hd_ 5 (by kernel_rfl)).trans (by kernel_rfl))) alike_nil)) (gv_ixB (e := 5) (sz := 1) (n := b.length) (c := cb) (i := ((k : Nat) : Int)) (k := .i64) (ad := adb) (ad' := (adb.add k)) (j := k) rfl (by kernel_rfl) (by kernel_rfl) (by kernel_rfl) (by kernel_rfl) rfl (hlen ▸ hk) (by rw [Nat.mul_one]) ?_))
          exact ⟨rfl, rfl⟩
        · skip
          have S13 : St F w0 w1 (L) := hPh_
          refine told_free rfl rfl (gv_env ((⟨Array.replicate 26 undef, []⟩ : Act).put (some 23) (.pointer (some (adb.add k)))) (by kernel_rfl) (xs := [.tmp 23]) (by kernel_rfl) (alike_cons (fill_at (k := 6) (by kernel_rfl) (by kernel_rfl) ((hd_ 6 (by kernel_rfl)).trans (by kernel_rfl))) alike_nil) (gv_ldR (v := .int .u8 ((b.getD k 0).toNat : Int)) rfl (by kernel_rfl) (by kernel_rfl) ((hy.now S13).cell (hlen ▸ hk)) ?_))
          exact ⟨rfl, rfl⟩
        · skip
          refine told_free rfl rfl (gv_env (((⟨Array.replicate 26 undef, []⟩ : Act).put (some 20) (.int .u8 ((a.getD k 0).toNat : Int))).put (some 24) (.int .u8 ((b.getD k 0).toNat : Int))) (by kernel_rfl) (xs := [.tmp 20, .tmp 24]) (by kernel_rfl) (alike_cons (fill_at (k := 3) (by kernel_rfl) (by kernel_rfl) ((hd_ 3 (by kernel_rfl)).trans (by kernel_rfl))) (alike_cons (fill_at (k := 7) (by kernel_rfl) (by kernel_rfl) ((hd_ 7 (by kernel_rfl)).trans (by kernel_rfl))) alike_nil)) (gv_val (v := .bool (((a.getD k 0).toNat : Int) != ((b.getD k 0).toNat : Int))) (w' := w1) (by kernel_rfl) ?_))
          exact ⟨rfl, rfl⟩
        · exact absurd hi_ (by omega)
      · intro k_ c_ vals_ w1 hk_ hPh_ hd_
        exact absurd hk_ (Nat.not_lt_zero _)
      · intro c_ w1 hPh_
        have S15 : St F w0 w1 (L) := hPh_
        refine wl_frame (fr [.slice (some ada) a.length ca, .slice (some adb) b.length cb, ud, ud, J 4, iv ((k : Nat) : Int), .slice (some ada) a.length ca, iv (a.length : Nat), .slice (some adb) b.length cb, iv (b.length : Nat), fv, iv ((k : Nat) : Int), .slice (some ada) a.length ca, iv (a.length : Nat), tv, J 15, J 16, .slice (some ada) a.length ca, iv ((k : Nat) : Int), .pointer (some (ada.add k)), .int .u8 ((a.getD k 0).toNat : Int), .slice (some adb) b.length cb, iv ((k : Nat) : Int), .pointer (some (adb.add k)), .int .u8 ((b.getD k 0).toNat : Int), .bool (((a.getD k 0).toNat : Int) != ((b.getD k 0).toNat : Int))] 0) (by kernel_rfl) ?_
        refine wl_end (fr [.slice (some ada) a.length ca, .slice (some adb) b.length cb, ud, ud, J 4, iv ((k : Nat) : Int), .slice (some ada) a.length ca, iv (a.length : Nat), .slice (some adb) b.length cb, iv (b.length : Nat), fv, iv ((k : Nat) : Int), .slice (some ada) a.length ca, iv (a.length : Nat), tv, J 15, J 16, .slice (some ada) a.length ca, iv ((k : Nat) : Int), .pointer (some (ada.add k)), .int .u8 ((a.getD k 0).toNat : Int), .slice (some adb) b.length cb, iv ((k : Nat) : Int), .pointer (some (adb.add k)), .int .u8 ((b.getD k 0).toNat : Int), .bool (((a.getD k 0).toNat : Int) != ((b.getD k 0).toNat : Int))] 0) (by kernel_rfl) ?_
        refine then_n ?_
        refine wp_cond_split (t := ((a.getD k 0).toNat : Int) != ((b.getD k 0).toNat : Int)) (by kernel_rfl) (fun hc16 => ?_) (fun hc16 => ?_)
        · skip
          refine wp_seq ?_
          refine wp_region_lit ?_
          refine pv fv ?_
          refine wl_end (fr [.slice (some ada) a.length ca, .slice (some adb) b.length cb, ud, ud, fv, iv ((k : Nat) : Int), .slice (some ada) a.length ca, iv (a.length : Nat), .slice (some adb) b.length cb, iv (b.length : Nat), fv, iv ((k : Nat) : Int), .slice (some ada) a.length ca, iv (a.length : Nat), tv, J 15, J 16, .slice (some ada) a.length ca, iv ((k : Nat) : Int), .pointer (some (ada.add k)), .int .u8 ((a.getD k 0).toNat : Int), .slice (some adb) b.length cb, iv ((k : Nat) : Int), .pointer (some (adb.add k)), .int .u8 ((b.getD k 0).toNat : Int), .bool (((a.getD k 0).toNat : Int) != ((b.getD k 0).toNat : Int))] 0) (by kernel_rfl) ?_
          refine then_n ?_
          refine wp_ret ?_
          refine inb_r ?_
          refine then_r ?_
          refine then_r ?_
          refine inb_r ?_
          refine then_r ?_
          refine bodyPost_ret (v := .bool false) (results_t1 rfl (by kernel_rfl)) rfl ?_
          exact ⟨by rw [decide_eq_false (byte_eq3 (by simpa using hc16))], S15⟩
        · skip
          have heqk : ((a.getD k 0).toNat : Int) = ((b.getD k 0).toNat : Int) := by simpa using hc16
          refine wp_skip ?_
          refine inb_n ?_
          refine then_n ?_
          refine wp_region_lit ?_
          refine pv (iv ((k : Nat) : Int)) ?_
          refine wl_gv rfl (gv_int (k := .i64) (z := IntKind.i64.wrap (((k : Nat) : Int) + 1)) (z' := ((k + 1 : Nat) : Int)) (by kernel_rfl) (wr_eq (by omega) (by omega) (by omega)) ?_)
          refine pv (iv ((k + 1 : Nat) : Int)) ?_
          refine wl_end (fr [.slice (some ada) a.length ca, .slice (some adb) b.length cb, ud, ud, J 4, iv ((k + 1 : Nat) : Int), .slice (some ada) a.length ca, iv (a.length : Nat), .slice (some adb) b.length cb, iv (b.length : Nat), fv, iv ((k : Nat) : Int), .slice (some ada) a.length ca, iv (a.length : Nat), tv, iv ((k : Nat) : Int), iv ((k + 1 : Nat) : Int), .slice (some ada) a.length ca, iv ((k : Nat) : Int), .pointer (some (ada.add k)), .int .u8 ((a.getD k 0).toNat : Int), .slice (some adb) b.length cb, iv ((k : Nat) : Int), .pointer (some (adb.add k)), .int .u8 ((b.getD k 0).toNat : Int), .bool (((a.getD k 0).toNat : Int) != ((b.getD k 0).toNat : Int))] 0) (by kernel_rfl) ?_
          refine then_n ?_
          exact ⟨k + 1, ⟨(jl [ud, ud, ud, ud, J 4, ud, ud, ud, ud, ud, ud, iv ((k : Nat) : Int), .slice (some ada) a.length ca, iv (a.length : Nat), tv, iv ((k : Nat) : Int), iv ((k + 1 : Nat) : Int), .slice (some ada) a.length ca, iv ((k : Nat) : Int), .pointer (some (ada.add k)), .int .u8 ((a.getD k 0).toNat : Int), .slice (some adb) b.length cb, iv ((k : Nat) : Int), .pointer (some (adb.add k)), .int .u8 ((b.getD k 0).toNat : Int), .bool (((a.getD k 0).toNat : Int) != ((b.getD k 0).toNat : Int))]), by kernel_rfl, S15, ⟨by omega, fun m hm => (Nat.lt_succ_iff_lt_or_eq.1 hm).elim (hI4.2 m) (fun e => e ▸ heqk)⟩⟩, (by show a.length - (k + 1) < a.length - k; omega)⟩
    · skip
      have hke : k = a.length := by omega
      refine wl_end (fr [.slice A a.length ca, .slice B b.length cb, ud, ud, J 4, iv ((k : Nat) : Int), .slice A a.length ca, iv (a.length : Nat), .slice B b.length cb, iv (b.length : Nat), fv, iv ((k : Nat) : Int), .slice A a.length ca, iv (a.length : Nat), fv, J 15, J 16, J 17, J 18, J 19, J 20, J 21, J 22, J 23, J 24, J 25] 0) (by kernel_rfl) ?_
      refine then_n ?_
      refine wp_cond_false (by kernel_rfl) ?_
      refine wp_exit ?_
      refine then_x ?_
      refine then_x ?_
      refine inb_x ?_
      refine then_n ?_
      refine wp_seq ?_
      refine wp_region_lit ?_
      refine pv tv ?_
      refine wl_end (fr [.slice A a.length ca, .slice B b.length cb, ud, ud, tv, iv ((k : Nat) : Int), .slice A a.length ca, iv (a.length : Nat), .slice B b.length cb, iv (b.length : Nat), fv, iv ((k : Nat) : Int), .slice A a.length ca, iv (a.length : Nat), fv, J 15, J 16, J 17, J 18, J 19, J 20, J 21, J 22, J 23, J 24, J 25] 0) (by kernel_rfl) ?_
      refine then_n ?_
      refine wp_ret ?_
      refine bodyPost_ret (v := .bool true) (results_t1 rfl (by kernel_rfl)) rfl ?_
      exact ⟨by rw [decide_eq_true (bytes_ext3 hlen (fun m hm => hI4.2 m (by omega)))], S3⟩
theorem same3 {F : Nat → Prop} {w0 w : World} {L : List Ast} {A B : Option Addr} {a b : List UInt8} {ca cb : Nat} {t : Bool} (ht : decide (a = b) = t) (S : St F w0 w L) (hx : RoT F w0 L A a) (hy : RoT F w0 L B b) (hm : a.length ≤ 9223372036854775807) (hm2 : b.length ≤ 9223372036854775807) :
    Calls Try.prog 28 #[.slice A a.length ca, .slice B b.length cb] w fun e w' => e = .returned (.bool t) ∧ St F w0 w' L := ht ▸ same3_ S hx hy hm hm2
end Go.Proofs
