/- form, Seal, Open of the document, over owned memory. -/
import Derived.Test.YtgelippmcflppaaHSeal1
open Go Go.RowKit Go.Proofs.YtgelippmcflppaaW.PrintWords Go.Proofs.YtgelippmcflppaaW.PrintMore
namespace Go.Proofs
open Go.Vel
set_option linter.unusedVariables false
set_option maxRecDepth 100000
set_option maxHeartbeats 4000000
attribute [local irreducible] gives wpList Code.wp

theorem pre_app (X l : List UInt8) (i : Nat) : (X ++ pre l i).map bv ++ [Value.int .u8 ((l.getD i 0).toNat : Int)] = (X ++ pre l (i + 1)).map bv := by rw [List.map_append, List.append_assoc, pre_succ, List.map_append]
theorem rep_app (X : List UInt8) (j : Nat) : (X ++ List.replicate j 0).map bv ++ [Value.int .u8 0] = (X ++ List.replicate (j + 1) 0).map bv := by
  rw [List.replicate_succ', ← List.append_assoc, List.map_append (l₂ := [0])]; rfl
theorem take_app (X l : List UInt8) (k : Nat) (h : k < l.length) : (X ++ l.take k).map bv ++ [Value.int .u8 ((l.getD k 0).toNat : Int)] = (X ++ l.take (k + 1)).map bv := by
  rw [List.take_succ_eq_append_getElem h, List.getD_eq_getElem?_getD, List.getElem?_eq_getElem h, ← List.append_assoc, List.map_append (l₂ := [_])]; rfl
theorem getD_drop (l : List UInt8) (a i : Nat) : (l.drop a).getD i 0 = l.getD (a + i) 0 := by
  rw [List.getD_eq_getElem?_getD, List.getElem?_drop, List.getD_eq_getElem?_getD]
theorem pre_drop {l : List UInt8} {a i : Nat} (h : a + i ≤ l.length) : pre (l.drop a) i = (l.drop a).take i := pre_take (by rw [List.length_drop]; omega)
theorem byte_of (n : Nat) : IntKind.u8.wrap ((n % 256 : Nat) : Int) = ((UInt8.ofNat (n % 256)).toNat : Int) := by
  rw [wrap_u8]; congr 2; congr 1; omega
theorem byte_of' {z : Int} {n : Nat} (h : z = (n : Int)) (hn : n < 256) : IntKind.u8.wrap z = ((UInt8.ofNat n).toNat : Int) := by
  subst h; rw [show (n : Int) = ((n % 256 : Nat) : Int) from by omega, byte_of, Nat.mod_eq_of_lt hn]
theorem byte_self (t : UInt8) : IntKind.u8.wrap (t.toNat : Int) = (t.toNat : Int) := by
  have := t.toNat_lt
  rw [IntKind.wrap_u8]; omega
theorem le4_get (r : BitVec 32) {k : Nat} (hk : k < 4) : (le4 r).getD k 0 = UInt8.ofNat (r.toNat / 256 ^ k % 256) := by
  rcases k with _ | _ | _ | _ | k
  · simp [le4]
  · simp [le4]
  · simp [le4]
  · simp [le4]
  · omega
theorem rform {F : Nat → Prop} {w0 w : World} {L : List Ast} (S : St F w0 w L) {z : Int} {t : UInt8} (hz : z = (t.toNat : Int)) {A : Option Addr} {b : List UInt8} {cb : Nat} (hr : RoT F w0 L A b) (hb : b.length ≤ 504) : Calls Try.prog 46 #[.int .i64 z, .slice A b.length cb] w fun e w' => ∃ A c, e = .returned (.slice A 512 c) ∧ St F w0 w' (vec 5 1 (.slice A 512 c) 512 ((form t b).map bv) :: L) := by
  subst hz
  have hlt := length_text hb
  have S1 : St F w0 w (vec 5 1 (.slice none 0 0) 0 ([].map bv) :: L) := St.vec_nil S
  refine wp_enter (fr [iv (t.toNat : Int), .slice A b.length cb] 92) Try.func46 rfl (by kernel_rfl) ?_
  refine wp_seq ?_
  refine wp_region_lit ?_
  refine pv (.slice none 0 0) ?_
  refine wl_end (fr [iv (t.toNat : Int), .slice A b.length cb, ud, ud, .slice none 0 0] 89) (by kernel_rfl) ?_
  refine then_n ?_
  refine wp_seq ?_
  refine wp_region_lit ?_
  refine pv (.slice none 0 0) ?_
  refine wl_end (fr [iv (t.toNat : Int), .slice A b.length cb, ud, ud, .slice none 0 0, .slice none 0 0] 88) (by kernel_rfl) ?_
  refine then_n ?_
  refine wp_seq ?_
  refine wp_region_lit ?_
  refine pv (.slice none 0 0) ?_
  refine pv (.slice A b.length cb) ?_
  refine pv (iv (b.length : Nat)) ?_
  refine wl_gv rfl (gv_int (k := .i64) (z := Int.tmod (b.length : Nat) 256) (z' := ((b.length % 256 : Nat) : Int)) (by kernel_rfl) (by rw [Int.tmod_eq_emod_of_nonneg (by omega)]; omega) ?_)
  refine wl_gv rfl (gv_int (k := .u8) (z := IntKind.u8.wrap ((b.length % 256 : Nat) : Int)) (z' := ((UInt8.ofNat (b.length % 256)).toNat : Int)) (by kernel_rfl) (byte_of b.length) ?_)
  refine wl_gv rfl (gv_slit (e := 5) (sz := 1) (z := .int .u8 0) (by_ := 1) (vs := #[(0, .int .u8 ((UInt8.ofNat (b.length % 256)).toNat : Int))]) (cells := #[.int .u8 ((UInt8.ofNat (b.length % 256)).toNat : Int)]) S1 rfl (by kernel_rfl) ⟨by kernel_rfl⟩ (by kernel_rfl) (by kernel_rfl) (by kernel_rfl) (by kernel_rfl) (fun g2 w3 hg4 S5 => ?_))
  have S6 : St F w0 w3 (row g2 #[.int .u8 ((UInt8.ofNat (b.length % 256)).toNat : Int)] 5 :: vec 5 1 (.slice none 0 0) 0 ([].map bv) :: L) := St.permT [row g2 #[.int .u8 ((UInt8.ofNat (b.length % 256)).toNat : Int)] 5, vec 5 1 (.slice none 0 0) 0 ([].map bv)] [0, 1] (by decide) rfl S5
  refine wl_gv rfl (gv_append (e := 5) (sz := 1) (n := 0) (v := (.slice none 0 0)) (vals := ([].map bv)) (z := .int .u8 0) (by_ := 1) (m := 1) (c' := 1) (ad := ⟨g2, 0, none⟩) (news := [.int .u8 ((UInt8.ofNat (b.length % 256)).toNat : Int)]) (St.swap S6) rfl (by kernel_rfl) ⟨by kernel_rfl⟩ rfl (by kernel_rfl) (by kernel_rfl) (by decide) rfl (row_news (S6.blk 0 rfl)) (by intro u hu; simp at hu; subst hu; rfl) (by omega) (by omega) (fun v8 w7 S9 => ?_))
  have S10 : St F w0 w7 (vec 5 1 v8 1 ([].map bv ++ [.int .u8 ((UInt8.ofNat (b.length % 256)).toNat : Int)]) :: L) := St.permT [vec 5 1 v8 1 ([].map bv ++ [.int .u8 ((UInt8.ofNat (b.length % 256)).toNat : Int)]), row g2 #[.int .u8 ((UInt8.ofNat (b.length % 256)).toNat : Int)] 5] [0] (by decide) rfl S9
  obtain ⟨A11, c12, rfl⟩ := St.vecV S10 0 rfl
  change St F w0 w7 (vec 5 1 (.slice A11 1 c12) 1 ([UInt8.ofNat (b.length % 256)].map bv) :: L) at S10
  refine pv (.slice A11 1 c12) ?_
  refine wl_end (fr [iv (t.toNat : Int), .slice A b.length cb, ud, ud, .slice none 0 0, .slice A11 1 c12, ud, ud, ud, ud, ud, .slice none 0 0, .slice A b.length cb, iv (b.length : Nat), iv ((b.length % 256 : Nat) : Int), .int .u8 ((UInt8.ofNat (b.length % 256)).toNat : Int), sl g2 0 1 1, .slice A11 1 c12] 76) (by kernel_rfl) ?_
  refine then_n ?_
  refine wp_seq ?_
  refine wp_region_lit ?_
  refine pv (.slice A11 1 c12) ?_
  refine pv (.slice A b.length cb) ?_
  refine pv (iv (b.length : Nat)) ?_
  refine wl_gv rfl (gv_int (k := .i64) (z := IntKind.i64.wrap (Int.tdiv (b.length : Nat) 256)) (z' := ((b.length / 256 : Nat) : Int)) (by kernel_rfl) (wr_eq (by rw [Int.tdiv_eq_ediv_of_nonneg (by omega)]; omega) (by omega) (by omega)) ?_)
  refine wl_gv rfl (gv_int (k := .u8) (z := IntKind.u8.wrap ((b.length / 256 : Nat) : Int)) (z' := ((UInt8.ofNat (b.length / 256)).toNat : Int)) (by kernel_rfl) (byte_of' rfl (by omega)) ?_)
  refine wl_gv rfl (gv_slit (e := 5) (sz := 1) (z := .int .u8 0) (by_ := 1) (vs := #[(0, .int .u8 ((UInt8.ofNat (b.length / 256)).toNat : Int))]) (cells := #[.int .u8 ((UInt8.ofNat (b.length / 256)).toNat : Int)]) S10 rfl (by kernel_rfl) ⟨by kernel_rfl⟩ (by kernel_rfl) (by kernel_rfl) (by kernel_rfl) (by kernel_rfl) (fun g13 w14 hg15 S16 => ?_))
  have S17 : St F w0 w14 (row g13 #[.int .u8 ((UInt8.ofNat (b.length / 256)).toNat : Int)] 5 :: vec 5 1 (.slice A11 1 c12) 1 ([UInt8.ofNat (b.length % 256)].map bv) :: L) := St.permT [row g13 #[.int .u8 ((UInt8.ofNat (b.length / 256)).toNat : Int)] 5, vec 5 1 (.slice A11 1 c12) 1 ([UInt8.ofNat (b.length % 256)].map bv)] [0, 1] (by decide) rfl S16
  refine wl_gv rfl (gv_append (e := 5) (sz := 1) (n := 1) (v := (.slice A11 1 c12)) (vals := ([UInt8.ofNat (b.length % 256)].map bv)) (z := .int .u8 0) (by_ := 1) (m := 1) (c' := 1) (ad := ⟨g13, 0, none⟩) (news := [.int .u8 ((UInt8.ofNat (b.length / 256)).toNat : Int)]) (St.swap S17) rfl (by kernel_rfl) ⟨by kernel_rfl⟩ rfl (by kernel_rfl) (by kernel_rfl) (by decide) rfl (row_news (S17.blk 0 rfl)) (by intro u hu; simp at hu; subst hu; rfl) (by omega) (by omega) (fun v19 w18 S20 => ?_))
  have S21 : St F w0 w18 (vec 5 1 v19 2 ([UInt8.ofNat (b.length % 256)].map bv ++ [.int .u8 ((UInt8.ofNat (b.length / 256)).toNat : Int)]) :: L) := St.permT [vec 5 1 v19 2 ([UInt8.ofNat (b.length % 256)].map bv ++ [.int .u8 ((UInt8.ofNat (b.length / 256)).toNat : Int)]), row g13 #[.int .u8 ((UInt8.ofNat (b.length / 256)).toNat : Int)] 5] [0] (by decide) rfl S20
  obtain ⟨A22, c23, rfl⟩ := St.vecV S21 0 rfl
  change St F w0 w18 (vec 5 1 (.slice A22 2 c23) 2 ([UInt8.ofNat (b.length % 256), UInt8.ofNat (b.length / 256)].map bv) :: L) at S21
  refine pv (.slice A22 2 c23) ?_
  refine wl_end (fr [iv (t.toNat : Int), .slice A b.length cb, ud, ud, .slice none 0 0, .slice A22 2 c23, ud, ud, ud, ud, ud, .slice none 0 0, .slice A b.length cb, iv (b.length : Nat), iv ((b.length % 256 : Nat) : Int), .int .u8 ((UInt8.ofNat (b.length % 256)).toNat : Int), sl g2 0 1 1, .slice A11 1 c12, .slice A11 1 c12, .slice A b.length cb, iv (b.length : Nat), iv ((b.length / 256 : Nat) : Int), .int .u8 ((UInt8.ofNat (b.length / 256)).toNat : Int), sl g13 0 1 1, .slice A22 2 c23] 69) (by kernel_rfl) ?_
  refine then_n ?_
  refine wp_seq ?_
  refine wp_seq ?_
  refine wp_region_lit ?_
  refine pv (iv 0) ?_
  refine wl_end (fr [iv (t.toNat : Int), .slice A b.length cb, ud, ud, .slice none 0 0, .slice A22 2 c23, iv 0, ud, ud, ud, ud, .slice none 0 0, .slice A b.length cb, iv (b.length : Nat), iv ((b.length % 256 : Nat) : Int), .int .u8 ((UInt8.ofNat (b.length % 256)).toNat : Int), sl g2 0 1 1, .slice A11 1 c12, .slice A11 1 c12, .slice A b.length cb, iv (b.length : Nat), iv ((b.length / 256 : Nat) : Int), .int .u8 ((UInt8.ofNat (b.length / 256)).toNat : Int), sl g13 0 1 1, .slice A22 2 c23] 69) (by kernel_rfl) ?_
  refine then_n ?_
  refine wp_block ?_
  have S24 : St F w0 w18 (vec 5 1 (.slice A22 (2 + 0) c23) (2 + 0) (([UInt8.ofNat (b.length % 256), UInt8.ofNat (b.length / 256)] ++ pre b 0).map bv) :: L) := S21
  refine wp_loop_g (G := Nat × Option Addr × Nat) (fun (g_ : Nat × Option Addr × Nat) (a_ : Act) (w_ : World) => ∃ J : Nat → Value, a_ = (fr [iv (t.toNat : Int), .slice A b.length cb, ud, ud, .slice none 0 0, .slice g_.2.1 (2 + g_.1) g_.2.2, iv ((g_.1 : Nat) : Int), ud, ud, ud, ud, .slice none 0 0, .slice A b.length cb, iv (b.length : Nat), iv ((b.length % 256 : Nat) : Int), .int .u8 ((UInt8.ofNat (b.length % 256)).toNat : Int), sl g2 0 1 1, .slice A11 1 c12, .slice A11 1 c12, .slice A b.length cb, iv (b.length : Nat), iv ((b.length / 256 : Nat) : Int), .int .u8 ((UInt8.ofNat (b.length / 256)).toNat : Int), sl g13 0 1 1, .slice A22 2 c23, J 25, J 26, J 27, J 28, J 29, J 30, J 31, J 32, J 33, J 34, J 35, J 36, J 37] 56) ∧ St F w0 w_ (vec 5 1 (.slice g_.2.1 (2 + g_.1) g_.2.2) (2 + g_.1) (([UInt8.ofNat (b.length % 256), UInt8.ofNat (b.length / 256)] ++ pre b g_.1).map bv) :: L) ∧ (g_.1 ≤ b.length)) (fun g_ => b.length - g_.1) (0, A22, c23) ⟨(jl []), by kernel_rfl, S24, Nat.zero_le _⟩ ?_
  rintro ⟨i, A5, c5⟩ a_ w25 ⟨J, rfl, S26, hI27⟩
  skip
  have S26 : St F w0 w25 (vec 5 1 (.slice A5 (2 + i) c5) (2 + i) (([UInt8.ofNat (b.length % 256), UInt8.ofNat (b.length / 256)] ++ pre b i).map bv) :: L) := S26
  have hI27 : (i ≤ b.length) := hI27
  refine wp_seq ?_
  refine wp_seq ?_
  refine wp_region_lit ?_
  refine pv (iv ((i : Nat) : Int)) ?_
  refine pv (.slice A b.length cb) ?_
  refine pv (iv (b.length : Nat)) ?_
  refine wl_gv rfl (gv_dec (p := (((i : Nat) : Int) : Int) < (b.length : Nat)) (by kernel_rfl) (fun hb28 => ?_) (fun hb28 => ?_))
  · skip
    have hi : i < b.length := by omega
    obtain ⟨ad, had⟩ := (hr.out _ [vec 5 1 (.slice A5 (2 + i) c5) (2 + i) (([UInt8.ofNat (b.length % 256), UInt8.ofNat (b.length / 256)] ++ pre b i).map bv)] S26).at hi
    refine wl_end (fr [iv (t.toNat : Int), .slice A b.length cb, ud, ud, .slice none 0 0, .slice A5 (2 + i) c5, iv ((i : Nat) : Int), ud, ud, ud, ud, .slice none 0 0, .slice A b.length cb, iv (b.length : Nat), iv ((b.length % 256 : Nat) : Int), .int .u8 ((UInt8.ofNat (b.length % 256)).toNat : Int), sl g2 0 1 1, .slice A11 1 c12, .slice A11 1 c12, .slice A b.length cb, iv (b.length : Nat), iv ((b.length / 256 : Nat) : Int), .int .u8 ((UInt8.ofNat (b.length / 256)).toNat : Int), sl g13 0 1 1, .slice A22 2 c23, iv ((i : Nat) : Int), .slice A b.length cb, iv (b.length : Nat), tv, J 29, J 30, J 31, J 32, J 33, J 34, J 35, J 36, J 37] 56) (by kernel_rfl) ?_
    refine then_n ?_
    refine wp_cond_true (by kernel_rfl) ?_
    refine wp_skip ?_
    refine then_n ?_
    refine wp_seq ?_
    refine wp_block ?_
    refine wp_region_lit ?_
    refine pv (.slice A5 (2 + i) c5) ?_
    refine pv (.slice A b.length cb) ?_
    refine pv (iv ((i : Nat) : Int)) ?_
    refine wl_gv rfl (gv_ixB (e := 5) (sz := 1) (n := b.length) (c := cb) (i := ((i : Nat) : Int)) (k := .i64) (ad := ad) (ad' := (ad.add i)) (j := i) rfl (by kernel_rfl) (by kernel_rfl) (by rw [← had]; kernel_rfl) (by kernel_rfl) rfl hi (by rw [Nat.mul_one]) ?_)
    refine wl_gv rfl (gv_ldR (v := .int .u8 ((b.getD i 0).toNat : Int)) rfl (by kernel_rfl) (by kernel_rfl) ((had ▸ hr.out _ [vec 5 1 (.slice A5 (2 + i) c5) (2 + i) (([UInt8.ofNat (b.length % 256), UInt8.ofNat (b.length / 256)] ++ pre b i).map bv)] S26 : RdB _ (some ad) b).cell hi) ?_)
    refine wl_gv rfl (gv_slit (e := 5) (sz := 1) (z := .int .u8 0) (by_ := 1) (vs := #[(0, .int .u8 ((b.getD i 0).toNat : Int))]) (cells := #[.int .u8 ((b.getD i 0).toNat : Int)]) S26 rfl (by kernel_rfl) ⟨by kernel_rfl⟩ (by kernel_rfl) (by kernel_rfl) (by kernel_rfl) (by kernel_rfl) (fun g29 w30 hg31 S32 => ?_))
    have S33 : St F w0 w30 (row g29 #[.int .u8 ((b.getD i 0).toNat : Int)] 5 :: vec 5 1 (.slice A5 (2 + i) c5) (2 + i) (([UInt8.ofNat (b.length % 256), UInt8.ofNat (b.length / 256)] ++ pre b i).map bv) :: L) := St.permT [row g29 #[.int .u8 ((b.getD i 0).toNat : Int)] 5, vec 5 1 (.slice A5 (2 + i) c5) (2 + i) (([UInt8.ofNat (b.length % 256), UInt8.ofNat (b.length / 256)] ++ pre b i).map bv)] [0, 1] (by decide) rfl S32
    refine wl_gv rfl (gv_append (e := 5) (sz := 1) (n := (2 + i)) (v := (.slice A5 (2 + i) c5)) (vals := (([UInt8.ofNat (b.length % 256), UInt8.ofNat (b.length / 256)] ++ pre b i).map bv)) (z := .int .u8 0) (by_ := 1) (m := 1) (c' := 1) (ad := ⟨g29, 0, none⟩) (news := [.int .u8 ((b.getD i 0).toNat : Int)]) (St.swap S33) rfl (by kernel_rfl) ⟨by kernel_rfl⟩ rfl (by kernel_rfl) (by kernel_rfl) (by decide) rfl (row_news (S33.blk 0 rfl)) (by intro u hu; simp at hu; subst hu; rfl) (by omega) (by omega) (fun v35 w34 S36 => ?_))
    have S37 : St F w0 w34 (vec 5 1 v35 (2 + i + 1) (([UInt8.ofNat (b.length % 256), UInt8.ofNat (b.length / 256)] ++ pre b i).map bv ++ [.int .u8 ((b.getD i 0).toNat : Int)]) :: L) := St.permT [vec 5 1 v35 (2 + i + 1) (([UInt8.ofNat (b.length % 256), UInt8.ofNat (b.length / 256)] ++ pre b i).map bv ++ [.int .u8 ((b.getD i 0).toNat : Int)]), row g29 #[.int .u8 ((b.getD i 0).toNat : Int)] 5] [0] (by decide) rfl S36
    rw [pre_app] at S37
    obtain ⟨A38, c39, rfl⟩ := St.vecV S37 0 rfl
    change St F w0 w34 (vec 5 1 (.slice A38 (2 + i + 1) c39) (2 + i + 1) (([UInt8.ofNat (b.length % 256), UInt8.ofNat (b.length / 256)] ++ pre b (i + 1)).map bv) :: L) at S37
    refine pv (.slice A38 (2 + i + 1) c39) ?_
    refine wl_end (fr [iv (t.toNat : Int), .slice A b.length cb, ud, ud, .slice none 0 0, .slice A38 (2 + i + 1) c39, iv ((i : Nat) : Int), ud, ud, ud, ud, .slice none 0 0, .slice A b.length cb, iv (b.length : Nat), iv ((b.length % 256 : Nat) : Int), .int .u8 ((UInt8.ofNat (b.length % 256)).toNat : Int), sl g2 0 1 1, .slice A11 1 c12, .slice A11 1 c12, .slice A b.length cb, iv (b.length : Nat), iv ((b.length / 256 : Nat) : Int), .int .u8 ((UInt8.ofNat (b.length / 256)).toNat : Int), sl g13 0 1 1, .slice A22 2 c23, iv ((i : Nat) : Int), .slice A b.length cb, iv (b.length : Nat), tv, J 29, J 30, .slice A5 (2 + i) c5, .slice A b.length cb, iv ((i : Nat) : Int), .pointer (some (ad.add i)), .int .u8 ((b.getD i 0).toNat : Int), sl g29 0 1 1, .slice A38 (2 + i + 1) c39] 56) (by kernel_rfl) ?_
    refine inb_n ?_
    refine then_n ?_
    refine wp_region_lit ?_
    refine pv (iv ((i : Nat) : Int)) ?_
    refine wl_gv rfl (gv_int (k := .i64) (z := IntKind.i64.wrap (((i : Nat) : Int) + 1)) (z' := ((i + 1 : Nat) : Int)) (by kernel_rfl) (wr_eq (by omega) (by omega) (by omega)) ?_)
    refine pv (iv ((i + 1 : Nat) : Int)) ?_
    refine wl_end (fr [iv (t.toNat : Int), .slice A b.length cb, ud, ud, .slice none 0 0, .slice A38 (2 + i + 1) c39, iv ((i + 1 : Nat) : Int), ud, ud, ud, ud, .slice none 0 0, .slice A b.length cb, iv (b.length : Nat), iv ((b.length % 256 : Nat) : Int), .int .u8 ((UInt8.ofNat (b.length % 256)).toNat : Int), sl g2 0 1 1, .slice A11 1 c12, .slice A11 1 c12, .slice A b.length cb, iv (b.length : Nat), iv ((b.length / 256 : Nat) : Int), .int .u8 ((UInt8.ofNat (b.length / 256)).toNat : Int), sl g13 0 1 1, .slice A22 2 c23, iv ((i : Nat) : Int), .slice A b.length cb, iv (b.length : Nat), tv, iv ((i : Nat) : Int), iv ((i + 1 : Nat) : Int), .slice A5 (2 + i) c5, .slice A b.length cb, iv ((i : Nat) : Int), .pointer (some (ad.add i)), .int .u8 ((b.getD i 0).toNat : Int), sl g29 0 1 1, .slice A38 (2 + i + 1) c39] 56) (by kernel_rfl) ?_
    refine then_n ?_
    exact ⟨(i + 1, A38, c39), ⟨(jl [ud, ud, ud, ud, ud, ud, ud, ud, ud, ud, ud, ud, ud, ud, ud, ud, ud, ud, ud, ud, ud, ud, ud, ud, ud, iv ((i : Nat) : Int), .slice A b.length cb, iv (b.length : Nat), tv, iv ((i : Nat) : Int), iv ((i + 1 : Nat) : Int), .slice A5 (2 + i) c5, .slice A b.length cb, iv ((i : Nat) : Int), .pointer (some (ad.add i)), .int .u8 ((b.getD i 0).toNat : Int), sl g29 0 1 1, .slice A38 (2 + i + 1) c39]), by kernel_rfl, S37, (by omega)⟩, (by show b.length - (i + 1) < b.length - i; omega)⟩
  · skip
    have hib : i = b.length := by omega
    rw [hib, pre_all] at S26
    skip
    refine wl_end (fr [iv (t.toNat : Int), .slice A b.length cb, ud, ud, .slice none 0 0, .slice A5 (2 + i) c5, iv ((i : Nat) : Int), ud, ud, ud, ud, .slice none 0 0, .slice A b.length cb, iv (b.length : Nat), iv ((b.length % 256 : Nat) : Int), .int .u8 ((UInt8.ofNat (b.length % 256)).toNat : Int), sl g2 0 1 1, .slice A11 1 c12, .slice A11 1 c12, .slice A b.length cb, iv (b.length : Nat), iv ((b.length / 256 : Nat) : Int), .int .u8 ((UInt8.ofNat (b.length / 256)).toNat : Int), sl g13 0 1 1, .slice A22 2 c23, iv ((i : Nat) : Int), .slice A b.length cb, iv (b.length : Nat), fv, J 29, J 30, J 31, J 32, J 33, J 34, J 35, J 36, J 37] 56) (by kernel_rfl) ?_
    refine then_n ?_
    refine wp_cond_false (by kernel_rfl) ?_
    refine wp_exit ?_
    refine then_x ?_
    refine then_x ?_
    refine inb_x ?_
    refine then_n ?_
    refine wp_seq ?_
    refine wp_block ?_
    have S40 : St F w0 w25 (vec 5 1 (.slice A5 (2 + b.length + 0) c5) (2 + b.length + 0) (([UInt8.ofNat (b.length % 256), UInt8.ofNat (b.length / 256)] ++ b ++ List.replicate 0 0).map bv) :: L) := (by rw [List.replicate_zero, List.append_nil]; exact S26)
    have hfr : 2 + i = 2 + b.length + 0 := by omega
    rw [hfr]
    refine wp_loop_g (G := Nat × Option Addr × Nat) (fun (g_ : Nat × Option Addr × Nat) (a_ : Act) (w_ : World) => ∃ J : Nat → Value, a_ = (fr [iv (t.toNat : Int), .slice A b.length cb, ud, ud, .slice none 0 0, .slice g_.2.1 (2 + b.length + g_.1) g_.2.2, iv ((i : Nat) : Int), ud, ud, ud, ud, .slice none 0 0, .slice A b.length cb, iv (b.length : Nat), iv ((b.length % 256 : Nat) : Int), .int .u8 ((UInt8.ofNat (b.length % 256)).toNat : Int), sl g2 0 1 1, .slice A11 1 c12, .slice A11 1 c12, .slice A b.length cb, iv (b.length : Nat), iv ((b.length / 256 : Nat) : Int), .int .u8 ((UInt8.ofNat (b.length / 256)).toNat : Int), sl g13 0 1 1, .slice A22 2 c23, iv ((i : Nat) : Int), .slice A b.length cb, iv (b.length : Nat), fv, J 29, J 30, J 31, J 32, J 33, J 34, J 35, J 36, J 37, J 38, J 39, J 40, J 41, J 42, J 43] 50) ∧ St F w0 w_ (vec 5 1 (.slice g_.2.1 (2 + b.length + g_.1) g_.2.2) (2 + b.length + g_.1) (([UInt8.ofNat (b.length % 256), UInt8.ofNat (b.length / 256)] ++ b ++ List.replicate g_.1 0).map bv) :: L) ∧ (b.length + g_.1 ≤ 504)) (fun g_ => 504 - g_.1) (0, A5, c5) ⟨(jl [ud, ud, ud, ud, ud, ud, ud, ud, ud, ud, ud, ud, ud, ud, ud, ud, ud, ud, ud, ud, ud, ud, ud, ud, ud, ud, ud, ud, ud, J 29, J 30, J 31, J 32, J 33, J 34, J 35, J 36, J 37]), by kernel_rfl, S40, (by show b.length + 0 ≤ 504; omega)⟩ ?_
    rintro ⟨j, A6, c6⟩ a_ w41 ⟨J, rfl, S42, hI43⟩
    skip
    have S42 : St F w0 w41 (vec 5 1 (.slice A6 (2 + b.length + j) c6) (2 + b.length + j) (([UInt8.ofNat (b.length % 256), UInt8.ofNat (b.length / 256)] ++ b ++ List.replicate j 0).map bv) :: L) := S42
    have hI43 : (b.length + j ≤ 504) := hI43
    refine wp_seq ?_
    refine wp_seq ?_
    refine wp_region_lit ?_
    refine pv (.slice A6 (2 + b.length + j) c6) ?_
    refine pv (iv (2 + b.length + j : Nat)) ?_
    refine wl_gv rfl (gv_dec (p := ((2 + b.length + j : Nat) : Int) < 506) (by kernel_rfl) (fun hb44 => ?_) (fun hb44 => ?_))
    · skip
      refine wl_end (fr [iv (t.toNat : Int), .slice A b.length cb, ud, ud, .slice none 0 0, .slice A6 (2 + b.length + j) c6, iv ((i : Nat) : Int), ud, ud, ud, ud, .slice none 0 0, .slice A b.length cb, iv (b.length : Nat), iv ((b.length % 256 : Nat) : Int), .int .u8 ((UInt8.ofNat (b.length % 256)).toNat : Int), sl g2 0 1 1, .slice A11 1 c12, .slice A11 1 c12, .slice A b.length cb, iv (b.length : Nat), iv ((b.length / 256 : Nat) : Int), .int .u8 ((UInt8.ofNat (b.length / 256)).toNat : Int), sl g13 0 1 1, .slice A22 2 c23, iv ((i : Nat) : Int), .slice A b.length cb, iv (b.length : Nat), fv, J 29, J 30, J 31, J 32, J 33, J 34, J 35, J 36, J 37, .slice A6 (2 + b.length + j) c6, iv (2 + b.length + j : Nat), tv, J 41, J 42, J 43] 50) (by kernel_rfl) ?_
      refine then_n ?_
      refine wp_cond_true (by kernel_rfl) ?_
      refine wp_skip ?_
      refine then_n ?_
      refine wp_block ?_
      refine wp_region_lit ?_
      refine pv (.slice A6 (2 + b.length + j) c6) ?_
      refine wl_gv rfl (gv_slit (e := 5) (sz := 1) (z := .int .u8 0) (by_ := 1) (vs := #[(0, .int .u8 0)]) (cells := #[.int .u8 0]) S42 rfl (by kernel_rfl) ⟨by kernel_rfl⟩ (by kernel_rfl) (by kernel_rfl) (by kernel_rfl) (by kernel_rfl) (fun g45 w46 hg47 S48 => ?_))
      have S49 : St F w0 w46 (row g45 #[.int .u8 0] 5 :: vec 5 1 (.slice A6 (2 + b.length + j) c6) (2 + b.length + j) (([UInt8.ofNat (b.length % 256), UInt8.ofNat (b.length / 256)] ++ b ++ List.replicate j 0).map bv) :: L) := St.permT [row g45 #[.int .u8 0] 5, vec 5 1 (.slice A6 (2 + b.length + j) c6) (2 + b.length + j) (([UInt8.ofNat (b.length % 256), UInt8.ofNat (b.length / 256)] ++ b ++ List.replicate j 0).map bv)] [0, 1] (by decide) rfl S48
      refine wl_gv rfl (gv_append (e := 5) (sz := 1) (n := (2 + b.length + j)) (v := (.slice A6 (2 + b.length + j) c6)) (vals := (([UInt8.ofNat (b.length % 256), UInt8.ofNat (b.length / 256)] ++ b ++ List.replicate j 0).map bv)) (z := .int .u8 0) (by_ := 1) (m := 1) (c' := 1) (ad := ⟨g45, 0, none⟩) (news := [.int .u8 0]) (St.swap S49) rfl (by kernel_rfl) ⟨by kernel_rfl⟩ rfl (by kernel_rfl) (by kernel_rfl) (by decide) rfl (row_news (S49.blk 0 rfl)) (by intro u hu; simp at hu; subst hu; rfl) (by omega) (by omega) (fun v51 w50 S52 => ?_))
      have S53 : St F w0 w50 (vec 5 1 v51 (2 + b.length + j + 1) (([UInt8.ofNat (b.length % 256), UInt8.ofNat (b.length / 256)] ++ b ++ List.replicate j 0).map bv ++ [.int .u8 0]) :: L) := St.permT [vec 5 1 v51 (2 + b.length + j + 1) (([UInt8.ofNat (b.length % 256), UInt8.ofNat (b.length / 256)] ++ b ++ List.replicate j 0).map bv ++ [.int .u8 0]), row g45 #[.int .u8 0] 5] [0] (by decide) rfl S52
      rw [rep_app] at S53
      obtain ⟨A54, c55, rfl⟩ := St.vecV S53 0 rfl
      change St F w0 w50 (vec 5 1 (.slice A54 (2 + b.length + j + 1) c55) (2 + b.length + j + 1) (([UInt8.ofNat (b.length % 256), UInt8.ofNat (b.length / 256)] ++ b ++ List.replicate (j + 1) 0).map bv) :: L) at S53
      refine pv (.slice A54 (2 + b.length + j + 1) c55) ?_
      refine wl_end (fr [iv (t.toNat : Int), .slice A b.length cb, ud, ud, .slice none 0 0, .slice A54 (2 + b.length + j + 1) c55, iv ((i : Nat) : Int), ud, ud, ud, ud, .slice none 0 0, .slice A b.length cb, iv (b.length : Nat), iv ((b.length % 256 : Nat) : Int), .int .u8 ((UInt8.ofNat (b.length % 256)).toNat : Int), sl g2 0 1 1, .slice A11 1 c12, .slice A11 1 c12, .slice A b.length cb, iv (b.length : Nat), iv ((b.length / 256 : Nat) : Int), .int .u8 ((UInt8.ofNat (b.length / 256)).toNat : Int), sl g13 0 1 1, .slice A22 2 c23, iv ((i : Nat) : Int), .slice A b.length cb, iv (b.length : Nat), fv, J 29, J 30, J 31, J 32, J 33, J 34, J 35, J 36, J 37, .slice A6 (2 + b.length + j) c6, iv (2 + b.length + j : Nat), tv, .slice A6 (2 + b.length + j) c6, sl g45 0 1 1, .slice A54 (2 + b.length + j + 1) c55] 50) (by kernel_rfl) ?_
      refine inb_n ?_
      refine then_n ?_
      exact ⟨(j + 1, A54, c55), ⟨(jl [ud, ud, ud, ud, ud, ud, ud, ud, ud, ud, ud, ud, ud, ud, ud, ud, ud, ud, ud, ud, ud, ud, ud, ud, ud, ud, ud, ud, ud, J 29, J 30, J 31, J 32, J 33, J 34, J 35, J 36, J 37, .slice A6 (2 + b.length + j) c6, iv (2 + b.length + j : Nat), tv, .slice A6 (2 + b.length + j) c6, sl g45 0 1 1, .slice A54 (2 + b.length + j + 1) c55]), by kernel_rfl, S53, (by omega)⟩, (by show 504 - (j + 1) < 504 - j; omega)⟩
    · skip
      have hj : b.length + j = 504 := by omega
      have htx : [UInt8.ofNat (b.length % 256), UInt8.ofNat (b.length / 256)] ++ b ++ List.replicate j 0 = text b := by unfold text; rw [show j = 504 - b.length from by omega]; rfl
      have hn5 : 2 + b.length + j = (text b).length := by omega
      rw [htx, hn5] at S42
      rw [hn5]
      refine wl_end (fr [iv (t.toNat : Int), .slice A b.length cb, ud, ud, .slice none 0 0, .slice A6 ((text b).length) c6, iv ((i : Nat) : Int), ud, ud, ud, ud, .slice none 0 0, .slice A b.length cb, iv (b.length : Nat), iv ((b.length % 256 : Nat) : Int), .int .u8 ((UInt8.ofNat (b.length % 256)).toNat : Int), sl g2 0 1 1, .slice A11 1 c12, .slice A11 1 c12, .slice A b.length cb, iv (b.length : Nat), iv ((b.length / 256 : Nat) : Int), .int .u8 ((UInt8.ofNat (b.length / 256)).toNat : Int), sl g13 0 1 1, .slice A22 2 c23, iv ((i : Nat) : Int), .slice A b.length cb, iv (b.length : Nat), fv, J 29, J 30, J 31, J 32, J 33, J 34, J 35, J 36, J 37, .slice A6 ((text b).length) c6, iv ((text b).length : Nat), fv, J 41, J 42, J 43] 50) (by kernel_rfl) ?_
      refine then_n ?_
      refine wp_cond_false (by kernel_rfl) ?_
      refine wp_exit ?_
      refine then_x ?_
      refine then_x ?_
      refine inb_x ?_
      refine then_n ?_
      refine wp_seq ?_
      refine wp_region_lit ?_
      refine pv (.slice A6 ((text b).length) c6) ?_
      refine wl_gv rfl (gv_call (args := #[.slice A6 ((text b).length) c6]) rfl Try.func54 (by kernel_rfl) rfl rfl (by kernel_rfl) ?_)
      refine Calls.mono (rsum (l := text b) S42 (RoT.ofVec 0 rfl) (by omega)) ?_
      rintro _ w56 ⟨rfl, S57⟩
      refine ⟨_, rfl, ?_⟩
      refine pv (iv ((crc (text b)).toNat : Int)) ?_
      refine wl_end (fr [iv (t.toNat : Int), .slice A b.length cb, ud, ud, .slice none 0 0, .slice A6 ((text b).length) c6, iv ((i : Nat) : Int), iv ((crc (text b)).toNat : Int), ud, ud, ud, .slice none 0 0, .slice A b.length cb, iv (b.length : Nat), iv ((b.length % 256 : Nat) : Int), .int .u8 ((UInt8.ofNat (b.length % 256)).toNat : Int), sl g2 0 1 1, .slice A11 1 c12, .slice A11 1 c12, .slice A b.length cb, iv (b.length : Nat), iv ((b.length / 256 : Nat) : Int), .int .u8 ((UInt8.ofNat (b.length / 256)).toNat : Int), sl g13 0 1 1, .slice A22 2 c23, iv ((i : Nat) : Int), .slice A b.length cb, iv (b.length : Nat), fv, J 29, J 30, J 31, J 32, J 33, J 34, J 35, J 36, J 37, .slice A6 ((text b).length) c6, iv ((text b).length : Nat), fv, J 41, J 42, J 43, .slice A6 ((text b).length) c6, iv ((crc (text b)).toNat : Int)] 48) (by kernel_rfl) ?_
      refine then_n ?_
      refine wp_seq ?_
      refine wp_region_lit ?_
      refine pv (.slice none 0 0) ?_
      have S58 : St F w0 w56 (vec 5 1 (.slice none 0 0) 0 ([].map bv) :: vec 5 1 (.slice A6 ((text b).length) c6) ((text b).length) ((text b).map bv) :: L) := St.vec_nil S57
      refine wl_end (fr [iv (t.toNat : Int), .slice A b.length cb, ud, ud, .slice none 0 0, .slice A6 ((text b).length) c6, iv ((i : Nat) : Int), iv ((crc (text b)).toNat : Int), .slice none 0 0, ud, ud, .slice none 0 0, .slice A b.length cb, iv (b.length : Nat), iv ((b.length % 256 : Nat) : Int), .int .u8 ((UInt8.ofNat (b.length % 256)).toNat : Int), sl g2 0 1 1, .slice A11 1 c12, .slice A11 1 c12, .slice A b.length cb, iv (b.length : Nat), iv ((b.length / 256 : Nat) : Int), .int .u8 ((UInt8.ofNat (b.length / 256)).toNat : Int), sl g13 0 1 1, .slice A22 2 c23, iv ((i : Nat) : Int), .slice A b.length cb, iv (b.length : Nat), fv, J 29, J 30, J 31, J 32, J 33, J 34, J 35, J 36, J 37, .slice A6 ((text b).length) c6, iv ((text b).length : Nat), fv, J 41, J 42, J 43, .slice A6 ((text b).length) c6, iv ((crc (text b)).toNat : Int)] 48) (by kernel_rfl) ?_
      refine then_n ?_
      refine wp_seq ?_
      refine wp_region_lit ?_
      refine pv (.slice none 0 0) ?_
      refine pv (iv (t.toNat : Int)) ?_
      refine wl_gv rfl (gv_int (k := .u8) (z := IntKind.u8.wrap (t.toNat : Int)) (z' := (t.toNat : Int)) (by kernel_rfl) (byte_self t) ?_)
      refine wl_gv rfl (gv_slit (e := 5) (sz := 1) (z := .int .u8 0) (by_ := 1) (vs := #[(0, .int .u8 (t.toNat : Int))]) (cells := #[.int .u8 (t.toNat : Int)]) S58 rfl (by kernel_rfl) ⟨by kernel_rfl⟩ (by kernel_rfl) (by kernel_rfl) (by kernel_rfl) (by kernel_rfl) (fun g59 w60 hg61 S62 => ?_))
      have S63 : St F w0 w60 (row g59 #[.int .u8 (t.toNat : Int)] 5 :: vec 5 1 (.slice none 0 0) 0 ([].map bv) :: vec 5 1 (.slice A6 ((text b).length) c6) ((text b).length) ((text b).map bv) :: L) := St.permT [row g59 #[.int .u8 (t.toNat : Int)] 5, vec 5 1 (.slice none 0 0) 0 ([].map bv), vec 5 1 (.slice A6 ((text b).length) c6) ((text b).length) ((text b).map bv)] [0, 1, 2] (by decide) rfl S62
      refine wl_gv rfl (gv_append (e := 5) (sz := 1) (n := 0) (v := (.slice none 0 0)) (vals := ([].map bv)) (z := .int .u8 0) (by_ := 1) (m := 1) (c' := 1) (ad := ⟨g59, 0, none⟩) (news := [.int .u8 (t.toNat : Int)]) (St.swap S63) rfl (by kernel_rfl) ⟨by kernel_rfl⟩ rfl (by kernel_rfl) (by kernel_rfl) (by decide) rfl (row_news (S63.blk 0 rfl)) (by intro u hu; simp at hu; subst hu; rfl) (by omega) (by omega) (fun v65 w64 S66 => ?_))
      have S67 : St F w0 w64 (vec 5 1 v65 1 ([].map bv ++ [.int .u8 (t.toNat : Int)]) :: vec 5 1 (.slice A6 ((text b).length) c6) ((text b).length) ((text b).map bv) :: L) := St.permT [vec 5 1 v65 1 ([].map bv ++ [.int .u8 (t.toNat : Int)]), row g59 #[.int .u8 (t.toNat : Int)] 5, vec 5 1 (.slice A6 ((text b).length) c6) ((text b).length) ((text b).map bv)] [0, 2] (by decide) rfl S66
      obtain ⟨A68, c69, rfl⟩ := St.vecV S67 0 rfl
      change St F w0 w64 (vec 5 1 (.slice A68 1 c69) 1 ([t].map bv) :: vec 5 1 (.slice A6 ((text b).length) c6) ((text b).length) ((text b).map bv) :: L) at S67
      refine pv (.slice A68 1 c69) ?_
      refine wl_end (fr [iv (t.toNat : Int), .slice A b.length cb, ud, ud, .slice none 0 0, .slice A6 ((text b).length) c6, iv ((i : Nat) : Int), iv ((crc (text b)).toNat : Int), .slice A68 1 c69, ud, ud, .slice none 0 0, .slice A b.length cb, iv (b.length : Nat), iv ((b.length % 256 : Nat) : Int), .int .u8 ((UInt8.ofNat (b.length % 256)).toNat : Int), sl g2 0 1 1, .slice A11 1 c12, .slice A11 1 c12, .slice A b.length cb, iv (b.length : Nat), iv ((b.length / 256 : Nat) : Int), .int .u8 ((UInt8.ofNat (b.length / 256)).toNat : Int), sl g13 0 1 1, .slice A22 2 c23, iv ((i : Nat) : Int), .slice A b.length cb, iv (b.length : Nat), fv, J 29, J 30, J 31, J 32, J 33, J 34, J 35, J 36, J 37, .slice A6 ((text b).length) c6, iv ((text b).length : Nat), fv, J 41, J 42, J 43, .slice A6 ((text b).length) c6, iv ((crc (text b)).toNat : Int), .slice none 0 0, iv (t.toNat : Int), .int .u8 (t.toNat : Int), sl g59 0 1 1, .slice A68 1 c69] 43) (by kernel_rfl) ?_
      refine then_n ?_
      refine wp_seq ?_
      refine wp_region_lit ?_
      refine pv (.slice A68 1 c69) ?_
      refine pv (.slice A6 ((text b).length) c6) ?_
      obtain ⟨ad13, had13⟩ := ((RoT.ofVec 1 rfl : RoT F w0 (vec 5 1 (.slice A68 1 c69) 1 ([t].map bv) :: vec 5 1 (.slice A6 ((text b).length) c6) ((text b).length) ((text b).map bv) :: L) A6 (text b)).now S67).at (k := 0) (by omega)
      refine wl_gv rfl (gv_ixB (e := 5) (sz := 1) (n := ((text b).length)) (c := c6) (i := 0) (k := .i64) (ad := ad13) (ad' := (ad13.add 0)) (j := 0) rfl (by kernel_rfl) (by kernel_rfl) (by rw [← had13]; kernel_rfl) (by kernel_rfl) rfl (by omega) (by rw [Nat.mul_one]) ?_)
      refine wl_gv rfl (gv_ldR (v := .int .u8 (((text b).getD 0 0).toNat : Int)) rfl (by kernel_rfl) (by kernel_rfl) ((had13 ▸ (RoT.ofVec 1 rfl : RoT F w0 (vec 5 1 (.slice A68 1 c69) 1 ([t].map bv) :: vec 5 1 (.slice A6 ((text b).length) c6) ((text b).length) ((text b).map bv) :: L) A6 (text b)).now S67 : RdB _ (some ad13) (text b)).cell (by omega)) ?_)
      refine wl_gv rfl (gv_slit (e := 5) (sz := 1) (z := .int .u8 0) (by_ := 1) (vs := #[(0, .int .u8 (((text b).getD 0 0).toNat : Int))]) (cells := #[.int .u8 (((text b).getD 0 0).toNat : Int)]) S67 rfl (by kernel_rfl) ⟨by kernel_rfl⟩ (by kernel_rfl) (by kernel_rfl) (by kernel_rfl) (by kernel_rfl) (fun g70 w71 hg72 S73 => ?_))
      have S74 : St F w0 w71 (row g70 #[.int .u8 (((text b).getD 0 0).toNat : Int)] 5 :: vec 5 1 (.slice A68 1 c69) 1 ([t].map bv) :: vec 5 1 (.slice A6 ((text b).length) c6) ((text b).length) ((text b).map bv) :: L) := St.permT [row g70 #[.int .u8 (((text b).getD 0 0).toNat : Int)] 5, vec 5 1 (.slice A68 1 c69) 1 ([t].map bv), vec 5 1 (.slice A6 ((text b).length) c6) ((text b).length) ((text b).map bv)] [0, 1, 2] (by decide) rfl S73
      refine wl_gv rfl (gv_append (e := 5) (sz := 1) (n := 1) (v := (.slice A68 1 c69)) (vals := ([t].map bv)) (z := .int .u8 0) (by_ := 1) (m := 1) (c' := 1) (ad := ⟨g70, 0, none⟩) (news := [.int .u8 (((text b).getD 0 0).toNat : Int)]) (St.swap S74) rfl (by kernel_rfl) ⟨by kernel_rfl⟩ rfl (by kernel_rfl) (by kernel_rfl) (by decide) rfl (row_news (S74.blk 0 rfl)) (by intro u hu; simp at hu; subst hu; rfl) (by omega) (by omega) (fun v76 w75 S77 => ?_))
      have S78 : St F w0 w75 (vec 5 1 v76 2 ([t].map bv ++ [.int .u8 (((text b).getD 0 0).toNat : Int)]) :: vec 5 1 (.slice A6 ((text b).length) c6) ((text b).length) ((text b).map bv) :: L) := St.permT [vec 5 1 v76 2 ([t].map bv ++ [.int .u8 (((text b).getD 0 0).toNat : Int)]), row g70 #[.int .u8 (((text b).getD 0 0).toNat : Int)] 5, vec 5 1 (.slice A6 ((text b).length) c6) ((text b).length) ((text b).map bv)] [0, 2] (by decide) rfl S77
      obtain ⟨A79, c80, rfl⟩ := St.vecV S78 0 rfl
      change St F w0 w75 (vec 5 1 (.slice A79 2 c80) 2 ([t, (text b).getD 0 0].map bv) :: vec 5 1 (.slice A6 ((text b).length) c6) ((text b).length) ((text b).map bv) :: L) at S78
      refine pv (.slice A79 2 c80) ?_
      refine wl_end (fr [iv (t.toNat : Int), .slice A b.length cb, ud, ud, .slice none 0 0, .slice A6 ((text b).length) c6, iv ((i : Nat) : Int), iv ((crc (text b)).toNat : Int), .slice A79 2 c80, ud, ud, .slice none 0 0, .slice A b.length cb, iv (b.length : Nat), iv ((b.length % 256 : Nat) : Int), .int .u8 ((UInt8.ofNat (b.length % 256)).toNat : Int), sl g2 0 1 1, .slice A11 1 c12, .slice A11 1 c12, .slice A b.length cb, iv (b.length : Nat), iv ((b.length / 256 : Nat) : Int), .int .u8 ((UInt8.ofNat (b.length / 256)).toNat : Int), sl g13 0 1 1, .slice A22 2 c23, iv ((i : Nat) : Int), .slice A b.length cb, iv (b.length : Nat), fv, J 29, J 30, J 31, J 32, J 33, J 34, J 35, J 36, J 37, .slice A6 ((text b).length) c6, iv ((text b).length : Nat), fv, J 41, J 42, J 43, .slice A6 ((text b).length) c6, iv ((crc (text b)).toNat : Int), .slice none 0 0, iv (t.toNat : Int), .int .u8 (t.toNat : Int), sl g59 0 1 1, .slice A68 1 c69, .slice A68 1 c69, .slice A6 ((text b).length) c6, .pointer (some (ad13.add 0)), .int .u8 (((text b).getD 0 0).toNat : Int), sl g70 0 1 1, .slice A79 2 c80] 37) (by kernel_rfl) ?_
      refine then_n ?_
      refine wp_seq ?_
      refine wp_region_lit ?_
      refine pv (.slice A79 2 c80) ?_
      refine pv (.slice A6 ((text b).length) c6) ?_
      obtain ⟨ad14, had14⟩ := ((RoT.ofVec 1 rfl : RoT F w0 (vec 5 1 (.slice A79 2 c80) 2 ([t, (text b).getD 0 0].map bv) :: vec 5 1 (.slice A6 ((text b).length) c6) ((text b).length) ((text b).map bv) :: L) A6 (text b)).now S78).at (k := 0) (by omega)
      refine wl_gv rfl (gv_ixB (e := 5) (sz := 1) (n := ((text b).length)) (c := c6) (i := 1) (k := .i64) (ad := ad14) (ad' := (ad14.add 1)) (j := 1) rfl (by kernel_rfl) (by kernel_rfl) (by rw [← had14]; kernel_rfl) (by kernel_rfl) rfl (by omega) (by rw [Nat.mul_one]) ?_)
      refine wl_gv rfl (gv_ldR (v := .int .u8 (((text b).getD 1 0).toNat : Int)) rfl (by kernel_rfl) (by kernel_rfl) ((had14 ▸ (RoT.ofVec 1 rfl : RoT F w0 (vec 5 1 (.slice A79 2 c80) 2 ([t, (text b).getD 0 0].map bv) :: vec 5 1 (.slice A6 ((text b).length) c6) ((text b).length) ((text b).map bv) :: L) A6 (text b)).now S78 : RdB _ (some ad14) (text b)).cell (by omega)) ?_)
      refine wl_gv rfl (gv_slit (e := 5) (sz := 1) (z := .int .u8 0) (by_ := 1) (vs := #[(0, .int .u8 (((text b).getD 1 0).toNat : Int))]) (cells := #[.int .u8 (((text b).getD 1 0).toNat : Int)]) S78 rfl (by kernel_rfl) ⟨by kernel_rfl⟩ (by kernel_rfl) (by kernel_rfl) (by kernel_rfl) (by kernel_rfl) (fun g81 w82 hg83 S84 => ?_))
      have S85 : St F w0 w82 (row g81 #[.int .u8 (((text b).getD 1 0).toNat : Int)] 5 :: vec 5 1 (.slice A79 2 c80) 2 ([t, (text b).getD 0 0].map bv) :: vec 5 1 (.slice A6 ((text b).length) c6) ((text b).length) ((text b).map bv) :: L) := St.permT [row g81 #[.int .u8 (((text b).getD 1 0).toNat : Int)] 5, vec 5 1 (.slice A79 2 c80) 2 ([t, (text b).getD 0 0].map bv), vec 5 1 (.slice A6 ((text b).length) c6) ((text b).length) ((text b).map bv)] [0, 1, 2] (by decide) rfl S84
      refine wl_gv rfl (gv_append (e := 5) (sz := 1) (n := 2) (v := (.slice A79 2 c80)) (vals := ([t, (text b).getD 0 0].map bv)) (z := .int .u8 0) (by_ := 1) (m := 1) (c' := 1) (ad := ⟨g81, 0, none⟩) (news := [.int .u8 (((text b).getD 1 0).toNat : Int)]) (St.swap S85) rfl (by kernel_rfl) ⟨by kernel_rfl⟩ rfl (by kernel_rfl) (by kernel_rfl) (by decide) rfl (row_news (S85.blk 0 rfl)) (by intro u hu; simp at hu; subst hu; rfl) (by omega) (by omega) (fun v87 w86 S88 => ?_))
      have S89 : St F w0 w86 (vec 5 1 v87 3 ([t, (text b).getD 0 0].map bv ++ [.int .u8 (((text b).getD 1 0).toNat : Int)]) :: vec 5 1 (.slice A6 ((text b).length) c6) ((text b).length) ((text b).map bv) :: L) := St.permT [vec 5 1 v87 3 ([t, (text b).getD 0 0].map bv ++ [.int .u8 (((text b).getD 1 0).toNat : Int)]), row g81 #[.int .u8 (((text b).getD 1 0).toNat : Int)] 5, vec 5 1 (.slice A6 ((text b).length) c6) ((text b).length) ((text b).map bv)] [0, 2] (by decide) rfl S88
      obtain ⟨A90, c91, rfl⟩ := St.vecV S89 0 rfl
      change St F w0 w86 (vec 5 1 (.slice A90 3 c91) 3 ([t, (text b).getD 0 0, (text b).getD 1 0].map bv) :: vec 5 1 (.slice A6 ((text b).length) c6) ((text b).length) ((text b).map bv) :: L) at S89
      refine pv (.slice A90 3 c91) ?_
      refine wl_end (fr [iv (t.toNat : Int), .slice A b.length cb, ud, ud, .slice none 0 0, .slice A6 ((text b).length) c6, iv ((i : Nat) : Int), iv ((crc (text b)).toNat : Int), .slice A90 3 c91, ud, ud, .slice none 0 0, .slice A b.length cb, iv (b.length : Nat), iv ((b.length % 256 : Nat) : Int), .int .u8 ((UInt8.ofNat (b.length % 256)).toNat : Int), sl g2 0 1 1, .slice A11 1 c12, .slice A11 1 c12, .slice A b.length cb, iv (b.length : Nat), iv ((b.length / 256 : Nat) : Int), .int .u8 ((UInt8.ofNat (b.length / 256)).toNat : Int), sl g13 0 1 1, .slice A22 2 c23, iv ((i : Nat) : Int), .slice A b.length cb, iv (b.length : Nat), fv, J 29, J 30, J 31, J 32, J 33, J 34, J 35, J 36, J 37, .slice A6 ((text b).length) c6, iv ((text b).length : Nat), fv, J 41, J 42, J 43, .slice A6 ((text b).length) c6, iv ((crc (text b)).toNat : Int), .slice none 0 0, iv (t.toNat : Int), .int .u8 (t.toNat : Int), sl g59 0 1 1, .slice A68 1 c69, .slice A68 1 c69, .slice A6 ((text b).length) c6, .pointer (some (ad13.add 0)), .int .u8 (((text b).getD 0 0).toNat : Int), sl g70 0 1 1, .slice A79 2 c80, .slice A79 2 c80, .slice A6 ((text b).length) c6, .pointer (some (ad14.add 1)), .int .u8 (((text b).getD 1 0).toNat : Int), sl g81 0 1 1, .slice A90 3 c91] 31) (by kernel_rfl) ?_
      refine then_n ?_
      refine wp_seq ?_
      refine wp_seq ?_
      refine wp_region_lit ?_
      refine pv (iv 0) ?_
      refine wl_end (fr [iv (t.toNat : Int), .slice A b.length cb, ud, ud, .slice none 0 0, .slice A6 ((text b).length) c6, iv ((i : Nat) : Int), iv ((crc (text b)).toNat : Int), .slice A90 3 c91, iv 0, ud, .slice none 0 0, .slice A b.length cb, iv (b.length : Nat), iv ((b.length % 256 : Nat) : Int), .int .u8 ((UInt8.ofNat (b.length % 256)).toNat : Int), sl g2 0 1 1, .slice A11 1 c12, .slice A11 1 c12, .slice A b.length cb, iv (b.length : Nat), iv ((b.length / 256 : Nat) : Int), .int .u8 ((UInt8.ofNat (b.length / 256)).toNat : Int), sl g13 0 1 1, .slice A22 2 c23, iv ((i : Nat) : Int), .slice A b.length cb, iv (b.length : Nat), fv, J 29, J 30, J 31, J 32, J 33, J 34, J 35, J 36, J 37, .slice A6 ((text b).length) c6, iv ((text b).length : Nat), fv, J 41, J 42, J 43, .slice A6 ((text b).length) c6, iv ((crc (text b)).toNat : Int), .slice none 0 0, iv (t.toNat : Int), .int .u8 (t.toNat : Int), sl g59 0 1 1, .slice A68 1 c69, .slice A68 1 c69, .slice A6 ((text b).length) c6, .pointer (some (ad13.add 0)), .int .u8 (((text b).getD 0 0).toNat : Int), sl g70 0 1 1, .slice A79 2 c80, .slice A79 2 c80, .slice A6 ((text b).length) c6, .pointer (some (ad14.add 1)), .int .u8 (((text b).getD 1 0).toNat : Int), sl g81 0 1 1, .slice A90 3 c91] 31) (by kernel_rfl) ?_
      refine then_n ?_
      refine wp_block ?_
      have S92 : St F w0 w86 (vec 5 1 (.slice A90 (3 + 0) c91) (3 + 0) (([t, (text b).getD 0 0, (text b).getD 1 0] ++ (le4 (crc (text b))).take 0).map bv) :: vec 5 1 (.slice A6 ((text b).length) c6) ((text b).length) ((text b).map bv) :: L) := S89
      refine wp_loop_g (G := Nat × Nat × Option Addr × Nat) (fun (g_ : Nat × Nat × Option Addr × Nat) (a_ : Act) (w_ : World) => ∃ J : Nat → Value, a_ = (fr [iv (t.toNat : Int), .slice A b.length cb, ud, ud, .slice none 0 0, .slice A6 ((text b).length) c6, iv ((i : Nat) : Int), iv ((g_.2.1 : Nat) : Int), .slice g_.2.2.1 (3 + g_.1) g_.2.2.2, iv ((g_.1 : Nat) : Int), ud, .slice none 0 0, .slice A b.length cb, iv (b.length : Nat), iv ((b.length % 256 : Nat) : Int), .int .u8 ((UInt8.ofNat (b.length % 256)).toNat : Int), sl g2 0 1 1, .slice A11 1 c12, .slice A11 1 c12, .slice A b.length cb, iv (b.length : Nat), iv ((b.length / 256 : Nat) : Int), .int .u8 ((UInt8.ofNat (b.length / 256)).toNat : Int), sl g13 0 1 1, .slice A22 2 c23, iv ((i : Nat) : Int), .slice A b.length cb, iv (b.length : Nat), fv, J 29, J 30, J 31, J 32, J 33, J 34, J 35, J 36, J 37, .slice A6 ((text b).length) c6, iv ((text b).length : Nat), fv, J 41, J 42, J 43, .slice A6 ((text b).length) c6, iv ((crc (text b)).toNat : Int), .slice none 0 0, iv (t.toNat : Int), .int .u8 (t.toNat : Int), sl g59 0 1 1, .slice A68 1 c69, .slice A68 1 c69, .slice A6 ((text b).length) c6, .pointer (some (ad13.add 0)), .int .u8 (((text b).getD 0 0).toNat : Int), sl g70 0 1 1, .slice A79 2 c80, .slice A79 2 c80, .slice A6 ((text b).length) c6, .pointer (some (ad14.add 1)), .int .u8 (((text b).getD 1 0).toNat : Int), sl g81 0 1 1, .slice A90 3 c91, J 63, J 64, J 65, J 66, J 67, J 68, J 69, J 70, J 71, J 72, J 73, J 74] 19) ∧ St F w0 w_ (vec 5 1 (.slice g_.2.2.1 (3 + g_.1) g_.2.2.2) (3 + g_.1) (([t, (text b).getD 0 0, (text b).getD 1 0] ++ (le4 (crc (text b))).take g_.1).map bv) :: vec 5 1 (.slice A6 ((text b).length) c6) ((text b).length) ((text b).map bv) :: L) ∧ (g_.1 ≤ 4 ∧ g_.2.1 = (crc (text b)).toNat / 256 ^ g_.1)) (fun g_ => 4 - g_.1) (0, (crc (text b)).toNat, A90, c91) ⟨(jl [ud, ud, ud, ud, ud, ud, ud, ud, ud, ud, ud, ud, ud, ud, ud, ud, ud, ud, ud, ud, ud, ud, ud, ud, ud, ud, ud, ud, ud, J 29, J 30, J 31, J 32, J 33, J 34, J 35, J 36, J 37, ud, ud, ud, J 41, J 42, J 43]), by kernel_rfl, S92, ⟨Nat.zero_le _, (Nat.div_one _).symm⟩⟩ ?_
      rintro ⟨k, c, A7, c7⟩ a_ w93 ⟨J, rfl, S94, hI95⟩
      skip
      have S94 : St F w0 w93 (vec 5 1 (.slice A7 (3 + k) c7) (3 + k) (([t, (text b).getD 0 0, (text b).getD 1 0] ++ (le4 (crc (text b))).take k).map bv) :: vec 5 1 (.slice A6 ((text b).length) c6) ((text b).length) ((text b).map bv) :: L) := S94
      have hI95 : (k ≤ 4 ∧ c = (crc (text b)).toNat / 256 ^ k) := hI95
      refine wp_seq ?_
      refine wp_seq ?_
      refine wp_region_lit ?_
      refine pv (iv ((k : Nat) : Int)) ?_
      refine wl_gv rfl (gv_dec (p := (((k : Nat) : Int) : Int) < 4) (by kernel_rfl) (fun hb96 => ?_) (fun hb96 => ?_))
      · skip
        have hk4 : k < 4 := by omega
        have hcl : c < 4294967296 := by rw [hI95.2]; exact Nat.lt_of_le_of_lt (Nat.div_le_self _ _) (crc (text b)).isLt
        have hbk : UInt8.ofNat (c % 256) = (le4 (crc (text b))).getD k 0 := by rw [le4_get _ hk4, ← hI95.2]
        refine wl_end (fr [iv (t.toNat : Int), .slice A b.length cb, ud, ud, .slice none 0 0, .slice A6 ((text b).length) c6, iv ((i : Nat) : Int), iv ((c : Nat) : Int), .slice A7 (3 + k) c7, iv ((k : Nat) : Int), ud, .slice none 0 0, .slice A b.length cb, iv (b.length : Nat), iv ((b.length % 256 : Nat) : Int), .int .u8 ((UInt8.ofNat (b.length % 256)).toNat : Int), sl g2 0 1 1, .slice A11 1 c12, .slice A11 1 c12, .slice A b.length cb, iv (b.length : Nat), iv ((b.length / 256 : Nat) : Int), .int .u8 ((UInt8.ofNat (b.length / 256)).toNat : Int), sl g13 0 1 1, .slice A22 2 c23, iv ((i : Nat) : Int), .slice A b.length cb, iv (b.length : Nat), fv, J 29, J 30, J 31, J 32, J 33, J 34, J 35, J 36, J 37, .slice A6 ((text b).length) c6, iv ((text b).length : Nat), fv, J 41, J 42, J 43, .slice A6 ((text b).length) c6, iv ((crc (text b)).toNat : Int), .slice none 0 0, iv (t.toNat : Int), .int .u8 (t.toNat : Int), sl g59 0 1 1, .slice A68 1 c69, .slice A68 1 c69, .slice A6 ((text b).length) c6, .pointer (some (ad13.add 0)), .int .u8 (((text b).getD 0 0).toNat : Int), sl g70 0 1 1, .slice A79 2 c80, .slice A79 2 c80, .slice A6 ((text b).length) c6, .pointer (some (ad14.add 1)), .int .u8 (((text b).getD 1 0).toNat : Int), sl g81 0 1 1, .slice A90 3 c91, iv ((k : Nat) : Int), tv, J 65, J 66, J 67, J 68, J 69, J 70, J 71, J 72, J 73, J 74] 19) (by kernel_rfl) ?_
        refine then_n ?_
        refine wp_cond_true (by kernel_rfl) ?_
        refine wp_skip ?_
        refine then_n ?_
        refine wp_seq ?_
        refine wp_block ?_
        refine wp_seq ?_
        refine wp_region_lit ?_
        refine pv (.slice A7 (3 + k) c7) ?_
        refine pv (iv ((c : Nat) : Int)) ?_
        refine wl_gv rfl (gv_int (k := .i64) (z := Int.tmod ((c : Nat) : Int) 256) (z' := ((c % 256 : Nat) : Int)) (by kernel_rfl) (by rw [Int.tmod_eq_emod_of_nonneg (by omega)]; omega) ?_)
        refine wl_gv rfl (gv_int (k := .u8) (z := IntKind.u8.wrap ((c % 256 : Nat) : Int)) (z' := (((le4 (crc (text b))).getD k 0).toNat : Int)) (by kernel_rfl) (by rw [byte_of, hbk]) ?_)
        refine wl_gv rfl (gv_slit (e := 5) (sz := 1) (z := .int .u8 0) (by_ := 1) (vs := #[(0, .int .u8 (((le4 (crc (text b))).getD k 0).toNat : Int))]) (cells := #[.int .u8 (((le4 (crc (text b))).getD k 0).toNat : Int)]) S94 rfl (by kernel_rfl) ⟨by kernel_rfl⟩ (by kernel_rfl) (by kernel_rfl) (by kernel_rfl) (by kernel_rfl) (fun g97 w98 hg99 S100 => ?_))
        have S101 : St F w0 w98 (row g97 #[.int .u8 (((le4 (crc (text b))).getD k 0).toNat : Int)] 5 :: vec 5 1 (.slice A7 (3 + k) c7) (3 + k) (([t, (text b).getD 0 0, (text b).getD 1 0] ++ (le4 (crc (text b))).take k).map bv) :: vec 5 1 (.slice A6 ((text b).length) c6) ((text b).length) ((text b).map bv) :: L) := St.permT [row g97 #[.int .u8 (((le4 (crc (text b))).getD k 0).toNat : Int)] 5, vec 5 1 (.slice A7 (3 + k) c7) (3 + k) (([t, (text b).getD 0 0, (text b).getD 1 0] ++ (le4 (crc (text b))).take k).map bv), vec 5 1 (.slice A6 ((text b).length) c6) ((text b).length) ((text b).map bv)] [0, 1, 2] (by decide) rfl S100
        refine wl_gv rfl (gv_append (e := 5) (sz := 1) (n := (3 + k)) (v := (.slice A7 (3 + k) c7)) (vals := (([t, (text b).getD 0 0, (text b).getD 1 0] ++ (le4 (crc (text b))).take k).map bv)) (z := .int .u8 0) (by_ := 1) (m := 1) (c' := 1) (ad := ⟨g97, 0, none⟩) (news := [.int .u8 (((le4 (crc (text b))).getD k 0).toNat : Int)]) (St.swap S101) rfl (by kernel_rfl) ⟨by kernel_rfl⟩ rfl (by kernel_rfl) (by kernel_rfl) (by decide) rfl (row_news (S101.blk 0 rfl)) (by intro u hu; simp at hu; subst hu; rfl) (by omega) (by omega) (fun v103 w102 S104 => ?_))
        have S105 : St F w0 w102 (vec 5 1 v103 (3 + k + 1) (([t, (text b).getD 0 0, (text b).getD 1 0] ++ (le4 (crc (text b))).take k).map bv ++ [.int .u8 (((le4 (crc (text b))).getD k 0).toNat : Int)]) :: vec 5 1 (.slice A6 ((text b).length) c6) ((text b).length) ((text b).map bv) :: L) := St.permT [vec 5 1 v103 (3 + k + 1) (([t, (text b).getD 0 0, (text b).getD 1 0] ++ (le4 (crc (text b))).take k).map bv ++ [.int .u8 (((le4 (crc (text b))).getD k 0).toNat : Int)]), row g97 #[.int .u8 (((le4 (crc (text b))).getD k 0).toNat : Int)] 5, vec 5 1 (.slice A6 ((text b).length) c6) ((text b).length) ((text b).map bv)] [0, 2] (by decide) rfl S104
        rw [take_app _ _ _ hk4] at S105
        obtain ⟨A106, c107, rfl⟩ := St.vecV S105 0 rfl
        change St F w0 w102 (vec 5 1 (.slice A106 (3 + k + 1) c107) (3 + k + 1) (([t, (text b).getD 0 0, (text b).getD 1 0] ++ (le4 (crc (text b))).take (k + 1)).map bv) :: vec 5 1 (.slice A6 ((text b).length) c6) ((text b).length) ((text b).map bv) :: L) at S105
        refine pv (.slice A106 (3 + k + 1) c107) ?_
        refine wl_end (fr [iv (t.toNat : Int), .slice A b.length cb, ud, ud, .slice none 0 0, .slice A6 ((text b).length) c6, iv ((i : Nat) : Int), iv ((c : Nat) : Int), .slice A106 (3 + k + 1) c107, iv ((k : Nat) : Int), ud, .slice none 0 0, .slice A b.length cb, iv (b.length : Nat), iv ((b.length % 256 : Nat) : Int), .int .u8 ((UInt8.ofNat (b.length % 256)).toNat : Int), sl g2 0 1 1, .slice A11 1 c12, .slice A11 1 c12, .slice A b.length cb, iv (b.length : Nat), iv ((b.length / 256 : Nat) : Int), .int .u8 ((UInt8.ofNat (b.length / 256)).toNat : Int), sl g13 0 1 1, .slice A22 2 c23, iv ((i : Nat) : Int), .slice A b.length cb, iv (b.length : Nat), fv, J 29, J 30, J 31, J 32, J 33, J 34, J 35, J 36, J 37, .slice A6 ((text b).length) c6, iv ((text b).length : Nat), fv, J 41, J 42, J 43, .slice A6 ((text b).length) c6, iv ((crc (text b)).toNat : Int), .slice none 0 0, iv (t.toNat : Int), .int .u8 (t.toNat : Int), sl g59 0 1 1, .slice A68 1 c69, .slice A68 1 c69, .slice A6 ((text b).length) c6, .pointer (some (ad13.add 0)), .int .u8 (((text b).getD 0 0).toNat : Int), sl g70 0 1 1, .slice A79 2 c80, .slice A79 2 c80, .slice A6 ((text b).length) c6, .pointer (some (ad14.add 1)), .int .u8 (((text b).getD 1 0).toNat : Int), sl g81 0 1 1, .slice A90 3 c91, iv ((k : Nat) : Int), tv, J 65, J 66, .slice A7 (3 + k) c7, iv ((c : Nat) : Int), iv ((c % 256 : Nat) : Int), .int .u8 (((le4 (crc (text b))).getD k 0).toNat : Int), sl g97 0 1 1, .slice A106 (3 + k + 1) c107, J 73, J 74] 19) (by kernel_rfl) ?_
        refine then_n ?_
        refine wp_region_lit ?_
        refine pv (iv ((c : Nat) : Int)) ?_
        refine wl_gv rfl (gv_int (k := .i64) (z := IntKind.i64.wrap (Int.tdiv ((c : Nat) : Int) 256)) (z' := ((c / 256 : Nat) : Int)) (by kernel_rfl) (wr_eq (by rw [Int.tdiv_eq_ediv_of_nonneg (by omega)]; omega) (by omega) (by omega)) ?_)
        refine pv (iv ((c / 256 : Nat) : Int)) ?_
        refine wl_end (fr [iv (t.toNat : Int), .slice A b.length cb, ud, ud, .slice none 0 0, .slice A6 ((text b).length) c6, iv ((i : Nat) : Int), iv ((c / 256 : Nat) : Int), .slice A106 (3 + k + 1) c107, iv ((k : Nat) : Int), ud, .slice none 0 0, .slice A b.length cb, iv (b.length : Nat), iv ((b.length % 256 : Nat) : Int), .int .u8 ((UInt8.ofNat (b.length % 256)).toNat : Int), sl g2 0 1 1, .slice A11 1 c12, .slice A11 1 c12, .slice A b.length cb, iv (b.length : Nat), iv ((b.length / 256 : Nat) : Int), .int .u8 ((UInt8.ofNat (b.length / 256)).toNat : Int), sl g13 0 1 1, .slice A22 2 c23, iv ((i : Nat) : Int), .slice A b.length cb, iv (b.length : Nat), fv, J 29, J 30, J 31, J 32, J 33, J 34, J 35, J 36, J 37, .slice A6 ((text b).length) c6, iv ((text b).length : Nat), fv, J 41, J 42, J 43, .slice A6 ((text b).length) c6, iv ((crc (text b)).toNat : Int), .slice none 0 0, iv (t.toNat : Int), .int .u8 (t.toNat : Int), sl g59 0 1 1, .slice A68 1 c69, .slice A68 1 c69, .slice A6 ((text b).length) c6, .pointer (some (ad13.add 0)), .int .u8 (((text b).getD 0 0).toNat : Int), sl g70 0 1 1, .slice A79 2 c80, .slice A79 2 c80, .slice A6 ((text b).length) c6, .pointer (some (ad14.add 1)), .int .u8 (((text b).getD 1 0).toNat : Int), sl g81 0 1 1, .slice A90 3 c91, iv ((k : Nat) : Int), tv, J 65, J 66, .slice A7 (3 + k) c7, iv ((c : Nat) : Int), iv ((c % 256 : Nat) : Int), .int .u8 (((le4 (crc (text b))).getD k 0).toNat : Int), sl g97 0 1 1, .slice A106 (3 + k + 1) c107, iv ((c : Nat) : Int), iv ((c / 256 : Nat) : Int)] 19) (by kernel_rfl) ?_
        refine inb_n ?_
        refine then_n ?_
        refine wp_region_lit ?_
        refine pv (iv ((k : Nat) : Int)) ?_
        refine wl_gv rfl (gv_int (k := .i64) (z := IntKind.i64.wrap (((k : Nat) : Int) + 1)) (z' := ((k + 1 : Nat) : Int)) (by kernel_rfl) (wr_eq (by omega) (by omega) (by omega)) ?_)
        refine pv (iv ((k + 1 : Nat) : Int)) ?_
        refine wl_end (fr [iv (t.toNat : Int), .slice A b.length cb, ud, ud, .slice none 0 0, .slice A6 ((text b).length) c6, iv ((i : Nat) : Int), iv ((c / 256 : Nat) : Int), .slice A106 (3 + k + 1) c107, iv ((k + 1 : Nat) : Int), ud, .slice none 0 0, .slice A b.length cb, iv (b.length : Nat), iv ((b.length % 256 : Nat) : Int), .int .u8 ((UInt8.ofNat (b.length % 256)).toNat : Int), sl g2 0 1 1, .slice A11 1 c12, .slice A11 1 c12, .slice A b.length cb, iv (b.length : Nat), iv ((b.length / 256 : Nat) : Int), .int .u8 ((UInt8.ofNat (b.length / 256)).toNat : Int), sl g13 0 1 1, .slice A22 2 c23, iv ((i : Nat) : Int), .slice A b.length cb, iv (b.length : Nat), fv, J 29, J 30, J 31, J 32, J 33, J 34, J 35, J 36, J 37, .slice A6 ((text b).length) c6, iv ((text b).length : Nat), fv, J 41, J 42, J 43, .slice A6 ((text b).length) c6, iv ((crc (text b)).toNat : Int), .slice none 0 0, iv (t.toNat : Int), .int .u8 (t.toNat : Int), sl g59 0 1 1, .slice A68 1 c69, .slice A68 1 c69, .slice A6 ((text b).length) c6, .pointer (some (ad13.add 0)), .int .u8 (((text b).getD 0 0).toNat : Int), sl g70 0 1 1, .slice A79 2 c80, .slice A79 2 c80, .slice A6 ((text b).length) c6, .pointer (some (ad14.add 1)), .int .u8 (((text b).getD 1 0).toNat : Int), sl g81 0 1 1, .slice A90 3 c91, iv ((k : Nat) : Int), tv, iv ((k : Nat) : Int), iv ((k + 1 : Nat) : Int), .slice A7 (3 + k) c7, iv ((c : Nat) : Int), iv ((c % 256 : Nat) : Int), .int .u8 (((le4 (crc (text b))).getD k 0).toNat : Int), sl g97 0 1 1, .slice A106 (3 + k + 1) c107, iv ((c : Nat) : Int), iv ((c / 256 : Nat) : Int)] 19) (by kernel_rfl) ?_
        refine then_n ?_
        exact ⟨(k + 1, c / 256, A106, c107), ⟨(jl [ud, ud, ud, ud, ud, ud, ud, ud, ud, ud, ud, ud, ud, ud, ud, ud, ud, ud, ud, ud, ud, ud, ud, ud, ud, ud, ud, ud, ud, J 29, J 30, J 31, J 32, J 33, J 34, J 35, J 36, J 37, ud, ud, ud, J 41, J 42, J 43, ud, ud, ud, ud, ud, ud, ud, ud, ud, ud, ud, ud, ud, ud, ud, ud, ud, ud, ud, iv ((k : Nat) : Int), tv, iv ((k : Nat) : Int), iv ((k + 1 : Nat) : Int), .slice A7 (3 + k) c7, iv ((c : Nat) : Int), iv ((c % 256 : Nat) : Int), .int .u8 (((le4 (crc (text b))).getD k 0).toNat : Int), sl g97 0 1 1, .slice A106 (3 + k + 1) c107, iv ((c : Nat) : Int), iv ((c / 256 : Nat) : Int)]), by kernel_rfl, S105, ⟨by omega, by rw [hI95.2, Nat.div_div_eq_div_mul, ← Nat.pow_succ]⟩⟩, (by show 4 - (k + 1) < 4 - k; omega)⟩
      · skip
        have hk4 : k = 4 := by omega
        have hl4 : (le4 (crc (text b))).take 4 = le4 (crc (text b)) := rfl
        rw [hk4, hl4] at S94
        refine wl_end (fr [iv (t.toNat : Int), .slice A b.length cb, ud, ud, .slice none 0 0, .slice A6 ((text b).length) c6, iv ((i : Nat) : Int), iv ((c : Nat) : Int), .slice A7 (3 + k) c7, iv ((k : Nat) : Int), ud, .slice none 0 0, .slice A b.length cb, iv (b.length : Nat), iv ((b.length % 256 : Nat) : Int), .int .u8 ((UInt8.ofNat (b.length % 256)).toNat : Int), sl g2 0 1 1, .slice A11 1 c12, .slice A11 1 c12, .slice A b.length cb, iv (b.length : Nat), iv ((b.length / 256 : Nat) : Int), .int .u8 ((UInt8.ofNat (b.length / 256)).toNat : Int), sl g13 0 1 1, .slice A22 2 c23, iv ((i : Nat) : Int), .slice A b.length cb, iv (b.length : Nat), fv, J 29, J 30, J 31, J 32, J 33, J 34, J 35, J 36, J 37, .slice A6 ((text b).length) c6, iv ((text b).length : Nat), fv, J 41, J 42, J 43, .slice A6 ((text b).length) c6, iv ((crc (text b)).toNat : Int), .slice none 0 0, iv (t.toNat : Int), .int .u8 (t.toNat : Int), sl g59 0 1 1, .slice A68 1 c69, .slice A68 1 c69, .slice A6 ((text b).length) c6, .pointer (some (ad13.add 0)), .int .u8 (((text b).getD 0 0).toNat : Int), sl g70 0 1 1, .slice A79 2 c80, .slice A79 2 c80, .slice A6 ((text b).length) c6, .pointer (some (ad14.add 1)), .int .u8 (((text b).getD 1 0).toNat : Int), sl g81 0 1 1, .slice A90 3 c91, iv ((k : Nat) : Int), fv, J 65, J 66, J 67, J 68, J 69, J 70, J 71, J 72, J 73, J 74] 19) (by kernel_rfl) ?_
        refine then_n ?_
        refine wp_cond_false (by kernel_rfl) ?_
        refine wp_exit ?_
        refine then_x ?_
        refine then_x ?_
        refine inb_x ?_
        refine then_n ?_
        refine wp_seq ?_
        refine wp_seq ?_
        refine wp_region_lit ?_
        refine pv (iv 2) ?_
        refine wl_end (fr [iv (t.toNat : Int), .slice A b.length cb, ud, ud, .slice none 0 0, .slice A6 ((text b).length) c6, iv ((i : Nat) : Int), iv ((c : Nat) : Int), .slice A7 (3 + k) c7, iv ((k : Nat) : Int), iv 2, .slice none 0 0, .slice A b.length cb, iv (b.length : Nat), iv ((b.length % 256 : Nat) : Int), .int .u8 ((UInt8.ofNat (b.length % 256)).toNat : Int), sl g2 0 1 1, .slice A11 1 c12, .slice A11 1 c12, .slice A b.length cb, iv (b.length : Nat), iv ((b.length / 256 : Nat) : Int), .int .u8 ((UInt8.ofNat (b.length / 256)).toNat : Int), sl g13 0 1 1, .slice A22 2 c23, iv ((i : Nat) : Int), .slice A b.length cb, iv (b.length : Nat), fv, J 29, J 30, J 31, J 32, J 33, J 34, J 35, J 36, J 37, .slice A6 ((text b).length) c6, iv ((text b).length : Nat), fv, J 41, J 42, J 43, .slice A6 ((text b).length) c6, iv ((crc (text b)).toNat : Int), .slice none 0 0, iv (t.toNat : Int), .int .u8 (t.toNat : Int), sl g59 0 1 1, .slice A68 1 c69, .slice A68 1 c69, .slice A6 ((text b).length) c6, .pointer (some (ad13.add 0)), .int .u8 (((text b).getD 0 0).toNat : Int), sl g70 0 1 1, .slice A79 2 c80, .slice A79 2 c80, .slice A6 ((text b).length) c6, .pointer (some (ad14.add 1)), .int .u8 (((text b).getD 1 0).toNat : Int), sl g81 0 1 1, .slice A90 3 c91, iv ((k : Nat) : Int), fv, J 65, J 66, J 67, J 68, J 69, J 70, J 71, J 72, J 73, J 74] 19) (by kernel_rfl) ?_
        refine then_n ?_
        refine wp_block ?_
        rw [show 3 + k = 7 + 0 from by omega]
        have S108 : St F w0 w93 (vec 5 1 (.slice A7 (7 + 0) c7) (7 + 0) (([t, (text b).getD 0 0, (text b).getD 1 0] ++ le4 (crc (text b)) ++ pre ((text b).drop 2) 0).map bv) :: vec 5 1 (.slice A6 ((text b).length) c6) ((text b).length) ((text b).map bv) :: L) := (by rw [show pre ((text b).drop 2) 0 = [] from rfl, List.append_nil]; exact S94)
        refine wp_loop_g (G := Nat × Option Addr × Nat) (fun (g_ : Nat × Option Addr × Nat) (a_ : Act) (w_ : World) => ∃ J : Nat → Value, a_ = (fr [iv (t.toNat : Int), .slice A b.length cb, ud, ud, .slice none 0 0, .slice A6 ((text b).length) c6, iv ((i : Nat) : Int), iv ((c : Nat) : Int), .slice g_.2.1 (7 + g_.1) g_.2.2, iv ((k : Nat) : Int), iv ((2 + g_.1 : Nat) : Int), .slice none 0 0, .slice A b.length cb, iv (b.length : Nat), iv ((b.length % 256 : Nat) : Int), .int .u8 ((UInt8.ofNat (b.length % 256)).toNat : Int), sl g2 0 1 1, .slice A11 1 c12, .slice A11 1 c12, .slice A b.length cb, iv (b.length : Nat), iv ((b.length / 256 : Nat) : Int), .int .u8 ((UInt8.ofNat (b.length / 256)).toNat : Int), sl g13 0 1 1, .slice A22 2 c23, iv ((i : Nat) : Int), .slice A b.length cb, iv (b.length : Nat), fv, J 29, J 30, J 31, J 32, J 33, J 34, J 35, J 36, J 37, .slice A6 ((text b).length) c6, iv ((text b).length : Nat), fv, J 41, J 42, J 43, .slice A6 ((text b).length) c6, iv ((crc (text b)).toNat : Int), .slice none 0 0, iv (t.toNat : Int), .int .u8 (t.toNat : Int), sl g59 0 1 1, .slice A68 1 c69, .slice A68 1 c69, .slice A6 ((text b).length) c6, .pointer (some (ad13.add 0)), .int .u8 (((text b).getD 0 0).toNat : Int), sl g70 0 1 1, .slice A79 2 c80, .slice A79 2 c80, .slice A6 ((text b).length) c6, .pointer (some (ad14.add 1)), .int .u8 (((text b).getD 1 0).toNat : Int), sl g81 0 1 1, .slice A90 3 c91, iv ((k : Nat) : Int), fv, J 65, J 66, J 67, J 68, J 69, J 70, J 71, J 72, J 73, J 74, J 75, J 76, J 77, J 78, J 79, J 80, J 81, J 82, J 83, J 84, J 85, J 86, J 87] 6) ∧ St F w0 w_ (vec 5 1 (.slice g_.2.1 (7 + g_.1) g_.2.2) (7 + g_.1) (([t, (text b).getD 0 0, (text b).getD 1 0] ++ le4 (crc (text b)) ++ pre ((text b).drop 2) g_.1).map bv) :: vec 5 1 (.slice A6 ((text b).length) c6) ((text b).length) ((text b).map bv) :: L) ∧ (g_.1 ≤ 504)) (fun g_ => 504 - g_.1) (0, A7, c7) ⟨(jl [ud, ud, ud, ud, ud, ud, ud, ud, ud, ud, ud, ud, ud, ud, ud, ud, ud, ud, ud, ud, ud, ud, ud, ud, ud, ud, ud, ud, ud, J 29, J 30, J 31, J 32, J 33, J 34, J 35, J 36, J 37, ud, ud, ud, J 41, J 42, J 43, ud, ud, ud, ud, ud, ud, ud, ud, ud, ud, ud, ud, ud, ud, ud, ud, ud, ud, ud, ud, ud, J 65, J 66, J 67, J 68, J 69, J 70, J 71, J 72, J 73, J 74]), by kernel_rfl, S108, Nat.zero_le _⟩ ?_
        rintro ⟨i7, A8, c8⟩ a_ w109 ⟨J, rfl, S110, hI111⟩
        skip
        have S110 : St F w0 w109 (vec 5 1 (.slice A8 (7 + i7) c8) (7 + i7) (([t, (text b).getD 0 0, (text b).getD 1 0] ++ le4 (crc (text b)) ++ pre ((text b).drop 2) i7).map bv) :: vec 5 1 (.slice A6 ((text b).length) c6) ((text b).length) ((text b).map bv) :: L) := S110
        have hI111 : (i7 ≤ 504) := hI111
        refine wp_seq ?_
        refine wp_seq ?_
        refine wp_region_lit ?_
        refine pv (iv ((2 + i7 : Nat) : Int)) ?_
        refine pv (.slice A6 ((text b).length) c6) ?_
        refine pv (iv ((text b).length : Nat)) ?_
        refine wl_gv rfl (gv_dec (p := (((2 + i7 : Nat) : Int) : Int) < ((text b).length : Nat)) (by kernel_rfl) (fun hb112 => ?_) (fun hb112 => ?_))
        · skip
          have hi7 : i7 < 504 := by omega
          refine wl_end (fr [iv (t.toNat : Int), .slice A b.length cb, ud, ud, .slice none 0 0, .slice A6 ((text b).length) c6, iv ((i : Nat) : Int), iv ((c : Nat) : Int), .slice A8 (7 + i7) c8, iv ((k : Nat) : Int), iv ((2 + i7 : Nat) : Int), .slice none 0 0, .slice A b.length cb, iv (b.length : Nat), iv ((b.length % 256 : Nat) : Int), .int .u8 ((UInt8.ofNat (b.length % 256)).toNat : Int), sl g2 0 1 1, .slice A11 1 c12, .slice A11 1 c12, .slice A b.length cb, iv (b.length : Nat), iv ((b.length / 256 : Nat) : Int), .int .u8 ((UInt8.ofNat (b.length / 256)).toNat : Int), sl g13 0 1 1, .slice A22 2 c23, iv ((i : Nat) : Int), .slice A b.length cb, iv (b.length : Nat), fv, J 29, J 30, J 31, J 32, J 33, J 34, J 35, J 36, J 37, .slice A6 ((text b).length) c6, iv ((text b).length : Nat), fv, J 41, J 42, J 43, .slice A6 ((text b).length) c6, iv ((crc (text b)).toNat : Int), .slice none 0 0, iv (t.toNat : Int), .int .u8 (t.toNat : Int), sl g59 0 1 1, .slice A68 1 c69, .slice A68 1 c69, .slice A6 ((text b).length) c6, .pointer (some (ad13.add 0)), .int .u8 (((text b).getD 0 0).toNat : Int), sl g70 0 1 1, .slice A79 2 c80, .slice A79 2 c80, .slice A6 ((text b).length) c6, .pointer (some (ad14.add 1)), .int .u8 (((text b).getD 1 0).toNat : Int), sl g81 0 1 1, .slice A90 3 c91, iv ((k : Nat) : Int), fv, J 65, J 66, J 67, J 68, J 69, J 70, J 71, J 72, J 73, J 74, iv ((2 + i7 : Nat) : Int), .slice A6 ((text b).length) c6, iv ((text b).length : Nat), tv, J 79, J 80, J 81, J 82, J 83, J 84, J 85, J 86, J 87] 6) (by kernel_rfl) ?_
          refine then_n ?_
          refine wp_cond_true (by kernel_rfl) ?_
          refine wp_skip ?_
          refine then_n ?_
          refine wp_seq ?_
          refine wp_block ?_
          refine wp_region_lit ?_
          refine pv (.slice A8 (7 + i7) c8) ?_
          refine pv (.slice A6 ((text b).length) c6) ?_
          refine pv (iv ((2 + i7 : Nat) : Int)) ?_
          obtain ⟨ad23, had23⟩ := ((RoT.ofVec 1 rfl : RoT F w0 (vec 5 1 (.slice A8 (7 + i7) c8) (7 + i7) (([t, (text b).getD 0 0, (text b).getD 1 0] ++ le4 (crc (text b)) ++ pre ((text b).drop 2) i7).map bv) :: vec 5 1 (.slice A6 ((text b).length) c6) ((text b).length) ((text b).map bv) :: L) A6 (text b)).now S110).at (k := 0) (by omega)
          refine wl_gv rfl (gv_ixB (e := 5) (sz := 1) (n := ((text b).length)) (c := c6) (i := ((2 + i7 : Nat) : Int)) (k := .i64) (ad := ad23) (ad' := (ad23.add (2 + i7))) (j := (2 + i7)) rfl (by kernel_rfl) (by kernel_rfl) (by rw [← had23]; kernel_rfl) (by kernel_rfl) rfl (by omega) (by rw [Nat.mul_one]) ?_)
          refine wl_gv rfl (gv_ldR (v := .int .u8 ((((text b).drop 2).getD i7 0).toNat : Int)) rfl (by kernel_rfl) (by kernel_rfl) (by rw [getD_drop]; exact ((had23 ▸ (RoT.ofVec 1 rfl : RoT F w0 (vec 5 1 (.slice A8 (7 + i7) c8) (7 + i7) (([t, (text b).getD 0 0, (text b).getD 1 0] ++ le4 (crc (text b)) ++ pre ((text b).drop 2) i7).map bv) :: vec 5 1 (.slice A6 ((text b).length) c6) ((text b).length) ((text b).map bv) :: L) A6 (text b)).now S110 : RdB _ (some ad23) (text b)).cell (by omega))) ?_)
          refine wl_gv rfl (gv_slit (e := 5) (sz := 1) (z := .int .u8 0) (by_ := 1) (vs := #[(0, .int .u8 ((((text b).drop 2).getD i7 0).toNat : Int))]) (cells := #[.int .u8 ((((text b).drop 2).getD i7 0).toNat : Int)]) S110 rfl (by kernel_rfl) ⟨by kernel_rfl⟩ (by kernel_rfl) (by kernel_rfl) (by kernel_rfl) (by kernel_rfl) (fun g113 w114 hg115 S116 => ?_))
          have S117 : St F w0 w114 (row g113 #[.int .u8 ((((text b).drop 2).getD i7 0).toNat : Int)] 5 :: vec 5 1 (.slice A8 (7 + i7) c8) (7 + i7) (([t, (text b).getD 0 0, (text b).getD 1 0] ++ le4 (crc (text b)) ++ pre ((text b).drop 2) i7).map bv) :: vec 5 1 (.slice A6 ((text b).length) c6) ((text b).length) ((text b).map bv) :: L) := St.permT [row g113 #[.int .u8 ((((text b).drop 2).getD i7 0).toNat : Int)] 5, vec 5 1 (.slice A8 (7 + i7) c8) (7 + i7) (([t, (text b).getD 0 0, (text b).getD 1 0] ++ le4 (crc (text b)) ++ pre ((text b).drop 2) i7).map bv), vec 5 1 (.slice A6 ((text b).length) c6) ((text b).length) ((text b).map bv)] [0, 1, 2] (by decide) rfl S116
          refine wl_gv rfl (gv_append (e := 5) (sz := 1) (n := (7 + i7)) (v := (.slice A8 (7 + i7) c8)) (vals := (([t, (text b).getD 0 0, (text b).getD 1 0] ++ le4 (crc (text b)) ++ pre ((text b).drop 2) i7).map bv)) (z := .int .u8 0) (by_ := 1) (m := 1) (c' := 1) (ad := ⟨g113, 0, none⟩) (news := [.int .u8 ((((text b).drop 2).getD i7 0).toNat : Int)]) (St.swap S117) rfl (by kernel_rfl) ⟨by kernel_rfl⟩ rfl (by kernel_rfl) (by kernel_rfl) (by decide) rfl (row_news (S117.blk 0 rfl)) (by intro u hu; simp at hu; subst hu; rfl) (by omega) (by omega) (fun v119 w118 S120 => ?_))
          have S121 : St F w0 w118 (vec 5 1 v119 (7 + i7 + 1) (([t, (text b).getD 0 0, (text b).getD 1 0] ++ le4 (crc (text b)) ++ pre ((text b).drop 2) i7).map bv ++ [.int .u8 ((((text b).drop 2).getD i7 0).toNat : Int)]) :: vec 5 1 (.slice A6 ((text b).length) c6) ((text b).length) ((text b).map bv) :: L) := St.permT [vec 5 1 v119 (7 + i7 + 1) (([t, (text b).getD 0 0, (text b).getD 1 0] ++ le4 (crc (text b)) ++ pre ((text b).drop 2) i7).map bv ++ [.int .u8 ((((text b).drop 2).getD i7 0).toNat : Int)]), row g113 #[.int .u8 ((((text b).drop 2).getD i7 0).toNat : Int)] 5, vec 5 1 (.slice A6 ((text b).length) c6) ((text b).length) ((text b).map bv)] [0, 2] (by decide) rfl S120
          rw [pre_app] at S121
          obtain ⟨A122, c123, rfl⟩ := St.vecV S121 0 rfl
          change St F w0 w118 (vec 5 1 (.slice A122 (7 + i7 + 1) c123) (7 + i7 + 1) (([t, (text b).getD 0 0, (text b).getD 1 0] ++ le4 (crc (text b)) ++ pre ((text b).drop 2) (i7 + 1)).map bv) :: vec 5 1 (.slice A6 ((text b).length) c6) ((text b).length) ((text b).map bv) :: L) at S121
          refine pv (.slice A122 (7 + i7 + 1) c123) ?_
          refine wl_end (fr [iv (t.toNat : Int), .slice A b.length cb, ud, ud, .slice none 0 0, .slice A6 ((text b).length) c6, iv ((i : Nat) : Int), iv ((c : Nat) : Int), .slice A122 (7 + i7 + 1) c123, iv ((k : Nat) : Int), iv ((2 + i7 : Nat) : Int), .slice none 0 0, .slice A b.length cb, iv (b.length : Nat), iv ((b.length % 256 : Nat) : Int), .int .u8 ((UInt8.ofNat (b.length % 256)).toNat : Int), sl g2 0 1 1, .slice A11 1 c12, .slice A11 1 c12, .slice A b.length cb, iv (b.length : Nat), iv ((b.length / 256 : Nat) : Int), .int .u8 ((UInt8.ofNat (b.length / 256)).toNat : Int), sl g13 0 1 1, .slice A22 2 c23, iv ((i : Nat) : Int), .slice A b.length cb, iv (b.length : Nat), fv, J 29, J 30, J 31, J 32, J 33, J 34, J 35, J 36, J 37, .slice A6 ((text b).length) c6, iv ((text b).length : Nat), fv, J 41, J 42, J 43, .slice A6 ((text b).length) c6, iv ((crc (text b)).toNat : Int), .slice none 0 0, iv (t.toNat : Int), .int .u8 (t.toNat : Int), sl g59 0 1 1, .slice A68 1 c69, .slice A68 1 c69, .slice A6 ((text b).length) c6, .pointer (some (ad13.add 0)), .int .u8 (((text b).getD 0 0).toNat : Int), sl g70 0 1 1, .slice A79 2 c80, .slice A79 2 c80, .slice A6 ((text b).length) c6, .pointer (some (ad14.add 1)), .int .u8 (((text b).getD 1 0).toNat : Int), sl g81 0 1 1, .slice A90 3 c91, iv ((k : Nat) : Int), fv, J 65, J 66, J 67, J 68, J 69, J 70, J 71, J 72, J 73, J 74, iv ((2 + i7 : Nat) : Int), .slice A6 ((text b).length) c6, iv ((text b).length : Nat), tv, J 79, J 80, .slice A8 (7 + i7) c8, .slice A6 ((text b).length) c6, iv ((2 + i7 : Nat) : Int), .pointer (some (ad23.add (2 + i7))), .int .u8 ((((text b).drop 2).getD i7 0).toNat : Int), sl g113 0 1 1, .slice A122 (7 + i7 + 1) c123] 6) (by kernel_rfl) ?_
          refine inb_n ?_
          refine then_n ?_
          refine wp_region_lit ?_
          refine pv (iv ((2 + i7 : Nat) : Int)) ?_
          refine wl_gv rfl (gv_int (k := .i64) (z := IntKind.i64.wrap (((2 + i7 : Nat) : Int) + 1)) (z' := ((2 + (i7 + 1) : Nat) : Int)) (by kernel_rfl) (wr_eq (by omega) (by omega) (by omega)) ?_)
          refine pv (iv ((2 + (i7 + 1) : Nat) : Int)) ?_
          refine wl_end (fr [iv (t.toNat : Int), .slice A b.length cb, ud, ud, .slice none 0 0, .slice A6 ((text b).length) c6, iv ((i : Nat) : Int), iv ((c : Nat) : Int), .slice A122 (7 + i7 + 1) c123, iv ((k : Nat) : Int), iv ((2 + (i7 + 1) : Nat) : Int), .slice none 0 0, .slice A b.length cb, iv (b.length : Nat), iv ((b.length % 256 : Nat) : Int), .int .u8 ((UInt8.ofNat (b.length % 256)).toNat : Int), sl g2 0 1 1, .slice A11 1 c12, .slice A11 1 c12, .slice A b.length cb, iv (b.length : Nat), iv ((b.length / 256 : Nat) : Int), .int .u8 ((UInt8.ofNat (b.length / 256)).toNat : Int), sl g13 0 1 1, .slice A22 2 c23, iv ((i : Nat) : Int), .slice A b.length cb, iv (b.length : Nat), fv, J 29, J 30, J 31, J 32, J 33, J 34, J 35, J 36, J 37, .slice A6 ((text b).length) c6, iv ((text b).length : Nat), fv, J 41, J 42, J 43, .slice A6 ((text b).length) c6, iv ((crc (text b)).toNat : Int), .slice none 0 0, iv (t.toNat : Int), .int .u8 (t.toNat : Int), sl g59 0 1 1, .slice A68 1 c69, .slice A68 1 c69, .slice A6 ((text b).length) c6, .pointer (some (ad13.add 0)), .int .u8 (((text b).getD 0 0).toNat : Int), sl g70 0 1 1, .slice A79 2 c80, .slice A79 2 c80, .slice A6 ((text b).length) c6, .pointer (some (ad14.add 1)), .int .u8 (((text b).getD 1 0).toNat : Int), sl g81 0 1 1, .slice A90 3 c91, iv ((k : Nat) : Int), fv, J 65, J 66, J 67, J 68, J 69, J 70, J 71, J 72, J 73, J 74, iv ((2 + i7 : Nat) : Int), .slice A6 ((text b).length) c6, iv ((text b).length : Nat), tv, iv ((2 + i7 : Nat) : Int), iv ((2 + (i7 + 1) : Nat) : Int), .slice A8 (7 + i7) c8, .slice A6 ((text b).length) c6, iv ((2 + i7 : Nat) : Int), .pointer (some (ad23.add (2 + i7))), .int .u8 ((((text b).drop 2).getD i7 0).toNat : Int), sl g113 0 1 1, .slice A122 (7 + i7 + 1) c123] 6) (by kernel_rfl) ?_
          refine then_n ?_
          exact ⟨(i7 + 1, A122, c123), ⟨(jl [ud, ud, ud, ud, ud, ud, ud, ud, ud, ud, ud, ud, ud, ud, ud, ud, ud, ud, ud, ud, ud, ud, ud, ud, ud, ud, ud, ud, ud, J 29, J 30, J 31, J 32, J 33, J 34, J 35, J 36, J 37, ud, ud, ud, J 41, J 42, J 43, ud, ud, ud, ud, ud, ud, ud, ud, ud, ud, ud, ud, ud, ud, ud, ud, ud, ud, ud, ud, ud, J 65, J 66, J 67, J 68, J 69, J 70, J 71, J 72, J 73, J 74, iv ((2 + i7 : Nat) : Int), .slice A6 ((text b).length) c6, iv ((text b).length : Nat), tv, iv ((2 + i7 : Nat) : Int), iv ((2 + (i7 + 1) : Nat) : Int), .slice A8 (7 + i7) c8, .slice A6 ((text b).length) c6, iv ((2 + i7 : Nat) : Int), .pointer (some (ad23.add (2 + i7))), .int .u8 ((((text b).drop 2).getD i7 0).toNat : Int), sl g113 0 1 1, .slice A122 (7 + i7 + 1) c123]), by kernel_rfl, S121, (by omega)⟩, (by show 504 - (i7 + 1) < 504 - i7; omega)⟩
        · skip
          have hi7 : i7 = 504 := by omega
          have hp7 : pre ((text b).drop 2) 504 = (text b).drop 2 := by rw [pre_drop (by omega), List.take_of_length_le (by rw [List.length_drop]; omega)]
          rw [hi7, hp7] at S110
          rw [show 7 + i7 = 511 from by omega]
          have S124 : St F w0 w109 (vec 5 1 (.slice A8 511 c8) 511 (([t, (text b).getD 0 0, (text b).getD 1 0] ++ le4 (crc (text b)) ++ (text b).drop 2).map bv) :: vec 5 1 (.slice A6 ((text b).length) c6) ((text b).length) ((text b).map bv) :: L) := S110
          refine wl_end (fr [iv (t.toNat : Int), .slice A b.length cb, ud, ud, .slice none 0 0, .slice A6 ((text b).length) c6, iv ((i : Nat) : Int), iv ((c : Nat) : Int), .slice A8 511 c8, iv ((k : Nat) : Int), iv ((2 + i7 : Nat) : Int), .slice none 0 0, .slice A b.length cb, iv (b.length : Nat), iv ((b.length % 256 : Nat) : Int), .int .u8 ((UInt8.ofNat (b.length % 256)).toNat : Int), sl g2 0 1 1, .slice A11 1 c12, .slice A11 1 c12, .slice A b.length cb, iv (b.length : Nat), iv ((b.length / 256 : Nat) : Int), .int .u8 ((UInt8.ofNat (b.length / 256)).toNat : Int), sl g13 0 1 1, .slice A22 2 c23, iv ((i : Nat) : Int), .slice A b.length cb, iv (b.length : Nat), fv, J 29, J 30, J 31, J 32, J 33, J 34, J 35, J 36, J 37, .slice A6 ((text b).length) c6, iv ((text b).length : Nat), fv, J 41, J 42, J 43, .slice A6 ((text b).length) c6, iv ((crc (text b)).toNat : Int), .slice none 0 0, iv (t.toNat : Int), .int .u8 (t.toNat : Int), sl g59 0 1 1, .slice A68 1 c69, .slice A68 1 c69, .slice A6 ((text b).length) c6, .pointer (some (ad13.add 0)), .int .u8 (((text b).getD 0 0).toNat : Int), sl g70 0 1 1, .slice A79 2 c80, .slice A79 2 c80, .slice A6 ((text b).length) c6, .pointer (some (ad14.add 1)), .int .u8 (((text b).getD 1 0).toNat : Int), sl g81 0 1 1, .slice A90 3 c91, iv ((k : Nat) : Int), fv, J 65, J 66, J 67, J 68, J 69, J 70, J 71, J 72, J 73, J 74, iv ((2 + i7 : Nat) : Int), .slice A6 ((text b).length) c6, iv ((text b).length : Nat), fv, J 79, J 80, J 81, J 82, J 83, J 84, J 85, J 86, J 87] 6) (by kernel_rfl) ?_
          refine then_n ?_
          refine wp_cond_false (by kernel_rfl) ?_
          refine wp_exit ?_
          refine then_x ?_
          refine then_x ?_
          refine inb_x ?_
          refine then_n ?_
          refine wp_seq ?_
          refine wp_region_lit ?_
          refine pv (.slice A8 511 c8) ?_
          refine pv (iv (t.toNat : Int)) ?_
          refine wl_gv rfl (gv_int (k := .u8) (z := IntKind.u8.wrap (t.toNat : Int)) (z' := (t.toNat : Int)) (by kernel_rfl) (byte_self t) ?_)
          refine wl_gv rfl (gv_slit (e := 5) (sz := 1) (z := .int .u8 0) (by_ := 1) (vs := #[(0, .int .u8 (t.toNat : Int))]) (cells := #[.int .u8 (t.toNat : Int)]) S124 rfl (by kernel_rfl) ⟨by kernel_rfl⟩ (by kernel_rfl) (by kernel_rfl) (by kernel_rfl) (by kernel_rfl) (fun g125 w126 hg127 S128 => ?_))
          have S129 : St F w0 w126 (row g125 #[.int .u8 (t.toNat : Int)] 5 :: vec 5 1 (.slice A8 511 c8) 511 (([t, (text b).getD 0 0, (text b).getD 1 0] ++ le4 (crc (text b)) ++ (text b).drop 2).map bv) :: vec 5 1 (.slice A6 ((text b).length) c6) ((text b).length) ((text b).map bv) :: L) := St.permT [row g125 #[.int .u8 (t.toNat : Int)] 5, vec 5 1 (.slice A8 511 c8) 511 (([t, (text b).getD 0 0, (text b).getD 1 0] ++ le4 (crc (text b)) ++ (text b).drop 2).map bv), vec 5 1 (.slice A6 ((text b).length) c6) ((text b).length) ((text b).map bv)] [0, 1, 2] (by decide) rfl S128
          refine wl_gv rfl (gv_append (e := 5) (sz := 1) (n := 511) (v := (.slice A8 511 c8)) (vals := (([t, (text b).getD 0 0, (text b).getD 1 0] ++ le4 (crc (text b)) ++ (text b).drop 2).map bv)) (z := .int .u8 0) (by_ := 1) (m := 1) (c' := 1) (ad := ⟨g125, 0, none⟩) (news := [.int .u8 (t.toNat : Int)]) (St.swap S129) rfl (by kernel_rfl) ⟨by kernel_rfl⟩ rfl (by kernel_rfl) (by kernel_rfl) (by decide) rfl (row_news (S129.blk 0 rfl)) (by intro u hu; simp at hu; subst hu; rfl) (by omega) (by omega) (fun v131 w130 S132 => ?_))
          have S133 : St F w0 w130 (vec 5 1 v131 512 (([t, (text b).getD 0 0, (text b).getD 1 0] ++ le4 (crc (text b)) ++ (text b).drop 2).map bv ++ [.int .u8 (t.toNat : Int)]) :: vec 5 1 (.slice A6 ((text b).length) c6) ((text b).length) ((text b).map bv) :: L) := St.permT [vec 5 1 v131 512 (([t, (text b).getD 0 0, (text b).getD 1 0] ++ le4 (crc (text b)) ++ (text b).drop 2).map bv ++ [.int .u8 (t.toNat : Int)]), row g125 #[.int .u8 (t.toNat : Int)] 5, vec 5 1 (.slice A6 ((text b).length) c6) ((text b).length) ((text b).map bv)] [0, 2] (by decide) rfl S132
          rw [bv_snoc] at S133
          obtain ⟨A134, c135, rfl⟩ := St.vecV S133 0 rfl
          change St F w0 w130 (vec 5 1 (.slice A134 512 c135) 512 (([t, (text b).getD 0 0, (text b).getD 1 0] ++ le4 (crc (text b)) ++ (text b).drop 2 ++ [t]).map bv) :: vec 5 1 (.slice A6 ((text b).length) c6) ((text b).length) ((text b).map bv) :: L) at S133
          refine pv (.slice A134 512 c135) ?_
          refine wl_end (fr [iv (t.toNat : Int), .slice A b.length cb, ud, ud, .slice none 0 0, .slice A6 ((text b).length) c6, iv ((i : Nat) : Int), iv ((c : Nat) : Int), .slice A134 512 c135, iv ((k : Nat) : Int), iv ((2 + i7 : Nat) : Int), .slice none 0 0, .slice A b.length cb, iv (b.length : Nat), iv ((b.length % 256 : Nat) : Int), .int .u8 ((UInt8.ofNat (b.length % 256)).toNat : Int), sl g2 0 1 1, .slice A11 1 c12, .slice A11 1 c12, .slice A b.length cb, iv (b.length : Nat), iv ((b.length / 256 : Nat) : Int), .int .u8 ((UInt8.ofNat (b.length / 256)).toNat : Int), sl g13 0 1 1, .slice A22 2 c23, iv ((i : Nat) : Int), .slice A b.length cb, iv (b.length : Nat), fv, J 29, J 30, J 31, J 32, J 33, J 34, J 35, J 36, J 37, .slice A6 ((text b).length) c6, iv ((text b).length : Nat), fv, J 41, J 42, J 43, .slice A6 ((text b).length) c6, iv ((crc (text b)).toNat : Int), .slice none 0 0, iv (t.toNat : Int), .int .u8 (t.toNat : Int), sl g59 0 1 1, .slice A68 1 c69, .slice A68 1 c69, .slice A6 ((text b).length) c6, .pointer (some (ad13.add 0)), .int .u8 (((text b).getD 0 0).toNat : Int), sl g70 0 1 1, .slice A79 2 c80, .slice A79 2 c80, .slice A6 ((text b).length) c6, .pointer (some (ad14.add 1)), .int .u8 (((text b).getD 1 0).toNat : Int), sl g81 0 1 1, .slice A90 3 c91, iv ((k : Nat) : Int), fv, J 65, J 66, J 67, J 68, J 69, J 70, J 71, J 72, J 73, J 74, iv ((2 + i7 : Nat) : Int), .slice A6 ((text b).length) c6, iv ((text b).length : Nat), fv, J 79, J 80, J 81, J 82, J 83, J 84, J 85, J 86, J 87, .slice A8 511 c8, iv (t.toNat : Int), .int .u8 (t.toNat : Int), sl g125 0 1 1, .slice A134 512 c135] 1) (by kernel_rfl) ?_
          refine then_n ?_
          refine wp_seq ?_
          refine wp_region_lit ?_
          refine pv (.slice A134 512 c135) ?_
          refine pv (.slice A134 512 c135) ?_
          refine wl_end (fr [iv (t.toNat : Int), .slice A b.length cb, ud, ud, .slice A134 512 c135, .slice A6 ((text b).length) c6, iv ((i : Nat) : Int), iv ((c : Nat) : Int), .slice A134 512 c135, iv ((k : Nat) : Int), iv ((2 + i7 : Nat) : Int), .slice none 0 0, .slice A b.length cb, iv (b.length : Nat), iv ((b.length % 256 : Nat) : Int), .int .u8 ((UInt8.ofNat (b.length % 256)).toNat : Int), sl g2 0 1 1, .slice A11 1 c12, .slice A11 1 c12, .slice A b.length cb, iv (b.length : Nat), iv ((b.length / 256 : Nat) : Int), .int .u8 ((UInt8.ofNat (b.length / 256)).toNat : Int), sl g13 0 1 1, .slice A22 2 c23, iv ((i : Nat) : Int), .slice A b.length cb, iv (b.length : Nat), fv, J 29, J 30, J 31, J 32, J 33, J 34, J 35, J 36, J 37, .slice A6 ((text b).length) c6, iv ((text b).length : Nat), fv, J 41, J 42, J 43, .slice A6 ((text b).length) c6, iv ((crc (text b)).toNat : Int), .slice none 0 0, iv (t.toNat : Int), .int .u8 (t.toNat : Int), sl g59 0 1 1, .slice A68 1 c69, .slice A68 1 c69, .slice A6 ((text b).length) c6, .pointer (some (ad13.add 0)), .int .u8 (((text b).getD 0 0).toNat : Int), sl g70 0 1 1, .slice A79 2 c80, .slice A79 2 c80, .slice A6 ((text b).length) c6, .pointer (some (ad14.add 1)), .int .u8 (((text b).getD 1 0).toNat : Int), sl g81 0 1 1, .slice A90 3 c91, iv ((k : Nat) : Int), fv, J 65, J 66, J 67, J 68, J 69, J 70, J 71, J 72, J 73, J 74, iv ((2 + i7 : Nat) : Int), .slice A6 ((text b).length) c6, iv ((text b).length : Nat), fv, J 79, J 80, J 81, J 82, J 83, J 84, J 85, J 86, J 87, .slice A8 511 c8, iv (t.toNat : Int), .int .u8 (t.toNat : Int), sl g125 0 1 1, .slice A134 512 c135, .slice A134 512 c135] 0) (by kernel_rfl) ?_
          refine then_n ?_
          refine wp_ret ?_
          refine bodyPost_ret (v := .slice A134 512 c135) (results_t1 rfl (by kernel_rfl)) rfl ?_
          have hff : [t, (text b).getD 0 0, (text b).getD 1 0] ++ le4 (crc (text b)) ++ (text b).drop 2 ++ [t] = form t b := by
            obtain ⟨x0, x1, r, hx⟩ : ∃ x0 x1 r, text b = x0 :: x1 :: r := ⟨_, _, _, rfl⟩
            unfold form; rw [hx]; simp
          rw [hff] at S133
          have S136 : St F w0 w130 (vec 5 1 (.slice A134 512 c135) 512 (([t, (text b).getD 0 0, (text b).getD 1 0] ++ le4 (crc (text b)) ++ (text b).drop 2 ++ [t]).map bv) :: L) := St.permT [vec 5 1 (.slice A134 512 c135) 512 (([t, (text b).getD 0 0, (text b).getD 1 0] ++ le4 (crc (text b)) ++ (text b).drop 2 ++ [t]).map bv), vec 5 1 (.slice A6 ((text b).length) c6) ((text b).length) ((text b).map bv)] [0] (by decide) rfl S133
          exact ⟨_, _, rfl, S136⟩
end Go.Proofs
