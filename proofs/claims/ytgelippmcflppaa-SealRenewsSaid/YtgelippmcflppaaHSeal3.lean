/- Seal, Open, anchor, Newest of the document, over owned memory. -/
import Derived.Test.YtgelippmcflppaaHSeal2
open Go Go.RowKit Go.Proofs.YtgelippmcflppaaW.PrintWords Go.Proofs.YtgelippmcflppaaW.PrintMore
namespace Go.Proofs
open Go.Vel
set_option linter.unusedVariables false
set_option maxRecDepth 100000
set_option maxHeartbeats 4000000
attribute [local irreducible] gives wpList Code.wp

theorem rform' {F : Nat → Prop} {w0 w : World} {L : List Ast} (S : St F w0 w L) {z : Int} {t : UInt8} (hz : z = (t.toNat : Int)) {A : Option Addr} {b : List UInt8} {m cb : Nat} (hm : m = b.length) (hr : RoT F w0 L A b) (hb : b.length ≤ 504) : Calls Try.prog 46 #[.int .i64 z, .slice A m cb] w fun e w' => ∃ A c, e = .returned (.slice A 512 c) ∧ St F w0 w' (vec 5 1 (.slice A 512 c) 512 ((form t b).map bv) :: L) := by
  subst hm; exact rform S hz hr hb
theorem rsame' {F : Nat → Prop} {w0 w : World} {L : List Ast} {A B : Option Addr} {a b : List UInt8} {m n ca cb : Nat} {t : Bool} (hm0 : m = a.length) (hn0 : n = b.length) (ht : decide (a = b) = t) (S : St F w0 w L) (hx : RoT F w0 L A a) (hy : RoT F w0 L B b) (hm : a.length ≤ 9223372036854775807) (hm2 : b.length ≤ 9223372036854775807) :
    Calls Try.prog 56 #[.slice A m ca, .slice B n cb] w fun e w' => e = .returned (.bool t) ∧ St F w0 w' L := by
  subst hm0 hn0; exact rsame ht S hx hy hm hm2
theorem leN_take_drop : ∀ (l : List UInt8) (k : Nat), k ≤ l.length → leN l = leN (l.take k) + 256 ^ k * leN (l.drop k)
  | l, 0, _ => by simp [leN]
  | [], k + 1, h => by simp at h
  | x :: l, k + 1, h => by
    have ih := leN_take_drop l k (by simpa using h)
    simp only [List.take_succ_cons, List.drop_succ_cons, leN]
    rw [ih, Nat.pow_succ, Nat.mul_add, ← Nat.add_assoc, ← Nat.mul_assoc, Nat.mul_comm 256 (256 ^ k)]
theorem leN_drop_le (l : List UInt8) (k : Nat) (h : k ≤ l.length) : leN (l.drop k) ≤ leN l := by
  rw [leN_take_drop l k h]
  have := Nat.mul_le_mul_right (leN (l.drop k)) (Nat.one_le_pow k 256 (by decide))
  omega
theorem anchor_lt {B : List UInt8} (h8 : 8 ≤ B.length) : leN (B.take 8) = leN (B.take 7) + 72057594037927936 * (B.getD 7 0).toNat ∧ leN (B.take 7) < 72057594037927936 := by
  have hl : (B.take 8).length = 8 := by rw [List.length_take]; omega
  have h1 := leN_take_drop (B.take 8) 7 (by omega)
  rw [List.take_take, show min 7 8 = 7 from rfl] at h1
  have h2 := leN_drop (B.take 8) 7 (by omega)
  have h3 : (B.take 8).drop (7 + 1) = [] := List.drop_of_length_le (by omega)
  rw [h3] at h2
  have h4 : (B.take 8).getD 7 0 = B.getD 7 0 := by rw [List.getD_eq_getElem?_getD, List.getElem?_take, if_pos (by decide), List.getD_eq_getElem?_getD]
  rw [h4] at h2
  have h5 := leN_lt (B.take 7)
  have h6 : (B.take 7).length = 7 := by rw [List.length_take]; omega
  rw [h6] at h5
  rw [h1, h2]
  simp only [leN, Nat.mul_zero, Nat.add_zero]
  exact ⟨trivial, h5⟩
theorem anchor_step {B : List UInt8} (h8 : 8 ≤ B.length) {j : Nat} (hj : j < 8) : leN ((B.take 8).drop (8 - (j + 1))) = leN ((B.take 8).drop (8 - j)) * 256 + (B.getD (7 - j) 0).toNat := by
  have hl : (B.take 8).length = 8 := by rw [List.length_take]; omega
  rw [show 8 - (j + 1) = 7 - j from by omega, leN_drop (B.take 8) (7 - j) (by omega), show 7 - j + 1 = 8 - j from by omega]
  have h4 : (B.take 8).getD (7 - j) 0 = B.getD (7 - j) 0 := by rw [List.getD_eq_getElem?_getD, List.getElem?_take, if_pos (by omega), List.getD_eq_getElem?_getD]
  rw [h4]; omega
theorem rseal {F : Nat → Prop} {w0 w : World} {L : List Ast} (S : St F w0 w L) {A B : Option Addr} {a b : List UInt8} {ca cb : Nat} (ha : RoT F w0 L A a) (hb : RoT F w0 L B b) (hma : a.length ≤ 9223372036854775807) (hmb : b.length ≤ 9223372036854775807) : Calls Try.prog 32 #[.slice A a.length ca, .slice B b.length cb] w fun e w' => ∃ A c, e = .returned (.tuple #[.slice A ((sealF a b).1).length c, .int .i64 ((sealF a b).2 : Int)]) ∧ St F w0 w' (vec 5 1 (.slice A ((sealF a b).1).length c) ((sealF a b).1).length (((sealF a b).1).map bv) :: L) := by
  by_cases h5 : a.length ≠ 512
  · have e : sealF a b = ([], 2) := by unfold sealF; rw [if_pos h5]
    rw [e]
    refine wp_enter (fr [.slice A a.length ca, .slice B b.length cb] 32) Try.func32 rfl (by kernel_rfl) ?_
    refine wp_seq ?_
    refine wp_region_lit ?_
    refine pv (.slice none 0 0) ?_
    refine pv (iv 0) ?_
    refine wl_end (fr [.slice A a.length ca, .slice B b.length cb, ud, ud, .slice none 0 0, iv 0] 28) (by kernel_rfl) ?_
    refine then_n ?_
    refine wp_seq ?_
    refine wp_seq ?_
    refine wp_region_lit ?_
    refine pv (.slice A a.length ca) ?_
    refine pv (iv (a.length : Nat)) ?_
    refine wl_gv rfl (gv_ne (x := (a.length : Nat)) (y := 512) (by kernel_rfl) (fun _ => ?_) (fun hd1 => False.elim (by omega)))
    refine wl_end (fr [.slice A a.length ca, .slice B b.length cb, ud, ud, .slice none 0 0, iv 0, ud, ud, .slice A a.length ca, iv (a.length : Nat), tv] 23) (by kernel_rfl) ?_
    refine then_n ?_
    refine wp_cond_true (by kernel_rfl) ?_
    refine wp_seq ?_
    refine wp_region_lit ?_
    refine pv (.slice none 0 0) ?_
    refine pv (iv 2) ?_
    refine wl_end (fr [.slice A a.length ca, .slice B b.length cb, ud, ud, .slice none 0 0, iv 2, ud, ud, .slice A a.length ca, iv (a.length : Nat), tv] 23) (by kernel_rfl) ?_
    refine then_n ?_
    refine wp_ret ?_
    refine then_r ?_
    refine bodyPost_ret (v := .tuple #[.slice none 0 0, .int .i64 2]) (results_t2 rfl (by kernel_rfl) (by kernel_rfl)) rfl ?_
    exact ⟨none, 0, rfl, St.vec_nil S⟩
  by_cases h4 : 504 < b.length
  · have e : sealF a b = ([], 7) := by unfold sealF; rw [if_neg h5, if_pos h4]
    rw [e]
    refine wp_enter (fr [.slice A a.length ca, .slice B b.length cb] 32) Try.func32 rfl (by kernel_rfl) ?_
    refine wp_seq ?_
    refine wp_region_lit ?_
    refine pv (.slice none 0 0) ?_
    refine pv (iv 0) ?_
    refine wl_end (fr [.slice A a.length ca, .slice B b.length cb, ud, ud, .slice none 0 0, iv 0] 28) (by kernel_rfl) ?_
    refine then_n ?_
    refine wp_seq ?_
    refine wp_seq ?_
    refine wp_region_lit ?_
    refine pv (.slice A a.length ca) ?_
    refine pv (iv (a.length : Nat)) ?_
    refine wl_gv rfl (gv_ne (x := (a.length : Nat)) (y := 512) (by kernel_rfl) (fun hd1 => False.elim (by omega)) (fun _ => ?_))
    refine wl_end (fr [.slice A a.length ca, .slice B b.length cb, ud, ud, .slice none 0 0, iv 0, ud, ud, .slice A a.length ca, iv (a.length : Nat), fv] 23) (by kernel_rfl) ?_
    refine then_n ?_
    refine wp_cond_false (by kernel_rfl) ?_
    refine wp_skip ?_
    refine then_n ?_
    refine wp_seq ?_
    refine wp_seq ?_
    refine wp_region_lit ?_
    refine pv (.slice B b.length cb) ?_
    refine pv (iv (b.length : Nat)) ?_
    refine wl_gv rfl (gv_dec (p := ((b.length : Nat) : Int) > 504) (by kernel_rfl) (fun _ => ?_) (fun hd2 => False.elim (by omega)))
    refine wl_end (fr [.slice A a.length ca, .slice B b.length cb, ud, ud, .slice none 0 0, iv 0, ud, ud, .slice A a.length ca, iv (a.length : Nat), fv, .slice B b.length cb, iv (b.length : Nat), tv] 20) (by kernel_rfl) ?_
    refine then_n ?_
    refine wp_cond_true (by kernel_rfl) ?_
    refine wp_seq ?_
    refine wp_region_lit ?_
    refine pv (.slice none 0 0) ?_
    refine pv (iv 7) ?_
    refine wl_end (fr [.slice A a.length ca, .slice B b.length cb, ud, ud, .slice none 0 0, iv 7, ud, ud, .slice A a.length ca, iv (a.length : Nat), fv, .slice B b.length cb, iv (b.length : Nat), tv] 20) (by kernel_rfl) ?_
    refine then_n ?_
    refine wp_ret ?_
    refine then_r ?_
    refine bodyPost_ret (v := .tuple #[.slice none 0 0, .int .i64 7]) (results_t2 rfl (by kernel_rfl) (by kernel_rfl)) rfl ?_
    exact ⟨none, 0, rfl, St.vec_nil S⟩
  have e : sealF a b = (form (turnOf (a.getD 0 0) (a.getD 511 0)) b, 0) := by unfold sealF; rw [if_neg h5, if_neg h4]
  rw [e]
  have hfl := length_form (turnOf (a.getD 0 0) (a.getD 511 0)) (body := b) (by omega)
  obtain ⟨ad, had⟩ := (ha.now S).at (k := 0) (by omega)
  refine wp_enter (fr [.slice A a.length ca, .slice B b.length cb] 32) Try.func32 rfl (by kernel_rfl) ?_
  refine wp_seq ?_
  refine wp_region_lit ?_
  refine pv (.slice none 0 0) ?_
  refine pv (iv 0) ?_
  refine wl_end (fr [.slice A a.length ca, .slice B b.length cb, ud, ud, .slice none 0 0, iv 0] 28) (by kernel_rfl) ?_
  refine then_n ?_
  refine wp_seq ?_
  refine wp_seq ?_
  refine wp_region_lit ?_
  refine pv (.slice A a.length ca) ?_
  refine pv (iv (a.length : Nat)) ?_
  refine wl_gv rfl (gv_ne (x := (a.length : Nat)) (y := 512) (by kernel_rfl) (fun hd1 => False.elim (by omega)) (fun _ => ?_))
  refine wl_end (fr [.slice A a.length ca, .slice B b.length cb, ud, ud, .slice none 0 0, iv 0, ud, ud, .slice A a.length ca, iv (a.length : Nat), fv] 23) (by kernel_rfl) ?_
  refine then_n ?_
  refine wp_cond_false (by kernel_rfl) ?_
  refine wp_skip ?_
  refine then_n ?_
  refine wp_seq ?_
  refine wp_seq ?_
  refine wp_region_lit ?_
  refine pv (.slice B b.length cb) ?_
  refine pv (iv (b.length : Nat)) ?_
  refine wl_gv rfl (gv_dec (p := ((b.length : Nat) : Int) > 504) (by kernel_rfl) (fun hd2 => False.elim (by omega)) (fun _ => ?_))
  refine wl_end (fr [.slice A a.length ca, .slice B b.length cb, ud, ud, .slice none 0 0, iv 0, ud, ud, .slice A a.length ca, iv (a.length : Nat), fv, .slice B b.length cb, iv (b.length : Nat), fv] 20) (by kernel_rfl) ?_
  refine then_n ?_
  refine wp_cond_false (by kernel_rfl) ?_
  refine wp_skip ?_
  refine then_n ?_
  refine wp_seq ?_
  refine wp_region_lit ?_
  refine pv (iv 0) ?_
  refine wl_end (fr [.slice A a.length ca, .slice B b.length cb, ud, ud, .slice none 0 0, iv 0, iv 0, ud, .slice A a.length ca, iv (a.length : Nat), fv, .slice B b.length cb, iv (b.length : Nat), fv] 20) (by kernel_rfl) ?_
  refine then_n ?_
  refine wp_seq ?_
  refine wp_block ?_
  refine wp_loop_g (G := Nat) (fun (g_ : Nat) (a_ : Act) (w_ : World) => ∃ J : Nat → Value, a_ = (fr [.slice A a.length ca, .slice B b.length cb, ud, ud, .slice none 0 0, iv 0, iv ((g_ : Nat) : Int), ud, .slice A a.length ca, iv (a.length : Nat), fv, .slice B b.length cb, iv (b.length : Nat), fv, J 14, J 15, J 16, J 17, J 18, J 19, J 20, J 21, J 22, J 23, J 24, J 25, J 26, J 27, J 28, J 29] 4) ∧ St F w0 w_ (L) ∧ (g_ ≤ 2 ∧ (1 ≤ g_ → ((a.getD 0 0).toNat : Int) = 0 ∨ ((a.getD 511 0).toNat : Int) = 0) ∧ (2 ≤ g_ → ((a.getD 0 0).toNat : Int) = 1 ∨ ((a.getD 511 0).toNat : Int) = 1))) (fun g_ => 3 - g_) 0 ⟨(jl []), by kernel_rfl, S, ⟨by decide, fun h => absurd h (by decide), fun h => absurd h (by decide)⟩⟩ ?_
  rintro k a_ w3 ⟨J, rfl, S4, hI5⟩
  skip
  have S4 : St F w0 w3 (L) := S4
  have hI5 : (k ≤ 2 ∧ (1 ≤ k → ((a.getD 0 0).toNat : Int) = 0 ∨ ((a.getD 511 0).toNat : Int) = 0) ∧ (2 ≤ k → ((a.getD 0 0).toNat : Int) = 1 ∨ ((a.getD 511 0).toNat : Int) = 1)) := hI5
  refine wp_seq ?_
  refine wp_seq ?_
  refine wp_region_lit ?_
  obtain ⟨hk2, hk0, hk1⟩ := hI5
  refine pv (.slice A a.length ca) ?_
  refine wl_gv rfl (gv_ixB (e := 5) (sz := 1) (n := a.length) (c := ca) (i := 0) (k := .i64) (ad := ad) (ad' := (ad.add 0)) (j := 0) rfl (by kernel_rfl) (by kernel_rfl) (by rw [← had]; kernel_rfl) (by kernel_rfl) rfl (by omega) (by rw [Nat.mul_one]) ?_)
  refine wl_gv rfl (gv_ldR (v := .int .u8 ((a.getD 0 0).toNat : Int)) rfl (by kernel_rfl) (by kernel_rfl) ((had ▸ ha.now S4 : RdB _ (some ad) a).cell (by omega)) ?_)
  refine wl_gv rfl (gv_int (k := .i64) (z := IntKind.i64.wrap ((a.getD 0 0).toNat : Int)) (z' := ((a.getD 0 0).toNat : Int)) (by kernel_rfl) (wr_u8 _) ?_)
  refine pv (iv ((k : Nat) : Int)) ?_
  refine wl_gv rfl (gv_eq (x := ((a.getD 0 0).toNat : Int)) (y := ((k : Nat) : Int)) (by kernel_rfl) (fun hb6 => ?_) (fun hb6 => ?_))
  · skip
    refine pv tv ?_
    refine wl_not (by kernel_rfl) ?_
    refine wl_not (by kernel_rfl) ?_
    refine wl_not (by kernel_rfl) ?_
    refine wl_not (by kernel_rfl) ?_
    refine wl_not (by kernel_rfl) ?_
    refine wl_not (by kernel_rfl) ?_
    refine pv tv ?_
    refine wl_end (fr [.slice A a.length ca, .slice B b.length cb, ud, ud, .slice none 0 0, iv 0, iv ((k : Nat) : Int), ud, .slice A a.length ca, iv (a.length : Nat), fv, .slice B b.length cb, iv (b.length : Nat), fv, .slice A a.length ca, .pointer (some (ad.add 0)), .int .u8 ((a.getD 0 0).toNat : Int), iv ((a.getD 0 0).toNat : Int), iv ((k : Nat) : Int), tv, tv, ud, ud, ud, ud, ud, ud, tv, J 28, J 29] 4) (by kernel_rfl) ?_
    refine then_n ?_
    refine wp_cond_true (by kernel_rfl) ?_
    refine wp_skip ?_
    refine then_n ?_
    refine wp_block ?_
    refine wp_region_lit ?_
    refine pv (iv ((k : Nat) : Int)) ?_
    refine wl_gv rfl (gv_int (k := .i64) (z := IntKind.i64.wrap (((k : Nat) : Int) + 1)) (z' := ((k + 1 : Nat) : Int)) (by kernel_rfl) (wr_eq (by omega) (by omega) (by omega)) ?_)
    refine pv (iv ((k + 1 : Nat) : Int)) ?_
    refine wl_end (fr [.slice A a.length ca, .slice B b.length cb, ud, ud, .slice none 0 0, iv 0, iv ((k + 1 : Nat) : Int), ud, .slice A a.length ca, iv (a.length : Nat), fv, .slice B b.length cb, iv (b.length : Nat), fv, .slice A a.length ca, .pointer (some (ad.add 0)), .int .u8 ((a.getD 0 0).toNat : Int), iv ((a.getD 0 0).toNat : Int), iv ((k : Nat) : Int), tv, tv, ud, ud, ud, ud, ud, ud, tv, iv ((k : Nat) : Int), iv ((k + 1 : Nat) : Int)] 4) (by kernel_rfl) ?_
    refine inb_n ?_
    refine then_n ?_
    exact ⟨k + 1, ⟨(jl [ud, ud, ud, ud, ud, ud, ud, ud, ud, ud, ud, ud, ud, ud, .slice A a.length ca, .pointer (some (ad.add 0)), .int .u8 ((a.getD 0 0).toNat : Int), iv ((a.getD 0 0).toNat : Int), iv ((k : Nat) : Int), tv, tv, ud, ud, ud, ud, ud, ud, tv, iv ((k : Nat) : Int), iv ((k + 1 : Nat) : Int)]), by kernel_rfl, S4, ⟨by omega, fun h => by omega, fun h => by omega⟩⟩, (by show 3 - (k + 1) < 3 - k; omega)⟩
  · skip
    refine pv fv ?_
    refine wl_when (by kernel_rfl) (gv_val (v := .slice A a.length ca) (w' := w3) (by kernel_rfl) ?_)
    refine wl_when (by kernel_rfl) (gv_ixB (e := 5) (sz := 1) (n := a.length) (c := ca) (i := 511) (k := .i64) (ad := ad) (ad' := (ad.add 511)) (j := 511) rfl (by kernel_rfl) (by kernel_rfl) (by rw [← had]; kernel_rfl) (by kernel_rfl) rfl (by omega) (by rw [Nat.mul_one]) ?_)
    refine wl_when (by kernel_rfl) (gv_ldR (v := .int .u8 ((a.getD 511 0).toNat : Int)) rfl (by kernel_rfl) (by kernel_rfl) ((had ▸ ha.now S4 : RdB _ (some ad) a).cell (by omega)) ?_)
    refine wl_when (by kernel_rfl) (gv_int (k := .i64) (z := IntKind.i64.wrap ((a.getD 511 0).toNat : Int)) (z' := ((a.getD 511 0).toNat : Int)) (by kernel_rfl) (wr_u8 _) ?_)
    refine wl_when (by kernel_rfl) (gv_val (v := .int .i64 ((k : Nat) : Int)) (w' := w3) (by kernel_rfl) ?_)
    refine wl_when (by kernel_rfl) (gv_eq (x := ((a.getD 511 0).toNat : Int)) (y := ((k : Nat) : Int)) (by kernel_rfl) (fun hb7 => ?_) (fun hb7 => ?_))
    · skip
      refine pv tv ?_
      refine wl_end (fr [.slice A a.length ca, .slice B b.length cb, ud, ud, .slice none 0 0, iv 0, iv ((k : Nat) : Int), ud, .slice A a.length ca, iv (a.length : Nat), fv, .slice B b.length cb, iv (b.length : Nat), fv, .slice A a.length ca, .pointer (some (ad.add 0)), .int .u8 ((a.getD 0 0).toNat : Int), iv ((a.getD 0 0).toNat : Int), iv ((k : Nat) : Int), fv, fv, .slice A a.length ca, .pointer (some (ad.add 511)), .int .u8 ((a.getD 511 0).toNat : Int), iv ((a.getD 511 0).toNat : Int), iv ((k : Nat) : Int), tv, tv, J 28, J 29] 4) (by kernel_rfl) ?_
      refine then_n ?_
      refine wp_cond_true (by kernel_rfl) ?_
      refine wp_skip ?_
      refine then_n ?_
      refine wp_block ?_
      refine wp_region_lit ?_
      refine pv (iv ((k : Nat) : Int)) ?_
      refine wl_gv rfl (gv_int (k := .i64) (z := IntKind.i64.wrap (((k : Nat) : Int) + 1)) (z' := ((k + 1 : Nat) : Int)) (by kernel_rfl) (wr_eq (by omega) (by omega) (by omega)) ?_)
      refine pv (iv ((k + 1 : Nat) : Int)) ?_
      refine wl_end (fr [.slice A a.length ca, .slice B b.length cb, ud, ud, .slice none 0 0, iv 0, iv ((k + 1 : Nat) : Int), ud, .slice A a.length ca, iv (a.length : Nat), fv, .slice B b.length cb, iv (b.length : Nat), fv, .slice A a.length ca, .pointer (some (ad.add 0)), .int .u8 ((a.getD 0 0).toNat : Int), iv ((a.getD 0 0).toNat : Int), iv ((k : Nat) : Int), fv, fv, .slice A a.length ca, .pointer (some (ad.add 511)), .int .u8 ((a.getD 511 0).toNat : Int), iv ((a.getD 511 0).toNat : Int), iv ((k : Nat) : Int), tv, tv, iv ((k : Nat) : Int), iv ((k + 1 : Nat) : Int)] 4) (by kernel_rfl) ?_
      refine inb_n ?_
      refine then_n ?_
      exact ⟨k + 1, ⟨(jl [ud, ud, ud, ud, ud, ud, ud, ud, ud, ud, ud, ud, ud, ud, .slice A a.length ca, .pointer (some (ad.add 0)), .int .u8 ((a.getD 0 0).toNat : Int), iv ((a.getD 0 0).toNat : Int), iv ((k : Nat) : Int), fv, fv, .slice A a.length ca, .pointer (some (ad.add 511)), .int .u8 ((a.getD 511 0).toNat : Int), iv ((a.getD 511 0).toNat : Int), iv ((k : Nat) : Int), tv, tv, iv ((k : Nat) : Int), iv ((k + 1 : Nat) : Int)]), by kernel_rfl, S4, ⟨by omega, fun h => by omega, fun h => by omega⟩⟩, (by show 3 - (k + 1) < 3 - k; omega)⟩
    · skip
      have htu : ((k : Nat) : Int) = ((turnOf (a.getD 0 0) (a.getD 511 0)).toNat : Int) := turn_found (by omega) (by omega) (by omega) hk0 hk1
      refine pv fv ?_
      refine wl_end (fr [.slice A a.length ca, .slice B b.length cb, ud, ud, .slice none 0 0, iv 0, iv ((k : Nat) : Int), ud, .slice A a.length ca, iv (a.length : Nat), fv, .slice B b.length cb, iv (b.length : Nat), fv, .slice A a.length ca, .pointer (some (ad.add 0)), .int .u8 ((a.getD 0 0).toNat : Int), iv ((a.getD 0 0).toNat : Int), iv ((k : Nat) : Int), fv, fv, .slice A a.length ca, .pointer (some (ad.add 511)), .int .u8 ((a.getD 511 0).toNat : Int), iv ((a.getD 511 0).toNat : Int), iv ((k : Nat) : Int), fv, fv, J 28, J 29] 4) (by kernel_rfl) ?_
      refine then_n ?_
      refine wp_cond_false (by kernel_rfl) ?_
      refine wp_exit ?_
      refine then_x ?_
      refine then_x ?_
      refine inb_x ?_
      refine then_n ?_
      refine wp_seq ?_
      refine wp_region_lit ?_
      refine pv (iv ((k : Nat) : Int)) ?_
      refine pv (.slice B b.length cb) ?_
      refine wl_gv rfl (gv_call (args := #[.int .i64 ((k : Nat) : Int), .slice B b.length cb]) rfl Try.func46 (by kernel_rfl) rfl rfl (by kernel_rfl) ?_)
      refine Calls.mono (rform' S4 (t := turnOf (a.getD 0 0) (a.getD 511 0)) htu (b := b) rfl hb (by omega)) ?_
      rintro _ w8 ⟨A10, c11, rfl, S9⟩
      refine ⟨_, rfl, ?_⟩
      refine pv (.slice A10 512 c11) ?_
      refine wl_end (fr [.slice A a.length ca, .slice B b.length cb, ud, ud, .slice none 0 0, iv 0, iv ((k : Nat) : Int), .slice A10 512 c11, .slice A a.length ca, iv (a.length : Nat), fv, .slice B b.length cb, iv (b.length : Nat), fv, .slice A a.length ca, .pointer (some (ad.add 0)), .int .u8 ((a.getD 0 0).toNat : Int), iv ((a.getD 0 0).toNat : Int), iv ((k : Nat) : Int), fv, fv, .slice A a.length ca, .pointer (some (ad.add 511)), .int .u8 ((a.getD 511 0).toNat : Int), iv ((a.getD 511 0).toNat : Int), iv ((k : Nat) : Int), fv, fv, J 28, J 29, iv ((k : Nat) : Int), .slice B b.length cb, .slice A10 512 c11] 1) (by kernel_rfl) ?_
      refine then_n ?_
      refine wp_seq ?_
      refine wp_region_lit ?_
      refine pv (.slice A10 512 c11) ?_
      refine pv (.slice A10 512 c11) ?_
      refine pv (iv 0) ?_
      refine wl_end (fr [.slice A a.length ca, .slice B b.length cb, ud, ud, .slice A10 512 c11, iv 0, iv ((k : Nat) : Int), .slice A10 512 c11, .slice A a.length ca, iv (a.length : Nat), fv, .slice B b.length cb, iv (b.length : Nat), fv, .slice A a.length ca, .pointer (some (ad.add 0)), .int .u8 ((a.getD 0 0).toNat : Int), iv ((a.getD 0 0).toNat : Int), iv ((k : Nat) : Int), fv, fv, .slice A a.length ca, .pointer (some (ad.add 511)), .int .u8 ((a.getD 511 0).toNat : Int), iv ((a.getD 511 0).toNat : Int), iv ((k : Nat) : Int), fv, fv, J 28, J 29, iv ((k : Nat) : Int), .slice B b.length cb, .slice A10 512 c11, .slice A10 512 c11] 0) (by kernel_rfl) ?_
      refine then_n ?_
      refine wp_ret ?_
      refine bodyPost_ret (v := .tuple #[.slice A10 512 c11, .int .i64 0]) (results_t2 rfl (by kernel_rfl) (by kernel_rfl)) rfl ?_
      exact ⟨A10, c11, by rw [hfl]; rfl, by rw [hfl]; exact S9⟩
theorem ropen {F : Nat → Prop} {w0 w : World} {L : List Ast} (S : St F w0 w L) {A : Option Addr} {s : List UInt8} {ca : Nat} (hr : RoT F w0 L A s) (hm : s.length ≤ 9223372036854775807) : Calls Try.prog 48 #[.slice A s.length ca] w fun e w' => ∃ A c, e = .returned (.tuple #[.slice A ((openF s).1).length c, .int .i64 ((openF s).2 : Int)]) ∧ St F w0 w' (vec 5 1 (.slice A ((openF s).1).length c) ((openF s).1).length (((openF s).1).map bv) :: L) := by
  by_cases h5 : s.length ≠ 512
  · have e : openF s = ([], 2) := by unfold openF; rw [if_pos h5]
    rw [e]
    refine wp_enter (fr [.slice A s.length ca] 52) Try.func48 rfl (by kernel_rfl) ?_
    refine wp_seq ?_
    refine wp_region_lit ?_
    refine pv (.slice none 0 0) ?_
    refine pv (iv 0) ?_
    refine wl_end (fr [.slice A s.length ca, ud, .slice none 0 0, iv 0] 49) (by kernel_rfl) ?_
    refine then_n ?_
    refine wp_seq ?_
    refine wp_seq ?_
    refine wp_region_lit ?_
    refine pv (.slice A s.length ca) ?_
    refine pv (iv (s.length : Nat)) ?_
    refine wl_gv rfl (gv_ne (x := (s.length : Nat)) (y := 512) (by kernel_rfl) (fun _ => ?_) (fun hd1 => False.elim (by omega)))
    refine wl_end (fr [.slice A s.length ca, ud, .slice none 0 0, iv 0, ud, ud, ud, ud, .slice A s.length ca, iv (s.length : Nat), tv] 42) (by kernel_rfl) ?_
    refine then_n ?_
    refine wp_cond_true (by kernel_rfl) ?_
    refine wp_seq ?_
    refine wp_region_lit ?_
    refine pv (.slice none 0 0) ?_
    refine pv (iv 2) ?_
    refine wl_end (fr [.slice A s.length ca, ud, .slice none 0 0, iv 2, ud, ud, ud, ud, .slice A s.length ca, iv (s.length : Nat), tv] 42) (by kernel_rfl) ?_
    refine then_n ?_
    refine wp_ret ?_
    refine then_r ?_
    refine bodyPost_ret (v := .tuple #[.slice none 0 0, .int .i64 2]) (results_t2 rfl (by kernel_rfl) (by kernel_rfl)) rfl ?_
    exact ⟨none, 0, rfl, St.vec_nil S⟩
  have hl5 : s.length = 512 := by omega
  obtain ⟨n, hn⟩ : ∃ n, n = (s.getD 1 0).toNat + 256 * (s.getD 2 0).toNat := ⟨_, rfl⟩
  have e0 := openF_at (x0 := s.getD 0 0) hl5 rfl hn
  have hx1 := (s.getD 1 0).toNat_lt
  have hx2 := (s.getD 2 0).toNat_lt
  obtain ⟨ad, had⟩ := (hr.now S).at (k := 0) (by omega)
  by_cases h4 : 504 < n
  · have e : openF s = ([], 30) := e0.trans (if_pos (.inr h4))
    rw [e]
    refine wp_enter (fr [.slice A s.length ca] 52) Try.func48 rfl (by kernel_rfl) ?_
    refine wp_seq ?_
    refine wp_region_lit ?_
    refine pv (.slice none 0 0) ?_
    refine pv (iv 0) ?_
    refine wl_end (fr [.slice A s.length ca, ud, .slice none 0 0, iv 0] 49) (by kernel_rfl) ?_
    refine then_n ?_
    refine wp_seq ?_
    refine wp_seq ?_
    refine wp_region_lit ?_
    refine pv (.slice A s.length ca) ?_
    refine pv (iv (s.length : Nat)) ?_
    refine wl_gv rfl (gv_ne (x := (s.length : Nat)) (y := 512) (by kernel_rfl) (fun hd1 => False.elim (by omega)) (fun _ => ?_))
    refine wl_end (fr [.slice A s.length ca, ud, .slice none 0 0, iv 0, ud, ud, ud, ud, .slice A s.length ca, iv (s.length : Nat), fv] 42) (by kernel_rfl) ?_
    refine then_n ?_
    refine wp_cond_false (by kernel_rfl) ?_
    refine wp_skip ?_
    refine then_n ?_
    refine wp_seq ?_
    refine wp_region_phu (γ := Unit) 10 [] (fun (c_ : Unit) (i_ : Nat) => (match i_ with | 0 => .slice A s.length ca | 1 => .pointer (some (ad.add 1)) | 2 => .int .u8 ((s.getD 1 0).toNat : Int) | 3 => .int .i64 ((s.getD 1 0).toNat : Int) | 4 => .slice A s.length ca | 5 => .pointer (some (ad.add 2)) | 6 => .int .u8 ((s.getD 2 0).toNat : Int) | 7 => .int .i64 ((s.getD 2 0).toNat : Int) | 8 => .int .i64 (256 * ((s.getD 2 0).toNat : Int)) | 9 => .int .i64 ((n : Nat) : Int) | _ => undef : Value)) (fun (c_ : Unit) (p_ : Nat) (w_ : World) => (match p_ with  | _ => St F w0 w_ (L) : Prop)) () (by kernel_rfl) (by kernel_rfl) (by kernel_rfl) (by kernel_rfl) (S.drew) ?_ ?_ ?_
    · intro i_ c_ p_ vals_ w1 hi_ hiE_ hp_ hk_ hu_ hPh_ hd_
      rcases i_ with _ | _ | _ | _ | _ | _ | _ | _ | _ | _ | i_
      · skip
        refine told_free rfl rfl (gv_env ((⟨Array.replicate 53 undef, []⟩ : Act).put (some 0) (.slice A s.length ca)) (by kernel_rfl) (xs := [.tmp 0]) (by kernel_rfl) (alike_cons (fill_past (by kernel_rfl) (by kernel_rfl)) alike_nil) (gv_val (v := .slice A s.length ca) (w' := w1) (by kernel_rfl) ?_))
        exact ⟨rfl, rfl⟩
      · skip
        refine told_free rfl rfl (gv_env ((⟨Array.replicate 53 undef, []⟩ : Act).put (some 11) (.slice A s.length ca)) (by kernel_rfl) (xs := [.tmp 11, .const (.int .i64 1)]) (by kernel_rfl) (alike_cons (fill_at (k := 0) (by kernel_rfl) (by kernel_rfl) ((hd_ 0 (by kernel_rfl)).trans (by kernel_rfl))) (alike_cons eval_c alike_nil)) (gv_ixB (e := 5) (sz := 1) (n := s.length) (c := ca) (i := 1) (k := .i64) (ad := ad) (ad' := (ad.add 1)) (j := 1) rfl (by kernel_rfl) (by kernel_rfl) (by rw [← had]; kernel_rfl) (by kernel_rfl) rfl (by omega) (by rw [Nat.mul_one]) ?_))
        exact ⟨rfl, rfl⟩
      · skip
        have S4 : St F w0 w1 (L) := hPh_
        refine told_free rfl rfl (gv_env ((⟨Array.replicate 53 undef, []⟩ : Act).put (some 12) (.pointer (some (ad.add 1)))) (by kernel_rfl) (xs := [.tmp 12]) (by kernel_rfl) (alike_cons (fill_at (k := 1) (by kernel_rfl) (by kernel_rfl) ((hd_ 1 (by kernel_rfl)).trans (by kernel_rfl))) alike_nil) (gv_ldR (v := .int .u8 ((s.getD 1 0).toNat : Int)) rfl (by kernel_rfl) (by kernel_rfl) ((had ▸ hr.now S4 : RdB _ (some ad) s).cell (by omega)) ?_))
        exact ⟨rfl, rfl⟩
      · skip
        refine told_free rfl rfl (gv_env ((⟨Array.replicate 53 undef, []⟩ : Act).put (some 13) (.int .u8 ((s.getD 1 0).toNat : Int))) (by kernel_rfl) (xs := [.tmp 13]) (by kernel_rfl) (alike_cons (fill_at (k := 2) (by kernel_rfl) (by kernel_rfl) ((hd_ 2 (by kernel_rfl)).trans (by kernel_rfl))) alike_nil) (gv_int (k := .i64) (z := IntKind.i64.wrap ((s.getD 1 0).toNat : Int)) (z' := ((s.getD 1 0).toNat : Int)) (by kernel_rfl) (wr_u8 _) ?_))
        exact ⟨rfl, rfl⟩
      · skip
        refine told_free rfl rfl (gv_env ((⟨Array.replicate 53 undef, []⟩ : Act).put (some 0) (.slice A s.length ca)) (by kernel_rfl) (xs := [.tmp 0]) (by kernel_rfl) (alike_cons (fill_past (by kernel_rfl) (by kernel_rfl)) alike_nil) (gv_val (v := .slice A s.length ca) (w' := w1) (by kernel_rfl) ?_))
        exact ⟨rfl, rfl⟩
      · skip
        refine told_free rfl rfl (gv_env ((⟨Array.replicate 53 undef, []⟩ : Act).put (some 15) (.slice A s.length ca)) (by kernel_rfl) (xs := [.tmp 15, .const (.int .i64 2)]) (by kernel_rfl) (alike_cons (fill_at (k := 4) (by kernel_rfl) (by kernel_rfl) ((hd_ 4 (by kernel_rfl)).trans (by kernel_rfl))) (alike_cons eval_c alike_nil)) (gv_ixB (e := 5) (sz := 1) (n := s.length) (c := ca) (i := 2) (k := .i64) (ad := ad) (ad' := (ad.add 2)) (j := 2) rfl (by kernel_rfl) (by kernel_rfl) (by rw [← had]; kernel_rfl) (by kernel_rfl) rfl (by omega) (by rw [Nat.mul_one]) ?_))
        exact ⟨rfl, rfl⟩
      · skip
        have S8 : St F w0 w1 (L) := hPh_
        refine told_free rfl rfl (gv_env ((⟨Array.replicate 53 undef, []⟩ : Act).put (some 16) (.pointer (some (ad.add 2)))) (by kernel_rfl) (xs := [.tmp 16]) (by kernel_rfl) (alike_cons (fill_at (k := 5) (by kernel_rfl) (by kernel_rfl) ((hd_ 5 (by kernel_rfl)).trans (by kernel_rfl))) alike_nil) (gv_ldR (v := .int .u8 ((s.getD 2 0).toNat : Int)) rfl (by kernel_rfl) (by kernel_rfl) ((had ▸ hr.now S8 : RdB _ (some ad) s).cell (by omega)) ?_))
        exact ⟨rfl, rfl⟩
      · skip
        refine told_free rfl rfl (gv_env ((⟨Array.replicate 53 undef, []⟩ : Act).put (some 17) (.int .u8 ((s.getD 2 0).toNat : Int))) (by kernel_rfl) (xs := [.tmp 17]) (by kernel_rfl) (alike_cons (fill_at (k := 6) (by kernel_rfl) (by kernel_rfl) ((hd_ 6 (by kernel_rfl)).trans (by kernel_rfl))) alike_nil) (gv_int (k := .i64) (z := IntKind.i64.wrap ((s.getD 2 0).toNat : Int)) (z' := ((s.getD 2 0).toNat : Int)) (by kernel_rfl) (wr_u8 _) ?_))
        exact ⟨rfl, rfl⟩
      · skip
        refine told_free rfl rfl (gv_env ((⟨Array.replicate 53 undef, []⟩ : Act).put (some 18) (.int .i64 ((s.getD 2 0).toNat : Int))) (by kernel_rfl) (xs := [.const (.int .i64 256), .tmp 18]) (by kernel_rfl) (alike_cons eval_c (alike_cons (fill_at (k := 7) (by kernel_rfl) (by kernel_rfl) ((hd_ 7 (by kernel_rfl)).trans (by kernel_rfl))) alike_nil)) (gv_int (k := .i64) (z := IntKind.i64.wrap (256 * ((s.getD 2 0).toNat : Int))) (z' := 256 * ((s.getD 2 0).toNat : Int)) (by kernel_rfl) (wr_ok (by omega) (by omega)) ?_))
        exact ⟨rfl, rfl⟩
      · skip
        refine told_free rfl rfl (gv_env (((⟨Array.replicate 53 undef, []⟩ : Act).put (some 14) (.int .i64 ((s.getD 1 0).toNat : Int))).put (some 19) (.int .i64 (256 * ((s.getD 2 0).toNat : Int)))) (by kernel_rfl) (xs := [.tmp 14, .tmp 19]) (by kernel_rfl) (alike_cons (fill_at (k := 3) (by kernel_rfl) (by kernel_rfl) ((hd_ 3 (by kernel_rfl)).trans (by kernel_rfl))) (alike_cons (fill_at (k := 8) (by kernel_rfl) (by kernel_rfl) ((hd_ 8 (by kernel_rfl)).trans (by kernel_rfl))) alike_nil)) (gv_int (k := .i64) (z := IntKind.i64.wrap (((s.getD 1 0).toNat : Int) + (256 * ((s.getD 2 0).toNat : Int)))) (z' := ((n : Nat) : Int)) (by kernel_rfl) (wr_eq (by omega) (by omega) (by omega)) ?_))
        exact ⟨rfl, rfl⟩
      · exact absurd hi_ (by omega)
    · intro k_ c_ vals_ w1 hk_ hPh_ hd_
      exact absurd hk_ (Nat.not_lt_zero _)
    · intro c_ w1 hPh_
      have S12 : St F w0 w1 (L) := hPh_
      refine wl_frame (fr [.slice A s.length ca, ud, .slice none 0 0, iv 0, ud, ud, ud, ud, .slice A s.length ca, iv (s.length : Nat), fv, .slice A s.length ca, .pointer (some (ad.add 1)), .int .u8 ((s.getD 1 0).toNat : Int), iv ((s.getD 1 0).toNat : Int), .slice A s.length ca, .pointer (some (ad.add 2)), .int .u8 ((s.getD 2 0).toNat : Int), iv ((s.getD 2 0).toNat : Int), iv (256 * ((s.getD 2 0).toNat : Int)), iv ((n : Nat) : Int)] 32) (by kernel_rfl) ?_
      refine pv (iv ((n : Nat) : Int)) ?_
      refine wl_end (fr [.slice A s.length ca, ud, .slice none 0 0, iv 0, iv ((n : Nat) : Int), ud, ud, ud, .slice A s.length ca, iv (s.length : Nat), fv, .slice A s.length ca, .pointer (some (ad.add 1)), .int .u8 ((s.getD 1 0).toNat : Int), iv ((s.getD 1 0).toNat : Int), .slice A s.length ca, .pointer (some (ad.add 2)), .int .u8 ((s.getD 2 0).toNat : Int), iv ((s.getD 2 0).toNat : Int), iv (256 * ((s.getD 2 0).toNat : Int)), iv ((n : Nat) : Int)] 32) (by kernel_rfl) ?_
      refine then_n ?_
      refine wp_seq ?_
      refine wp_seq ?_
      refine wp_region_lit ?_
      refine pv (iv ((n : Nat) : Int)) ?_
      refine wl_gv rfl (gv_dec (p := (((n : Nat) : Int) : Int) > 504) (by kernel_rfl) (fun _ => ?_) (fun hd13 => False.elim (by omega)))
      refine pv tv ?_
      refine wl_not (by kernel_rfl) ?_
      refine wl_not (by kernel_rfl) ?_
      refine wl_not (by kernel_rfl) ?_
      refine wl_not (by kernel_rfl) ?_
      refine pv tv ?_
      refine wl_end (fr [.slice A s.length ca, ud, .slice none 0 0, iv 0, iv ((n : Nat) : Int), ud, ud, ud, .slice A s.length ca, iv (s.length : Nat), fv, .slice A s.length ca, .pointer (some (ad.add 1)), .int .u8 ((s.getD 1 0).toNat : Int), iv ((s.getD 1 0).toNat : Int), .slice A s.length ca, .pointer (some (ad.add 2)), .int .u8 ((s.getD 2 0).toNat : Int), iv ((s.getD 2 0).toNat : Int), iv (256 * ((s.getD 2 0).toNat : Int)), iv ((n : Nat) : Int), iv ((n : Nat) : Int), tv, tv, ud, ud, ud, ud, tv] 24) (by kernel_rfl) ?_
      refine then_n ?_
      refine wp_cond_true (by kernel_rfl) ?_
      refine wp_seq ?_
      refine wp_region_lit ?_
      refine pv (.slice none 0 0) ?_
      refine pv (iv 30) ?_
      refine wl_end (fr [.slice A s.length ca, ud, .slice none 0 0, iv 30, iv ((n : Nat) : Int), ud, ud, ud, .slice A s.length ca, iv (s.length : Nat), fv, .slice A s.length ca, .pointer (some (ad.add 1)), .int .u8 ((s.getD 1 0).toNat : Int), iv ((s.getD 1 0).toNat : Int), .slice A s.length ca, .pointer (some (ad.add 2)), .int .u8 ((s.getD 2 0).toNat : Int), iv ((s.getD 2 0).toNat : Int), iv (256 * ((s.getD 2 0).toNat : Int)), iv ((n : Nat) : Int), iv ((n : Nat) : Int), tv, tv, ud, ud, ud, ud, tv] 24) (by kernel_rfl) ?_
      refine then_n ?_
      refine wp_ret ?_
      refine then_r ?_
      refine bodyPost_ret (v := .tuple #[.slice none 0 0, .int .i64 30]) (results_t2 rfl (by kernel_rfl) (by kernel_rfl)) rfl ?_
      exact ⟨none, 0, rfl, St.vec_nil S12⟩
  by_cases h2 : 2 < (s.getD 0 0).toNat
  · have e : openF s = ([], 30) := e0.trans (if_pos (.inl h2))
    rw [e]
    refine wp_enter (fr [.slice A s.length ca] 52) Try.func48 rfl (by kernel_rfl) ?_
    refine wp_seq ?_
    refine wp_region_lit ?_
    refine pv (.slice none 0 0) ?_
    refine pv (iv 0) ?_
    refine wl_end (fr [.slice A s.length ca, ud, .slice none 0 0, iv 0] 49) (by kernel_rfl) ?_
    refine then_n ?_
    refine wp_seq ?_
    refine wp_seq ?_
    refine wp_region_lit ?_
    refine pv (.slice A s.length ca) ?_
    refine pv (iv (s.length : Nat)) ?_
    refine wl_gv rfl (gv_ne (x := (s.length : Nat)) (y := 512) (by kernel_rfl) (fun hd1 => False.elim (by omega)) (fun _ => ?_))
    refine wl_end (fr [.slice A s.length ca, ud, .slice none 0 0, iv 0, ud, ud, ud, ud, .slice A s.length ca, iv (s.length : Nat), fv] 42) (by kernel_rfl) ?_
    refine then_n ?_
    refine wp_cond_false (by kernel_rfl) ?_
    refine wp_skip ?_
    refine then_n ?_
    refine wp_seq ?_
    refine wp_region_phu (γ := Unit) 10 [] (fun (c_ : Unit) (i_ : Nat) => (match i_ with | 0 => .slice A s.length ca | 1 => .pointer (some (ad.add 1)) | 2 => .int .u8 ((s.getD 1 0).toNat : Int) | 3 => .int .i64 ((s.getD 1 0).toNat : Int) | 4 => .slice A s.length ca | 5 => .pointer (some (ad.add 2)) | 6 => .int .u8 ((s.getD 2 0).toNat : Int) | 7 => .int .i64 ((s.getD 2 0).toNat : Int) | 8 => .int .i64 (256 * ((s.getD 2 0).toNat : Int)) | 9 => .int .i64 ((n : Nat) : Int) | _ => undef : Value)) (fun (c_ : Unit) (p_ : Nat) (w_ : World) => (match p_ with  | _ => St F w0 w_ (L) : Prop)) () (by kernel_rfl) (by kernel_rfl) (by kernel_rfl) (by kernel_rfl) (S.drew) ?_ ?_ ?_
    · intro i_ c_ p_ vals_ w1 hi_ hiE_ hp_ hk_ hu_ hPh_ hd_
      rcases i_ with _ | _ | _ | _ | _ | _ | _ | _ | _ | _ | i_
      · skip
        refine told_free rfl rfl (gv_env ((⟨Array.replicate 53 undef, []⟩ : Act).put (some 0) (.slice A s.length ca)) (by kernel_rfl) (xs := [.tmp 0]) (by kernel_rfl) (alike_cons (fill_past (by kernel_rfl) (by kernel_rfl)) alike_nil) (gv_val (v := .slice A s.length ca) (w' := w1) (by kernel_rfl) ?_))
        exact ⟨rfl, rfl⟩
      · skip
        refine told_free rfl rfl (gv_env ((⟨Array.replicate 53 undef, []⟩ : Act).put (some 11) (.slice A s.length ca)) (by kernel_rfl) (xs := [.tmp 11, .const (.int .i64 1)]) (by kernel_rfl) (alike_cons (fill_at (k := 0) (by kernel_rfl) (by kernel_rfl) ((hd_ 0 (by kernel_rfl)).trans (by kernel_rfl))) (alike_cons eval_c alike_nil)) (gv_ixB (e := 5) (sz := 1) (n := s.length) (c := ca) (i := 1) (k := .i64) (ad := ad) (ad' := (ad.add 1)) (j := 1) rfl (by kernel_rfl) (by kernel_rfl) (by rw [← had]; kernel_rfl) (by kernel_rfl) rfl (by omega) (by rw [Nat.mul_one]) ?_))
        exact ⟨rfl, rfl⟩
      · skip
        have S4 : St F w0 w1 (L) := hPh_
        refine told_free rfl rfl (gv_env ((⟨Array.replicate 53 undef, []⟩ : Act).put (some 12) (.pointer (some (ad.add 1)))) (by kernel_rfl) (xs := [.tmp 12]) (by kernel_rfl) (alike_cons (fill_at (k := 1) (by kernel_rfl) (by kernel_rfl) ((hd_ 1 (by kernel_rfl)).trans (by kernel_rfl))) alike_nil) (gv_ldR (v := .int .u8 ((s.getD 1 0).toNat : Int)) rfl (by kernel_rfl) (by kernel_rfl) ((had ▸ hr.now S4 : RdB _ (some ad) s).cell (by omega)) ?_))
        exact ⟨rfl, rfl⟩
      · skip
        refine told_free rfl rfl (gv_env ((⟨Array.replicate 53 undef, []⟩ : Act).put (some 13) (.int .u8 ((s.getD 1 0).toNat : Int))) (by kernel_rfl) (xs := [.tmp 13]) (by kernel_rfl) (alike_cons (fill_at (k := 2) (by kernel_rfl) (by kernel_rfl) ((hd_ 2 (by kernel_rfl)).trans (by kernel_rfl))) alike_nil) (gv_int (k := .i64) (z := IntKind.i64.wrap ((s.getD 1 0).toNat : Int)) (z' := ((s.getD 1 0).toNat : Int)) (by kernel_rfl) (wr_u8 _) ?_))
        exact ⟨rfl, rfl⟩
      · skip
        refine told_free rfl rfl (gv_env ((⟨Array.replicate 53 undef, []⟩ : Act).put (some 0) (.slice A s.length ca)) (by kernel_rfl) (xs := [.tmp 0]) (by kernel_rfl) (alike_cons (fill_past (by kernel_rfl) (by kernel_rfl)) alike_nil) (gv_val (v := .slice A s.length ca) (w' := w1) (by kernel_rfl) ?_))
        exact ⟨rfl, rfl⟩
      · skip
        refine told_free rfl rfl (gv_env ((⟨Array.replicate 53 undef, []⟩ : Act).put (some 15) (.slice A s.length ca)) (by kernel_rfl) (xs := [.tmp 15, .const (.int .i64 2)]) (by kernel_rfl) (alike_cons (fill_at (k := 4) (by kernel_rfl) (by kernel_rfl) ((hd_ 4 (by kernel_rfl)).trans (by kernel_rfl))) (alike_cons eval_c alike_nil)) (gv_ixB (e := 5) (sz := 1) (n := s.length) (c := ca) (i := 2) (k := .i64) (ad := ad) (ad' := (ad.add 2)) (j := 2) rfl (by kernel_rfl) (by kernel_rfl) (by rw [← had]; kernel_rfl) (by kernel_rfl) rfl (by omega) (by rw [Nat.mul_one]) ?_))
        exact ⟨rfl, rfl⟩
      · skip
        have S8 : St F w0 w1 (L) := hPh_
        refine told_free rfl rfl (gv_env ((⟨Array.replicate 53 undef, []⟩ : Act).put (some 16) (.pointer (some (ad.add 2)))) (by kernel_rfl) (xs := [.tmp 16]) (by kernel_rfl) (alike_cons (fill_at (k := 5) (by kernel_rfl) (by kernel_rfl) ((hd_ 5 (by kernel_rfl)).trans (by kernel_rfl))) alike_nil) (gv_ldR (v := .int .u8 ((s.getD 2 0).toNat : Int)) rfl (by kernel_rfl) (by kernel_rfl) ((had ▸ hr.now S8 : RdB _ (some ad) s).cell (by omega)) ?_))
        exact ⟨rfl, rfl⟩
      · skip
        refine told_free rfl rfl (gv_env ((⟨Array.replicate 53 undef, []⟩ : Act).put (some 17) (.int .u8 ((s.getD 2 0).toNat : Int))) (by kernel_rfl) (xs := [.tmp 17]) (by kernel_rfl) (alike_cons (fill_at (k := 6) (by kernel_rfl) (by kernel_rfl) ((hd_ 6 (by kernel_rfl)).trans (by kernel_rfl))) alike_nil) (gv_int (k := .i64) (z := IntKind.i64.wrap ((s.getD 2 0).toNat : Int)) (z' := ((s.getD 2 0).toNat : Int)) (by kernel_rfl) (wr_u8 _) ?_))
        exact ⟨rfl, rfl⟩
      · skip
        refine told_free rfl rfl (gv_env ((⟨Array.replicate 53 undef, []⟩ : Act).put (some 18) (.int .i64 ((s.getD 2 0).toNat : Int))) (by kernel_rfl) (xs := [.const (.int .i64 256), .tmp 18]) (by kernel_rfl) (alike_cons eval_c (alike_cons (fill_at (k := 7) (by kernel_rfl) (by kernel_rfl) ((hd_ 7 (by kernel_rfl)).trans (by kernel_rfl))) alike_nil)) (gv_int (k := .i64) (z := IntKind.i64.wrap (256 * ((s.getD 2 0).toNat : Int))) (z' := 256 * ((s.getD 2 0).toNat : Int)) (by kernel_rfl) (wr_ok (by omega) (by omega)) ?_))
        exact ⟨rfl, rfl⟩
      · skip
        refine told_free rfl rfl (gv_env (((⟨Array.replicate 53 undef, []⟩ : Act).put (some 14) (.int .i64 ((s.getD 1 0).toNat : Int))).put (some 19) (.int .i64 (256 * ((s.getD 2 0).toNat : Int)))) (by kernel_rfl) (xs := [.tmp 14, .tmp 19]) (by kernel_rfl) (alike_cons (fill_at (k := 3) (by kernel_rfl) (by kernel_rfl) ((hd_ 3 (by kernel_rfl)).trans (by kernel_rfl))) (alike_cons (fill_at (k := 8) (by kernel_rfl) (by kernel_rfl) ((hd_ 8 (by kernel_rfl)).trans (by kernel_rfl))) alike_nil)) (gv_int (k := .i64) (z := IntKind.i64.wrap (((s.getD 1 0).toNat : Int) + (256 * ((s.getD 2 0).toNat : Int)))) (z' := ((n : Nat) : Int)) (by kernel_rfl) (wr_eq (by omega) (by omega) (by omega)) ?_))
        exact ⟨rfl, rfl⟩
      · exact absurd hi_ (by omega)
    · intro k_ c_ vals_ w1 hk_ hPh_ hd_
      exact absurd hk_ (Nat.not_lt_zero _)
    · intro c_ w1 hPh_
      have S12 : St F w0 w1 (L) := hPh_
      refine wl_frame (fr [.slice A s.length ca, ud, .slice none 0 0, iv 0, ud, ud, ud, ud, .slice A s.length ca, iv (s.length : Nat), fv, .slice A s.length ca, .pointer (some (ad.add 1)), .int .u8 ((s.getD 1 0).toNat : Int), iv ((s.getD 1 0).toNat : Int), .slice A s.length ca, .pointer (some (ad.add 2)), .int .u8 ((s.getD 2 0).toNat : Int), iv ((s.getD 2 0).toNat : Int), iv (256 * ((s.getD 2 0).toNat : Int)), iv ((n : Nat) : Int)] 32) (by kernel_rfl) ?_
      refine pv (iv ((n : Nat) : Int)) ?_
      refine wl_end (fr [.slice A s.length ca, ud, .slice none 0 0, iv 0, iv ((n : Nat) : Int), ud, ud, ud, .slice A s.length ca, iv (s.length : Nat), fv, .slice A s.length ca, .pointer (some (ad.add 1)), .int .u8 ((s.getD 1 0).toNat : Int), iv ((s.getD 1 0).toNat : Int), .slice A s.length ca, .pointer (some (ad.add 2)), .int .u8 ((s.getD 2 0).toNat : Int), iv ((s.getD 2 0).toNat : Int), iv (256 * ((s.getD 2 0).toNat : Int)), iv ((n : Nat) : Int)] 32) (by kernel_rfl) ?_
      refine then_n ?_
      refine wp_seq ?_
      refine wp_seq ?_
      refine wp_region_lit ?_
      refine pv (iv ((n : Nat) : Int)) ?_
      refine wl_gv rfl (gv_dec (p := (((n : Nat) : Int) : Int) > 504) (by kernel_rfl) (fun hd13 => False.elim (by omega)) (fun _ => ?_))
      refine pv fv ?_
      refine wl_when (by kernel_rfl) (gv_val (v := .slice A s.length ca) (w' := w1) (by kernel_rfl) ?_)
      refine wl_when (by kernel_rfl) (gv_ixB (e := 5) (sz := 1) (n := s.length) (c := ca) (i := 0) (k := .i64) (ad := ad) (ad' := (ad.add 0)) (j := 0) rfl (by kernel_rfl) (by kernel_rfl) (by rw [← had]; kernel_rfl) (by kernel_rfl) rfl (by omega) (by rw [Nat.mul_one]) ?_)
      refine wl_when (by kernel_rfl) (gv_ldR (v := .int .u8 ((s.getD 0 0).toNat : Int)) rfl (by kernel_rfl) (by kernel_rfl) ((had ▸ hr.now S12 : RdB _ (some ad) s).cell (by omega)) ?_)
      refine wl_when (by kernel_rfl) (gv_dec (p := (((s.getD 0 0).toNat : Int) : Int) > 2) (by kernel_rfl) (fun _ => ?_) (fun hd14 => False.elim (by omega)))
      refine pv tv ?_
      refine wl_end (fr [.slice A s.length ca, ud, .slice none 0 0, iv 0, iv ((n : Nat) : Int), ud, ud, ud, .slice A s.length ca, iv (s.length : Nat), fv, .slice A s.length ca, .pointer (some (ad.add 1)), .int .u8 ((s.getD 1 0).toNat : Int), iv ((s.getD 1 0).toNat : Int), .slice A s.length ca, .pointer (some (ad.add 2)), .int .u8 ((s.getD 2 0).toNat : Int), iv ((s.getD 2 0).toNat : Int), iv (256 * ((s.getD 2 0).toNat : Int)), iv ((n : Nat) : Int), iv ((n : Nat) : Int), fv, fv, .slice A s.length ca, .pointer (some (ad.add 0)), .int .u8 ((s.getD 0 0).toNat : Int), tv, tv] 24) (by kernel_rfl) ?_
      refine then_n ?_
      refine wp_cond_true (by kernel_rfl) ?_
      refine wp_seq ?_
      refine wp_region_lit ?_
      refine pv (.slice none 0 0) ?_
      refine pv (iv 30) ?_
      refine wl_end (fr [.slice A s.length ca, ud, .slice none 0 0, iv 30, iv ((n : Nat) : Int), ud, ud, ud, .slice A s.length ca, iv (s.length : Nat), fv, .slice A s.length ca, .pointer (some (ad.add 1)), .int .u8 ((s.getD 1 0).toNat : Int), iv ((s.getD 1 0).toNat : Int), .slice A s.length ca, .pointer (some (ad.add 2)), .int .u8 ((s.getD 2 0).toNat : Int), iv ((s.getD 2 0).toNat : Int), iv (256 * ((s.getD 2 0).toNat : Int)), iv ((n : Nat) : Int), iv ((n : Nat) : Int), fv, fv, .slice A s.length ca, .pointer (some (ad.add 0)), .int .u8 ((s.getD 0 0).toNat : Int), tv, tv] 24) (by kernel_rfl) ?_
      refine then_n ?_
      refine wp_ret ?_
      refine then_r ?_
      refine bodyPost_ret (v := .tuple #[.slice none 0 0, .int .i64 30]) (results_t2 rfl (by kernel_rfl) (by kernel_rfl)) rfl ?_
      exact ⟨none, 0, rfl, St.vec_nil S12⟩
  rw [if_neg (by omega)] at e0
  have hbl : ((s.drop 7).take n).length = n := by rw [List.length_take, List.length_drop]; omega
  have hfl := length_form (s.getD 0 0) (body := (s.drop 7).take n) (by omega)
  refine wp_enter (fr [.slice A s.length ca] 52) Try.func48 rfl (by kernel_rfl) ?_
  refine wp_seq ?_
  refine wp_region_lit ?_
  refine pv (.slice none 0 0) ?_
  refine pv (iv 0) ?_
  refine wl_end (fr [.slice A s.length ca, ud, .slice none 0 0, iv 0] 49) (by kernel_rfl) ?_
  refine then_n ?_
  refine wp_seq ?_
  refine wp_seq ?_
  refine wp_region_lit ?_
  refine pv (.slice A s.length ca) ?_
  refine pv (iv (s.length : Nat)) ?_
  refine wl_gv rfl (gv_ne (x := (s.length : Nat)) (y := 512) (by kernel_rfl) (fun hd1 => False.elim (by omega)) (fun _ => ?_))
  refine wl_end (fr [.slice A s.length ca, ud, .slice none 0 0, iv 0, ud, ud, ud, ud, .slice A s.length ca, iv (s.length : Nat), fv] 42) (by kernel_rfl) ?_
  refine then_n ?_
  refine wp_cond_false (by kernel_rfl) ?_
  refine wp_skip ?_
  refine then_n ?_
  refine wp_seq ?_
  refine wp_region_phu (γ := Unit) 10 [] (fun (c_ : Unit) (i_ : Nat) => (match i_ with | 0 => .slice A s.length ca | 1 => .pointer (some (ad.add 1)) | 2 => .int .u8 ((s.getD 1 0).toNat : Int) | 3 => .int .i64 ((s.getD 1 0).toNat : Int) | 4 => .slice A s.length ca | 5 => .pointer (some (ad.add 2)) | 6 => .int .u8 ((s.getD 2 0).toNat : Int) | 7 => .int .i64 ((s.getD 2 0).toNat : Int) | 8 => .int .i64 (256 * ((s.getD 2 0).toNat : Int)) | 9 => .int .i64 ((n : Nat) : Int) | _ => undef : Value)) (fun (c_ : Unit) (p_ : Nat) (w_ : World) => (match p_ with  | _ => St F w0 w_ (L) : Prop)) () (by kernel_rfl) (by kernel_rfl) (by kernel_rfl) (by kernel_rfl) (S.drew) ?_ ?_ ?_
  · intro i_ c_ p_ vals_ w1 hi_ hiE_ hp_ hk_ hu_ hPh_ hd_
    rcases i_ with _ | _ | _ | _ | _ | _ | _ | _ | _ | _ | i_
    · skip
      refine told_free rfl rfl (gv_env ((⟨Array.replicate 53 undef, []⟩ : Act).put (some 0) (.slice A s.length ca)) (by kernel_rfl) (xs := [.tmp 0]) (by kernel_rfl) (alike_cons (fill_past (by kernel_rfl) (by kernel_rfl)) alike_nil) (gv_val (v := .slice A s.length ca) (w' := w1) (by kernel_rfl) ?_))
      exact ⟨rfl, rfl⟩
    · skip
      refine told_free rfl rfl (gv_env ((⟨Array.replicate 53 undef, []⟩ : Act).put (some 11) (.slice A s.length ca)) (by kernel_rfl) (xs := [.tmp 11, .const (.int .i64 1)]) (by kernel_rfl) (alike_cons (fill_at (k := 0) (by kernel_rfl) (by kernel_rfl) ((hd_ 0 (by kernel_rfl)).trans (by kernel_rfl))) (alike_cons eval_c alike_nil)) (gv_ixB (e := 5) (sz := 1) (n := s.length) (c := ca) (i := 1) (k := .i64) (ad := ad) (ad' := (ad.add 1)) (j := 1) rfl (by kernel_rfl) (by kernel_rfl) (by rw [← had]; kernel_rfl) (by kernel_rfl) rfl (by omega) (by rw [Nat.mul_one]) ?_))
      exact ⟨rfl, rfl⟩
    · skip
      have S4 : St F w0 w1 (L) := hPh_
      refine told_free rfl rfl (gv_env ((⟨Array.replicate 53 undef, []⟩ : Act).put (some 12) (.pointer (some (ad.add 1)))) (by kernel_rfl) (xs := [.tmp 12]) (by kernel_rfl) (alike_cons (fill_at (k := 1) (by kernel_rfl) (by kernel_rfl) ((hd_ 1 (by kernel_rfl)).trans (by kernel_rfl))) alike_nil) (gv_ldR (v := .int .u8 ((s.getD 1 0).toNat : Int)) rfl (by kernel_rfl) (by kernel_rfl) ((had ▸ hr.now S4 : RdB _ (some ad) s).cell (by omega)) ?_))
      exact ⟨rfl, rfl⟩
    · skip
      refine told_free rfl rfl (gv_env ((⟨Array.replicate 53 undef, []⟩ : Act).put (some 13) (.int .u8 ((s.getD 1 0).toNat : Int))) (by kernel_rfl) (xs := [.tmp 13]) (by kernel_rfl) (alike_cons (fill_at (k := 2) (by kernel_rfl) (by kernel_rfl) ((hd_ 2 (by kernel_rfl)).trans (by kernel_rfl))) alike_nil) (gv_int (k := .i64) (z := IntKind.i64.wrap ((s.getD 1 0).toNat : Int)) (z' := ((s.getD 1 0).toNat : Int)) (by kernel_rfl) (wr_u8 _) ?_))
      exact ⟨rfl, rfl⟩
    · skip
      refine told_free rfl rfl (gv_env ((⟨Array.replicate 53 undef, []⟩ : Act).put (some 0) (.slice A s.length ca)) (by kernel_rfl) (xs := [.tmp 0]) (by kernel_rfl) (alike_cons (fill_past (by kernel_rfl) (by kernel_rfl)) alike_nil) (gv_val (v := .slice A s.length ca) (w' := w1) (by kernel_rfl) ?_))
      exact ⟨rfl, rfl⟩
    · skip
      refine told_free rfl rfl (gv_env ((⟨Array.replicate 53 undef, []⟩ : Act).put (some 15) (.slice A s.length ca)) (by kernel_rfl) (xs := [.tmp 15, .const (.int .i64 2)]) (by kernel_rfl) (alike_cons (fill_at (k := 4) (by kernel_rfl) (by kernel_rfl) ((hd_ 4 (by kernel_rfl)).trans (by kernel_rfl))) (alike_cons eval_c alike_nil)) (gv_ixB (e := 5) (sz := 1) (n := s.length) (c := ca) (i := 2) (k := .i64) (ad := ad) (ad' := (ad.add 2)) (j := 2) rfl (by kernel_rfl) (by kernel_rfl) (by rw [← had]; kernel_rfl) (by kernel_rfl) rfl (by omega) (by rw [Nat.mul_one]) ?_))
      exact ⟨rfl, rfl⟩
    · skip
      have S8 : St F w0 w1 (L) := hPh_
      refine told_free rfl rfl (gv_env ((⟨Array.replicate 53 undef, []⟩ : Act).put (some 16) (.pointer (some (ad.add 2)))) (by kernel_rfl) (xs := [.tmp 16]) (by kernel_rfl) (alike_cons (fill_at (k := 5) (by kernel_rfl) (by kernel_rfl) ((hd_ 5 (by kernel_rfl)).trans (by kernel_rfl))) alike_nil) (gv_ldR (v := .int .u8 ((s.getD 2 0).toNat : Int)) rfl (by kernel_rfl) (by kernel_rfl) ((had ▸ hr.now S8 : RdB _ (some ad) s).cell (by omega)) ?_))
      exact ⟨rfl, rfl⟩
    · skip
      refine told_free rfl rfl (gv_env ((⟨Array.replicate 53 undef, []⟩ : Act).put (some 17) (.int .u8 ((s.getD 2 0).toNat : Int))) (by kernel_rfl) (xs := [.tmp 17]) (by kernel_rfl) (alike_cons (fill_at (k := 6) (by kernel_rfl) (by kernel_rfl) ((hd_ 6 (by kernel_rfl)).trans (by kernel_rfl))) alike_nil) (gv_int (k := .i64) (z := IntKind.i64.wrap ((s.getD 2 0).toNat : Int)) (z' := ((s.getD 2 0).toNat : Int)) (by kernel_rfl) (wr_u8 _) ?_))
      exact ⟨rfl, rfl⟩
    · skip
      refine told_free rfl rfl (gv_env ((⟨Array.replicate 53 undef, []⟩ : Act).put (some 18) (.int .i64 ((s.getD 2 0).toNat : Int))) (by kernel_rfl) (xs := [.const (.int .i64 256), .tmp 18]) (by kernel_rfl) (alike_cons eval_c (alike_cons (fill_at (k := 7) (by kernel_rfl) (by kernel_rfl) ((hd_ 7 (by kernel_rfl)).trans (by kernel_rfl))) alike_nil)) (gv_int (k := .i64) (z := IntKind.i64.wrap (256 * ((s.getD 2 0).toNat : Int))) (z' := 256 * ((s.getD 2 0).toNat : Int)) (by kernel_rfl) (wr_ok (by omega) (by omega)) ?_))
      exact ⟨rfl, rfl⟩
    · skip
      refine told_free rfl rfl (gv_env (((⟨Array.replicate 53 undef, []⟩ : Act).put (some 14) (.int .i64 ((s.getD 1 0).toNat : Int))).put (some 19) (.int .i64 (256 * ((s.getD 2 0).toNat : Int)))) (by kernel_rfl) (xs := [.tmp 14, .tmp 19]) (by kernel_rfl) (alike_cons (fill_at (k := 3) (by kernel_rfl) (by kernel_rfl) ((hd_ 3 (by kernel_rfl)).trans (by kernel_rfl))) (alike_cons (fill_at (k := 8) (by kernel_rfl) (by kernel_rfl) ((hd_ 8 (by kernel_rfl)).trans (by kernel_rfl))) alike_nil)) (gv_int (k := .i64) (z := IntKind.i64.wrap (((s.getD 1 0).toNat : Int) + (256 * ((s.getD 2 0).toNat : Int)))) (z' := ((n : Nat) : Int)) (by kernel_rfl) (wr_eq (by omega) (by omega) (by omega)) ?_))
      exact ⟨rfl, rfl⟩
    · exact absurd hi_ (by omega)
  · intro k_ c_ vals_ w1 hk_ hPh_ hd_
    exact absurd hk_ (Nat.not_lt_zero _)
  · intro c_ w1 hPh_
    have S12 : St F w0 w1 (L) := hPh_
    refine wl_frame (fr [.slice A s.length ca, ud, .slice none 0 0, iv 0, ud, ud, ud, ud, .slice A s.length ca, iv (s.length : Nat), fv, .slice A s.length ca, .pointer (some (ad.add 1)), .int .u8 ((s.getD 1 0).toNat : Int), iv ((s.getD 1 0).toNat : Int), .slice A s.length ca, .pointer (some (ad.add 2)), .int .u8 ((s.getD 2 0).toNat : Int), iv ((s.getD 2 0).toNat : Int), iv (256 * ((s.getD 2 0).toNat : Int)), iv ((n : Nat) : Int)] 32) (by kernel_rfl) ?_
    refine pv (iv ((n : Nat) : Int)) ?_
    refine wl_end (fr [.slice A s.length ca, ud, .slice none 0 0, iv 0, iv ((n : Nat) : Int), ud, ud, ud, .slice A s.length ca, iv (s.length : Nat), fv, .slice A s.length ca, .pointer (some (ad.add 1)), .int .u8 ((s.getD 1 0).toNat : Int), iv ((s.getD 1 0).toNat : Int), .slice A s.length ca, .pointer (some (ad.add 2)), .int .u8 ((s.getD 2 0).toNat : Int), iv ((s.getD 2 0).toNat : Int), iv (256 * ((s.getD 2 0).toNat : Int)), iv ((n : Nat) : Int)] 32) (by kernel_rfl) ?_
    refine then_n ?_
    refine wp_seq ?_
    refine wp_seq ?_
    refine wp_region_lit ?_
    refine pv (iv ((n : Nat) : Int)) ?_
    refine wl_gv rfl (gv_dec (p := (((n : Nat) : Int) : Int) > 504) (by kernel_rfl) (fun hd13 => False.elim (by omega)) (fun _ => ?_))
    refine pv fv ?_
    refine wl_when (by kernel_rfl) (gv_val (v := .slice A s.length ca) (w' := w1) (by kernel_rfl) ?_)
    refine wl_when (by kernel_rfl) (gv_ixB (e := 5) (sz := 1) (n := s.length) (c := ca) (i := 0) (k := .i64) (ad := ad) (ad' := (ad.add 0)) (j := 0) rfl (by kernel_rfl) (by kernel_rfl) (by rw [← had]; kernel_rfl) (by kernel_rfl) rfl (by omega) (by rw [Nat.mul_one]) ?_)
    refine wl_when (by kernel_rfl) (gv_ldR (v := .int .u8 ((s.getD 0 0).toNat : Int)) rfl (by kernel_rfl) (by kernel_rfl) ((had ▸ hr.now S12 : RdB _ (some ad) s).cell (by omega)) ?_)
    refine wl_when (by kernel_rfl) (gv_dec (p := (((s.getD 0 0).toNat : Int) : Int) > 2) (by kernel_rfl) (fun hd14 => False.elim (by omega)) (fun _ => ?_))
    refine pv fv ?_
    refine wl_end (fr [.slice A s.length ca, ud, .slice none 0 0, iv 0, iv ((n : Nat) : Int), ud, ud, ud, .slice A s.length ca, iv (s.length : Nat), fv, .slice A s.length ca, .pointer (some (ad.add 1)), .int .u8 ((s.getD 1 0).toNat : Int), iv ((s.getD 1 0).toNat : Int), .slice A s.length ca, .pointer (some (ad.add 2)), .int .u8 ((s.getD 2 0).toNat : Int), iv ((s.getD 2 0).toNat : Int), iv (256 * ((s.getD 2 0).toNat : Int)), iv ((n : Nat) : Int), iv ((n : Nat) : Int), fv, fv, .slice A s.length ca, .pointer (some (ad.add 0)), .int .u8 ((s.getD 0 0).toNat : Int), fv, fv] 24) (by kernel_rfl) ?_
    refine then_n ?_
    refine wp_cond_false (by kernel_rfl) ?_
    refine wp_skip ?_
    refine then_n ?_
    refine wp_seq ?_
    refine wp_region_lit ?_
    refine pv (.slice none 0 0) ?_
    refine wl_end (fr [.slice A s.length ca, ud, .slice none 0 0, iv 0, iv ((n : Nat) : Int), .slice none 0 0, ud, ud, .slice A s.length ca, iv (s.length : Nat), fv, .slice A s.length ca, .pointer (some (ad.add 1)), .int .u8 ((s.getD 1 0).toNat : Int), iv ((s.getD 1 0).toNat : Int), .slice A s.length ca, .pointer (some (ad.add 2)), .int .u8 ((s.getD 2 0).toNat : Int), iv ((s.getD 2 0).toNat : Int), iv (256 * ((s.getD 2 0).toNat : Int)), iv ((n : Nat) : Int), iv ((n : Nat) : Int), fv, fv, .slice A s.length ca, .pointer (some (ad.add 0)), .int .u8 ((s.getD 0 0).toNat : Int), fv, fv] 24) (by kernel_rfl) ?_
    refine then_n ?_
    refine wp_seq ?_
    refine wp_seq ?_
    refine wp_region_lit ?_
    refine pv (iv 0) ?_
    refine wl_end (fr [.slice A s.length ca, ud, .slice none 0 0, iv 0, iv ((n : Nat) : Int), .slice none 0 0, iv 0, ud, .slice A s.length ca, iv (s.length : Nat), fv, .slice A s.length ca, .pointer (some (ad.add 1)), .int .u8 ((s.getD 1 0).toNat : Int), iv ((s.getD 1 0).toNat : Int), .slice A s.length ca, .pointer (some (ad.add 2)), .int .u8 ((s.getD 2 0).toNat : Int), iv ((s.getD 2 0).toNat : Int), iv (256 * ((s.getD 2 0).toNat : Int)), iv ((n : Nat) : Int), iv ((n : Nat) : Int), fv, fv, .slice A s.length ca, .pointer (some (ad.add 0)), .int .u8 ((s.getD 0 0).toNat : Int), fv, fv] 24) (by kernel_rfl) ?_
    refine then_n ?_
    refine wp_block ?_
    have S15 : St F w0 w1 (vec 5 1 (.slice none 0 0) 0 ([].map bv) :: L) := St.vec_nil S12
    refine wp_loop_g (G := Nat × Option Addr × Nat) (fun (g_ : Nat × Option Addr × Nat) (a_ : Act) (w_ : World) => ∃ J : Nat → Value, a_ = (fr [.slice A s.length ca, ud, .slice none 0 0, iv 0, iv ((n : Nat) : Int), .slice g_.2.1 g_.1 g_.2.2, iv ((g_.1 : Nat) : Int), ud, .slice A s.length ca, iv (s.length : Nat), fv, .slice A s.length ca, .pointer (some (ad.add 1)), .int .u8 ((s.getD 1 0).toNat : Int), iv ((s.getD 1 0).toNat : Int), .slice A s.length ca, .pointer (some (ad.add 2)), .int .u8 ((s.getD 2 0).toNat : Int), iv ((s.getD 2 0).toNat : Int), iv (256 * ((s.getD 2 0).toNat : Int)), iv ((n : Nat) : Int), iv ((n : Nat) : Int), fv, fv, .slice A s.length ca, .pointer (some (ad.add 0)), .int .u8 ((s.getD 0 0).toNat : Int), fv, fv, J 29, J 30, J 31, J 32, J 33, J 34, J 35, J 36, J 37, J 38, J 39, J 40, J 41] 11) ∧ St F w0 w_ (vec 5 1 (.slice g_.2.1 g_.1 g_.2.2) g_.1 ((pre (s.drop 7) g_.1).map bv) :: L) ∧ (g_.1 ≤ n)) (fun g_ => n - g_.1) (0, none, 0) ⟨(jl []), by kernel_rfl, S15, Nat.zero_le _⟩ ?_
    rintro ⟨i, A5, c5⟩ a_ w16 ⟨J, rfl, S17, hI18⟩
    skip
    have S17 : St F w0 w16 (vec 5 1 (.slice A5 i c5) i ((pre (s.drop 7) i).map bv) :: L) := S17
    have hI18 : (i ≤ n) := hI18
    refine wp_seq ?_
    refine wp_seq ?_
    refine wp_region_lit ?_
    refine pv (iv ((i : Nat) : Int)) ?_
    refine pv (iv ((n : Nat) : Int)) ?_
    refine wl_gv rfl (gv_dec (p := (((i : Nat) : Int) : Int) < ((n : Nat) : Int)) (by kernel_rfl) (fun hb19 => ?_) (fun hb19 => ?_))
    · skip
      have hi : i < n := by omega
      refine wl_end (fr [.slice A s.length ca, ud, .slice none 0 0, iv 0, iv ((n : Nat) : Int), .slice A5 i c5, iv ((i : Nat) : Int), ud, .slice A s.length ca, iv (s.length : Nat), fv, .slice A s.length ca, .pointer (some (ad.add 1)), .int .u8 ((s.getD 1 0).toNat : Int), iv ((s.getD 1 0).toNat : Int), .slice A s.length ca, .pointer (some (ad.add 2)), .int .u8 ((s.getD 2 0).toNat : Int), iv ((s.getD 2 0).toNat : Int), iv (256 * ((s.getD 2 0).toNat : Int)), iv ((n : Nat) : Int), iv ((n : Nat) : Int), fv, fv, .slice A s.length ca, .pointer (some (ad.add 0)), .int .u8 ((s.getD 0 0).toNat : Int), fv, fv, iv ((i : Nat) : Int), iv ((n : Nat) : Int), tv, J 32, J 33, J 34, J 35, J 36, J 37, J 38, J 39, J 40, J 41] 11) (by kernel_rfl) ?_
      refine then_n ?_
      refine wp_cond_true (by kernel_rfl) ?_
      refine wp_skip ?_
      refine then_n ?_
      refine wp_seq ?_
      refine wp_block ?_
      refine wp_region_lit ?_
      refine pv (.slice A5 i c5) ?_
      refine pv (.slice A s.length ca) ?_
      refine pv (iv ((i : Nat) : Int)) ?_
      refine wl_gv rfl (gv_int (k := .i64) (z := IntKind.i64.wrap (7 + ((i : Nat) : Int))) (z' := ((7 + i : Nat) : Int)) (by kernel_rfl) (wr_eq (by omega) (by omega) (by omega)) ?_)
      refine wl_gv rfl (gv_ixB (e := 5) (sz := 1) (n := s.length) (c := ca) (i := ((7 + i : Nat) : Int)) (k := .i64) (ad := ad) (ad' := (ad.add (7 + i))) (j := (7 + i)) rfl (by kernel_rfl) (by kernel_rfl) (by rw [← had]; kernel_rfl) (by kernel_rfl) rfl (by omega) (by rw [Nat.mul_one]) ?_)
      refine wl_gv rfl (gv_ldR (v := .int .u8 (((s.drop 7).getD i 0).toNat : Int)) rfl (by kernel_rfl) (by kernel_rfl) (by rw [getD_drop]; exact (had ▸ hr.more.now S17 : RdB _ (some ad) s).cell (by omega)) ?_)
      refine wl_gv rfl (gv_slit (e := 5) (sz := 1) (z := .int .u8 0) (by_ := 1) (vs := #[(0, .int .u8 (((s.drop 7).getD i 0).toNat : Int))]) (cells := #[.int .u8 (((s.drop 7).getD i 0).toNat : Int)]) S17 rfl (by kernel_rfl) ⟨by kernel_rfl⟩ (by kernel_rfl) (by kernel_rfl) (by kernel_rfl) (by kernel_rfl) (fun g20 w21 hg22 S23 => ?_))
      have S24 : St F w0 w21 (row g20 #[.int .u8 (((s.drop 7).getD i 0).toNat : Int)] 5 :: vec 5 1 (.slice A5 i c5) i ((pre (s.drop 7) i).map bv) :: L) := St.permT [row g20 #[.int .u8 (((s.drop 7).getD i 0).toNat : Int)] 5, vec 5 1 (.slice A5 i c5) i ((pre (s.drop 7) i).map bv)] [0, 1] (by decide) rfl S23
      refine wl_gv rfl (gv_append (e := 5) (sz := 1) (n := i) (v := (.slice A5 i c5)) (vals := ((pre (s.drop 7) i).map bv)) (z := .int .u8 0) (by_ := 1) (m := 1) (c' := 1) (ad := ⟨g20, 0, none⟩) (news := [.int .u8 (((s.drop 7).getD i 0).toNat : Int)]) (St.swap S24) rfl (by kernel_rfl) ⟨by kernel_rfl⟩ rfl (by kernel_rfl) (by kernel_rfl) (by decide) rfl (row_news (S24.blk 0 rfl)) (by intro u hu; simp at hu; subst hu; rfl) (by omega) (by omega) (fun v26 w25 S27 => ?_))
      have S28 : St F w0 w25 (vec 5 1 v26 (i + 1) ((pre (s.drop 7) i).map bv ++ [.int .u8 (((s.drop 7).getD i 0).toNat : Int)]) :: L) := St.permT [vec 5 1 v26 (i + 1) ((pre (s.drop 7) i).map bv ++ [.int .u8 (((s.drop 7).getD i 0).toNat : Int)]), row g20 #[.int .u8 (((s.drop 7).getD i 0).toNat : Int)] 5] [0] (by decide) rfl S27
      rw [pre_succ] at S28
      obtain ⟨A29, c30, rfl⟩ := St.vecV S28 0 rfl
      change St F w0 w25 (vec 5 1 (.slice A29 (i + 1) c30) (i + 1) ((pre (s.drop 7) (i + 1)).map bv) :: L) at S28
      refine pv (.slice A29 (i + 1) c30) ?_
      refine wl_end (fr [.slice A s.length ca, ud, .slice none 0 0, iv 0, iv ((n : Nat) : Int), .slice A29 (i + 1) c30, iv ((i : Nat) : Int), ud, .slice A s.length ca, iv (s.length : Nat), fv, .slice A s.length ca, .pointer (some (ad.add 1)), .int .u8 ((s.getD 1 0).toNat : Int), iv ((s.getD 1 0).toNat : Int), .slice A s.length ca, .pointer (some (ad.add 2)), .int .u8 ((s.getD 2 0).toNat : Int), iv ((s.getD 2 0).toNat : Int), iv (256 * ((s.getD 2 0).toNat : Int)), iv ((n : Nat) : Int), iv ((n : Nat) : Int), fv, fv, .slice A s.length ca, .pointer (some (ad.add 0)), .int .u8 ((s.getD 0 0).toNat : Int), fv, fv, iv ((i : Nat) : Int), iv ((n : Nat) : Int), tv, J 32, J 33, .slice A5 i c5, .slice A s.length ca, iv ((i : Nat) : Int), iv ((7 + i : Nat) : Int), .pointer (some (ad.add (7 + i))), .int .u8 (((s.drop 7).getD i 0).toNat : Int), sl g20 0 1 1, .slice A29 (i + 1) c30] 11) (by kernel_rfl) ?_
      refine inb_n ?_
      refine then_n ?_
      refine wp_region_lit ?_
      refine pv (iv ((i : Nat) : Int)) ?_
      refine wl_gv rfl (gv_int (k := .i64) (z := IntKind.i64.wrap (((i : Nat) : Int) + 1)) (z' := ((i + 1 : Nat) : Int)) (by kernel_rfl) (wr_eq (by omega) (by omega) (by omega)) ?_)
      refine pv (iv ((i + 1 : Nat) : Int)) ?_
      refine wl_end (fr [.slice A s.length ca, ud, .slice none 0 0, iv 0, iv ((n : Nat) : Int), .slice A29 (i + 1) c30, iv ((i + 1 : Nat) : Int), ud, .slice A s.length ca, iv (s.length : Nat), fv, .slice A s.length ca, .pointer (some (ad.add 1)), .int .u8 ((s.getD 1 0).toNat : Int), iv ((s.getD 1 0).toNat : Int), .slice A s.length ca, .pointer (some (ad.add 2)), .int .u8 ((s.getD 2 0).toNat : Int), iv ((s.getD 2 0).toNat : Int), iv (256 * ((s.getD 2 0).toNat : Int)), iv ((n : Nat) : Int), iv ((n : Nat) : Int), fv, fv, .slice A s.length ca, .pointer (some (ad.add 0)), .int .u8 ((s.getD 0 0).toNat : Int), fv, fv, iv ((i : Nat) : Int), iv ((n : Nat) : Int), tv, iv ((i : Nat) : Int), iv ((i + 1 : Nat) : Int), .slice A5 i c5, .slice A s.length ca, iv ((i : Nat) : Int), iv ((7 + i : Nat) : Int), .pointer (some (ad.add (7 + i))), .int .u8 (((s.drop 7).getD i 0).toNat : Int), sl g20 0 1 1, .slice A29 (i + 1) c30] 11) (by kernel_rfl) ?_
      refine then_n ?_
      exact ⟨(i + 1, A29, c30), ⟨(jl [ud, ud, ud, ud, ud, ud, ud, ud, ud, ud, ud, ud, ud, ud, ud, ud, ud, ud, ud, ud, ud, ud, ud, ud, ud, ud, ud, ud, ud, iv ((i : Nat) : Int), iv ((n : Nat) : Int), tv, iv ((i : Nat) : Int), iv ((i + 1 : Nat) : Int), .slice A5 i c5, .slice A s.length ca, iv ((i : Nat) : Int), iv ((7 + i : Nat) : Int), .pointer (some (ad.add (7 + i))), .int .u8 (((s.drop 7).getD i 0).toNat : Int), sl g20 0 1 1, .slice A29 (i + 1) c30]), by kernel_rfl, S28, (by omega)⟩, (by show n - (i + 1) < n - i; omega)⟩
    · skip
      have hie : i = n := by omega
      have hpi : pre (s.drop 7) n = (s.drop 7).take n := pre_drop (by omega)
      rw [hie, hpi] at S17
      rw [hie]
      refine wl_end (fr [.slice A s.length ca, ud, .slice none 0 0, iv 0, iv ((n : Nat) : Int), .slice A5 n c5, iv ((n : Nat) : Int), ud, .slice A s.length ca, iv (s.length : Nat), fv, .slice A s.length ca, .pointer (some (ad.add 1)), .int .u8 ((s.getD 1 0).toNat : Int), iv ((s.getD 1 0).toNat : Int), .slice A s.length ca, .pointer (some (ad.add 2)), .int .u8 ((s.getD 2 0).toNat : Int), iv ((s.getD 2 0).toNat : Int), iv (256 * ((s.getD 2 0).toNat : Int)), iv ((n : Nat) : Int), iv ((n : Nat) : Int), fv, fv, .slice A s.length ca, .pointer (some (ad.add 0)), .int .u8 ((s.getD 0 0).toNat : Int), fv, fv, iv ((n : Nat) : Int), iv ((n : Nat) : Int), fv, J 32, J 33, J 34, J 35, J 36, J 37, J 38, J 39, J 40, J 41] 11) (by kernel_rfl) ?_
      refine then_n ?_
      refine wp_cond_false (by kernel_rfl) ?_
      refine wp_exit ?_
      refine then_x ?_
      refine then_x ?_
      refine inb_x ?_
      refine then_n ?_
      refine wp_seq ?_
      refine wp_region_lit ?_
      refine pv (.slice A s.length ca) ?_
      refine wl_gv rfl (gv_ixB (e := 5) (sz := 1) (n := s.length) (c := ca) (i := 0) (k := .i64) (ad := ad) (ad' := (ad.add 0)) (j := 0) rfl (by kernel_rfl) (by kernel_rfl) (by rw [← had]; kernel_rfl) (by kernel_rfl) rfl (by omega) (by rw [Nat.mul_one]) ?_)
      refine wl_gv rfl (gv_ldR (v := .int .u8 ((s.getD 0 0).toNat : Int)) rfl (by kernel_rfl) (by kernel_rfl) ((had ▸ hr.more.now S17 : RdB _ (some ad) s).cell (by omega)) ?_)
      refine wl_gv rfl (gv_int (k := .i64) (z := IntKind.i64.wrap ((s.getD 0 0).toNat : Int)) (z' := ((s.getD 0 0).toNat : Int)) (by kernel_rfl) (wr_u8 _) ?_)
      refine pv (.slice A5 n c5) ?_
      refine wl_gv rfl (gv_call (args := #[.int .i64 ((s.getD 0 0).toNat : Int), .slice A5 n c5]) rfl Try.func46 (by kernel_rfl) rfl rfl (by kernel_rfl) ?_)
      refine Calls.mono (rform' S17 (t := s.getD 0 0) rfl (b := (s.drop 7).take n) hbl.symm (RoT.ofVec 0 rfl) (by omega)) ?_
      rintro _ w31 ⟨A33, c34, rfl, S32⟩
      refine ⟨_, rfl, ?_⟩
      refine pv (.slice A33 512 c34) ?_
      refine wl_end (fr [.slice A s.length ca, ud, .slice none 0 0, iv 0, iv ((n : Nat) : Int), .slice A5 n c5, iv ((n : Nat) : Int), .slice A33 512 c34, .slice A s.length ca, iv (s.length : Nat), fv, .slice A s.length ca, .pointer (some (ad.add 1)), .int .u8 ((s.getD 1 0).toNat : Int), iv ((s.getD 1 0).toNat : Int), .slice A s.length ca, .pointer (some (ad.add 2)), .int .u8 ((s.getD 2 0).toNat : Int), iv ((s.getD 2 0).toNat : Int), iv (256 * ((s.getD 2 0).toNat : Int)), iv ((n : Nat) : Int), iv ((n : Nat) : Int), fv, fv, .slice A s.length ca, .pointer (some (ad.add 0)), .int .u8 ((s.getD 0 0).toNat : Int), fv, fv, iv ((n : Nat) : Int), iv ((n : Nat) : Int), fv, J 32, J 33, J 34, J 35, J 36, J 37, J 38, J 39, J 40, J 41, .slice A s.length ca, .pointer (some (ad.add 0)), .int .u8 ((s.getD 0 0).toNat : Int), iv ((s.getD 0 0).toNat : Int), .slice A5 n c5, .slice A33 512 c34] 5) (by kernel_rfl) ?_
      refine then_n ?_
      refine wp_seq ?_
      refine wp_seq ?_
      refine wp_region_lit ?_
      refine pv (.slice A33 512 c34) ?_
      refine pv (.slice A s.length ca) ?_
      refine wl_gv rfl (gv_call (args := #[.slice A33 512 c34, .slice A s.length ca]) rfl Try.func56 (by kernel_rfl) rfl rfl (by kernel_rfl) ?_)
      by_cases hq : s = form (s.getD 0 0) ((s.drop 7).take n)
      · skip
        refine Calls.mono (rsame' (t := true) hfl.symm rfl (decide_eq_true hq.symm) S32 (RoT.ofVec 0 rfl) hr.more.more (by omega) hm) ?_
        rintro _ w35 ⟨rfl, S36⟩
        refine ⟨_, rfl, ?_⟩
        have e : openF s = ((s.drop 7).take n, 0) := e0.trans (if_pos hq)
        refine pv fv ?_
        refine wl_end (fr [.slice A s.length ca, ud, .slice none 0 0, iv 0, iv ((n : Nat) : Int), .slice A5 n c5, iv ((n : Nat) : Int), .slice A33 512 c34, .slice A s.length ca, iv (s.length : Nat), fv, .slice A s.length ca, .pointer (some (ad.add 1)), .int .u8 ((s.getD 1 0).toNat : Int), iv ((s.getD 1 0).toNat : Int), .slice A s.length ca, .pointer (some (ad.add 2)), .int .u8 ((s.getD 2 0).toNat : Int), iv ((s.getD 2 0).toNat : Int), iv (256 * ((s.getD 2 0).toNat : Int)), iv ((n : Nat) : Int), iv ((n : Nat) : Int), fv, fv, .slice A s.length ca, .pointer (some (ad.add 0)), .int .u8 ((s.getD 0 0).toNat : Int), fv, fv, iv ((n : Nat) : Int), iv ((n : Nat) : Int), fv, J 32, J 33, J 34, J 35, J 36, J 37, J 38, J 39, J 40, J 41, .slice A s.length ca, .pointer (some (ad.add 0)), .int .u8 ((s.getD 0 0).toNat : Int), iv ((s.getD 0 0).toNat : Int), .slice A5 n c5, .slice A33 512 c34, .slice A33 512 c34, .slice A s.length ca, tv, fv] 1) (by kernel_rfl) ?_
        refine then_n ?_
        refine wp_cond_false (by kernel_rfl) ?_
        refine wp_skip ?_
        refine then_n ?_
        refine wp_seq ?_
        refine wp_region_lit ?_
        refine pv (.slice A5 n c5) ?_
        refine pv (.slice A5 n c5) ?_
        refine pv (iv 0) ?_
        refine wl_end (fr [.slice A s.length ca, ud, .slice A5 n c5, iv 0, iv ((n : Nat) : Int), .slice A5 n c5, iv ((n : Nat) : Int), .slice A33 512 c34, .slice A s.length ca, iv (s.length : Nat), fv, .slice A s.length ca, .pointer (some (ad.add 1)), .int .u8 ((s.getD 1 0).toNat : Int), iv ((s.getD 1 0).toNat : Int), .slice A s.length ca, .pointer (some (ad.add 2)), .int .u8 ((s.getD 2 0).toNat : Int), iv ((s.getD 2 0).toNat : Int), iv (256 * ((s.getD 2 0).toNat : Int)), iv ((n : Nat) : Int), iv ((n : Nat) : Int), fv, fv, .slice A s.length ca, .pointer (some (ad.add 0)), .int .u8 ((s.getD 0 0).toNat : Int), fv, fv, iv ((n : Nat) : Int), iv ((n : Nat) : Int), fv, J 32, J 33, J 34, J 35, J 36, J 37, J 38, J 39, J 40, J 41, .slice A s.length ca, .pointer (some (ad.add 0)), .int .u8 ((s.getD 0 0).toNat : Int), iv ((s.getD 0 0).toNat : Int), .slice A5 n c5, .slice A33 512 c34, .slice A33 512 c34, .slice A s.length ca, tv, fv, .slice A5 n c5] 0) (by kernel_rfl) ?_
        refine then_n ?_
        refine wp_ret ?_
        refine bodyPost_ret (v := .tuple #[.slice A5 n c5, .int .i64 0]) (results_t2 rfl (by kernel_rfl) (by kernel_rfl)) rfl ?_
        rw [e]
        have S37 : St F w0 w35 (vec 5 1 (.slice A5 n c5) n (((s.drop 7).take n).map bv) :: L) := St.permT [vec 5 1 (.slice A33 512 c34) 512 ((form (s.getD 0 0) ((s.drop 7).take n)).map bv), vec 5 1 (.slice A5 n c5) n (((s.drop 7).take n).map bv)] [1] (by decide) rfl S36
        exact ⟨A5, c5, by rw [hbl]; rfl, by rw [hbl]; exact S37⟩
      · skip
        refine Calls.mono (rsame' (t := false) hfl.symm rfl (decide_eq_false (fun h => hq h.symm)) S32 (RoT.ofVec 0 rfl) hr.more.more (by omega) hm) ?_
        rintro _ w38 ⟨rfl, S39⟩
        refine ⟨_, rfl, ?_⟩
        have e : openF s = ([], 30) := e0.trans (if_neg hq)
        refine pv tv ?_
        refine wl_end (fr [.slice A s.length ca, ud, .slice none 0 0, iv 0, iv ((n : Nat) : Int), .slice A5 n c5, iv ((n : Nat) : Int), .slice A33 512 c34, .slice A s.length ca, iv (s.length : Nat), fv, .slice A s.length ca, .pointer (some (ad.add 1)), .int .u8 ((s.getD 1 0).toNat : Int), iv ((s.getD 1 0).toNat : Int), .slice A s.length ca, .pointer (some (ad.add 2)), .int .u8 ((s.getD 2 0).toNat : Int), iv ((s.getD 2 0).toNat : Int), iv (256 * ((s.getD 2 0).toNat : Int)), iv ((n : Nat) : Int), iv ((n : Nat) : Int), fv, fv, .slice A s.length ca, .pointer (some (ad.add 0)), .int .u8 ((s.getD 0 0).toNat : Int), fv, fv, iv ((n : Nat) : Int), iv ((n : Nat) : Int), fv, J 32, J 33, J 34, J 35, J 36, J 37, J 38, J 39, J 40, J 41, .slice A s.length ca, .pointer (some (ad.add 0)), .int .u8 ((s.getD 0 0).toNat : Int), iv ((s.getD 0 0).toNat : Int), .slice A5 n c5, .slice A33 512 c34, .slice A33 512 c34, .slice A s.length ca, fv, tv] 1) (by kernel_rfl) ?_
        refine then_n ?_
        refine wp_cond_true (by kernel_rfl) ?_
        refine wp_seq ?_
        refine wp_region_lit ?_
        refine pv (.slice none 0 0) ?_
        refine pv (iv 30) ?_
        refine wl_end (fr [.slice A s.length ca, ud, .slice none 0 0, iv 30, iv ((n : Nat) : Int), .slice A5 n c5, iv ((n : Nat) : Int), .slice A33 512 c34, .slice A s.length ca, iv (s.length : Nat), fv, .slice A s.length ca, .pointer (some (ad.add 1)), .int .u8 ((s.getD 1 0).toNat : Int), iv ((s.getD 1 0).toNat : Int), .slice A s.length ca, .pointer (some (ad.add 2)), .int .u8 ((s.getD 2 0).toNat : Int), iv ((s.getD 2 0).toNat : Int), iv (256 * ((s.getD 2 0).toNat : Int)), iv ((n : Nat) : Int), iv ((n : Nat) : Int), fv, fv, .slice A s.length ca, .pointer (some (ad.add 0)), .int .u8 ((s.getD 0 0).toNat : Int), fv, fv, iv ((n : Nat) : Int), iv ((n : Nat) : Int), fv, J 32, J 33, J 34, J 35, J 36, J 37, J 38, J 39, J 40, J 41, .slice A s.length ca, .pointer (some (ad.add 0)), .int .u8 ((s.getD 0 0).toNat : Int), iv ((s.getD 0 0).toNat : Int), .slice A5 n c5, .slice A33 512 c34, .slice A33 512 c34, .slice A s.length ca, fv, tv] 1) (by kernel_rfl) ?_
        refine then_n ?_
        refine wp_ret ?_
        refine then_r ?_
        refine bodyPost_ret (v := .tuple #[.slice none 0 0, .int .i64 30]) (results_t2 rfl (by kernel_rfl) (by kernel_rfl)) rfl ?_
        rw [e]
        have S40 : St F w0 w38 (L) := St.permT [vec 5 1 (.slice A33 512 c34) 512 ((form (s.getD 0 0) ((s.drop 7).take n)).map bv), vec 5 1 (.slice A5 n c5) n (((s.drop 7).take n).map bv)] [] (by decide) rfl S39
        exact ⟨none, 0, rfl, St.vec_nil S40⟩
theorem openF_len' (s : List UInt8) : (openF s).1.length ≤ 504 := by
  unfold openF
  split
  · exact Nat.zero_le _
  · split
    · exact Nat.zero_le _
    · split
      · rw [List.length_take]; omega
      · exact Nat.zero_le _
theorem ranchor {F : Nat → Prop} {w0 w : World} {L : List Ast} (S : St F w0 w L) {A : Option Addr} {s : List UInt8} {ca : Nat} (hr : RoT F w0 L A s) (hm : s.length ≤ 9223372036854775807) : Calls Try.prog 36 #[.slice A s.length ca] w fun e w' => ∃ (A : Option Addr) (c : Nat) (d : List UInt8), e = .returned (.tuple #[.int .i64 ((readF s).1 : Int), .slice A d.length c]) ∧ ((readF s).1 ≠ 0 → d = (readF s).2) ∧ d.length ≤ 504 ∧ St F w0 w' (vec 5 1 (.slice A d.length c) d.length (d.map bv) :: L) := by
  have hol := openF_len' s
  obtain ⟨B, hB⟩ : ∃ B, B = (openF s).1 := ⟨_, rfl⟩
  refine wp_enter (fr [.slice A s.length ca] 54) Try.func36 rfl (by kernel_rfl) ?_
  refine wp_seq ?_
  refine wp_region_lit ?_
  refine pv (iv 0) ?_
  refine pv (.slice none 0 0) ?_
  refine wl_end (fr [.slice A s.length ca, ud, iv 0, .slice none 0 0] 51) (by kernel_rfl) ?_
  refine then_n ?_
  refine wp_seq ?_
  refine wp_region_lit ?_
  refine pv (.slice A s.length ca) ?_
  refine wl_gv rfl (gv_call (args := #[.slice A s.length ca]) rfl Try.func48 (by kernel_rfl) rfl rfl (by kernel_rfl) ?_)
  refine Calls.mono (ropen S hr hm) ?_
  rintro _ w1 ⟨AB, cB, rfl, S2⟩
  rw [← hB] at S2 hol
  refine ⟨_, rfl, ?_⟩
  rw [← hB]
  refine pv (.tuple #[.slice AB B.length cB, iv ((openF s).2 : Int)]) ?_
  refine pv (.slice AB B.length cB) ?_
  refine pv (iv ((openF s).2 : Int)) ?_
  refine pv (.slice AB B.length cB) ?_
  refine pv (iv ((openF s).2 : Int)) ?_
  refine wl_end (fr [.slice A s.length ca, ud, iv 0, .slice none 0 0, .slice AB B.length cB, iv ((openF s).2 : Int), ud, ud, ud, ud, .tuple #[.slice AB B.length cB, iv ((openF s).2 : Int)], .slice A s.length ca, .tuple #[.slice AB B.length cB, iv ((openF s).2 : Int)], .slice AB B.length cB, iv ((openF s).2 : Int)] 40) (by kernel_rfl) ?_
  refine then_n ?_
  refine wp_seq ?_
  refine wp_seq ?_
  refine wp_region_lit ?_
  refine pv (iv ((openF s).2 : Int)) ?_
  refine wl_gv rfl (gv_ne (x := ((openF s).2 : Int)) (y := 0) (by kernel_rfl) (fun hb3 => ?_) (fun hb3 => ?_))
  · skip
    have hz : readF s = (0, []) := by unfold readF; rw [← hB]; rw [if_pos (.inl (by omega))]
    refine pv tv ?_
    refine wl_not (by kernel_rfl) ?_
    refine wl_not (by kernel_rfl) ?_
    refine wl_not (by kernel_rfl) ?_
    refine pv tv ?_
    refine pv tv ?_
    refine wl_not (by kernel_rfl) ?_
    refine wl_not (by kernel_rfl) ?_
    refine wl_not (by kernel_rfl) ?_
    refine wl_not (by kernel_rfl) ?_
    refine pv tv ?_
    refine wl_end (fr [.slice A s.length ca, ud, iv 0, .slice none 0 0, .slice AB B.length cB, iv ((openF s).2 : Int), ud, ud, ud, ud, .tuple #[.slice AB B.length cB, iv ((openF s).2 : Int)], .slice A s.length ca, .tuple #[.slice AB B.length cB, iv ((openF s).2 : Int)], .slice AB B.length cB, iv ((openF s).2 : Int), iv ((openF s).2 : Int), tv, tv, ud, ud, ud, tv, tv, ud, ud, ud, ud, tv] 27) (by kernel_rfl) ?_
    refine then_n ?_
    refine wp_cond_true (by kernel_rfl) ?_
    refine wp_seq ?_
    refine wp_region_lit ?_
    refine pv (iv 0) ?_
    refine pv (.slice none 0 0) ?_
    refine wl_end (fr [.slice A s.length ca, ud, iv 0, .slice none 0 0, .slice AB B.length cB, iv ((openF s).2 : Int), ud, ud, ud, ud, .tuple #[.slice AB B.length cB, iv ((openF s).2 : Int)], .slice A s.length ca, .tuple #[.slice AB B.length cB, iv ((openF s).2 : Int)], .slice AB B.length cB, iv ((openF s).2 : Int), iv ((openF s).2 : Int), tv, tv, ud, ud, ud, tv, tv, ud, ud, ud, ud, tv] 27) (by kernel_rfl) ?_
    refine then_n ?_
    refine wp_ret ?_
    refine then_r ?_
    refine bodyPost_ret (v := .tuple #[.int .i64 0, .slice none 0 0]) (results_t2 rfl (by kernel_rfl) (by kernel_rfl)) rfl ?_
    have S4 : St F w0 w1 (L) := St.permT [vec 5 1 (.slice AB B.length cB) B.length (B.map bv)] [] (by decide) rfl S2
    rw [hz]
    exact ⟨none, 0, [], rfl, fun h => absurd rfl h, Nat.zero_le _, St.vec_nil S4⟩
  · skip
    refine pv fv ?_
    refine wl_when (by kernel_rfl) (gv_val (v := .slice AB B.length cB) (w' := w1) (by kernel_rfl) ?_)
    refine wl_when (by kernel_rfl) (gv_val (v := .int .i64 (B.length : Nat)) (w' := w1) (by kernel_rfl) ?_)
    refine wl_when (by kernel_rfl) (gv_dec (p := ((B.length : Nat) : Int) < 8) (by kernel_rfl) (fun hb5 => ?_) (fun hb5 => ?_))
    · skip
      have hz : readF s = (0, []) := by unfold readF; rw [← hB]; rw [if_pos (.inr (by omega))]
      refine pv tv ?_
      refine pv tv ?_
      refine wl_not (by kernel_rfl) ?_
      refine wl_not (by kernel_rfl) ?_
      refine wl_not (by kernel_rfl) ?_
      refine wl_not (by kernel_rfl) ?_
      refine pv tv ?_
      refine wl_end (fr [.slice A s.length ca, ud, iv 0, .slice none 0 0, .slice AB B.length cB, iv ((openF s).2 : Int), ud, ud, ud, ud, .tuple #[.slice AB B.length cB, iv ((openF s).2 : Int)], .slice A s.length ca, .tuple #[.slice AB B.length cB, iv ((openF s).2 : Int)], .slice AB B.length cB, iv ((openF s).2 : Int), iv ((openF s).2 : Int), fv, fv, .slice AB B.length cB, iv (B.length : Nat), tv, tv, tv, ud, ud, ud, ud, tv] 27) (by kernel_rfl) ?_
      refine then_n ?_
      refine wp_cond_true (by kernel_rfl) ?_
      refine wp_seq ?_
      refine wp_region_lit ?_
      refine pv (iv 0) ?_
      refine pv (.slice none 0 0) ?_
      refine wl_end (fr [.slice A s.length ca, ud, iv 0, .slice none 0 0, .slice AB B.length cB, iv ((openF s).2 : Int), ud, ud, ud, ud, .tuple #[.slice AB B.length cB, iv ((openF s).2 : Int)], .slice A s.length ca, .tuple #[.slice AB B.length cB, iv ((openF s).2 : Int)], .slice AB B.length cB, iv ((openF s).2 : Int), iv ((openF s).2 : Int), fv, fv, .slice AB B.length cB, iv (B.length : Nat), tv, tv, tv, ud, ud, ud, ud, tv] 27) (by kernel_rfl) ?_
      refine then_n ?_
      refine wp_ret ?_
      refine then_r ?_
      refine bodyPost_ret (v := .tuple #[.int .i64 0, .slice none 0 0]) (results_t2 rfl (by kernel_rfl) (by kernel_rfl)) rfl ?_
      have S6 : St F w0 w1 (L) := St.permT [vec 5 1 (.slice AB B.length cB) B.length (B.map bv)] [] (by decide) rfl S2
      rw [hz]
      exact ⟨none, 0, [], rfl, fun h => absurd rfl h, Nat.zero_le _, St.vec_nil S6⟩
    · skip
      have h8 : 8 ≤ B.length := by omega
      obtain ⟨hT, hT7⟩ := anchor_lt h8
      have hcode : (openF s).2 = 0 := by omega
      obtain ⟨adB, hadB⟩ := ((RoT.ofVec 0 rfl : RoT F w0 (vec 5 1 (.slice AB B.length cB) B.length (B.map bv) :: L) AB B).now S2).at (k := 0) (by omega)
      refine pv fv ?_
      refine pv fv ?_
      refine wl_when (by kernel_rfl) (gv_val (v := .slice AB B.length cB) (w' := w1) (by kernel_rfl) ?_)
      refine wl_when (by kernel_rfl) (gv_ixB (e := 5) (sz := 1) (n := B.length) (c := cB) (i := 7) (k := .i64) (ad := adB) (ad' := (adB.add 7)) (j := 7) rfl (by kernel_rfl) (by kernel_rfl) (by rw [← hadB]; kernel_rfl) (by kernel_rfl) rfl (by omega) (by rw [Nat.mul_one]) ?_)
      refine wl_when (by kernel_rfl) (gv_ldR (v := .int .u8 ((B.getD 7 0).toNat : Int)) rfl (by kernel_rfl) (by kernel_rfl) ((hadB ▸ (RoT.ofVec 0 rfl : RoT F w0 (vec 5 1 (.slice AB B.length cB) B.length (B.map bv) :: L) AB B).now S2 : RdB _ (some adB) B).cell (by omega)) ?_)
      refine wl_when (by kernel_rfl) (gv_dec (p := (((B.getD 7 0).toNat : Int) : Int) > 127) (by kernel_rfl) (fun hb7 => ?_) (fun hb7 => ?_))
      · skip
        have hz : readF s = (0, []) := by unfold readF; rw [← hB]; rw [if_neg (by omega), if_pos (.inr (by omega))]
        refine pv tv ?_
        refine wl_end (fr [.slice A s.length ca, ud, iv 0, .slice none 0 0, .slice AB B.length cB, iv ((openF s).2 : Int), ud, ud, ud, ud, .tuple #[.slice AB B.length cB, iv ((openF s).2 : Int)], .slice A s.length ca, .tuple #[.slice AB B.length cB, iv ((openF s).2 : Int)], .slice AB B.length cB, iv ((openF s).2 : Int), iv ((openF s).2 : Int), fv, fv, .slice AB B.length cB, iv (B.length : Nat), fv, fv, fv, .slice AB B.length cB, .pointer (some (adB.add 7)), .int .u8 ((B.getD 7 0).toNat : Int), tv, tv] 27) (by kernel_rfl) ?_
        refine then_n ?_
        refine wp_cond_true (by kernel_rfl) ?_
        refine wp_seq ?_
        refine wp_region_lit ?_
        refine pv (iv 0) ?_
        refine pv (.slice none 0 0) ?_
        refine wl_end (fr [.slice A s.length ca, ud, iv 0, .slice none 0 0, .slice AB B.length cB, iv ((openF s).2 : Int), ud, ud, ud, ud, .tuple #[.slice AB B.length cB, iv ((openF s).2 : Int)], .slice A s.length ca, .tuple #[.slice AB B.length cB, iv ((openF s).2 : Int)], .slice AB B.length cB, iv ((openF s).2 : Int), iv ((openF s).2 : Int), fv, fv, .slice AB B.length cB, iv (B.length : Nat), fv, fv, fv, .slice AB B.length cB, .pointer (some (adB.add 7)), .int .u8 ((B.getD 7 0).toNat : Int), tv, tv] 27) (by kernel_rfl) ?_
        refine then_n ?_
        refine wp_ret ?_
        refine then_r ?_
        refine bodyPost_ret (v := .tuple #[.int .i64 0, .slice none 0 0]) (results_t2 rfl (by kernel_rfl) (by kernel_rfl)) rfl ?_
        have S8 : St F w0 w1 (L) := St.permT [vec 5 1 (.slice AB B.length cB) B.length (B.map bv)] [] (by decide) rfl S2
        rw [hz]
        exact ⟨none, 0, [], rfl, fun h => absurd rfl h, Nat.zero_le _, St.vec_nil S8⟩
      · skip
        have hT63 : leN (B.take 8) < 9223372036854775808 := by omega
        have hl8 : (B.take 8).length = 8 := by rw [List.length_take]; omega
        refine pv fv ?_
        refine wl_end (fr [.slice A s.length ca, ud, iv 0, .slice none 0 0, .slice AB B.length cB, iv ((openF s).2 : Int), ud, ud, ud, ud, .tuple #[.slice AB B.length cB, iv ((openF s).2 : Int)], .slice A s.length ca, .tuple #[.slice AB B.length cB, iv ((openF s).2 : Int)], .slice AB B.length cB, iv ((openF s).2 : Int), iv ((openF s).2 : Int), fv, fv, .slice AB B.length cB, iv (B.length : Nat), fv, fv, fv, .slice AB B.length cB, .pointer (some (adB.add 7)), .int .u8 ((B.getD 7 0).toNat : Int), fv, fv] 27) (by kernel_rfl) ?_
        refine then_n ?_
        refine wp_cond_false (by kernel_rfl) ?_
        refine wp_skip ?_
        refine then_n ?_
        refine wp_seq ?_
        refine wp_region_lit ?_
        refine pv (iv 0) ?_
        refine wl_end (fr [.slice A s.length ca, ud, iv 0, .slice none 0 0, .slice AB B.length cB, iv ((openF s).2 : Int), iv 0, ud, ud, ud, .tuple #[.slice AB B.length cB, iv ((openF s).2 : Int)], .slice A s.length ca, .tuple #[.slice AB B.length cB, iv ((openF s).2 : Int)], .slice AB B.length cB, iv ((openF s).2 : Int), iv ((openF s).2 : Int), fv, fv, .slice AB B.length cB, iv (B.length : Nat), fv, fv, fv, .slice AB B.length cB, .pointer (some (adB.add 7)), .int .u8 ((B.getD 7 0).toNat : Int), fv, fv] 27) (by kernel_rfl) ?_
        refine then_n ?_
        refine wp_seq ?_
        refine wp_seq ?_
        refine wp_region_lit ?_
        refine pv (iv 7) ?_
        refine wl_end (fr [.slice A s.length ca, ud, iv 0, .slice none 0 0, .slice AB B.length cB, iv ((openF s).2 : Int), iv 0, iv 7, ud, ud, .tuple #[.slice AB B.length cB, iv ((openF s).2 : Int)], .slice A s.length ca, .tuple #[.slice AB B.length cB, iv ((openF s).2 : Int)], .slice AB B.length cB, iv ((openF s).2 : Int), iv ((openF s).2 : Int), fv, fv, .slice AB B.length cB, iv (B.length : Nat), fv, fv, fv, .slice AB B.length cB, .pointer (some (adB.add 7)), .int .u8 ((B.getD 7 0).toNat : Int), fv, fv] 27) (by kernel_rfl) ?_
        refine then_n ?_
        refine wp_block ?_
        refine wp_loop_g (G := Nat × Nat) (fun (g_ : Nat × Nat) (a_ : Act) (w_ : World) => ∃ J : Nat → Value, a_ = (fr [.slice A s.length ca, ud, iv 0, .slice none 0 0, .slice AB B.length cB, iv ((openF s).2 : Int), iv ((g_.2 : Nat) : Int), iv (7 - ((g_.1 : Nat) : Int)), ud, ud, .tuple #[.slice AB B.length cB, iv ((openF s).2 : Int)], .slice A s.length ca, .tuple #[.slice AB B.length cB, iv ((openF s).2 : Int)], .slice AB B.length cB, iv ((openF s).2 : Int), iv ((openF s).2 : Int), fv, fv, .slice AB B.length cB, iv (B.length : Nat), fv, fv, fv, .slice AB B.length cB, .pointer (some (adB.add 7)), .int .u8 ((B.getD 7 0).toNat : Int), fv, fv, J 28, J 29, J 30, J 31, J 32, J 33, J 34, J 35, J 36, J 37, J 38, J 39] 15) ∧ St F w0 w_ (vec 5 1 (.slice AB B.length cB) B.length (B.map bv) :: L) ∧ (g_.1 ≤ 8 ∧ g_.2 = leN ((B.take 8).drop (8 - g_.1)))) (fun g_ => 8 - g_.1) (0, 0) ⟨(jl []), by kernel_rfl, S2, ⟨Nat.zero_le _, by rw [Nat.sub_zero, List.drop_of_length_le (by omega)]; rfl⟩⟩ ?_
        rintro ⟨j, m⟩ a_ w9 ⟨J, rfl, S10, hI11⟩
        skip
        have S10 : St F w0 w9 (vec 5 1 (.slice AB B.length cB) B.length (B.map bv) :: L) := S10
        have hI11 : (j ≤ 8 ∧ m = leN ((B.take 8).drop (8 - j))) := hI11
        refine wp_seq ?_
        refine wp_seq ?_
        refine wp_region_lit ?_
        refine pv (iv (7 - ((j : Nat) : Int))) ?_
        refine wl_gv rfl (gv_dec (p := ((7 - ((j : Nat) : Int)) : Int) ≥ 0) (by kernel_rfl) (fun hb12 => ?_) (fun hb12 => ?_))
        · skip
          have hj : j < 8 := by omega
          have hstep := anchor_step h8 hj
          rw [← hI11.2] at hstep
          have hle := leN_drop_le (B.take 8) (8 - (j + 1)) (by omega)
          refine wl_end (fr [.slice A s.length ca, ud, iv 0, .slice none 0 0, .slice AB B.length cB, iv ((openF s).2 : Int), iv ((m : Nat) : Int), iv (7 - ((j : Nat) : Int)), ud, ud, .tuple #[.slice AB B.length cB, iv ((openF s).2 : Int)], .slice A s.length ca, .tuple #[.slice AB B.length cB, iv ((openF s).2 : Int)], .slice AB B.length cB, iv ((openF s).2 : Int), iv ((openF s).2 : Int), fv, fv, .slice AB B.length cB, iv (B.length : Nat), fv, fv, fv, .slice AB B.length cB, .pointer (some (adB.add 7)), .int .u8 ((B.getD 7 0).toNat : Int), fv, fv, iv (7 - ((j : Nat) : Int)), tv, J 30, J 31, J 32, J 33, J 34, J 35, J 36, J 37, J 38, J 39] 15) (by kernel_rfl) ?_
          refine then_n ?_
          refine wp_cond_true (by kernel_rfl) ?_
          refine wp_skip ?_
          refine then_n ?_
          refine wp_seq ?_
          refine wp_block ?_
          refine wp_region_lit ?_
          refine pv (iv ((m : Nat) : Int)) ?_
          refine wl_gv rfl (gv_int (k := .i64) (z := IntKind.i64.wrap (((m : Nat) : Int) * 256)) (z' := ((m * 256 : Nat) : Int)) (by kernel_rfl) (wr_eq (by omega) (by omega) (by omega)) ?_)
          refine pv (.slice AB B.length cB) ?_
          refine pv (iv (7 - ((j : Nat) : Int))) ?_
          refine wl_gv rfl (gv_ixB (e := 5) (sz := 1) (n := B.length) (c := cB) (i := (7 - ((j : Nat) : Int))) (k := .i64) (ad := adB) (ad' := (adB.add (7 - j))) (j := (7 - j)) rfl (by kernel_rfl) (by kernel_rfl) (by rw [← hadB]; kernel_rfl) (by kernel_rfl) (by omega) (by omega) (by rw [Nat.mul_one]) ?_)
          refine wl_gv rfl (gv_ldR (v := .int .u8 ((B.getD (7 - j) 0).toNat : Int)) rfl (by kernel_rfl) (by kernel_rfl) ((hadB ▸ (RoT.ofVec 0 rfl : RoT F w0 (vec 5 1 (.slice AB B.length cB) B.length (B.map bv) :: L) AB B).now S10 : RdB _ (some adB) B).cell (by omega)) ?_)
          refine wl_gv rfl (gv_int (k := .i64) (z := IntKind.i64.wrap ((B.getD (7 - j) 0).toNat : Int)) (z' := ((B.getD (7 - j) 0).toNat : Int)) (by kernel_rfl) (wr_u8 _) ?_)
          refine wl_gv rfl (gv_int (k := .i64) (z := IntKind.i64.wrap (((m * 256 : Nat) : Int) + ((B.getD (7 - j) 0).toNat : Int))) (z' := ((m * 256 + (B.getD (7 - j) 0).toNat : Nat) : Int)) (by kernel_rfl) (wr_eq (by omega) (by omega) (by omega)) ?_)
          refine pv (iv ((m * 256 + (B.getD (7 - j) 0).toNat : Nat) : Int)) ?_
          refine wl_end (fr [.slice A s.length ca, ud, iv 0, .slice none 0 0, .slice AB B.length cB, iv ((openF s).2 : Int), iv ((m * 256 + (B.getD (7 - j) 0).toNat : Nat) : Int), iv (7 - ((j : Nat) : Int)), ud, ud, .tuple #[.slice AB B.length cB, iv ((openF s).2 : Int)], .slice A s.length ca, .tuple #[.slice AB B.length cB, iv ((openF s).2 : Int)], .slice AB B.length cB, iv ((openF s).2 : Int), iv ((openF s).2 : Int), fv, fv, .slice AB B.length cB, iv (B.length : Nat), fv, fv, fv, .slice AB B.length cB, .pointer (some (adB.add 7)), .int .u8 ((B.getD 7 0).toNat : Int), fv, fv, iv (7 - ((j : Nat) : Int)), tv, J 30, J 31, iv ((m : Nat) : Int), iv ((m * 256 : Nat) : Int), .slice AB B.length cB, iv (7 - ((j : Nat) : Int)), .pointer (some (adB.add (7 - j))), .int .u8 ((B.getD (7 - j) 0).toNat : Int), iv ((B.getD (7 - j) 0).toNat : Int), iv ((m * 256 + (B.getD (7 - j) 0).toNat : Nat) : Int)] 15) (by kernel_rfl) ?_
          refine inb_n ?_
          refine then_n ?_
          refine wp_region_lit ?_
          refine pv (iv (7 - ((j : Nat) : Int))) ?_
          refine wl_gv rfl (gv_int (k := .i64) (z := IntKind.i64.wrap ((7 - ((j : Nat) : Int)) - 1)) (z' := (7 - ((j + 1 : Nat) : Int))) (by kernel_rfl) (wr_eq (by omega) (by omega) (by omega)) ?_)
          refine pv (iv (7 - ((j + 1 : Nat) : Int))) ?_
          refine wl_end (fr [.slice A s.length ca, ud, iv 0, .slice none 0 0, .slice AB B.length cB, iv ((openF s).2 : Int), iv ((m * 256 + (B.getD (7 - j) 0).toNat : Nat) : Int), iv (7 - ((j + 1 : Nat) : Int)), ud, ud, .tuple #[.slice AB B.length cB, iv ((openF s).2 : Int)], .slice A s.length ca, .tuple #[.slice AB B.length cB, iv ((openF s).2 : Int)], .slice AB B.length cB, iv ((openF s).2 : Int), iv ((openF s).2 : Int), fv, fv, .slice AB B.length cB, iv (B.length : Nat), fv, fv, fv, .slice AB B.length cB, .pointer (some (adB.add 7)), .int .u8 ((B.getD 7 0).toNat : Int), fv, fv, iv (7 - ((j : Nat) : Int)), tv, iv (7 - ((j : Nat) : Int)), iv (7 - ((j + 1 : Nat) : Int)), iv ((m : Nat) : Int), iv ((m * 256 : Nat) : Int), .slice AB B.length cB, iv (7 - ((j : Nat) : Int)), .pointer (some (adB.add (7 - j))), .int .u8 ((B.getD (7 - j) 0).toNat : Int), iv ((B.getD (7 - j) 0).toNat : Int), iv ((m * 256 + (B.getD (7 - j) 0).toNat : Nat) : Int)] 15) (by kernel_rfl) ?_
          refine then_n ?_
          exact ⟨(j + 1, m * 256 + (B.getD (7 - j) 0).toNat), ⟨(jl [ud, ud, ud, ud, ud, ud, ud, ud, ud, ud, ud, ud, ud, ud, ud, ud, ud, ud, ud, ud, ud, ud, ud, ud, ud, ud, ud, ud, iv (7 - ((j : Nat) : Int)), tv, iv (7 - ((j : Nat) : Int)), iv (7 - ((j + 1 : Nat) : Int)), iv ((m : Nat) : Int), iv ((m * 256 : Nat) : Int), .slice AB B.length cB, iv (7 - ((j : Nat) : Int)), .pointer (some (adB.add (7 - j))), .int .u8 ((B.getD (7 - j) 0).toNat : Int), iv ((B.getD (7 - j) 0).toNat : Int), iv ((m * 256 + (B.getD (7 - j) 0).toNat : Nat) : Int)]), by kernel_rfl, S10, ⟨by omega, hstep.symm⟩⟩, (by show 8 - (j + 1) < 8 - j; omega)⟩
        · skip
          have hj8 : j = 8 := by omega
          have hm8 : m = leN (B.take 8) := by rw [hI11.2, hj8]; rfl
          refine wl_end (fr [.slice A s.length ca, ud, iv 0, .slice none 0 0, .slice AB B.length cB, iv ((openF s).2 : Int), iv ((m : Nat) : Int), iv (7 - ((j : Nat) : Int)), ud, ud, .tuple #[.slice AB B.length cB, iv ((openF s).2 : Int)], .slice A s.length ca, .tuple #[.slice AB B.length cB, iv ((openF s).2 : Int)], .slice AB B.length cB, iv ((openF s).2 : Int), iv ((openF s).2 : Int), fv, fv, .slice AB B.length cB, iv (B.length : Nat), fv, fv, fv, .slice AB B.length cB, .pointer (some (adB.add 7)), .int .u8 ((B.getD 7 0).toNat : Int), fv, fv, iv (7 - ((j : Nat) : Int)), fv, J 30, J 31, J 32, J 33, J 34, J 35, J 36, J 37, J 38, J 39] 15) (by kernel_rfl) ?_
          refine then_n ?_
          refine wp_cond_false (by kernel_rfl) ?_
          refine wp_exit ?_
          refine then_x ?_
          refine then_x ?_
          refine inb_x ?_
          refine then_n ?_
          refine wp_seq ?_
          refine wp_region_lit ?_
          refine pv (.slice none 0 0) ?_
          refine wl_end (fr [.slice A s.length ca, ud, iv 0, .slice none 0 0, .slice AB B.length cB, iv ((openF s).2 : Int), iv ((m : Nat) : Int), iv (7 - ((j : Nat) : Int)), .slice none 0 0, ud, .tuple #[.slice AB B.length cB, iv ((openF s).2 : Int)], .slice A s.length ca, .tuple #[.slice AB B.length cB, iv ((openF s).2 : Int)], .slice AB B.length cB, iv ((openF s).2 : Int), iv ((openF s).2 : Int), fv, fv, .slice AB B.length cB, iv (B.length : Nat), fv, fv, fv, .slice AB B.length cB, .pointer (some (adB.add 7)), .int .u8 ((B.getD 7 0).toNat : Int), fv, fv, iv (7 - ((j : Nat) : Int)), fv, J 30, J 31, J 32, J 33, J 34, J 35, J 36, J 37, J 38, J 39] 15) (by kernel_rfl) ?_
          refine then_n ?_
          refine wp_seq ?_
          refine wp_seq ?_
          refine wp_region_lit ?_
          refine pv (iv 8) ?_
          refine wl_end (fr [.slice A s.length ca, ud, iv 0, .slice none 0 0, .slice AB B.length cB, iv ((openF s).2 : Int), iv ((m : Nat) : Int), iv (7 - ((j : Nat) : Int)), .slice none 0 0, iv 8, .tuple #[.slice AB B.length cB, iv ((openF s).2 : Int)], .slice A s.length ca, .tuple #[.slice AB B.length cB, iv ((openF s).2 : Int)], .slice AB B.length cB, iv ((openF s).2 : Int), iv ((openF s).2 : Int), fv, fv, .slice AB B.length cB, iv (B.length : Nat), fv, fv, fv, .slice AB B.length cB, .pointer (some (adB.add 7)), .int .u8 ((B.getD 7 0).toNat : Int), fv, fv, iv (7 - ((j : Nat) : Int)), fv, J 30, J 31, J 32, J 33, J 34, J 35, J 36, J 37, J 38, J 39] 15) (by kernel_rfl) ?_
          refine then_n ?_
          refine wp_block ?_
          have S13 : St F w0 w9 (vec 5 1 (.slice none 0 0) 0 ([].map bv) :: vec 5 1 (.slice AB B.length cB) B.length (B.map bv) :: L) := St.vec_nil S10
          refine wp_loop_g (G := Nat × Option Addr × Nat) (fun (g_ : Nat × Option Addr × Nat) (a_ : Act) (w_ : World) => ∃ J : Nat → Value, a_ = (fr [.slice A s.length ca, ud, iv 0, .slice none 0 0, .slice AB B.length cB, iv ((openF s).2 : Int), iv ((m : Nat) : Int), iv (7 - ((j : Nat) : Int)), .slice g_.2.1 g_.1 g_.2.2, iv ((8 + g_.1 : Nat) : Int), .tuple #[.slice AB B.length cB, iv ((openF s).2 : Int)], .slice A s.length ca, .tuple #[.slice AB B.length cB, iv ((openF s).2 : Int)], .slice AB B.length cB, iv ((openF s).2 : Int), iv ((openF s).2 : Int), fv, fv, .slice AB B.length cB, iv (B.length : Nat), fv, fv, fv, .slice AB B.length cB, .pointer (some (adB.add 7)), .int .u8 ((B.getD 7 0).toNat : Int), fv, fv, iv (7 - ((j : Nat) : Int)), fv, J 30, J 31, J 32, J 33, J 34, J 35, J 36, J 37, J 38, J 39, J 40, J 41, J 42, J 43, J 44, J 45, J 46, J 47, J 48, J 49, J 50, J 51, J 52] 2) ∧ St F w0 w_ (vec 5 1 (.slice g_.2.1 g_.1 g_.2.2) g_.1 ((pre (B.drop 8) g_.1).map bv) :: vec 5 1 (.slice AB B.length cB) B.length (B.map bv) :: L) ∧ (8 + g_.1 ≤ B.length)) (fun g_ => B.length - 8 - g_.1) (0, none, 0) ⟨(jl [ud, ud, ud, ud, ud, ud, ud, ud, ud, ud, ud, ud, ud, ud, ud, ud, ud, ud, ud, ud, ud, ud, ud, ud, ud, ud, ud, ud, ud, ud, J 30, J 31, J 32, J 33, J 34, J 35, J 36, J 37, J 38, J 39]), by kernel_rfl, S13, (by omega)⟩ ?_
          rintro ⟨i, A5, c5⟩ a_ w14 ⟨J, rfl, S15, hI16⟩
          skip
          have S15 : St F w0 w14 (vec 5 1 (.slice A5 i c5) i ((pre (B.drop 8) i).map bv) :: vec 5 1 (.slice AB B.length cB) B.length (B.map bv) :: L) := S15
          have hI16 : (8 + i ≤ B.length) := hI16
          refine wp_seq ?_
          refine wp_seq ?_
          refine wp_region_lit ?_
          refine pv (iv ((8 + i : Nat) : Int)) ?_
          refine pv (.slice AB B.length cB) ?_
          refine pv (iv (B.length : Nat)) ?_
          refine wl_gv rfl (gv_dec (p := (((8 + i : Nat) : Int) : Int) < (B.length : Nat)) (by kernel_rfl) (fun hb17 => ?_) (fun hb17 => ?_))
          · skip
            have hi : 8 + i < B.length := by omega
            refine wl_end (fr [.slice A s.length ca, ud, iv 0, .slice none 0 0, .slice AB B.length cB, iv ((openF s).2 : Int), iv ((m : Nat) : Int), iv (7 - ((j : Nat) : Int)), .slice A5 i c5, iv ((8 + i : Nat) : Int), .tuple #[.slice AB B.length cB, iv ((openF s).2 : Int)], .slice A s.length ca, .tuple #[.slice AB B.length cB, iv ((openF s).2 : Int)], .slice AB B.length cB, iv ((openF s).2 : Int), iv ((openF s).2 : Int), fv, fv, .slice AB B.length cB, iv (B.length : Nat), fv, fv, fv, .slice AB B.length cB, .pointer (some (adB.add 7)), .int .u8 ((B.getD 7 0).toNat : Int), fv, fv, iv (7 - ((j : Nat) : Int)), fv, J 30, J 31, J 32, J 33, J 34, J 35, J 36, J 37, J 38, J 39, iv ((8 + i : Nat) : Int), .slice AB B.length cB, iv (B.length : Nat), tv, J 44, J 45, J 46, J 47, J 48, J 49, J 50, J 51, J 52] 2) (by kernel_rfl) ?_
            refine then_n ?_
            refine wp_cond_true (by kernel_rfl) ?_
            refine wp_skip ?_
            refine then_n ?_
            refine wp_seq ?_
            refine wp_block ?_
            refine wp_region_lit ?_
            refine pv (.slice A5 i c5) ?_
            refine pv (.slice AB B.length cB) ?_
            refine pv (iv ((8 + i : Nat) : Int)) ?_
            refine wl_gv rfl (gv_ixB (e := 5) (sz := 1) (n := B.length) (c := cB) (i := ((8 + i : Nat) : Int)) (k := .i64) (ad := adB) (ad' := (adB.add (8 + i))) (j := (8 + i)) rfl (by kernel_rfl) (by kernel_rfl) (by rw [← hadB]; kernel_rfl) (by kernel_rfl) rfl (by omega) (by rw [Nat.mul_one]) ?_)
            refine wl_gv rfl (gv_ldR (v := .int .u8 (((B.drop 8).getD i 0).toNat : Int)) rfl (by kernel_rfl) (by kernel_rfl) (by rw [getD_drop]; exact ((hadB ▸ (RoT.ofVec 1 rfl : RoT F w0 (vec 5 1 (.slice A5 i c5) i ((pre (B.drop 8) i).map bv) :: vec 5 1 (.slice AB B.length cB) B.length (B.map bv) :: L) AB B).now S15 : RdB _ (some adB) B).cell (by omega))) ?_)
            refine wl_gv rfl (gv_slit (e := 5) (sz := 1) (z := .int .u8 0) (by_ := 1) (vs := #[(0, .int .u8 (((B.drop 8).getD i 0).toNat : Int))]) (cells := #[.int .u8 (((B.drop 8).getD i 0).toNat : Int)]) S15 rfl (by kernel_rfl) ⟨by kernel_rfl⟩ (by kernel_rfl) (by kernel_rfl) (by kernel_rfl) (by kernel_rfl) (fun g18 w19 hg20 S21 => ?_))
            have S22 : St F w0 w19 (row g18 #[.int .u8 (((B.drop 8).getD i 0).toNat : Int)] 5 :: vec 5 1 (.slice A5 i c5) i ((pre (B.drop 8) i).map bv) :: vec 5 1 (.slice AB B.length cB) B.length (B.map bv) :: L) := St.permT [row g18 #[.int .u8 (((B.drop 8).getD i 0).toNat : Int)] 5, vec 5 1 (.slice A5 i c5) i ((pre (B.drop 8) i).map bv), vec 5 1 (.slice AB B.length cB) B.length (B.map bv)] [0, 1, 2] (by decide) rfl S21
            refine wl_gv rfl (gv_append (e := 5) (sz := 1) (n := i) (v := (.slice A5 i c5)) (vals := ((pre (B.drop 8) i).map bv)) (z := .int .u8 0) (by_ := 1) (m := 1) (c' := 1) (ad := ⟨g18, 0, none⟩) (news := [.int .u8 (((B.drop 8).getD i 0).toNat : Int)]) (St.swap S22) rfl (by kernel_rfl) ⟨by kernel_rfl⟩ rfl (by kernel_rfl) (by kernel_rfl) (by decide) rfl (row_news (S22.blk 0 rfl)) (by intro u hu; simp at hu; subst hu; rfl) (by omega) (by omega) (fun v24 w23 S25 => ?_))
            have S26 : St F w0 w23 (vec 5 1 v24 (i + 1) ((pre (B.drop 8) i).map bv ++ [.int .u8 (((B.drop 8).getD i 0).toNat : Int)]) :: vec 5 1 (.slice AB B.length cB) B.length (B.map bv) :: L) := St.permT [vec 5 1 v24 (i + 1) ((pre (B.drop 8) i).map bv ++ [.int .u8 (((B.drop 8).getD i 0).toNat : Int)]), row g18 #[.int .u8 (((B.drop 8).getD i 0).toNat : Int)] 5, vec 5 1 (.slice AB B.length cB) B.length (B.map bv)] [0, 2] (by decide) rfl S25
            rw [pre_succ] at S26
            obtain ⟨A27, c28, rfl⟩ := St.vecV S26 0 rfl
            change St F w0 w23 (vec 5 1 (.slice A27 (i + 1) c28) (i + 1) ((pre (B.drop 8) (i + 1)).map bv) :: vec 5 1 (.slice AB B.length cB) B.length (B.map bv) :: L) at S26
            refine pv (.slice A27 (i + 1) c28) ?_
            refine wl_end (fr [.slice A s.length ca, ud, iv 0, .slice none 0 0, .slice AB B.length cB, iv ((openF s).2 : Int), iv ((m : Nat) : Int), iv (7 - ((j : Nat) : Int)), .slice A27 (i + 1) c28, iv ((8 + i : Nat) : Int), .tuple #[.slice AB B.length cB, iv ((openF s).2 : Int)], .slice A s.length ca, .tuple #[.slice AB B.length cB, iv ((openF s).2 : Int)], .slice AB B.length cB, iv ((openF s).2 : Int), iv ((openF s).2 : Int), fv, fv, .slice AB B.length cB, iv (B.length : Nat), fv, fv, fv, .slice AB B.length cB, .pointer (some (adB.add 7)), .int .u8 ((B.getD 7 0).toNat : Int), fv, fv, iv (7 - ((j : Nat) : Int)), fv, J 30, J 31, J 32, J 33, J 34, J 35, J 36, J 37, J 38, J 39, iv ((8 + i : Nat) : Int), .slice AB B.length cB, iv (B.length : Nat), tv, J 44, J 45, .slice A5 i c5, .slice AB B.length cB, iv ((8 + i : Nat) : Int), .pointer (some (adB.add (8 + i))), .int .u8 (((B.drop 8).getD i 0).toNat : Int), sl g18 0 1 1, .slice A27 (i + 1) c28] 2) (by kernel_rfl) ?_
            refine inb_n ?_
            refine then_n ?_
            refine wp_region_lit ?_
            refine pv (iv ((8 + i : Nat) : Int)) ?_
            refine wl_gv rfl (gv_int (k := .i64) (z := IntKind.i64.wrap (((8 + i : Nat) : Int) + 1)) (z' := ((8 + (i + 1) : Nat) : Int)) (by kernel_rfl) (wr_eq (by omega) (by omega) (by omega)) ?_)
            refine pv (iv ((8 + (i + 1) : Nat) : Int)) ?_
            refine wl_end (fr [.slice A s.length ca, ud, iv 0, .slice none 0 0, .slice AB B.length cB, iv ((openF s).2 : Int), iv ((m : Nat) : Int), iv (7 - ((j : Nat) : Int)), .slice A27 (i + 1) c28, iv ((8 + (i + 1) : Nat) : Int), .tuple #[.slice AB B.length cB, iv ((openF s).2 : Int)], .slice A s.length ca, .tuple #[.slice AB B.length cB, iv ((openF s).2 : Int)], .slice AB B.length cB, iv ((openF s).2 : Int), iv ((openF s).2 : Int), fv, fv, .slice AB B.length cB, iv (B.length : Nat), fv, fv, fv, .slice AB B.length cB, .pointer (some (adB.add 7)), .int .u8 ((B.getD 7 0).toNat : Int), fv, fv, iv (7 - ((j : Nat) : Int)), fv, J 30, J 31, J 32, J 33, J 34, J 35, J 36, J 37, J 38, J 39, iv ((8 + i : Nat) : Int), .slice AB B.length cB, iv (B.length : Nat), tv, iv ((8 + i : Nat) : Int), iv ((8 + (i + 1) : Nat) : Int), .slice A5 i c5, .slice AB B.length cB, iv ((8 + i : Nat) : Int), .pointer (some (adB.add (8 + i))), .int .u8 (((B.drop 8).getD i 0).toNat : Int), sl g18 0 1 1, .slice A27 (i + 1) c28] 2) (by kernel_rfl) ?_
            refine then_n ?_
            exact ⟨(i + 1, A27, c28), ⟨(jl [ud, ud, ud, ud, ud, ud, ud, ud, ud, ud, ud, ud, ud, ud, ud, ud, ud, ud, ud, ud, ud, ud, ud, ud, ud, ud, ud, ud, ud, ud, J 30, J 31, J 32, J 33, J 34, J 35, J 36, J 37, J 38, J 39, iv ((8 + i : Nat) : Int), .slice AB B.length cB, iv (B.length : Nat), tv, iv ((8 + i : Nat) : Int), iv ((8 + (i + 1) : Nat) : Int), .slice A5 i c5, .slice AB B.length cB, iv ((8 + i : Nat) : Int), .pointer (some (adB.add (8 + i))), .int .u8 (((B.drop 8).getD i 0).toNat : Int), sl g18 0 1 1, .slice A27 (i + 1) c28]), by kernel_rfl, S26, (by omega)⟩, (by show B.length - 8 - (i + 1) < B.length - 8 - i; omega)⟩
          · skip
            refine wl_end (fr [.slice A s.length ca, ud, iv 0, .slice none 0 0, .slice AB B.length cB, iv ((openF s).2 : Int), iv ((m : Nat) : Int), iv (7 - ((j : Nat) : Int)), .slice A5 i c5, iv ((8 + i : Nat) : Int), .tuple #[.slice AB B.length cB, iv ((openF s).2 : Int)], .slice A s.length ca, .tuple #[.slice AB B.length cB, iv ((openF s).2 : Int)], .slice AB B.length cB, iv ((openF s).2 : Int), iv ((openF s).2 : Int), fv, fv, .slice AB B.length cB, iv (B.length : Nat), fv, fv, fv, .slice AB B.length cB, .pointer (some (adB.add 7)), .int .u8 ((B.getD 7 0).toNat : Int), fv, fv, iv (7 - ((j : Nat) : Int)), fv, J 30, J 31, J 32, J 33, J 34, J 35, J 36, J 37, J 38, J 39, iv ((8 + i : Nat) : Int), .slice AB B.length cB, iv (B.length : Nat), fv, J 44, J 45, J 46, J 47, J 48, J 49, J 50, J 51, J 52] 2) (by kernel_rfl) ?_
            refine then_n ?_
            refine wp_cond_false (by kernel_rfl) ?_
            refine wp_exit ?_
            refine then_x ?_
            refine then_x ?_
            refine inb_x ?_
            refine then_n ?_
            refine wp_seq ?_
            refine wp_region_lit ?_
            refine pv (iv ((m : Nat) : Int)) ?_
            refine pv (.slice A5 i c5) ?_
            refine pv (iv ((m : Nat) : Int)) ?_
            refine pv (.slice A5 i c5) ?_
            refine wl_end (fr [.slice A s.length ca, ud, iv ((m : Nat) : Int), .slice A5 i c5, .slice AB B.length cB, iv ((openF s).2 : Int), iv ((m : Nat) : Int), iv (7 - ((j : Nat) : Int)), .slice A5 i c5, iv ((8 + i : Nat) : Int), .tuple #[.slice AB B.length cB, iv ((openF s).2 : Int)], .slice A s.length ca, .tuple #[.slice AB B.length cB, iv ((openF s).2 : Int)], .slice AB B.length cB, iv ((openF s).2 : Int), iv ((openF s).2 : Int), fv, fv, .slice AB B.length cB, iv (B.length : Nat), fv, fv, fv, .slice AB B.length cB, .pointer (some (adB.add 7)), .int .u8 ((B.getD 7 0).toNat : Int), fv, fv, iv (7 - ((j : Nat) : Int)), fv, J 30, J 31, J 32, J 33, J 34, J 35, J 36, J 37, J 38, J 39, iv ((8 + i : Nat) : Int), .slice AB B.length cB, iv (B.length : Nat), fv, J 44, J 45, J 46, J 47, J 48, J 49, J 50, J 51, J 52, iv ((m : Nat) : Int), .slice A5 i c5] 0) (by kernel_rfl) ?_
            refine then_n ?_
            refine wp_ret ?_
            refine bodyPost_ret (v := .tuple #[.int .i64 ((m : Nat) : Int), .slice A5 i c5]) (results_t2 rfl (by kernel_rfl) (by kernel_rfl)) rfl ?_
            have S29 : St F w0 w14 (vec 5 1 (.slice A5 i c5) i ((pre (B.drop 8) i).map bv) :: L) := St.permT [vec 5 1 (.slice A5 i c5) i ((pre (B.drop 8) i).map bv), vec 5 1 (.slice AB B.length cB) B.length (B.map bv)] [0] (by decide) rfl S15
            have hie : i = (B.drop 8).length := by rw [List.length_drop]; omega
            have hpi : pre (B.drop 8) i = B.drop 8 := by rw [hie, pre_all]
            rw [hpi, hie] at S29
            have hR : (readF s).1 = m ∧ ((readF s).1 ≠ 0 → B.drop 8 = (readF s).2) := by
              unfold readF; rw [← hB, if_neg (by omega)]
              by_cases hz : leN (B.take 8) = 0 ∨ 9223372036854775807 < leN (B.take 8)
              · rw [if_pos hz]; exact ⟨by show 0 = m; omega, fun h => absurd rfl h⟩
              · rw [if_neg hz]; exact ⟨hm8.symm, fun _ => rfl⟩
            exact ⟨_, _, B.drop 8, by rw [hR.1, hie], hR.2, by rw [List.length_drop]; omega, S29⟩
theorem rnewest {F : Nat → Prop} {w0 w : World} {L : List Ast} (S : St F w0 w L) {A B : Option Addr} {a b : List UInt8} {ca cb : Nat} (ha : RoT F w0 L A a) (hb : RoT F w0 L B b) (hma : a.length ≤ 9223372036854775807) (hmb : b.length ≤ 9223372036854775807) : Calls Try.prog 17 #[.slice A a.length ca, .slice B b.length cb] w fun e w' => ∃ A c, e = .returned (.tuple #[.int .i64 ((newestF a b).1 : Int), .int .i64 ((newestF a b).2.1 : Int), .slice A (newestF a b).2.2.1.length c, .int .i64 ((newestF a b).2.2.2 : Int)]) ∧ St F w0 w' (vec 5 1 (.slice A (newestF a b).2.2.1.length c) (newestF a b).2.2.1.length ((newestF a b).2.2.1.map bv) :: L) := by
  refine wp_enter (fr [.slice A a.length ca, .slice B b.length cb] 41) Try.func17 rfl (by kernel_rfl) ?_
  refine wp_seq ?_
  refine wp_region_lit ?_
  refine pv (iv 0) ?_
  refine pv (iv 0) ?_
  refine pv (.slice none 0 0) ?_
  refine pv (iv 0) ?_
  refine wl_end (fr [.slice A a.length ca, .slice B b.length cb, ud, ud, iv 0, iv 0, .slice none 0 0, iv 0] 35) (by kernel_rfl) ?_
  refine then_n ?_
  refine wp_seq ?_
  refine wp_seq ?_
  refine wp_region_lit ?_
  refine pv (.slice A a.length ca) ?_
  refine pv (iv (a.length : Nat)) ?_
  refine wl_gv rfl (gv_ne (x := (a.length : Nat)) (y := 512) (by kernel_rfl) (fun hb1 => ?_) (fun hb1 => ?_))
  · skip
    refine pv tv ?_
    refine wl_not (by kernel_rfl) ?_
    refine wl_not (by kernel_rfl) ?_
    refine wl_not (by kernel_rfl) ?_
    refine pv tv ?_
    refine wl_end (fr [.slice A a.length ca, .slice B b.length cb, ud, ud, iv 0, iv 0, .slice none 0 0, iv 0, ud, ud, ud, ud, .slice A a.length ca, iv (a.length : Nat), tv, tv, ud, ud, ud, tv] 23) (by kernel_rfl) ?_
    refine then_n ?_
    refine wp_cond_true (by kernel_rfl) ?_
    refine wp_seq ?_
    refine wp_region_lit ?_
    refine pv (iv 0) ?_
    refine pv (iv 0) ?_
    refine pv (.slice none 0 0) ?_
    refine pv (iv 2) ?_
    refine wl_end (fr [.slice A a.length ca, .slice B b.length cb, ud, ud, iv 0, iv 0, .slice none 0 0, iv 2, ud, ud, ud, ud, .slice A a.length ca, iv (a.length : Nat), tv, tv, ud, ud, ud, tv] 23) (by kernel_rfl) ?_
    refine then_n ?_
    refine wp_ret ?_
    refine then_r ?_
    refine bodyPost_ret (v := .tuple #[.int .i64 0, .int .i64 0, .slice none 0 0, .int .i64 2]) (Go.Proofs.results_tmp4 rfl _ _ (by kernel_rfl) (by kernel_rfl) (by kernel_rfl) (by kernel_rfl)) rfl ?_
    have e : newestF a b = (0, 0, [], 2) := by unfold newestF; rw [if_neg (by omega)]
    rw [e]
    exact ⟨none, 0, rfl, St.vec_nil S⟩
  · skip
    refine pv fv ?_
    refine wl_when (by kernel_rfl) (gv_val (v := .slice B b.length cb) (w' := w) (by kernel_rfl) ?_)
    refine wl_when (by kernel_rfl) (gv_val (v := .int .i64 (b.length : Nat)) (w' := w) (by kernel_rfl) ?_)
    refine wl_when (by kernel_rfl) (gv_ne (x := (b.length : Nat)) (y := 512) (by kernel_rfl) (fun hb2 => ?_) (fun hb2 => ?_))
    · skip
      refine pv tv ?_
      refine wl_end (fr [.slice A a.length ca, .slice B b.length cb, ud, ud, iv 0, iv 0, .slice none 0 0, iv 0, ud, ud, ud, ud, .slice A a.length ca, iv (a.length : Nat), fv, fv, .slice B b.length cb, iv (b.length : Nat), tv, tv] 23) (by kernel_rfl) ?_
      refine then_n ?_
      refine wp_cond_true (by kernel_rfl) ?_
      refine wp_seq ?_
      refine wp_region_lit ?_
      refine pv (iv 0) ?_
      refine pv (iv 0) ?_
      refine pv (.slice none 0 0) ?_
      refine pv (iv 2) ?_
      refine wl_end (fr [.slice A a.length ca, .slice B b.length cb, ud, ud, iv 0, iv 0, .slice none 0 0, iv 2, ud, ud, ud, ud, .slice A a.length ca, iv (a.length : Nat), fv, fv, .slice B b.length cb, iv (b.length : Nat), tv, tv] 23) (by kernel_rfl) ?_
      refine then_n ?_
      refine wp_ret ?_
      refine then_r ?_
      refine bodyPost_ret (v := .tuple #[.int .i64 0, .int .i64 0, .slice none 0 0, .int .i64 2]) (Go.Proofs.results_tmp4 rfl _ _ (by kernel_rfl) (by kernel_rfl) (by kernel_rfl) (by kernel_rfl)) rfl ?_
      have e : newestF a b = (0, 0, [], 2) := by unfold newestF; rw [if_neg (by omega)]
      rw [e]
      exact ⟨none, 0, rfl, St.vec_nil S⟩
    · skip
      refine pv fv ?_
      refine wl_end (fr [.slice A a.length ca, .slice B b.length cb, ud, ud, iv 0, iv 0, .slice none 0 0, iv 0, ud, ud, ud, ud, .slice A a.length ca, iv (a.length : Nat), fv, fv, .slice B b.length cb, iv (b.length : Nat), fv, fv] 23) (by kernel_rfl) ?_
      refine then_n ?_
      refine wp_cond_false (by kernel_rfl) ?_
      refine wp_skip ?_
      refine then_n ?_
      refine wp_seq ?_
      refine wp_region_lit ?_
      refine pv (.slice A a.length ca) ?_
      refine wl_gv rfl (gv_call (args := #[.slice A a.length ca]) rfl Try.func36 (by kernel_rfl) rfl rfl (by kernel_rfl) ?_)
      refine Calls.mono (ranchor S ha hma) ?_
      rintro _ w3 ⟨Aa, cc, da, rfl, hda, hdal, S4⟩
      refine ⟨_, rfl, ?_⟩
      refine pv (.tuple #[iv ((readF a).1 : Int), .slice Aa da.length cc]) ?_
      refine pv (iv ((readF a).1 : Int)) ?_
      refine pv (.slice Aa da.length cc) ?_
      refine pv (iv ((readF a).1 : Int)) ?_
      refine pv (.slice Aa da.length cc) ?_
      refine wl_end (fr [.slice A a.length ca, .slice B b.length cb, ud, ud, iv 0, iv 0, .slice none 0 0, iv 0, iv ((readF a).1 : Int), .slice Aa da.length cc, ud, ud, .slice A a.length ca, iv (a.length : Nat), fv, fv, .slice B b.length cb, iv (b.length : Nat), fv, fv, .tuple #[iv ((readF a).1 : Int), .slice Aa da.length cc], .slice A a.length ca, .tuple #[iv ((readF a).1 : Int), .slice Aa da.length cc], iv ((readF a).1 : Int), .slice Aa da.length cc] 18) (by kernel_rfl) ?_
      refine then_n ?_
      refine wp_seq ?_
      refine wp_region_lit ?_
      refine pv (.slice B b.length cb) ?_
      refine wl_gv rfl (gv_call (args := #[.slice B b.length cb]) rfl Try.func36 (by kernel_rfl) rfl rfl (by kernel_rfl) ?_)
      refine Calls.mono (ranchor S4 hb.more hmb) ?_
      rintro _ w5 ⟨Ab, cd, db, rfl, hdb, hdbl, S6⟩
      refine ⟨_, rfl, ?_⟩
      refine pv (.tuple #[iv ((readF b).1 : Int), .slice Ab db.length cd]) ?_
      refine pv (iv ((readF b).1 : Int)) ?_
      refine pv (.slice Ab db.length cd) ?_
      refine pv (iv ((readF b).1 : Int)) ?_
      refine pv (.slice Ab db.length cd) ?_
      refine wl_end (fr [.slice A a.length ca, .slice B b.length cb, ud, ud, iv 0, iv 0, .slice none 0 0, iv 0, iv ((readF a).1 : Int), .slice Aa da.length cc, iv ((readF b).1 : Int), .slice Ab db.length cd, .slice A a.length ca, iv (a.length : Nat), fv, fv, .slice B b.length cb, iv (b.length : Nat), fv, fv, .tuple #[iv ((readF a).1 : Int), .slice Aa da.length cc], .slice A a.length ca, .tuple #[iv ((readF a).1 : Int), .slice Aa da.length cc], iv ((readF a).1 : Int), .slice Aa da.length cc, .tuple #[iv ((readF b).1 : Int), .slice Ab db.length cd], .slice B b.length cb, .tuple #[iv ((readF b).1 : Int), .slice Ab db.length cd], iv ((readF b).1 : Int), .slice Ab db.length cd] 13) (by kernel_rfl) ?_
      refine then_n ?_
      refine wp_seq ?_
      refine wp_seq ?_
      refine wp_region_lit ?_
      refine pv (iv ((readF a).1 : Int)) ?_
      refine wl_gv rfl (gv_eq (x := ((readF a).1 : Int)) (y := 0) (by kernel_rfl) (fun hb7 => ?_) (fun hb7 => ?_))
      · skip
        refine pv tv ?_
        refine wl_when (by kernel_rfl) (gv_val (v := .int .i64 ((readF b).1 : Int)) (w' := w5) (by kernel_rfl) ?_)
        refine wl_when (by kernel_rfl) (gv_eq (x := ((readF b).1 : Int)) (y := 0) (by kernel_rfl) (fun hb8 => ?_) (fun hb8 => ?_))
        · skip
          refine pv tv ?_
          refine wl_end (fr [.slice A a.length ca, .slice B b.length cb, ud, ud, iv 0, iv 0, .slice none 0 0, iv 0, iv ((readF a).1 : Int), .slice Aa da.length cc, iv ((readF b).1 : Int), .slice Ab db.length cd, .slice A a.length ca, iv (a.length : Nat), fv, fv, .slice B b.length cb, iv (b.length : Nat), fv, fv, .tuple #[iv ((readF a).1 : Int), .slice Aa da.length cc], .slice A a.length ca, .tuple #[iv ((readF a).1 : Int), .slice Aa da.length cc], iv ((readF a).1 : Int), .slice Aa da.length cc, .tuple #[iv ((readF b).1 : Int), .slice Ab db.length cd], .slice B b.length cb, .tuple #[iv ((readF b).1 : Int), .slice Ab db.length cd], iv ((readF b).1 : Int), .slice Ab db.length cd, iv ((readF a).1 : Int), tv, tv, iv ((readF b).1 : Int), tv, tv] 7) (by kernel_rfl) ?_
          refine then_n ?_
          refine wp_cond_true (by kernel_rfl) ?_
          refine wp_seq ?_
          refine wp_region_lit ?_
          refine pv (iv 0) ?_
          refine pv (iv 0) ?_
          refine pv (.slice none 0 0) ?_
          refine pv (iv 30) ?_
          refine wl_end (fr [.slice A a.length ca, .slice B b.length cb, ud, ud, iv 0, iv 0, .slice none 0 0, iv 30, iv ((readF a).1 : Int), .slice Aa da.length cc, iv ((readF b).1 : Int), .slice Ab db.length cd, .slice A a.length ca, iv (a.length : Nat), fv, fv, .slice B b.length cb, iv (b.length : Nat), fv, fv, .tuple #[iv ((readF a).1 : Int), .slice Aa da.length cc], .slice A a.length ca, .tuple #[iv ((readF a).1 : Int), .slice Aa da.length cc], iv ((readF a).1 : Int), .slice Aa da.length cc, .tuple #[iv ((readF b).1 : Int), .slice Ab db.length cd], .slice B b.length cb, .tuple #[iv ((readF b).1 : Int), .slice Ab db.length cd], iv ((readF b).1 : Int), .slice Ab db.length cd, iv ((readF a).1 : Int), tv, tv, iv ((readF b).1 : Int), tv, tv] 7) (by kernel_rfl) ?_
          refine then_n ?_
          refine wp_ret ?_
          refine then_r ?_
          refine bodyPost_ret (v := .tuple #[.int .i64 0, .int .i64 0, .slice none 0 0, .int .i64 30]) (Go.Proofs.results_tmp4 rfl _ _ (by kernel_rfl) (by kernel_rfl) (by kernel_rfl) (by kernel_rfl)) rfl ?_
          have e : newestF a b = (0, 0, [], 30) := by unfold newestF; rw [if_pos (by omega), if_pos (by omega)]
          rw [e]
          have S9 : St F w0 w5 (L) := St.permT [vec 5 1 (.slice Ab db.length cd) db.length (db.map bv), vec 5 1 (.slice Aa da.length cc) da.length (da.map bv)] [] (by decide) rfl S6
          exact ⟨none, 0, rfl, St.vec_nil S9⟩
        · skip
          refine pv fv ?_
          refine wl_end (fr [.slice A a.length ca, .slice B b.length cb, ud, ud, iv 0, iv 0, .slice none 0 0, iv 0, iv ((readF a).1 : Int), .slice Aa da.length cc, iv ((readF b).1 : Int), .slice Ab db.length cd, .slice A a.length ca, iv (a.length : Nat), fv, fv, .slice B b.length cb, iv (b.length : Nat), fv, fv, .tuple #[iv ((readF a).1 : Int), .slice Aa da.length cc], .slice A a.length ca, .tuple #[iv ((readF a).1 : Int), .slice Aa da.length cc], iv ((readF a).1 : Int), .slice Aa da.length cc, .tuple #[iv ((readF b).1 : Int), .slice Ab db.length cd], .slice B b.length cb, .tuple #[iv ((readF b).1 : Int), .slice Ab db.length cd], iv ((readF b).1 : Int), .slice Ab db.length cd, iv ((readF a).1 : Int), tv, tv, iv ((readF b).1 : Int), fv, fv] 7) (by kernel_rfl) ?_
          refine then_n ?_
          refine wp_cond_false (by kernel_rfl) ?_
          refine wp_skip ?_
          refine then_n ?_
          refine wp_seq ?_
          refine wp_seq ?_
          refine wp_region_lit ?_
          refine pv (iv ((readF b).1 : Int)) ?_
          refine pv (iv ((readF a).1 : Int)) ?_
          refine wl_gv rfl (gv_dec (p := (((readF b).1 : Int) : Int) > ((readF a).1 : Int)) (by kernel_rfl) (fun hb10 => ?_) (fun hb10 => ?_))
          · skip
            refine wl_end (fr [.slice A a.length ca, .slice B b.length cb, ud, ud, iv 0, iv 0, .slice none 0 0, iv 0, iv ((readF a).1 : Int), .slice Aa da.length cc, iv ((readF b).1 : Int), .slice Ab db.length cd, .slice A a.length ca, iv (a.length : Nat), fv, fv, .slice B b.length cb, iv (b.length : Nat), fv, fv, .tuple #[iv ((readF a).1 : Int), .slice Aa da.length cc], .slice A a.length ca, .tuple #[iv ((readF a).1 : Int), .slice Aa da.length cc], iv ((readF a).1 : Int), .slice Aa da.length cc, .tuple #[iv ((readF b).1 : Int), .slice Ab db.length cd], .slice B b.length cb, .tuple #[iv ((readF b).1 : Int), .slice Ab db.length cd], iv ((readF b).1 : Int), .slice Ab db.length cd, iv ((readF a).1 : Int), tv, tv, iv ((readF b).1 : Int), fv, fv, iv ((readF b).1 : Int), iv ((readF a).1 : Int), tv] 4) (by kernel_rfl) ?_
            refine then_n ?_
            refine wp_cond_true (by kernel_rfl) ?_
            refine wp_seq ?_
            refine wp_region_lit ?_
            refine pv (iv ((readF b).1 : Int)) ?_
            refine pv (.slice Ab db.length cd) ?_
            refine pv (iv 1) ?_
            refine pv (iv ((readF b).1 : Int)) ?_
            refine pv (.slice Ab db.length cd) ?_
            refine pv (iv 0) ?_
            refine wl_end (fr [.slice A a.length ca, .slice B b.length cb, ud, ud, iv 1, iv ((readF b).1 : Int), .slice Ab db.length cd, iv 0, iv ((readF a).1 : Int), .slice Aa da.length cc, iv ((readF b).1 : Int), .slice Ab db.length cd, .slice A a.length ca, iv (a.length : Nat), fv, fv, .slice B b.length cb, iv (b.length : Nat), fv, fv, .tuple #[iv ((readF a).1 : Int), .slice Aa da.length cc], .slice A a.length ca, .tuple #[iv ((readF a).1 : Int), .slice Aa da.length cc], iv ((readF a).1 : Int), .slice Aa da.length cc, .tuple #[iv ((readF b).1 : Int), .slice Ab db.length cd], .slice B b.length cb, .tuple #[iv ((readF b).1 : Int), .slice Ab db.length cd], iv ((readF b).1 : Int), .slice Ab db.length cd, iv ((readF a).1 : Int), tv, tv, iv ((readF b).1 : Int), fv, fv, iv ((readF b).1 : Int), iv ((readF a).1 : Int), tv, iv ((readF b).1 : Int), .slice Ab db.length cd] 2) (by kernel_rfl) ?_
            refine then_n ?_
            refine wp_ret ?_
            refine then_r ?_
            refine bodyPost_ret (v := .tuple #[.int .i64 1, .int .i64 ((readF b).1 : Int), .slice Ab db.length cd, .int .i64 0]) (Go.Proofs.results_tmp4 rfl _ _ (by kernel_rfl) (by kernel_rfl) (by kernel_rfl) (by kernel_rfl)) rfl ?_
            have e : newestF a b = (1, (readF b).1, db, 0) := by unfold newestF; rw [if_pos (by omega), if_neg (by omega), if_pos (by omega), ← hdb (by omega)]
            rw [e]
            have S11 : St F w0 w5 (vec 5 1 (.slice Ab db.length cd) db.length (db.map bv) :: L) := St.permT [vec 5 1 (.slice Ab db.length cd) db.length (db.map bv), vec 5 1 (.slice Aa da.length cc) da.length (da.map bv)] [0] (by decide) rfl S6
            exact ⟨_, _, rfl, S11⟩
          · skip
            refine wl_end (fr [.slice A a.length ca, .slice B b.length cb, ud, ud, iv 0, iv 0, .slice none 0 0, iv 0, iv ((readF a).1 : Int), .slice Aa da.length cc, iv ((readF b).1 : Int), .slice Ab db.length cd, .slice A a.length ca, iv (a.length : Nat), fv, fv, .slice B b.length cb, iv (b.length : Nat), fv, fv, .tuple #[iv ((readF a).1 : Int), .slice Aa da.length cc], .slice A a.length ca, .tuple #[iv ((readF a).1 : Int), .slice Aa da.length cc], iv ((readF a).1 : Int), .slice Aa da.length cc, .tuple #[iv ((readF b).1 : Int), .slice Ab db.length cd], .slice B b.length cb, .tuple #[iv ((readF b).1 : Int), .slice Ab db.length cd], iv ((readF b).1 : Int), .slice Ab db.length cd, iv ((readF a).1 : Int), tv, tv, iv ((readF b).1 : Int), fv, fv, iv ((readF b).1 : Int), iv ((readF a).1 : Int), fv] 4) (by kernel_rfl) ?_
            refine then_n ?_
            refine wp_cond_false (by kernel_rfl) ?_
            refine wp_skip ?_
            refine then_n ?_
            refine wp_seq ?_
            refine wp_region_lit ?_
            refine pv (iv ((readF a).1 : Int)) ?_
            refine pv (.slice Aa da.length cc) ?_
            refine pv (iv 0) ?_
            refine pv (iv ((readF a).1 : Int)) ?_
            refine pv (.slice Aa da.length cc) ?_
            refine pv (iv 0) ?_
            refine wl_end (fr [.slice A a.length ca, .slice B b.length cb, ud, ud, iv 0, iv ((readF a).1 : Int), .slice Aa da.length cc, iv 0, iv ((readF a).1 : Int), .slice Aa da.length cc, iv ((readF b).1 : Int), .slice Ab db.length cd, .slice A a.length ca, iv (a.length : Nat), fv, fv, .slice B b.length cb, iv (b.length : Nat), fv, fv, .tuple #[iv ((readF a).1 : Int), .slice Aa da.length cc], .slice A a.length ca, .tuple #[iv ((readF a).1 : Int), .slice Aa da.length cc], iv ((readF a).1 : Int), .slice Aa da.length cc, .tuple #[iv ((readF b).1 : Int), .slice Ab db.length cd], .slice B b.length cb, .tuple #[iv ((readF b).1 : Int), .slice Ab db.length cd], iv ((readF b).1 : Int), .slice Ab db.length cd, iv ((readF a).1 : Int), tv, tv, iv ((readF b).1 : Int), fv, fv, iv ((readF b).1 : Int), iv ((readF a).1 : Int), fv, ud, ud, iv ((readF a).1 : Int), .slice Aa da.length cc] 0) (by kernel_rfl) ?_
            refine then_n ?_
            refine wp_ret ?_
            refine bodyPost_ret (v := .tuple #[.int .i64 0, .int .i64 ((readF a).1 : Int), .slice Aa da.length cc, .int .i64 0]) (Go.Proofs.results_tmp4 rfl _ _ (by kernel_rfl) (by kernel_rfl) (by kernel_rfl) (by kernel_rfl)) rfl ?_
            have e : newestF a b = (0, (readF a).1, da, 0) := by unfold newestF; rw [if_pos (by omega), if_neg (by omega), if_neg (by omega), ← hda (by omega)]
            rw [e]
            have S12 : St F w0 w5 (vec 5 1 (.slice Aa da.length cc) da.length (da.map bv) :: L) := St.permT [vec 5 1 (.slice Ab db.length cd) db.length (db.map bv), vec 5 1 (.slice Aa da.length cc) da.length (da.map bv)] [1] (by decide) rfl S6
            exact ⟨_, _, rfl, S12⟩
      · skip
        refine pv fv ?_
        refine wl_not (by kernel_rfl) ?_
        refine wl_not (by kernel_rfl) ?_
        refine pv fv ?_
        refine wl_end (fr [.slice A a.length ca, .slice B b.length cb, ud, ud, iv 0, iv 0, .slice none 0 0, iv 0, iv ((readF a).1 : Int), .slice Aa da.length cc, iv ((readF b).1 : Int), .slice Ab db.length cd, .slice A a.length ca, iv (a.length : Nat), fv, fv, .slice B b.length cb, iv (b.length : Nat), fv, fv, .tuple #[iv ((readF a).1 : Int), .slice Aa da.length cc], .slice A a.length ca, .tuple #[iv ((readF a).1 : Int), .slice Aa da.length cc], iv ((readF a).1 : Int), .slice Aa da.length cc, .tuple #[iv ((readF b).1 : Int), .slice Ab db.length cd], .slice B b.length cb, .tuple #[iv ((readF b).1 : Int), .slice Ab db.length cd], iv ((readF b).1 : Int), .slice Ab db.length cd, iv ((readF a).1 : Int), fv, fv, ud, ud, fv] 7) (by kernel_rfl) ?_
        refine then_n ?_
        refine wp_cond_false (by kernel_rfl) ?_
        refine wp_skip ?_
        refine then_n ?_
        refine wp_seq ?_
        refine wp_seq ?_
        refine wp_region_lit ?_
        refine pv (iv ((readF b).1 : Int)) ?_
        refine pv (iv ((readF a).1 : Int)) ?_
        refine wl_gv rfl (gv_dec (p := (((readF b).1 : Int) : Int) > ((readF a).1 : Int)) (by kernel_rfl) (fun hb13 => ?_) (fun hb13 => ?_))
        · skip
          refine wl_end (fr [.slice A a.length ca, .slice B b.length cb, ud, ud, iv 0, iv 0, .slice none 0 0, iv 0, iv ((readF a).1 : Int), .slice Aa da.length cc, iv ((readF b).1 : Int), .slice Ab db.length cd, .slice A a.length ca, iv (a.length : Nat), fv, fv, .slice B b.length cb, iv (b.length : Nat), fv, fv, .tuple #[iv ((readF a).1 : Int), .slice Aa da.length cc], .slice A a.length ca, .tuple #[iv ((readF a).1 : Int), .slice Aa da.length cc], iv ((readF a).1 : Int), .slice Aa da.length cc, .tuple #[iv ((readF b).1 : Int), .slice Ab db.length cd], .slice B b.length cb, .tuple #[iv ((readF b).1 : Int), .slice Ab db.length cd], iv ((readF b).1 : Int), .slice Ab db.length cd, iv ((readF a).1 : Int), fv, fv, ud, ud, fv, iv ((readF b).1 : Int), iv ((readF a).1 : Int), tv] 4) (by kernel_rfl) ?_
          refine then_n ?_
          refine wp_cond_true (by kernel_rfl) ?_
          refine wp_seq ?_
          refine wp_region_lit ?_
          refine pv (iv ((readF b).1 : Int)) ?_
          refine pv (.slice Ab db.length cd) ?_
          refine pv (iv 1) ?_
          refine pv (iv ((readF b).1 : Int)) ?_
          refine pv (.slice Ab db.length cd) ?_
          refine pv (iv 0) ?_
          refine wl_end (fr [.slice A a.length ca, .slice B b.length cb, ud, ud, iv 1, iv ((readF b).1 : Int), .slice Ab db.length cd, iv 0, iv ((readF a).1 : Int), .slice Aa da.length cc, iv ((readF b).1 : Int), .slice Ab db.length cd, .slice A a.length ca, iv (a.length : Nat), fv, fv, .slice B b.length cb, iv (b.length : Nat), fv, fv, .tuple #[iv ((readF a).1 : Int), .slice Aa da.length cc], .slice A a.length ca, .tuple #[iv ((readF a).1 : Int), .slice Aa da.length cc], iv ((readF a).1 : Int), .slice Aa da.length cc, .tuple #[iv ((readF b).1 : Int), .slice Ab db.length cd], .slice B b.length cb, .tuple #[iv ((readF b).1 : Int), .slice Ab db.length cd], iv ((readF b).1 : Int), .slice Ab db.length cd, iv ((readF a).1 : Int), fv, fv, ud, ud, fv, iv ((readF b).1 : Int), iv ((readF a).1 : Int), tv, iv ((readF b).1 : Int), .slice Ab db.length cd] 2) (by kernel_rfl) ?_
          refine then_n ?_
          refine wp_ret ?_
          refine then_r ?_
          refine bodyPost_ret (v := .tuple #[.int .i64 1, .int .i64 ((readF b).1 : Int), .slice Ab db.length cd, .int .i64 0]) (Go.Proofs.results_tmp4 rfl _ _ (by kernel_rfl) (by kernel_rfl) (by kernel_rfl) (by kernel_rfl)) rfl ?_
          have e : newestF a b = (1, (readF b).1, db, 0) := by unfold newestF; rw [if_pos (by omega), if_neg (by omega), if_pos (by omega), ← hdb (by omega)]
          rw [e]
          have S14 : St F w0 w5 (vec 5 1 (.slice Ab db.length cd) db.length (db.map bv) :: L) := St.permT [vec 5 1 (.slice Ab db.length cd) db.length (db.map bv), vec 5 1 (.slice Aa da.length cc) da.length (da.map bv)] [0] (by decide) rfl S6
          exact ⟨_, _, rfl, S14⟩
        · skip
          refine wl_end (fr [.slice A a.length ca, .slice B b.length cb, ud, ud, iv 0, iv 0, .slice none 0 0, iv 0, iv ((readF a).1 : Int), .slice Aa da.length cc, iv ((readF b).1 : Int), .slice Ab db.length cd, .slice A a.length ca, iv (a.length : Nat), fv, fv, .slice B b.length cb, iv (b.length : Nat), fv, fv, .tuple #[iv ((readF a).1 : Int), .slice Aa da.length cc], .slice A a.length ca, .tuple #[iv ((readF a).1 : Int), .slice Aa da.length cc], iv ((readF a).1 : Int), .slice Aa da.length cc, .tuple #[iv ((readF b).1 : Int), .slice Ab db.length cd], .slice B b.length cb, .tuple #[iv ((readF b).1 : Int), .slice Ab db.length cd], iv ((readF b).1 : Int), .slice Ab db.length cd, iv ((readF a).1 : Int), fv, fv, ud, ud, fv, iv ((readF b).1 : Int), iv ((readF a).1 : Int), fv] 4) (by kernel_rfl) ?_
          refine then_n ?_
          refine wp_cond_false (by kernel_rfl) ?_
          refine wp_skip ?_
          refine then_n ?_
          refine wp_seq ?_
          refine wp_region_lit ?_
          refine pv (iv ((readF a).1 : Int)) ?_
          refine pv (.slice Aa da.length cc) ?_
          refine pv (iv 0) ?_
          refine pv (iv ((readF a).1 : Int)) ?_
          refine pv (.slice Aa da.length cc) ?_
          refine pv (iv 0) ?_
          refine wl_end (fr [.slice A a.length ca, .slice B b.length cb, ud, ud, iv 0, iv ((readF a).1 : Int), .slice Aa da.length cc, iv 0, iv ((readF a).1 : Int), .slice Aa da.length cc, iv ((readF b).1 : Int), .slice Ab db.length cd, .slice A a.length ca, iv (a.length : Nat), fv, fv, .slice B b.length cb, iv (b.length : Nat), fv, fv, .tuple #[iv ((readF a).1 : Int), .slice Aa da.length cc], .slice A a.length ca, .tuple #[iv ((readF a).1 : Int), .slice Aa da.length cc], iv ((readF a).1 : Int), .slice Aa da.length cc, .tuple #[iv ((readF b).1 : Int), .slice Ab db.length cd], .slice B b.length cb, .tuple #[iv ((readF b).1 : Int), .slice Ab db.length cd], iv ((readF b).1 : Int), .slice Ab db.length cd, iv ((readF a).1 : Int), fv, fv, ud, ud, fv, iv ((readF b).1 : Int), iv ((readF a).1 : Int), fv, ud, ud, iv ((readF a).1 : Int), .slice Aa da.length cc] 0) (by kernel_rfl) ?_
          refine then_n ?_
          refine wp_ret ?_
          refine bodyPost_ret (v := .tuple #[.int .i64 0, .int .i64 ((readF a).1 : Int), .slice Aa da.length cc, .int .i64 0]) (Go.Proofs.results_tmp4 rfl _ _ (by kernel_rfl) (by kernel_rfl) (by kernel_rfl) (by kernel_rfl)) rfl ?_
          have e : newestF a b = (0, (readF a).1, da, 0) := by unfold newestF; rw [if_pos (by omega), if_neg (by omega), if_neg (by omega), ← hda (by omega)]
          rw [e]
          have S15 : St F w0 w5 (vec 5 1 (.slice Aa da.length cc) da.length (da.map bv) :: L) := St.permT [vec 5 1 (.slice Ab db.length cd) db.length (db.map bv), vec 5 1 (.slice Aa da.length cc) da.length (da.map bv)] [1] (by decide) rfl S6
          exact ⟨_, _, rfl, S15⟩
end Go.Proofs
