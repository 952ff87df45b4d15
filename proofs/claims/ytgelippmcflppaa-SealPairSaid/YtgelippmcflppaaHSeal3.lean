/- Seal, Open, anchor, Newest of the document, over owned memory. -/
import Derived.Test.YtgelippmcflppaaHSeal2
open Go Go.RowKit Go.Proofs.YtgelippmcflppaaW.PrintWords Go.Proofs.YtgelippmcflppaaW.PrintMore
namespace Go.Proofs
open Go.Vel
set_option linter.unusedVariables false
set_option maxRecDepth 100000
set_option maxHeartbeats 4000000
attribute [local irreducible] gives wpList Code.wp

theorem rform' {F : Nat → Prop} {w0 w : World} {L : List Ast} (S : St F w0 w L) {z : Int} {t : UInt8} (hz : z = (t.toNat : Int)) {A : Option Addr} {b : List UInt8} {m cb : Nat} (hm : m = b.length) (hr : RoT F w0 L A b) (hb : b.length ≤ 504) : Calls Try.prog 46 #[.int .i64 z, .slice A m cb] w fun e w' => ∃ A c, e = .returned (.slice A 512 c) ∧ St F w0 w' (vec 5 1 (.slice A 512 c) 512 ((form t b).map bv) :: L) := by
  subst hm; exact rform S hz hr hb
theorem rseal {F : Nat → Prop} {w0 w : World} {L : List Ast} (S : St F w0 w L) {A B : Option Addr} {a b : List UInt8} {ca cb : Nat} (ha : RoT F w0 L A a) (hb : RoT F w0 L B b) (hma : a.length ≤ 9223372036854775807) (hmb : b.length ≤ 9223372036854775807) : Calls Try.prog 32 #[.slice A a.length ca, .slice B b.length cb] w fun e w' => ∃ A c, e = .returned (.tuple #[.slice A ((sealF a b).1).length c, .int .i64 ((sealF a b).2 : Int)]) ∧ St F w0 w' (vec 5 1 (.slice A ((sealF a b).1).length c) ((sealF a b).1).length (((sealF a b).1).map bv) :: L) := by
  by_cases h5 : a.length ≠ 512
  · have e : sealF a b = ([], 2) := by unfold sealF; rw [if_pos h5]
    rw [e]
    refine wp_enter (fr [.slice A a.length ca, .slice B b.length cb] 32) Try.func32 rfl (by kernel_rfl) ?_
    refine wp_seq ?_
    refine wp_region_lit ?_
    refine pv (.slice none 0 0) ?_
    refine pv (iv 0) ?_
    refine wl_end (fr [.slice A a.length ca, .slice B b.length cb, ud, ud, .slice none 0 0, iv 0] 28) (by kernel_rfl) ?_
    refine then_n ?_
    refine wp_seq ?_
    refine wp_seq ?_
    refine wp_region_lit ?_
    refine pv (.slice A a.length ca) ?_
    refine pv (iv (a.length : Nat)) ?_
    refine wl_gv rfl (gv_ne (x := (a.length : Nat)) (y := 512) (by kernel_rfl) (fun _ => ?_) (fun hd1 => False.elim (by omega)))
    refine wl_end (fr [.slice A a.length ca, .slice B b.length cb, ud, ud, .slice none 0 0, iv 0, ud, ud, .slice A a.length ca, iv (a.length : Nat), tv] 23) (by kernel_rfl) ?_
    refine then_n ?_
    refine wp_cond_true (by kernel_rfl) ?_
    refine wp_seq ?_
    refine wp_region_lit ?_
    refine pv (.slice none 0 0) ?_
    refine pv (iv 2) ?_
    refine wl_end (fr [.slice A a.length ca, .slice B b.length cb, ud, ud, .slice none 0 0, iv 2, ud, ud, .slice A a.length ca, iv (a.length : Nat), tv] 23) (by kernel_rfl) ?_
    refine then_n ?_
    refine wp_ret ?_
    refine then_r ?_
    refine bodyPost_ret (v := .tuple #[.slice none 0 0, .int .i64 2]) (results_t2 rfl (by kernel_rfl) (by kernel_rfl)) rfl ?_
    exact ⟨none, 0, rfl, St.vec_nil S⟩
  by_cases h4 : 504 < b.length
  · have e : sealF a b = ([], 7) := by unfold sealF; rw [if_neg h5, if_pos h4]
    rw [e]
    refine wp_enter (fr [.slice A a.length ca, .slice B b.length cb] 32) Try.func32 rfl (by kernel_rfl) ?_
    refine wp_seq ?_
    refine wp_region_lit ?_
    refine pv (.slice none 0 0) ?_
    refine pv (iv 0) ?_
    refine wl_end (fr [.slice A a.length ca, .slice B b.length cb, ud, ud, .slice none 0 0, iv 0] 28) (by kernel_rfl) ?_
    refine then_n ?_
    refine wp_seq ?_
    refine wp_seq ?_
    refine wp_region_lit ?_
    refine pv (.slice A a.length ca) ?_
    refine pv (iv (a.length : Nat)) ?_
    refine wl_gv rfl (gv_ne (x := (a.length : Nat)) (y := 512) (by kernel_rfl) (fun hd1 => False.elim (by omega)) (fun _ => ?_))
    refine wl_end (fr [.slice A a.length ca, .slice B b.length cb, ud, ud, .slice none 0 0, iv 0, ud, ud, .slice A a.length ca, iv (a.length : Nat), fv] 23) (by kernel_rfl) ?_
    refine then_n ?_
    refine wp_cond_false (by kernel_rfl) ?_
    refine wp_skip ?_
    refine then_n ?_
    refine wp_seq ?_
    refine wp_seq ?_
    refine wp_region_lit ?_
    refine pv (.slice B b.length cb) ?_
    refine pv (iv (b.length : Nat)) ?_
    refine wl_gv rfl (gv_dec (p := ((b.length : Nat) : Int) > 504) (by kernel_rfl) (fun _ => ?_) (fun hd2 => False.elim (by omega)))
    refine wl_end (fr [.slice A a.length ca, .slice B b.length cb, ud, ud, .slice none 0 0, iv 0, ud, ud, .slice A a.length ca, iv (a.length : Nat), fv, .slice B b.length cb, iv (b.length : Nat), tv] 20) (by kernel_rfl) ?_
    refine then_n ?_
    refine wp_cond_true (by kernel_rfl) ?_
    refine wp_seq ?_
    refine wp_region_lit ?_
    refine pv (.slice none 0 0) ?_
    refine pv (iv 7) ?_
    refine wl_end (fr [.slice A a.length ca, .slice B b.length cb, ud, ud, .slice none 0 0, iv 7, ud, ud, .slice A a.length ca, iv (a.length : Nat), fv, .slice B b.length cb, iv (b.length : Nat), tv] 20) (by kernel_rfl) ?_
    refine then_n ?_
    refine wp_ret ?_
    refine then_r ?_
    refine bodyPost_ret (v := .tuple #[.slice none 0 0, .int .i64 7]) (results_t2 rfl (by kernel_rfl) (by kernel_rfl)) rfl ?_
    exact ⟨none, 0, rfl, St.vec_nil S⟩
  have e : sealF a b = (form (turnOf (a.getD 0 0) (a.getD 511 0)) b, 0) := by unfold sealF; rw [if_neg h5, if_neg h4]
  rw [e]
  have hfl := length_form (turnOf (a.getD 0 0) (a.getD 511 0)) (body := b) (by omega)
  obtain ⟨ad, had⟩ := (ha.now S).at (k := 0) (by omega)
  refine wp_enter (fr [.slice A a.length ca, .slice B b.length cb] 32) Try.func32 rfl (by kernel_rfl) ?_
  refine wp_seq ?_
  refine wp_region_lit ?_
  refine pv (.slice none 0 0) ?_
  refine pv (iv 0) ?_
  refine wl_end (fr [.slice A a.length ca, .slice B b.length cb, ud, ud, .slice none 0 0, iv 0] 28) (by kernel_rfl) ?_
  refine then_n ?_
  refine wp_seq ?_
  refine wp_seq ?_
  refine wp_region_lit ?_
  refine pv (.slice A a.length ca) ?_
  refine pv (iv (a.length : Nat)) ?_
  refine wl_gv rfl (gv_ne (x := (a.length : Nat)) (y := 512) (by kernel_rfl) (fun hd1 => False.elim (by omega)) (fun _ => ?_))
  refine wl_end (fr [.slice A a.length ca, .slice B b.length cb, ud, ud, .slice none 0 0, iv 0, ud, ud, .slice A a.length ca, iv (a.length : Nat), fv] 23) (by kernel_rfl) ?_
  refine then_n ?_
  refine wp_cond_false (by kernel_rfl) ?_
  refine wp_skip ?_
  refine then_n ?_
  refine wp_seq ?_
  refine wp_seq ?_
  refine wp_region_lit ?_
  refine pv (.slice B b.length cb) ?_
  refine pv (iv (b.length : Nat)) ?_
  refine wl_gv rfl (gv_dec (p := ((b.length : Nat) : Int) > 504) (by kernel_rfl) (fun hd2 => False.elim (by omega)) (fun _ => ?_))
  refine wl_end (fr [.slice A a.length ca, .slice B b.length cb, ud, ud, .slice none 0 0, iv 0, ud, ud, .slice A a.length ca, iv (a.length : Nat), fv, .slice B b.length cb, iv (b.length : Nat), fv] 20) (by kernel_rfl) ?_
  refine then_n ?_
  refine wp_cond_false (by kernel_rfl) ?_
  refine wp_skip ?_
  refine then_n ?_
  refine wp_seq ?_
  refine wp_region_lit ?_
  refine pv (iv 0) ?_
  refine wl_end (fr [.slice A a.length ca, .slice B b.length cb, ud, ud, .slice none 0 0, iv 0, iv 0, ud, .slice A a.length ca, iv (a.length : Nat), fv, .slice B b.length cb, iv (b.length : Nat), fv] 20) (by kernel_rfl) ?_
  refine then_n ?_
  refine wp_seq ?_
  refine wp_block ?_
  refine wp_loop_g (G := Nat) (fun (g_ : Nat) (a_ : Act) (w_ : World) => ∃ J : Nat → Value, a_ = (fr [.slice A a.length ca, .slice B b.length cb, ud, ud, .slice none 0 0, iv 0, iv ((g_ : Nat) : Int), ud, .slice A a.length ca, iv (a.length : Nat), fv, .slice B b.length cb, iv (b.length : Nat), fv, J 14, J 15, J 16, J 17, J 18, J 19, J 20, J 21, J 22, J 23, J 24, J 25, J 26, J 27, J 28, J 29] 4) ∧ St F w0 w_ (L) ∧ (g_ ≤ 2 ∧ (1 ≤ g_ → ((a.getD 0 0).toNat : Int) = 0 ∨ ((a.getD 511 0).toNat : Int) = 0) ∧ (2 ≤ g_ → ((a.getD 0 0).toNat : Int) = 1 ∨ ((a.getD 511 0).toNat : Int) = 1))) (fun g_ => 3 - g_) 0 ⟨(jl []), by kernel_rfl, S, ⟨by decide, fun h => absurd h (by decide), fun h => absurd h (by decide)⟩⟩ ?_
  rintro k a_ w3 ⟨J, rfl, S4, hI5⟩
  skip
  have S4 : St F w0 w3 (L) := S4
  have hI5 : (k ≤ 2 ∧ (1 ≤ k → ((a.getD 0 0).toNat : Int) = 0 ∨ ((a.getD 511 0).toNat : Int) = 0) ∧ (2 ≤ k → ((a.getD 0 0).toNat : Int) = 1 ∨ ((a.getD 511 0).toNat : Int) = 1)) := hI5
  refine wp_seq ?_
  refine wp_seq ?_
  refine wp_region_lit ?_
  obtain ⟨hk2, hk0, hk1⟩ := hI5
  refine pv (.slice A a.length ca) ?_
  refine wl_gv rfl (gv_ixB (e := 5) (sz := 1) (n := a.length) (c := ca) (i := 0) (k := .i64) (ad := ad) (ad' := (ad.add 0)) (j := 0) rfl (by kernel_rfl) (by kernel_rfl) (by rw [← had]; kernel_rfl) (by kernel_rfl) rfl (by omega) (by rw [Nat.mul_one]) ?_)
  refine wl_gv rfl (gv_ldR (v := .int .u8 ((a.getD 0 0).toNat : Int)) rfl (by kernel_rfl) (by kernel_rfl) ((had ▸ ha.now S4 : RdB _ (some ad) a).cell (by omega)) ?_)
  refine wl_gv rfl (gv_int (k := .i64) (z := IntKind.i64.wrap ((a.getD 0 0).toNat : Int)) (z' := ((a.getD 0 0).toNat : Int)) (by kernel_rfl) (wr_u8 _) ?_)
  refine pv (iv ((k : Nat) : Int)) ?_
  refine wl_gv rfl (gv_eq (x := ((a.getD 0 0).toNat : Int)) (y := ((k : Nat) : Int)) (by kernel_rfl) (fun hb6 => ?_) (fun hb6 => ?_))
  · skip
    refine pv tv ?_
    refine wl_not (by kernel_rfl) ?_
    refine wl_not (by kernel_rfl) ?_
    refine wl_not (by kernel_rfl) ?_
    refine wl_not (by kernel_rfl) ?_
    refine wl_not (by kernel_rfl) ?_
    refine wl_not (by kernel_rfl) ?_
    refine pv tv ?_
    refine wl_end (fr [.slice A a.length ca, .slice B b.length cb, ud, ud, .slice none 0 0, iv 0, iv ((k : Nat) : Int), ud, .slice A a.length ca, iv (a.length : Nat), fv, .slice B b.length cb, iv (b.length : Nat), fv, .slice A a.length ca, .pointer (some (ad.add 0)), .int .u8 ((a.getD 0 0).toNat : Int), iv ((a.getD 0 0).toNat : Int), iv ((k : Nat) : Int), tv, tv, ud, ud, ud, ud, ud, ud, tv, J 28, J 29] 4) (by kernel_rfl) ?_
    refine then_n ?_
    refine wp_cond_true (by kernel_rfl) ?_
    refine wp_skip ?_
    refine then_n ?_
    refine wp_block ?_
    refine wp_region_lit ?_
    refine pv (iv ((k : Nat) : Int)) ?_
    refine wl_gv rfl (gv_int (k := .i64) (z := IntKind.i64.wrap (((k : Nat) : Int) + 1)) (z' := ((k + 1 : Nat) : Int)) (by kernel_rfl) (wr_eq (by omega) (by omega) (by omega)) ?_)
    refine pv (iv ((k + 1 : Nat) : Int)) ?_
    refine wl_end (fr [.slice A a.length ca, .slice B b.length cb, ud, ud, .slice none 0 0, iv 0, iv ((k + 1 : Nat) : Int), ud, .slice A a.length ca, iv (a.length : Nat), fv, .slice B b.length cb, iv (b.length : Nat), fv, .slice A a.length ca, .pointer (some (ad.add 0)), .int .u8 ((a.getD 0 0).toNat : Int), iv ((a.getD 0 0).toNat : Int), iv ((k : Nat) : Int), tv, tv, ud, ud, ud, ud, ud, ud, tv, iv ((k : Nat) : Int), iv ((k + 1 : Nat) : Int)] 4) (by kernel_rfl) ?_
    refine inb_n ?_
    refine then_n ?_
    exact ⟨k + 1, ⟨(jl [ud, ud, ud, ud, ud, ud, ud, ud, ud, ud, ud, ud, ud, ud, .slice A a.length ca, .pointer (some (ad.add 0)), .int .u8 ((a.getD 0 0).toNat : Int), iv ((a.getD 0 0).toNat : Int), iv ((k : Nat) : Int), tv, tv, ud, ud, ud, ud, ud, ud, tv, iv ((k : Nat) : Int), iv ((k + 1 : Nat) : Int)]), by kernel_rfl, S4, ⟨by omega, fun h => by omega, fun h => by omega⟩⟩, (by show 3 - (k + 1) < 3 - k; omega)⟩
  · skip
    refine pv fv ?_
    refine wl_when (by kernel_rfl) (gv_val (v := .slice A a.length ca) (w' := w3) (by kernel_rfl) ?_)
    refine wl_when (by kernel_rfl) (gv_ixB (e := 5) (sz := 1) (n := a.length) (c := ca) (i := 511) (k := .i64) (ad := ad) (ad' := (ad.add 511)) (j := 511) rfl (by kernel_rfl) (by kernel_rfl) (by rw [← had]; kernel_rfl) (by kernel_rfl) rfl (by omega) (by rw [Nat.mul_one]) ?_)
    refine wl_when (by kernel_rfl) (gv_ldR (v := .int .u8 ((a.getD 511 0).toNat : Int)) rfl (by kernel_rfl) (by kernel_rfl) ((had ▸ ha.now S4 : RdB _ (some ad) a).cell (by omega)) ?_)
    refine wl_when (by kernel_rfl) (gv_int (k := .i64) (z := IntKind.i64.wrap ((a.getD 511 0).toNat : Int)) (z' := ((a.getD 511 0).toNat : Int)) (by kernel_rfl) (wr_u8 _) ?_)
    refine wl_when (by kernel_rfl) (gv_val (v := .int .i64 ((k : Nat) : Int)) (w' := w3) (by kernel_rfl) ?_)
    refine wl_when (by kernel_rfl) (gv_eq (x := ((a.getD 511 0).toNat : Int)) (y := ((k : Nat) : Int)) (by kernel_rfl) (fun hb7 => ?_) (fun hb7 => ?_))
    · skip
      refine pv tv ?_
      refine wl_end (fr [.slice A a.length ca, .slice B b.length cb, ud, ud, .slice none 0 0, iv 0, iv ((k : Nat) : Int), ud, .slice A a.length ca, iv (a.length : Nat), fv, .slice B b.length cb, iv (b.length : Nat), fv, .slice A a.length ca, .pointer (some (ad.add 0)), .int .u8 ((a.getD 0 0).toNat : Int), iv ((a.getD 0 0).toNat : Int), iv ((k : Nat) : Int), fv, fv, .slice A a.length ca, .pointer (some (ad.add 511)), .int .u8 ((a.getD 511 0).toNat : Int), iv ((a.getD 511 0).toNat : Int), iv ((k : Nat) : Int), tv, tv, J 28, J 29] 4) (by kernel_rfl) ?_
      refine then_n ?_
      refine wp_cond_true (by kernel_rfl) ?_
      refine wp_skip ?_
      refine then_n ?_
      refine wp_block ?_
      refine wp_region_lit ?_
      refine pv (iv ((k : Nat) : Int)) ?_
      refine wl_gv rfl (gv_int (k := .i64) (z := IntKind.i64.wrap (((k : Nat) : Int) + 1)) (z' := ((k + 1 : Nat) : Int)) (by kernel_rfl) (wr_eq (by omega) (by omega) (by omega)) ?_)
      refine pv (iv ((k + 1 : Nat) : Int)) ?_
      refine wl_end (fr [.slice A a.length ca, .slice B b.length cb, ud, ud, .slice none 0 0, iv 0, iv ((k + 1 : Nat) : Int), ud, .slice A a.length ca, iv (a.length : Nat), fv, .slice B b.length cb, iv (b.length : Nat), fv, .slice A a.length ca, .pointer (some (ad.add 0)), .int .u8 ((a.getD 0 0).toNat : Int), iv ((a.getD 0 0).toNat : Int), iv ((k : Nat) : Int), fv, fv, .slice A a.length ca, .pointer (some (ad.add 511)), .int .u8 ((a.getD 511 0).toNat : Int), iv ((a.getD 511 0).toNat : Int), iv ((k : Nat) : Int), tv, tv, iv ((k : Nat) : Int), iv ((k + 1 : Nat) : Int)] 4) (by kernel_rfl) ?_
      refine inb_n ?_
      refine then_n ?_
      exact ⟨k + 1, ⟨(jl [ud, ud, ud, ud, ud, ud, ud, ud, ud, ud, ud, ud, ud, ud, .slice A a.length ca, .pointer (some (ad.add 0)), .int .u8 ((a.getD 0 0).toNat : Int), iv ((a.getD 0 0).toNat : Int), iv ((k : Nat) : Int), fv, fv, .slice A a.length ca, .pointer (some (ad.add 511)), .int .u8 ((a.getD 511 0).toNat : Int), iv ((a.getD 511 0).toNat : Int), iv ((k : Nat) : Int), tv, tv, iv ((k : Nat) : Int), iv ((k + 1 : Nat) : Int)]), by kernel_rfl, S4, ⟨by omega, fun h => by omega, fun h => by omega⟩⟩, (by show 3 - (k + 1) < 3 - k; omega)⟩
    · skip
      have htu : ((k : Nat) : Int) = ((turnOf (a.getD 0 0) (a.getD 511 0)).toNat : Int) := turn_found (by omega) (by omega) (by omega) hk0 hk1
      refine pv fv ?_
      refine wl_end (fr [.slice A a.length ca, .slice B b.length cb, ud, ud, .slice none 0 0, iv 0, iv ((k : Nat) : Int), ud, .slice A a.length ca, iv (a.length : Nat), fv, .slice B b.length cb, iv (b.length : Nat), fv, .slice A a.length ca, .pointer (some (ad.add 0)), .int .u8 ((a.getD 0 0).toNat : Int), iv ((a.getD 0 0).toNat : Int), iv ((k : Nat) : Int), fv, fv, .slice A a.length ca, .pointer (some (ad.add 511)), .int .u8 ((a.getD 511 0).toNat : Int), iv ((a.getD 511 0).toNat : Int), iv ((k : Nat) : Int), fv, fv, J 28, J 29] 4) (by kernel_rfl) ?_
      refine then_n ?_
      refine wp_cond_false (by kernel_rfl) ?_
      refine wp_exit ?_
      refine then_x ?_
      refine then_x ?_
      refine inb_x ?_
      refine then_n ?_
      refine wp_seq ?_
      refine wp_region_lit ?_
      refine pv (iv ((k : Nat) : Int)) ?_
      refine pv (.slice B b.length cb) ?_
      refine wl_gv rfl (gv_call (args := #[.int .i64 ((k : Nat) : Int), .slice B b.length cb]) rfl Try.func46 (by kernel_rfl) rfl rfl (by kernel_rfl) ?_)
      refine Calls.mono (rform' S4 (t := turnOf (a.getD 0 0) (a.getD 511 0)) htu (b := b) rfl hb (by omega)) ?_
      rintro _ w8 ⟨A10, c11, rfl, S9⟩
      refine ⟨_, rfl, ?_⟩
      refine pv (.slice A10 512 c11) ?_
      refine wl_end (fr [.slice A a.length ca, .slice B b.length cb, ud, ud, .slice none 0 0, iv 0, iv ((k : Nat) : Int), .slice A10 512 c11, .slice A a.length ca, iv (a.length : Nat), fv, .slice B b.length cb, iv (b.length : Nat), fv, .slice A a.length ca, .pointer (some (ad.add 0)), .int .u8 ((a.getD 0 0).toNat : Int), iv ((a.getD 0 0).toNat : Int), iv ((k : Nat) : Int), fv, fv, .slice A a.length ca, .pointer (some (ad.add 511)), .int .u8 ((a.getD 511 0).toNat : Int), iv ((a.getD 511 0).toNat : Int), iv ((k : Nat) : Int), fv, fv, J 28, J 29, iv ((k : Nat) : Int), .slice B b.length cb, .slice A10 512 c11] 1) (by kernel_rfl) ?_
      refine then_n ?_
      refine wp_seq ?_
      refine wp_region_lit ?_
      refine pv (.slice A10 512 c11) ?_
      refine pv (.slice A10 512 c11) ?_
      refine pv (iv 0) ?_
      refine wl_end (fr [.slice A a.length ca, .slice B b.length cb, ud, ud, .slice A10 512 c11, iv 0, iv ((k : Nat) : Int), .slice A10 512 c11, .slice A a.length ca, iv (a.length : Nat), fv, .slice B b.length cb, iv (b.length : Nat), fv, .slice A a.length ca, .pointer (some (ad.add 0)), .int .u8 ((a.getD 0 0).toNat : Int), iv ((a.getD 0 0).toNat : Int), iv ((k : Nat) : Int), fv, fv, .slice A a.length ca, .pointer (some (ad.add 511)), .int .u8 ((a.getD 511 0).toNat : Int), iv ((a.getD 511 0).toNat : Int), iv ((k : Nat) : Int), fv, fv, J 28, J 29, iv ((k : Nat) : Int), .slice B b.length cb, .slice A10 512 c11, .slice A10 512 c11] 0) (by kernel_rfl) ?_
      refine then_n ?_
      refine wp_ret ?_
      refine bodyPost_ret (v := .tuple #[.slice A10 512 c11, .int .i64 0]) (results_t2 rfl (by kernel_rfl) (by kernel_rfl)) rfl ?_
      exact ⟨A10, c11, by rw [hfl]; rfl, by rw [hfl]; exact S9⟩
theorem openF_len' (s : List UInt8) : (openF s).1.length ≤ 504 := by
  unfold openF
  split
  · exact Nat.zero_le _
  · split
    · exact Nat.zero_le _
    · split
      · rw [List.length_take]; omega
      · exact Nat.zero_le _
end Go.Proofs
