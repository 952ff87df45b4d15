/- How the laws that do not ask the document's disk begin: open, act, Sector, cut. -/
import Derived.Test.YtefmefimhiedfaaHLaw1d
open Go Go.RowKit Go.Proofs.YtefmefimhiedfaaW.PrintWords Go.Proofs.YtefmefimhiedfaaW.PrintMore
namespace Go.Proofs
open Go.Vel
set_option linter.unusedVariables false
set_option maxRecDepth 100000
set_option maxHeartbeats 4000000
attribute [local irreducible] gives wpList Code.wp

/-- A run of a loop's values. -/
abbrev jr (J : Nat → Value) : Nat → Nat → List Value
  | _, 0 => []
  | a, n + 1 => J a :: jr J (a + 1) n
theorem open_odd {F : Nat → Prop} {w0 w : World} {L : List Ast} {A : Option Addr} {l : List UInt8} {ca : Nat} (S : St F w0 w L) (hr : RoT F w0 L A l) (hlm : l.length ≤ 140737488351232) {n : Int} (h0 : 0 < l.length) (ho : l.length % 512 ≠ 0) : Calls Try.prog 33 #[.int .i64 n, .slice A l.length ca] w fun e w' => e = .returned (.tuple #[.pointer none, .bool true]) ∧ St F w0 w' L := by
  refine wp_enter (fr [iv n, .slice A l.length ca] 66) Try.func33 rfl (by kernel_rfl) ?_
  refine wp_seq ?_
  refine wp_region_lit ?_
  refine pv pn ?_
  refine pv fv ?_
  refine wl_end (fr [iv n, .slice A l.length ca, ud, ud, pn, fv] 62) (by kernel_rfl) ?_
  refine then_n ?_
  refine wp_seq ?_
  refine wp_region_lit ?_
  refine pv (.slice A l.length ca) ?_
  refine pv (iv (l.length : Nat)) ?_
  refine wl_gv rfl (gv_int (k := .i64) (z := IntKind.i64.wrap (Int.tdiv (l.length : Nat) 512)) (z' := ((l.length / 512 : Nat) : Int)) (by kernel_rfl) (wr_eq (by rw [Int.tdiv_eq_ediv_of_nonneg (by omega)]; omega) (by omega) (by omega)) ?_)
  refine pv (iv ((l.length / 512 : Nat) : Int)) ?_
  refine wl_end (fr [iv n, .slice A l.length ca, ud, ud, pn, fv, iv ((l.length / 512 : Nat) : Int), ud, ud, ud, ud, .slice A l.length ca, iv (l.length : Nat), iv ((l.length / 512 : Nat) : Int)] 54) (by kernel_rfl) ?_
  refine then_n ?_
  refine wp_seq ?_
  refine wp_seq ?_
  refine wp_region_lit ?_
  refine pv (.slice A l.length ca) ?_
  refine pv (iv (l.length : Nat)) ?_
  refine wl_gv rfl (gv_dec (p := ((l.length : Nat) : Int) > 0) (by kernel_rfl) (fun _ => ?_) (fun hd1 => False.elim (by omega)))
  refine wl_end (fr [iv n, .slice A l.length ca, ud, ud, pn, fv, iv ((l.length / 512 : Nat) : Int), ud, ud, ud, ud, .slice A l.length ca, iv (l.length : Nat), iv ((l.length / 512 : Nat) : Int), .slice A l.length ca, iv (l.length : Nat), tv] 51) (by kernel_rfl) ?_
  refine then_n ?_
  refine wp_cond_true (by kernel_rfl) ?_
  refine wp_seq ?_
  refine wp_region_lit ?_
  refine pv (.slice A l.length ca) ?_
  refine wl_gv rfl (gv_call (args := #[.slice A l.length ca]) rfl Try.func27 (by kernel_rfl) rfl rfl (by kernel_rfl) ?_)
  refine Calls.mono (ltwinS (l := l) S hr (by omega)) ?_
  rintro _ w3 ⟨g2, rfl, S4⟩
  refine ⟨_, rfl, ?_⟩
  refine wl_gv rfl (gv_call (args := #[.slice (some ⟨g2, 0, none⟩) l.length l.length]) rfl Try.func26 (by kernel_rfl) rfl rfl (by kernel_rfl) ?_)
  refine Calls.mono (pd_load_odd S4 (RoT.item 0 rfl 0 l.length l (by rw [List.drop_zero, List.take_length])) (by omega) ho) ?_
  rintro _ w5 ⟨rfl, S6⟩
  refine ⟨_, rfl, ?_⟩
  refine pv (.tuple #[pn, iv 2]) ?_
  refine pv pn ?_
  refine pv (iv 2) ?_
  refine pv pn ?_
  refine pv (iv 2) ?_
  refine wl_end (fr [iv n, .slice A l.length ca, ud, ud, pn, fv, iv ((l.length / 512 : Nat) : Int), pn, iv 2, ud, ud, .slice A l.length ca, iv (l.length : Nat), iv ((l.length / 512 : Nat) : Int), .slice A l.length ca, iv (l.length : Nat), tv, .tuple #[pn, iv 2], .slice A l.length ca, sl g2 0 l.length l.length, .tuple #[pn, iv 2], pn, iv 2] 45) (by kernel_rfl) ?_
  refine then_n ?_
  refine wp_seq ?_
  refine wp_seq ?_
  refine wp_region_lit ?_
  refine pv (.slice A l.length ca) ?_
  refine pv (iv (l.length : Nat)) ?_
  refine wl_gv rfl (gv_int (k := .i64) (z := Int.tmod (l.length : Nat) 512) (z' := ((l.length % 512 : Nat) : Int)) (by kernel_rfl) (by rw [Int.tmod_eq_emod_of_nonneg (by omega)]; omega) ?_)
  refine wl_gv rfl (gv_ne (x := ((l.length % 512 : Nat) : Int)) (y := 0) (by kernel_rfl) (fun _ => ?_) (fun hd7 => False.elim (by omega)))
  refine pv tv ?_
  refine wl_not (by kernel_rfl) ?_
  refine wl_not (by kernel_rfl) ?_
  refine pv tv ?_
  refine wl_end (fr [iv n, .slice A l.length ca, ud, ud, pn, fv, iv ((l.length / 512 : Nat) : Int), pn, iv 2, ud, ud, .slice A l.length ca, iv (l.length : Nat), iv ((l.length / 512 : Nat) : Int), .slice A l.length ca, iv (l.length : Nat), tv, .tuple #[pn, iv 2], .slice A l.length ca, sl g2 0 l.length l.length, .tuple #[pn, iv 2], pn, iv 2, .slice A l.length ca, iv (l.length : Nat), iv ((l.length % 512 : Nat) : Int), tv, tv, ud, ud, tv] 37) (by kernel_rfl) ?_
  refine then_n ?_
  refine wp_cond_true (by kernel_rfl) ?_
  refine wp_seq ?_
  refine wp_region_lit ?_
  refine pv pn ?_
  refine pv tv ?_
  refine pv tv ?_
  refine wl_when (by kernel_rfl) (gv_val (v := .int .i64 2) (w' := w5) (by kernel_rfl) ?_)
  refine wl_when (by kernel_rfl) (gv_ne (x := 2) (y := 0) (by kernel_rfl) (fun _ => ?_) (fun hd8 => False.elim (absurd hd8 (by decide))))
  refine pv tv ?_
  refine pv pn ?_
  refine pv tv ?_
  refine wl_end (fr [iv n, .slice A l.length ca, ud, ud, pn, tv, iv ((l.length / 512 : Nat) : Int), pn, iv 2, ud, ud, .slice A l.length ca, iv (l.length : Nat), iv ((l.length / 512 : Nat) : Int), .slice A l.length ca, iv (l.length : Nat), tv, .tuple #[pn, iv 2], .slice A l.length ca, sl g2 0 l.length l.length, .tuple #[pn, iv 2], pn, iv 2, .slice A l.length ca, iv (l.length : Nat), iv ((l.length % 512 : Nat) : Int), tv, tv, ud, ud, tv, pn, tv, tv, iv 2, tv, tv] 31) (by kernel_rfl) ?_
  refine then_n ?_
  refine wp_ret ?_
  refine then_r ?_
  refine then_r ?_
  refine bodyPost_ret (v := .tuple #[.pointer none, .bool true]) (results_t2 rfl (by kernel_rfl) (by kernel_rfl)) rfl ?_
  have S9 : St F w0 w5 (L) := St.permT [row g2 (bvs l) 5] [] (by decide) rfl S6
  exact ⟨rfl, S9⟩
theorem open_bad {F : Nat → Prop} {w0 w : World} {L : List Ast} {A : Option Addr} {l : List UInt8} {ca : Nat} (S : St F w0 w L) (hr : RoT F w0 L A l) (hlm : l.length ≤ 140737488351232) {n : Int} (h0 : 0 < l.length) (ho : l.length % 512 = 0) (hb : 2048 < l.length / 512) : Calls Try.prog 33 #[.int .i64 n, .slice A l.length ca] w fun e w' => e = .returned (.tuple #[.pointer none, .bool true]) ∧ St F w0 w' L := by
  refine wp_enter (fr [iv n, .slice A l.length ca] 66) Try.func33 rfl (by kernel_rfl) ?_
  refine wp_seq ?_
  refine wp_region_lit ?_
  refine pv pn ?_
  refine pv fv ?_
  refine wl_end (fr [iv n, .slice A l.length ca, ud, ud, pn, fv] 62) (by kernel_rfl) ?_
  refine then_n ?_
  refine wp_seq ?_
  refine wp_region_lit ?_
  refine pv (.slice A l.length ca) ?_
  refine pv (iv (l.length : Nat)) ?_
  refine wl_gv rfl (gv_int (k := .i64) (z := IntKind.i64.wrap (Int.tdiv (l.length : Nat) 512)) (z' := ((l.length / 512 : Nat) : Int)) (by kernel_rfl) (wr_eq (by rw [Int.tdiv_eq_ediv_of_nonneg (by omega)]; omega) (by omega) (by omega)) ?_)
  refine pv (iv ((l.length / 512 : Nat) : Int)) ?_
  refine wl_end (fr [iv n, .slice A l.length ca, ud, ud, pn, fv, iv ((l.length / 512 : Nat) : Int), ud, ud, ud, ud, .slice A l.length ca, iv (l.length : Nat), iv ((l.length / 512 : Nat) : Int)] 54) (by kernel_rfl) ?_
  refine then_n ?_
  refine wp_seq ?_
  refine wp_seq ?_
  refine wp_region_lit ?_
  refine pv (.slice A l.length ca) ?_
  refine pv (iv (l.length : Nat)) ?_
  refine wl_gv rfl (gv_dec (p := ((l.length : Nat) : Int) > 0) (by kernel_rfl) (fun _ => ?_) (fun hd1 => False.elim (by omega)))
  refine wl_end (fr [iv n, .slice A l.length ca, ud, ud, pn, fv, iv ((l.length / 512 : Nat) : Int), ud, ud, ud, ud, .slice A l.length ca, iv (l.length : Nat), iv ((l.length / 512 : Nat) : Int), .slice A l.length ca, iv (l.length : Nat), tv] 51) (by kernel_rfl) ?_
  refine then_n ?_
  refine wp_cond_true (by kernel_rfl) ?_
  refine wp_seq ?_
  refine wp_region_lit ?_
  refine pv (.slice A l.length ca) ?_
  refine wl_gv rfl (gv_call (args := #[.slice A l.length ca]) rfl Try.func27 (by kernel_rfl) rfl rfl (by kernel_rfl) ?_)
  refine Calls.mono (ltwinS (l := l) S hr (by omega)) ?_
  rintro _ w3 ⟨g2, rfl, S4⟩
  refine ⟨_, rfl, ?_⟩
  refine wl_gv rfl (gv_call (args := #[.slice (some ⟨g2, 0, none⟩) l.length l.length]) rfl Try.func26 (by kernel_rfl) rfl rfl (by kernel_rfl) ?_)
  refine Calls.mono (pd_load_bad S4 (RoT.item 0 rfl 0 l.length l (by rw [List.drop_zero, List.take_length])) (by omega) ho (.inr hb)) ?_
  rintro _ w5 ⟨rfl, S6⟩
  refine ⟨_, rfl, ?_⟩
  refine pv (.tuple #[pn, iv 10]) ?_
  refine pv pn ?_
  refine pv (iv 10) ?_
  refine pv pn ?_
  refine pv (iv 10) ?_
  refine wl_end (fr [iv n, .slice A l.length ca, ud, ud, pn, fv, iv ((l.length / 512 : Nat) : Int), pn, iv 10, ud, ud, .slice A l.length ca, iv (l.length : Nat), iv ((l.length / 512 : Nat) : Int), .slice A l.length ca, iv (l.length : Nat), tv, .tuple #[pn, iv 10], .slice A l.length ca, sl g2 0 l.length l.length, .tuple #[pn, iv 10], pn, iv 10] 45) (by kernel_rfl) ?_
  refine then_n ?_
  refine wp_seq ?_
  refine wp_seq ?_
  refine wp_region_lit ?_
  refine pv (.slice A l.length ca) ?_
  refine pv (iv (l.length : Nat)) ?_
  refine wl_gv rfl (gv_int (k := .i64) (z := Int.tmod (l.length : Nat) 512) (z' := ((l.length % 512 : Nat) : Int)) (by kernel_rfl) (by rw [Int.tmod_eq_emod_of_nonneg (by omega)]; omega) ?_)
  refine wl_gv rfl (gv_ne (x := ((l.length % 512 : Nat) : Int)) (y := 0) (by kernel_rfl) (fun hd7 => False.elim (by omega)) (fun _ => ?_))
  refine pv fv ?_
  refine wl_when (by kernel_rfl) (gv_val (v := .int .i64 ((l.length / 512 : Nat) : Int)) (w' := w5) (by kernel_rfl) ?_)
  refine wl_when (by kernel_rfl) (gv_dec (p := (((l.length / 512 : Nat) : Int) : Int) > 2048) (by kernel_rfl) (fun _ => ?_) (fun hd8 => False.elim (by omega)))
  refine pv tv ?_
  refine wl_end (fr [iv n, .slice A l.length ca, ud, ud, pn, fv, iv ((l.length / 512 : Nat) : Int), pn, iv 10, ud, ud, .slice A l.length ca, iv (l.length : Nat), iv ((l.length / 512 : Nat) : Int), .slice A l.length ca, iv (l.length : Nat), tv, .tuple #[pn, iv 10], .slice A l.length ca, sl g2 0 l.length l.length, .tuple #[pn, iv 10], pn, iv 10, .slice A l.length ca, iv (l.length : Nat), iv ((l.length % 512 : Nat) : Int), fv, fv, iv ((l.length / 512 : Nat) : Int), tv, tv] 37) (by kernel_rfl) ?_
  refine then_n ?_
  refine wp_cond_true (by kernel_rfl) ?_
  refine wp_seq ?_
  refine wp_region_lit ?_
  refine pv pn ?_
  refine pv tv ?_
  refine pv tv ?_
  refine wl_when (by kernel_rfl) (gv_val (v := .int .i64 10) (w' := w5) (by kernel_rfl) ?_)
  refine wl_when (by kernel_rfl) (gv_ne (x := 10) (y := 0) (by kernel_rfl) (fun _ => ?_) (fun hd9 => False.elim (absurd hd9 (by decide))))
  refine pv tv ?_
  refine pv pn ?_
  refine pv tv ?_
  refine wl_end (fr [iv n, .slice A l.length ca, ud, ud, pn, tv, iv ((l.length / 512 : Nat) : Int), pn, iv 10, ud, ud, .slice A l.length ca, iv (l.length : Nat), iv ((l.length / 512 : Nat) : Int), .slice A l.length ca, iv (l.length : Nat), tv, .tuple #[pn, iv 10], .slice A l.length ca, sl g2 0 l.length l.length, .tuple #[pn, iv 10], pn, iv 10, .slice A l.length ca, iv (l.length : Nat), iv ((l.length % 512 : Nat) : Int), fv, fv, iv ((l.length / 512 : Nat) : Int), tv, tv, pn, tv, tv, iv 10, tv, tv] 31) (by kernel_rfl) ?_
  refine then_n ?_
  refine wp_ret ?_
  refine then_r ?_
  refine then_r ?_
  refine bodyPost_ret (v := .tuple #[.pointer none, .bool true]) (results_t2 rfl (by kernel_rfl) (by kernel_rfl)) rfl ?_
  have S10 : St F w0 w5 (L) := St.permT [row g2 (bvs l) 5] [] (by decide) rfl S6
  exact ⟨rfl, S10⟩
theorem open_good {F : Nat → Prop} {w0 w : World} {L : List Ast} {A : Option Addr} {l : List UInt8} {ca : Nat} (S : St F w0 w L) (hr : RoT F w0 L A l) (hlm : l.length ≤ 140737488351232) {n : Int} {m : Nat} (h0 : 0 < l.length) (ho : l.length = 512 * m) (h1 : 1 ≤ m) (h2 : m ≤ 2048) : Calls Try.prog 33 #[.int .i64 n, .slice A l.length ca] w fun e w' => ∃ gd, e = .returned (.tuple #[.pointer (some ⟨gd, 0, none⟩), .bool true]) ∧ St F w0 w' (PDisk gd (Dsk.mk0 (secs l m)) :: L) := by
  refine wp_enter (fr [iv n, .slice A l.length ca] 66) Try.func33 rfl (by kernel_rfl) ?_
  refine wp_seq ?_
  refine wp_region_lit ?_
  refine pv pn ?_
  refine pv fv ?_
  refine wl_end (fr [iv n, .slice A l.length ca, ud, ud, pn, fv] 62) (by kernel_rfl) ?_
  refine then_n ?_
  refine wp_seq ?_
  refine wp_region_lit ?_
  refine pv (.slice A l.length ca) ?_
  refine pv (iv (l.length : Nat)) ?_
  refine wl_gv rfl (gv_int (k := .i64) (z := IntKind.i64.wrap (Int.tdiv (l.length : Nat) 512)) (z' := ((l.length / 512 : Nat) : Int)) (by kernel_rfl) (wr_eq (by rw [Int.tdiv_eq_ediv_of_nonneg (by omega)]; omega) (by omega) (by omega)) ?_)
  refine pv (iv ((l.length / 512 : Nat) : Int)) ?_
  refine wl_end (fr [iv n, .slice A l.length ca, ud, ud, pn, fv, iv ((l.length / 512 : Nat) : Int), ud, ud, ud, ud, .slice A l.length ca, iv (l.length : Nat), iv ((l.length / 512 : Nat) : Int)] 54) (by kernel_rfl) ?_
  refine then_n ?_
  refine wp_seq ?_
  refine wp_seq ?_
  refine wp_region_lit ?_
  refine pv (.slice A l.length ca) ?_
  refine pv (iv (l.length : Nat)) ?_
  refine wl_gv rfl (gv_dec (p := ((l.length : Nat) : Int) > 0) (by kernel_rfl) (fun _ => ?_) (fun hd1 => False.elim (by omega)))
  refine wl_end (fr [iv n, .slice A l.length ca, ud, ud, pn, fv, iv ((l.length / 512 : Nat) : Int), ud, ud, ud, ud, .slice A l.length ca, iv (l.length : Nat), iv ((l.length / 512 : Nat) : Int), .slice A l.length ca, iv (l.length : Nat), tv] 51) (by kernel_rfl) ?_
  refine then_n ?_
  refine wp_cond_true (by kernel_rfl) ?_
  refine wp_seq ?_
  refine wp_region_lit ?_
  refine pv (.slice A l.length ca) ?_
  refine wl_gv rfl (gv_call (args := #[.slice A l.length ca]) rfl Try.func27 (by kernel_rfl) rfl rfl (by kernel_rfl) ?_)
  refine Calls.mono (ltwinS (l := l) S hr (by omega)) ?_
  rintro _ w3 ⟨g2, rfl, S4⟩
  refine ⟨_, rfl, ?_⟩
  refine wl_gv rfl (gv_call (args := #[.slice (some ⟨g2, 0, none⟩) l.length l.length]) rfl Try.func26 (by kernel_rfl) rfl rfl (by kernel_rfl) ?_)
  refine Calls.mono (pd_load S4 (RoT.item 0 rfl 0 l.length l (by rw [List.drop_zero, List.take_length])) (by omega) ho h1 h2) ?_
  rintro _ w6 ⟨gp5, rfl, S7⟩
  refine ⟨_, rfl, ?_⟩
  refine pv (.tuple #[pq gp5, iv 0]) ?_
  refine pv (pq gp5) ?_
  refine pv (iv 0) ?_
  refine pv (pq gp5) ?_
  refine pv (iv 0) ?_
  refine wl_end (fr [iv n, .slice A l.length ca, ud, ud, pn, fv, iv ((l.length / 512 : Nat) : Int), pq gp5, iv 0, ud, ud, .slice A l.length ca, iv (l.length : Nat), iv ((l.length / 512 : Nat) : Int), .slice A l.length ca, iv (l.length : Nat), tv, .tuple #[pq gp5, iv 0], .slice A l.length ca, sl g2 0 l.length l.length, .tuple #[pq gp5, iv 0], pq gp5, iv 0] 45) (by kernel_rfl) ?_
  refine then_n ?_
  refine wp_seq ?_
  refine wp_seq ?_
  refine wp_region_lit ?_
  refine pv (.slice A l.length ca) ?_
  refine pv (iv (l.length : Nat)) ?_
  refine wl_gv rfl (gv_int (k := .i64) (z := Int.tmod (l.length : Nat) 512) (z' := ((l.length % 512 : Nat) : Int)) (by kernel_rfl) (by rw [Int.tmod_eq_emod_of_nonneg (by omega)]; omega) ?_)
  refine wl_gv rfl (gv_ne (x := ((l.length % 512 : Nat) : Int)) (y := 0) (by kernel_rfl) (fun hd8 => False.elim (by omega)) (fun _ => ?_))
  refine pv fv ?_
  refine wl_when (by kernel_rfl) (gv_val (v := .int .i64 ((l.length / 512 : Nat) : Int)) (w' := w6) (by kernel_rfl) ?_)
  refine wl_when (by kernel_rfl) (gv_dec (p := (((l.length / 512 : Nat) : Int) : Int) > 2048) (by kernel_rfl) (fun hd9 => False.elim (by omega)) (fun _ => ?_))
  refine pv fv ?_
  refine wl_end (fr [iv n, .slice A l.length ca, ud, ud, pn, fv, iv ((l.length / 512 : Nat) : Int), pq gp5, iv 0, ud, ud, .slice A l.length ca, iv (l.length : Nat), iv ((l.length / 512 : Nat) : Int), .slice A l.length ca, iv (l.length : Nat), tv, .tuple #[pq gp5, iv 0], .slice A l.length ca, sl g2 0 l.length l.length, .tuple #[pq gp5, iv 0], pq gp5, iv 0, .slice A l.length ca, iv (l.length : Nat), iv ((l.length % 512 : Nat) : Int), fv, fv, iv ((l.length / 512 : Nat) : Int), fv, fv] 37) (by kernel_rfl) ?_
  refine then_n ?_
  refine wp_cond_false (by kernel_rfl) ?_
  refine wp_skip ?_
  refine then_n ?_
  refine wp_seq ?_
  refine wp_region_lit ?_
  refine pv (pq gp5) ?_
  refine pv (pq gp5) ?_
  refine pv tv ?_
  refine pv tv ?_
  refine wl_when (by kernel_rfl) (gv_val (v := .int .i64 0) (w' := w6) (by kernel_rfl) ?_)
  refine wl_when (by kernel_rfl) (gv_eq (x := 0) (y := 0) (by kernel_rfl) (fun _ => ?_) (fun hd10 => False.elim (hd10 rfl)))
  refine pv tv ?_
  refine pv (pq gp5) ?_
  refine pv tv ?_
  refine wl_end (fr [iv n, .slice A l.length ca, ud, ud, pq gp5, tv, iv ((l.length / 512 : Nat) : Int), pq gp5, iv 0, ud, ud, .slice A l.length ca, iv (l.length : Nat), iv ((l.length / 512 : Nat) : Int), .slice A l.length ca, iv (l.length : Nat), tv, .tuple #[pq gp5, iv 0], .slice A l.length ca, sl g2 0 l.length l.length, .tuple #[pq gp5, iv 0], pq gp5, iv 0, .slice A l.length ca, iv (l.length : Nat), iv ((l.length % 512 : Nat) : Int), fv, fv, iv ((l.length / 512 : Nat) : Int), fv, fv, ud, ud, ud, ud, ud, ud, pq gp5, pq gp5, tv, tv, iv 0, tv, tv] 24) (by kernel_rfl) ?_
  refine then_n ?_
  refine wp_ret ?_
  refine then_r ?_
  refine bodyPost_ret (v := .tuple #[.pointer (some ⟨gp5, 0, none⟩), .bool true]) (results_t2 rfl (by kernel_rfl) (by kernel_rfl)) rfl ?_
  have S11 : St F w0 w6 (PDisk gp5 (Dsk.mk0 (secs l m)) :: L) := St.permT [PDisk gp5 (Dsk.mk0 (secs l m)), row g2 (bvs l) 5] [0] (by decide) rfl S7
  exact ⟨_, rfl, S11⟩
theorem open_nbad {F : Nat → Prop} {w0 w : World} {L : List Ast} {A : Option Addr} {l : List UInt8} {ca : Nat} (S : St F w0 w L) (hr : RoT F w0 L A l) (hlm : l.length ≤ 140737488351232) {n : Int} (h0 : l.length = 0) (hb : n < 1 ∨ 2048 < n) : Calls Try.prog 33 #[.int .i64 n, .slice A l.length ca] w fun e w' => e = .returned (.tuple #[.pointer none, .bool true]) ∧ St F w0 w' L := by
  refine wp_enter (fr [iv n, .slice A l.length ca] 66) Try.func33 rfl (by kernel_rfl) ?_
  refine wp_seq ?_
  refine wp_region_lit ?_
  refine pv pn ?_
  refine pv fv ?_
  refine wl_end (fr [iv n, .slice A l.length ca, ud, ud, pn, fv] 62) (by kernel_rfl) ?_
  refine then_n ?_
  refine wp_seq ?_
  refine wp_region_lit ?_
  refine pv (.slice A l.length ca) ?_
  refine pv (iv (l.length : Nat)) ?_
  refine wl_gv rfl (gv_int (k := .i64) (z := IntKind.i64.wrap (Int.tdiv (l.length : Nat) 512)) (z' := ((l.length / 512 : Nat) : Int)) (by kernel_rfl) (wr_eq (by rw [Int.tdiv_eq_ediv_of_nonneg (by omega)]; omega) (by omega) (by omega)) ?_)
  refine pv (iv ((l.length / 512 : Nat) : Int)) ?_
  refine wl_end (fr [iv n, .slice A l.length ca, ud, ud, pn, fv, iv ((l.length / 512 : Nat) : Int), ud, ud, ud, ud, .slice A l.length ca, iv (l.length : Nat), iv ((l.length / 512 : Nat) : Int)] 54) (by kernel_rfl) ?_
  refine then_n ?_
  refine wp_seq ?_
  refine wp_seq ?_
  refine wp_region_lit ?_
  refine pv (.slice A l.length ca) ?_
  refine pv (iv (l.length : Nat)) ?_
  refine wl_gv rfl (gv_dec (p := ((l.length : Nat) : Int) > 0) (by kernel_rfl) (fun hd1 => False.elim (by omega)) (fun _ => ?_))
  refine wl_end (fr [iv n, .slice A l.length ca, ud, ud, pn, fv, iv ((l.length / 512 : Nat) : Int), ud, ud, ud, ud, .slice A l.length ca, iv (l.length : Nat), iv ((l.length / 512 : Nat) : Int), .slice A l.length ca, iv (l.length : Nat), fv] 51) (by kernel_rfl) ?_
  refine then_n ?_
  refine wp_cond_false (by kernel_rfl) ?_
  refine wp_skip ?_
  refine then_n ?_
  refine wp_seq ?_
  refine wp_region_lit ?_
  refine pv (iv n) ?_
  refine wl_gv rfl (gv_call (args := #[.int .i64 n]) rfl Try.func20 (by kernel_rfl) rfl rfl (by kernel_rfl) ?_)
  refine Calls.mono (pd_new_bad hb S) ?_
  rintro _ w2 ⟨rfl, S3⟩
  refine ⟨_, rfl, ?_⟩
  refine pv (.tuple #[pn, iv 10]) ?_
  refine pv pn ?_
  refine pv (iv 10) ?_
  refine pv pn ?_
  refine pv (iv 10) ?_
  refine wl_end (fr [iv n, .slice A l.length ca, ud, ud, pn, fv, iv ((l.length / 512 : Nat) : Int), ud, ud, pn, iv 10, .slice A l.length ca, iv (l.length : Nat), iv ((l.length / 512 : Nat) : Int), .slice A l.length ca, iv (l.length : Nat), fv, ud, ud, ud, ud, ud, ud, ud, ud, ud, ud, ud, ud, ud, ud, ud, ud, ud, ud, ud, ud, ud, ud, ud, ud, ud, ud, ud, .tuple #[pn, iv 10], iv n, .tuple #[pn, iv 10], pn, iv 10] 19) (by kernel_rfl) ?_
  refine then_n ?_
  refine wp_seq ?_
  refine wp_seq ?_
  refine wp_region_lit ?_
  refine pv (iv n) ?_
  refine wl_gv rfl (gv_dec (p := (n : Int) < 1) (by kernel_rfl) (fun hb4 => ?_) (fun hb4 => ?_))
  · skip
    refine pv tv ?_
    refine wl_not (by kernel_rfl) ?_
    refine wl_not (by kernel_rfl) ?_
    refine pv tv ?_
    refine wl_end (fr [iv n, .slice A l.length ca, ud, ud, pn, fv, iv ((l.length / 512 : Nat) : Int), ud, ud, pn, iv 10, .slice A l.length ca, iv (l.length : Nat), iv ((l.length / 512 : Nat) : Int), .slice A l.length ca, iv (l.length : Nat), fv, ud, ud, ud, ud, ud, ud, ud, ud, ud, ud, ud, ud, ud, ud, ud, ud, ud, ud, ud, ud, ud, ud, ud, ud, ud, ud, ud, .tuple #[pn, iv 10], iv n, .tuple #[pn, iv 10], pn, iv 10, iv n, tv, tv, ud, ud, tv] 13) (by kernel_rfl) ?_
    refine then_n ?_
    refine wp_cond_true (by kernel_rfl) ?_
    refine wp_seq ?_
    refine wp_region_lit ?_
    refine pv pn ?_
    refine pv tv ?_
    refine pv tv ?_
    refine wl_when (by kernel_rfl) (gv_val (v := .int .i64 10) (w' := w2) (by kernel_rfl) ?_)
    refine wl_when (by kernel_rfl) (gv_ne (x := 10) (y := 0) (by kernel_rfl) (fun _ => ?_) (fun hd5 => False.elim (absurd hd5 (by decide))))
    refine pv tv ?_
    refine pv pn ?_
    refine pv tv ?_
    refine wl_end (fr [iv n, .slice A l.length ca, ud, ud, pn, tv, iv ((l.length / 512 : Nat) : Int), ud, ud, pn, iv 10, .slice A l.length ca, iv (l.length : Nat), iv ((l.length / 512 : Nat) : Int), .slice A l.length ca, iv (l.length : Nat), fv, ud, ud, ud, ud, ud, ud, ud, ud, ud, ud, ud, ud, ud, ud, ud, ud, ud, ud, ud, ud, ud, ud, ud, ud, ud, ud, ud, .tuple #[pn, iv 10], iv n, .tuple #[pn, iv 10], pn, iv 10, iv n, tv, tv, ud, ud, tv, pn, tv, tv, iv 10, tv, tv] 7) (by kernel_rfl) ?_
    refine then_n ?_
    refine wp_ret ?_
    refine then_r ?_
    refine bodyPost_ret (v := .tuple #[.pointer none, .bool true]) (results_t2 rfl (by kernel_rfl) (by kernel_rfl)) rfl ?_
    exact ⟨rfl, S3⟩
  · skip
    refine pv fv ?_
    refine wl_when (by kernel_rfl) (gv_val (v := .int .i64 n) (w' := w2) (by kernel_rfl) ?_)
    refine wl_when (by kernel_rfl) (gv_dec (p := (n : Int) > 2048) (by kernel_rfl) (fun _ => ?_) (fun hd6 => False.elim (by omega)))
    refine pv tv ?_
    refine wl_end (fr [iv n, .slice A l.length ca, ud, ud, pn, fv, iv ((l.length / 512 : Nat) : Int), ud, ud, pn, iv 10, .slice A l.length ca, iv (l.length : Nat), iv ((l.length / 512 : Nat) : Int), .slice A l.length ca, iv (l.length : Nat), fv, ud, ud, ud, ud, ud, ud, ud, ud, ud, ud, ud, ud, ud, ud, ud, ud, ud, ud, ud, ud, ud, ud, ud, ud, ud, ud, ud, .tuple #[pn, iv 10], iv n, .tuple #[pn, iv 10], pn, iv 10, iv n, fv, fv, iv n, tv, tv] 13) (by kernel_rfl) ?_
    refine then_n ?_
    refine wp_cond_true (by kernel_rfl) ?_
    refine wp_seq ?_
    refine wp_region_lit ?_
    refine pv pn ?_
    refine pv tv ?_
    refine pv tv ?_
    refine wl_when (by kernel_rfl) (gv_val (v := .int .i64 10) (w' := w2) (by kernel_rfl) ?_)
    refine wl_when (by kernel_rfl) (gv_ne (x := 10) (y := 0) (by kernel_rfl) (fun _ => ?_) (fun hd7 => False.elim (absurd hd7 (by decide))))
    refine pv tv ?_
    refine pv pn ?_
    refine pv tv ?_
    refine wl_end (fr [iv n, .slice A l.length ca, ud, ud, pn, tv, iv ((l.length / 512 : Nat) : Int), ud, ud, pn, iv 10, .slice A l.length ca, iv (l.length : Nat), iv ((l.length / 512 : Nat) : Int), .slice A l.length ca, iv (l.length : Nat), fv, ud, ud, ud, ud, ud, ud, ud, ud, ud, ud, ud, ud, ud, ud, ud, ud, ud, ud, ud, ud, ud, ud, ud, ud, ud, ud, ud, .tuple #[pn, iv 10], iv n, .tuple #[pn, iv 10], pn, iv 10, iv n, fv, fv, iv n, tv, tv, pn, tv, tv, iv 10, tv, tv] 7) (by kernel_rfl) ?_
    refine then_n ?_
    refine wp_ret ?_
    refine then_r ?_
    refine bodyPost_ret (v := .tuple #[.pointer none, .bool true]) (results_t2 rfl (by kernel_rfl) (by kernel_rfl)) rfl ?_
    exact ⟨rfl, S3⟩
theorem open_ngood {F : Nat → Prop} {w0 w : World} {L : List Ast} {A : Option Addr} {l : List UInt8} {ca : Nat} (S : St F w0 w L) (hr : RoT F w0 L A l) (hlm : l.length ≤ 140737488351232) {m : Nat} (h0 : l.length = 0) (h1 : 1 ≤ m) (h2 : m ≤ 2048) : Calls Try.prog 33 #[.int .i64 ((m : Nat) : Int), .slice A l.length ca] w fun e w' => ∃ gd, e = .returned (.tuple #[.pointer (some ⟨gd, 0, none⟩), .bool true]) ∧ St F w0 w' (PDisk gd (Dsk.mk0 (List.replicate m zsec)) :: L) := by
  refine wp_enter (fr [iv ((m : Nat) : Int), .slice A l.length ca] 66) Try.func33 rfl (by kernel_rfl) ?_
  refine wp_seq ?_
  refine wp_region_lit ?_
  refine pv pn ?_
  refine pv fv ?_
  refine wl_end (fr [iv ((m : Nat) : Int), .slice A l.length ca, ud, ud, pn, fv] 62) (by kernel_rfl) ?_
  refine then_n ?_
  refine wp_seq ?_
  refine wp_region_lit ?_
  refine pv (.slice A l.length ca) ?_
  refine pv (iv (l.length : Nat)) ?_
  refine wl_gv rfl (gv_int (k := .i64) (z := IntKind.i64.wrap (Int.tdiv (l.length : Nat) 512)) (z' := ((l.length / 512 : Nat) : Int)) (by kernel_rfl) (wr_eq (by rw [Int.tdiv_eq_ediv_of_nonneg (by omega)]; omega) (by omega) (by omega)) ?_)
  refine pv (iv ((l.length / 512 : Nat) : Int)) ?_
  refine wl_end (fr [iv ((m : Nat) : Int), .slice A l.length ca, ud, ud, pn, fv, iv ((l.length / 512 : Nat) : Int), ud, ud, ud, ud, .slice A l.length ca, iv (l.length : Nat), iv ((l.length / 512 : Nat) : Int)] 54) (by kernel_rfl) ?_
  refine then_n ?_
  refine wp_seq ?_
  refine wp_seq ?_
  refine wp_region_lit ?_
  refine pv (.slice A l.length ca) ?_
  refine pv (iv (l.length : Nat)) ?_
  refine wl_gv rfl (gv_dec (p := ((l.length : Nat) : Int) > 0) (by kernel_rfl) (fun hd1 => False.elim (by omega)) (fun _ => ?_))
  refine wl_end (fr [iv ((m : Nat) : Int), .slice A l.length ca, ud, ud, pn, fv, iv ((l.length / 512 : Nat) : Int), ud, ud, ud, ud, .slice A l.length ca, iv (l.length : Nat), iv ((l.length / 512 : Nat) : Int), .slice A l.length ca, iv (l.length : Nat), fv] 51) (by kernel_rfl) ?_
  refine then_n ?_
  refine wp_cond_false (by kernel_rfl) ?_
  refine wp_skip ?_
  refine then_n ?_
  refine wp_seq ?_
  refine wp_region_lit ?_
  refine pv (iv ((m : Nat) : Int)) ?_
  refine wl_gv rfl (gv_call (args := #[.int .i64 ((m : Nat) : Int)]) rfl Try.func20 (by kernel_rfl) rfl rfl (by kernel_rfl) ?_)
  refine Calls.mono (pd_new h1 h2 S) ?_
  rintro _ w3 ⟨gp2, rfl, S4⟩
  refine ⟨_, rfl, ?_⟩
  refine pv (.tuple #[pq gp2, iv 0]) ?_
  refine pv (pq gp2) ?_
  refine pv (iv 0) ?_
  refine pv (pq gp2) ?_
  refine pv (iv 0) ?_
  refine wl_end (fr [iv ((m : Nat) : Int), .slice A l.length ca, ud, ud, pn, fv, iv ((l.length / 512 : Nat) : Int), ud, ud, pq gp2, iv 0, .slice A l.length ca, iv (l.length : Nat), iv ((l.length / 512 : Nat) : Int), .slice A l.length ca, iv (l.length : Nat), fv, ud, ud, ud, ud, ud, ud, ud, ud, ud, ud, ud, ud, ud, ud, ud, ud, ud, ud, ud, ud, ud, ud, ud, ud, ud, ud, ud, .tuple #[pq gp2, iv 0], iv ((m : Nat) : Int), .tuple #[pq gp2, iv 0], pq gp2, iv 0] 19) (by kernel_rfl) ?_
  refine then_n ?_
  refine wp_seq ?_
  refine wp_seq ?_
  refine wp_region_lit ?_
  refine pv (iv ((m : Nat) : Int)) ?_
  refine wl_gv rfl (gv_dec (p := (((m : Nat) : Int) : Int) < 1) (by kernel_rfl) (fun hd5 => False.elim (by omega)) (fun _ => ?_))
  refine pv fv ?_
  refine wl_when (by kernel_rfl) (gv_val (v := .int .i64 ((m : Nat) : Int)) (w' := w3) (by kernel_rfl) ?_)
  refine wl_when (by kernel_rfl) (gv_dec (p := (((m : Nat) : Int) : Int) > 2048) (by kernel_rfl) (fun hd6 => False.elim (by omega)) (fun _ => ?_))
  refine pv fv ?_
  refine wl_end (fr [iv ((m : Nat) : Int), .slice A l.length ca, ud, ud, pn, fv, iv ((l.length / 512 : Nat) : Int), ud, ud, pq gp2, iv 0, .slice A l.length ca, iv (l.length : Nat), iv ((l.length / 512 : Nat) : Int), .slice A l.length ca, iv (l.length : Nat), fv, ud, ud, ud, ud, ud, ud, ud, ud, ud, ud, ud, ud, ud, ud, ud, ud, ud, ud, ud, ud, ud, ud, ud, ud, ud, ud, ud, .tuple #[pq gp2, iv 0], iv ((m : Nat) : Int), .tuple #[pq gp2, iv 0], pq gp2, iv 0, iv ((m : Nat) : Int), fv, fv, iv ((m : Nat) : Int), fv, fv] 13) (by kernel_rfl) ?_
  refine then_n ?_
  refine wp_cond_false (by kernel_rfl) ?_
  refine wp_skip ?_
  refine then_n ?_
  refine wp_seq ?_
  refine wp_region_lit ?_
  refine pv (pq gp2) ?_
  refine pv (pq gp2) ?_
  refine pv tv ?_
  refine pv tv ?_
  refine wl_when (by kernel_rfl) (gv_val (v := .int .i64 0) (w' := w3) (by kernel_rfl) ?_)
  refine wl_when (by kernel_rfl) (gv_eq (x := 0) (y := 0) (by kernel_rfl) (fun _ => ?_) (fun hd7 => False.elim (hd7 rfl)))
  refine pv tv ?_
  refine pv (pq gp2) ?_
  refine pv tv ?_
  refine wl_end (fr [iv ((m : Nat) : Int), .slice A l.length ca, ud, ud, pq gp2, tv, iv ((l.length / 512 : Nat) : Int), ud, ud, pq gp2, iv 0, .slice A l.length ca, iv (l.length : Nat), iv ((l.length / 512 : Nat) : Int), .slice A l.length ca, iv (l.length : Nat), fv, ud, ud, ud, ud, ud, ud, ud, ud, ud, ud, ud, ud, ud, ud, ud, ud, ud, ud, ud, ud, ud, ud, ud, ud, ud, ud, ud, .tuple #[pq gp2, iv 0], iv ((m : Nat) : Int), .tuple #[pq gp2, iv 0], pq gp2, iv 0, iv ((m : Nat) : Int), fv, fv, iv ((m : Nat) : Int), fv, fv, ud, ud, ud, ud, ud, ud, pq gp2, pq gp2, tv, tv, iv 0, tv, tv] 0) (by kernel_rfl) ?_
  refine then_n ?_
  refine wp_ret ?_
  refine bodyPost_ret (v := .tuple #[.pointer (some ⟨gp2, 0, none⟩), .bool true]) (results_t2 rfl (by kernel_rfl) (by kernel_rfl)) rfl ?_
  have S8 : St F w0 w3 (PDisk gp2 (Dsk.mk0 (List.replicate m zsec)) :: L) := St.permT [PDisk gp2 (Dsk.mk0 (List.replicate m zsec))] [0] (by decide) rfl S4
  exact ⟨_, rfl, S8⟩
/-- What open hands back: nothing at all, or a disk with nothing pending. -/
theorem open_all {F : Nat → Prop} {w0 w : World} {L : List Ast} {A : Option Addr} {l : List UInt8} {ca : Nat} (S : St F w0 w L) (hr : RoT F w0 L A l) (hlm : l.length ≤ 140737488351232) (n : Int) : Calls Try.prog 33 #[.int .i64 n, .slice A l.length ca] w fun e w' => (e = .returned (.tuple #[.pointer none, .bool true]) ∧ St F w0 w' L) ∨ ∃ gd s, e = .returned (.tuple #[.pointer (some ⟨gd, 0, none⟩), .bool true]) ∧ s.pend = [] ∧ St F w0 w' (PDisk gd s :: L) := by
  by_cases h0 : 0 < l.length
  · by_cases ho : l.length % 512 = 0
    · by_cases hb : 2048 < l.length / 512
      · exact (open_bad S hr hlm h0 ho hb).mono fun e w' h => .inl h
      · refine (open_good S hr hlm (m := l.length / 512) h0 (by omega) (by omega) (by omega)).mono fun e w' h => .inr ?_
        obtain ⟨gd, h1, h2⟩ := h
        exact ⟨gd, _, h1, rfl, h2⟩
    · exact (open_odd S hr hlm h0 ho).mono fun e w' h => .inl h
  · by_cases hb : n < 1 ∨ 2048 < n
    · exact (open_nbad S hr hlm (by omega) hb).mono fun e w' h => .inl h
    · obtain ⟨m, rfl⟩ : ∃ m : Nat, n = (m : Int) := ⟨n.toNat, by omega⟩
      refine (open_ngood S hr hlm (by omega) (by omega) (by omega)).mono fun e w' h => .inr ?_
      obtain ⟨gd, h1, h2⟩ := h
      exact ⟨gd, _, h1, rfl, h2⟩
/-- A step whose answers are let go. -/
def Dsk.actR (s : Dsk) (kind at_ : Int) (d : List UInt8) (ps : List Pick) : Dsk :=
  if kind = 1 then (s.readR at_).1 else if kind = 2 then (s.writeR at_ d).1 else if kind = 3 then s.flushR.1 else if kind = 4 then s.fuseR at_ else if kind = 6 then s.crashR ps else if kind = 7 then { s with life := inc s.life } else s
theorem actR_pend (s : Dsk) (kind at_ : Int) (d : List UInt8) (ps : List Pick) : (s.actR kind at_ d ps).pend.length ≤ s.pend.length + 1 := by
  unfold Dsk.actR
  split
  · rw [readR_pend]; exact Nat.le_succ _
  · split
    · exact writeR_pend s at_ d
    · split
      · exact flushR_pend s
      · split
        · exact fuseR_pend s at_
        · split
          · exact Nat.zero_le _
          · split <;> exact Nat.le_succ _
theorem act_all {F : Nat → Prop} {w0 w : World} {L : List Ast} {gd : Nat} {s : Dsk} {kind at_ : Int} {A A2 : Option Addr} {d : List UInt8} {ps : List Pick} {cd cp : Nat} (S : St F w0 w (PDisk gd s :: L)) (hd : RoT F w0 L A d) (hp : RoV F w0 L A2 (picksV ps)) (hat : at_ ≤ 9223372036854775807) (hdm : d.length ≤ 140737488355328) (hpm : ps.length * 24 ≤ 140737488355328) (hpn : s.pend.length < 4398046511104) :
    Calls Try.prog 38 #[.pointer (some ⟨gd, 0, none⟩), .agg #[.int .i64 kind, .int .i64 at_, .slice A d.length cd, .slice A2 ps.length cp]] w fun e w' => e = .returned (.tuple #[]) ∧ St F w0 w' (PDisk gd (s.actR kind at_ d ps) :: L) := by
  refine wp_enter (fr [pq gd, .agg #[iv kind, iv at_, .slice A d.length cd, .slice A2 ps.length cp]] 60) Try.func38 rfl (by kernel_rfl) ?_
  refine wp_seq ?_
  refine wp_region_lit ?_
  refine wl_gv rfl (gv_box (v := .agg #[.int .i64 kind, .int .i64 at_, .slice A d.length cd, .slice A2 ps.length cp]) S rfl (by kernel_rfl) (fun g1 w2 hg3 S4 => ?_))
  refine wl_end (fr [pq gd, .agg #[iv kind, iv at_, .slice A d.length cd, .slice A2 ps.length cp], ud, pq g1] 58) (by kernel_rfl) ?_
  refine then_n ?_
  refine wp_seq ?_
  refine wp_region_lit ?_
  refine pv (pq g1) ?_
  refine wl_gv rfl (gv_ldR (v := .int .i64 kind) rfl (by kernel_rfl) (by kernel_rfl) (((S4.blk 0 rfl).cell 0).trans rfl) ?_)
  refine wl_end (fr [pq gd, .agg #[iv kind, iv at_, .slice A d.length cd, .slice A2 ps.length cp], ud, pq g1, pq g1, iv kind] 56) (by kernel_rfl) ?_
  refine then_n ?_
  refine wp_block ?_
  refine wp_seq ?_
  refine wp_region_lit ?_
  refine wl_gv rfl (gv_eq (x := kind) (y := 1) (by kernel_rfl) (fun k1 => ?_) (fun k1 => ?_))
  · skip
    refine pv tv ?_
    refine wl_end (fr [pq gd, .agg #[iv kind, iv at_, .slice A d.length cd, .slice A2 ps.length cp], ud, pq g1, pq g1, iv kind, tv, tv] 54) (by kernel_rfl) ?_
    refine then_n ?_
    refine wp_cond_true (by kernel_rfl) ?_
    refine wp_region_lit ?_
    refine pv (pq gd) ?_
    refine pv (po g1 1) ?_
    refine wl_gv rfl (gv_ldR (v := .int .i64 at_) rfl (by kernel_rfl) (by kernel_rfl) (((S4.blk 0 rfl).cell 1).trans rfl) ?_)
    refine wl_gv rfl (gv_call (args := #[.pointer (some ⟨gd, 0, none⟩), .int .i64 at_]) rfl Try.func29 (by kernel_rfl) rfl rfl (by kernel_rfl) ?_)
    have S5 : St F w0 w2 (PDisk gd s :: row g1 #[.int .i64 kind, .int .i64 at_, .slice A d.length cd, .slice A2 ps.length cp] 49 :: L) := St.permT [row g1 #[.int .i64 kind, .int .i64 at_, .slice A d.length cd, .slice A2 ps.length cp] 49, PDisk gd s] [1, 0] (by decide) rfl S4
    refine Calls.mono (pd_read S5) ?_
    rintro _ w6 ⟨v8, rfl, S7⟩
    refine ⟨_, rfl, ?_⟩
    refine wl_end (fr [pq gd, .agg #[iv kind, iv at_, .slice A d.length cd, .slice A2 ps.length cp], ud, pq g1, pq g1, iv kind, tv, tv, pq gd, po g1 1, iv at_, .tuple #[v8, iv ((s.readR at_).2.2)]] 50) (by kernel_rfl) ?_
    refine inb_n ?_
    refine bodyPost_end (v := .tuple #[]) (results_none rfl _ _ _) rfl ?_
    have S9 : St F w0 w6 (PDisk gd (s.readR at_).1 :: L) := St.permT [bytesA v8 (s.readR at_).2.1, PDisk gd (s.readR at_).1, row g1 #[.int .i64 kind, .int .i64 at_, .slice A d.length cd, .slice A2 ps.length cp] 49] [1] (by decide) rfl S7
    have hx : s.actR kind at_ d ps = (s.readR at_).1 := by
      unfold Dsk.actR; rw [if_pos k1]
    exact ⟨rfl, by rw [hx]; exact S9⟩
  · skip
    refine pv fv ?_
    refine wl_end (fr [pq gd, .agg #[iv kind, iv at_, .slice A d.length cd, .slice A2 ps.length cp], ud, pq g1, pq g1, iv kind, fv, fv] 54) (by kernel_rfl) ?_
    refine then_n ?_
    refine wp_cond_false (by kernel_rfl) ?_
    refine wp_seq ?_
    refine wp_region_lit ?_
    refine wl_gv rfl (gv_eq (x := kind) (y := 2) (by kernel_rfl) (fun k2 => ?_) (fun k2 => ?_))
    · skip
      refine pv tv ?_
      refine wl_end (fr [pq gd, .agg #[iv kind, iv at_, .slice A d.length cd, .slice A2 ps.length cp], ud, pq g1, pq g1, iv kind, fv, fv, ud, ud, ud, ud, tv, tv] 48) (by kernel_rfl) ?_
      refine then_n ?_
      refine wp_cond_true (by kernel_rfl) ?_
      refine wp_region_phu (γ := Nat) 7 [5, 6] (fun (c_ : Nat) (i_ : Nat) => (match i_ with | 0 => .pointer (some ⟨gd, 0, none⟩) | 1 => .pointer (some ⟨g1, 1, none⟩) | 2 => .int .i64 at_ | 3 => .pointer (some ⟨g1, 2, none⟩) | 4 => .slice A d.length cd | 5 => .slice (some ⟨c_, 0, none⟩) d.length d.length | 6 => .int .i64 ((s.writeR at_ d).2) | _ => undef : Value)) (fun (c_ : Nat) (p_ : Nat) (w_ : World) => (match p_ with | 0 => St F w0 w_ (row g1 #[.int .i64 kind, .int .i64 at_, .slice A d.length cd, .slice A2 ps.length cp] 49 :: PDisk gd s :: L) | 1 => St F w0 w_ (row c_ (bvs d) 5 :: row g1 #[.int .i64 kind, .int .i64 at_, .slice A d.length cd, .slice A2 ps.length cp] 49 :: PDisk gd s :: L) | _ => St F w0 w_ (PDisk gd (s.writeR at_ d).1 :: row c_ (bvs d) 5 :: row g1 #[.int .i64 kind, .int .i64 at_, .slice A d.length cd, .slice A2 ps.length cp] 49 :: L) : Prop)) (0) (by kernel_rfl) (by kernel_rfl) (by kernel_rfl) (by kernel_rfl) (S4.drew) ?_ ?_ ?_
      · intro i_ c_ p_ vals_ w1 hi_ hiE_ hp_ hk_ hu_ hPh_ hd_
        rcases i_ with _ | _ | _ | _ | _ | _ | _ | i_
        · skip
          refine told_free rfl rfl (gv_env ((⟨Array.replicate 62 undef, []⟩ : Act).put (some 0) (.pointer (some ⟨gd, 0, none⟩))) (by kernel_rfl) (xs := [.tmp 0]) (by kernel_rfl) (alike_cons (fill_past (by kernel_rfl) (by kernel_rfl)) alike_nil) (gv_val (v := .pointer (some ⟨gd, 0, none⟩)) (w' := w1) (by kernel_rfl) ?_))
          exact ⟨rfl, rfl⟩
        · skip
          refine told_free rfl rfl (gv_env ((⟨Array.replicate 62 undef, []⟩ : Act).put (some 3) (.pointer (some ⟨g1, 0, none⟩))) (by kernel_rfl) (xs := [.tmp 3]) (by kernel_rfl) (alike_cons (fill_past (by kernel_rfl) (by kernel_rfl)) alike_nil) (gv_val (v := .pointer (some ⟨g1, 1, none⟩)) (w' := w1) (by kernel_rfl) ?_))
          exact ⟨rfl, rfl⟩
        · skip
          rcases p_ with _ | _ | _ | p_
          · skip
            have S12 : St F w0 w1 (row g1 #[.int .i64 kind, .int .i64 at_, .slice A d.length cd, .slice A2 ps.length cp] 49 :: PDisk gd s :: L) := hPh_
            refine told_free rfl rfl (gv_env ((⟨Array.replicate 62 undef, []⟩ : Act).put (some 15) (.pointer (some ⟨g1, 1, none⟩))) (by kernel_rfl) (xs := [.tmp 15]) (by kernel_rfl) (alike_cons (fill_at (k := 1) (by kernel_rfl) (by kernel_rfl) ((hd_ 1 (by kernel_rfl)).trans (by kernel_rfl))) alike_nil) (gv_ldR (v := .int .i64 at_) rfl (by kernel_rfl) (by kernel_rfl) (((S12.blk 0 rfl).cell 1).trans rfl) ?_))
            exact ⟨rfl, rfl⟩
          · skip
            have S13 : St F w0 w1 (row c_ (bvs d) 5 :: row g1 #[.int .i64 kind, .int .i64 at_, .slice A d.length cd, .slice A2 ps.length cp] 49 :: PDisk gd s :: L) := hPh_
            refine told_free rfl rfl (gv_env ((⟨Array.replicate 62 undef, []⟩ : Act).put (some 15) (.pointer (some ⟨g1, 1, none⟩))) (by kernel_rfl) (xs := [.tmp 15]) (by kernel_rfl) (alike_cons (fill_at (k := 1) (by kernel_rfl) (by kernel_rfl) ((hd_ 1 (by kernel_rfl)).trans (by kernel_rfl))) alike_nil) (gv_ldR (v := .int .i64 at_) rfl (by kernel_rfl) (by kernel_rfl) (((S13.blk 1 rfl).cell 1).trans rfl) ?_))
            exact ⟨rfl, rfl⟩
          · skip
            exact absurd (hu_ 1 (by decide) (by kernel_rfl)) (by decide)
          · exact absurd hp_ (by simp)
        · skip
          refine told_free rfl rfl (gv_env ((⟨Array.replicate 62 undef, []⟩ : Act).put (some 3) (.pointer (some ⟨g1, 0, none⟩))) (by kernel_rfl) (xs := [.tmp 3]) (by kernel_rfl) (alike_cons (fill_past (by kernel_rfl) (by kernel_rfl)) alike_nil) (gv_val (v := .pointer (some ⟨g1, 2, none⟩)) (w' := w1) (by kernel_rfl) ?_))
          exact ⟨rfl, rfl⟩
        · skip
          rcases p_ with _ | _ | _ | p_
          · skip
            have S15 : St F w0 w1 (row g1 #[.int .i64 kind, .int .i64 at_, .slice A d.length cd, .slice A2 ps.length cp] 49 :: PDisk gd s :: L) := hPh_
            refine told_free rfl rfl (gv_env ((⟨Array.replicate 62 undef, []⟩ : Act).put (some 17) (.pointer (some ⟨g1, 2, none⟩))) (by kernel_rfl) (xs := [.tmp 17]) (by kernel_rfl) (alike_cons (fill_at (k := 3) (by kernel_rfl) (by kernel_rfl) ((hd_ 3 (by kernel_rfl)).trans (by kernel_rfl))) alike_nil) (gv_ldR (v := .slice A d.length cd) rfl (by kernel_rfl) (by kernel_rfl) (((S15.blk 0 rfl).cell 2).trans rfl) ?_))
            exact ⟨rfl, rfl⟩
          · skip
            exact absurd (hu_ 0 (by decide) (by kernel_rfl)) (by decide)
          · skip
            exact absurd (hu_ 0 (by decide) (by kernel_rfl)) (by decide)
          · exact absurd hp_ (by simp)
        · skip
          exact absurd hiE_ (by decide)
        · skip
          exact absurd hiE_ (by decide)
        · exact absurd hi_ (by omega)
      · intro k_ c_ vals_ w1 hk_ hPh_ hd_
        rcases k_ with _ | _ | k_
        · skip
          have S16 : St F w0 w1 (row g1 #[.int .i64 kind, .int .i64 at_, .slice A d.length cd, .slice A2 ps.length cp] 49 :: PDisk gd s :: L) := hPh_
          refine told_free rfl rfl (gv_env ((⟨Array.replicate 62 undef, []⟩ : Act).put (some 18) (.slice A d.length cd)) (by kernel_rfl) (xs := [.func 27, .tmp 18]) (by kernel_rfl) (alike_cons eval_fn (alike_cons (fill_at (k := 4) (by kernel_rfl) (by kernel_rfl) ((hd_ 4 (by kernel_rfl)).trans (by kernel_rfl))) alike_nil)) (gv_call (args := #[.slice A d.length cd]) rfl Try.func27 (by kernel_rfl) rfl rfl (by kernel_rfl) ?_))
          refine Calls.mono (ltwinS (l := d) S16 (RoT.more (RoT.more hd)) hdm) ?_
          rintro _ w18 ⟨g17, rfl, S19⟩
          refine ⟨_, rfl, ?_⟩
          refine ⟨(g17), rfl, ?_, S19⟩
          intro i_ hi_ hne_ hdp_
          rcases i_ with _ | _ | _ | _ | _ | _ | _ | i_
          · rfl
          · rfl
          · rfl
          · rfl
          · rfl
          · exact absurd rfl hne_
          · exact (dep_no hdp_ (by kernel_rfl)).elim
          · exact absurd hi_ (by omega)
        · skip
          have S20 : St F w0 w1 (row c_ (bvs d) 5 :: row g1 #[.int .i64 kind, .int .i64 at_, .slice A d.length cd, .slice A2 ps.length cp] 49 :: PDisk gd s :: L) := hPh_
          refine told_free rfl rfl (gv_env ((((⟨Array.replicate 62 undef, []⟩ : Act).put (some 14) (.pointer (some ⟨gd, 0, none⟩))).put (some 16) (.int .i64 at_)).put (some 19) (.slice (some ⟨c_, 0, none⟩) d.length d.length)) (by kernel_rfl) (xs := [.func 35, .tmp 14, .tmp 16, .tmp 19]) (by kernel_rfl) (alike_cons eval_fn (alike_cons (fill_at (k := 0) (by kernel_rfl) (by kernel_rfl) ((hd_ 0 (by kernel_rfl)).trans (by kernel_rfl))) (alike_cons (fill_at (k := 2) (by kernel_rfl) (by kernel_rfl) ((hd_ 2 (by kernel_rfl)).trans (by kernel_rfl))) (alike_cons (fill_at (k := 5) (by kernel_rfl) (by kernel_rfl) ((hd_ 5 (by kernel_rfl)).trans (by kernel_rfl))) alike_nil)))) (gv_call (args := #[.pointer (some ⟨gd, 0, none⟩), .int .i64 at_, .slice (some ⟨c_, 0, none⟩) d.length d.length]) rfl Try.func35 (by kernel_rfl) rfl rfl (by kernel_rfl) ?_))
          have S21 : St F w0 w1 (PDisk gd s :: row c_ (bvs d) 5 :: row g1 #[.int .i64 kind, .int .i64 at_, .slice A d.length cd, .slice A2 ps.length cp] 49 :: L) := St.permT [row c_ (bvs d) 5, row g1 #[.int .i64 kind, .int .i64 at_, .slice A d.length cd, .slice A2 ps.length cp] 49, PDisk gd s] [2, 0, 1] (by decide) rfl S20
          refine Calls.mono (pd_write S21 (RoT.item 0 rfl 0 d.length d (by rw [List.drop_zero, List.take_length])) (by omega) hpn) ?_
          rintro _ w22 ⟨rfl, S23⟩
          refine ⟨_, rfl, ?_⟩
          refine ⟨(c_), rfl, ?_, S23⟩
          intro i_ hi_ hne_ hdp_
          rcases i_ with _ | _ | _ | _ | _ | _ | _ | i_
          · rfl
          · rfl
          · rfl
          · rfl
          · rfl
          · rfl
          · exact absurd rfl hne_
          · exact absurd hi_ (by omega)
        · exact absurd hk_ (by simp)
      · intro c_ w1 hPh_
        have S24 : St F w0 w1 (PDisk gd (s.writeR at_ d).1 :: row c_ (bvs d) 5 :: row g1 #[.int .i64 kind, .int .i64 at_, .slice A d.length cd, .slice A2 ps.length cp] 49 :: L) := hPh_
        refine wl_frame (fr [pq gd, .agg #[iv kind, iv at_, .slice A d.length cd, .slice A2 ps.length cp], ud, pq g1, pq g1, iv kind, fv, fv, ud, ud, ud, ud, tv, tv, pq gd, po g1 1, iv at_, po g1 2, .slice A d.length cd, sl c_ 0 d.length d.length, iv ((s.writeR at_ d).2)] 41) (by kernel_rfl) ?_
        refine wl_end (fr [pq gd, .agg #[iv kind, iv at_, .slice A d.length cd, .slice A2 ps.length cp], ud, pq g1, pq g1, iv kind, fv, fv, ud, ud, ud, ud, tv, tv, pq gd, po g1 1, iv at_, po g1 2, .slice A d.length cd, sl c_ 0 d.length d.length, iv ((s.writeR at_ d).2)] 41) (by kernel_rfl) ?_
        refine inb_n ?_
        refine bodyPost_end (v := .tuple #[]) (results_none rfl _ _ _) rfl ?_
        have S25 : St F w0 w1 (PDisk gd (s.writeR at_ d).1 :: L) := St.permT [PDisk gd (s.writeR at_ d).1, row c_ (bvs d) 5, row g1 #[.int .i64 kind, .int .i64 at_, .slice A d.length cd, .slice A2 ps.length cp] 49] [0] (by decide) rfl S24
        have hx : s.actR kind at_ d ps = (s.writeR at_ d).1 := by
          unfold Dsk.actR; rw [if_neg k1, if_pos k2]
        exact ⟨rfl, by rw [hx]; exact S25⟩
    · skip
      refine pv fv ?_
      refine wl_end (fr [pq gd, .agg #[iv kind, iv at_, .slice A d.length cd, .slice A2 ps.length cp], ud, pq g1, pq g1, iv kind, fv, fv, ud, ud, ud, ud, fv, fv] 48) (by kernel_rfl) ?_
      refine then_n ?_
      refine wp_cond_false (by kernel_rfl) ?_
      refine wp_seq ?_
      refine wp_region_lit ?_
      refine wl_gv rfl (gv_eq (x := kind) (y := 3) (by kernel_rfl) (fun k3 => ?_) (fun k3 => ?_))
      · skip
        refine pv tv ?_
        refine wl_end (fr [pq gd, .agg #[iv kind, iv at_, .slice A d.length cd, .slice A2 ps.length cp], ud, pq g1, pq g1, iv kind, fv, fv, ud, ud, ud, ud, fv, fv, ud, ud, ud, ud, ud, ud, ud, tv, tv] 39) (by kernel_rfl) ?_
        refine then_n ?_
        refine wp_cond_true (by kernel_rfl) ?_
        refine wp_region_lit ?_
        refine pv (pq gd) ?_
        refine wl_gv rfl (gv_call (args := #[.pointer (some ⟨gd, 0, none⟩)]) rfl Try.func41 (by kernel_rfl) rfl rfl (by kernel_rfl) ?_)
        have S26 : St F w0 w2 (PDisk gd s :: row g1 #[.int .i64 kind, .int .i64 at_, .slice A d.length cd, .slice A2 ps.length cp] 49 :: L) := St.permT [row g1 #[.int .i64 kind, .int .i64 at_, .slice A d.length cd, .slice A2 ps.length cp] 49, PDisk gd s] [1, 0] (by decide) rfl S4
        refine Calls.mono (pd_flush S26) ?_
        rintro _ w27 ⟨rfl, S28⟩
        refine ⟨_, rfl, ?_⟩
        refine wl_end (fr [pq gd, .agg #[iv kind, iv at_, .slice A d.length cd, .slice A2 ps.length cp], ud, pq g1, pq g1, iv kind, fv, fv, ud, ud, ud, ud, fv, fv, ud, ud, ud, ud, ud, ud, ud, tv, tv, pq gd, iv s.flushR.2] 37) (by kernel_rfl) ?_
        refine inb_n ?_
        refine bodyPost_end (v := .tuple #[]) (results_none rfl _ _ _) rfl ?_
        have S29 : St F w0 w27 (PDisk gd s.flushR.1 :: L) := St.permT [PDisk gd s.flushR.1, row g1 #[.int .i64 kind, .int .i64 at_, .slice A d.length cd, .slice A2 ps.length cp] 49] [0] (by decide) rfl S28
        have hx : s.actR kind at_ d ps = s.flushR.1 := by
          unfold Dsk.actR; rw [if_neg k1, if_neg k2, if_pos k3]
        exact ⟨rfl, by rw [hx]; exact S29⟩
      · skip
        refine pv fv ?_
        refine wl_end (fr [pq gd, .agg #[iv kind, iv at_, .slice A d.length cd, .slice A2 ps.length cp], ud, pq g1, pq g1, iv kind, fv, fv, ud, ud, ud, ud, fv, fv, ud, ud, ud, ud, ud, ud, ud, fv, fv] 39) (by kernel_rfl) ?_
        refine then_n ?_
        refine wp_cond_false (by kernel_rfl) ?_
        refine wp_seq ?_
        refine wp_region_lit ?_
        refine wl_gv rfl (gv_eq (x := kind) (y := 4) (by kernel_rfl) (fun k4 => ?_) (fun k4 => ?_))
        · skip
          refine pv tv ?_
          refine wl_end (fr [pq gd, .agg #[iv kind, iv at_, .slice A d.length cd, .slice A2 ps.length cp], ud, pq g1, pq g1, iv kind, fv, fv, ud, ud, ud, ud, fv, fv, ud, ud, ud, ud, ud, ud, ud, fv, fv, ud, ud, tv, tv] 35) (by kernel_rfl) ?_
          refine then_n ?_
          refine wp_cond_true (by kernel_rfl) ?_
          refine wp_region_lit ?_
          refine pv (pq gd) ?_
          refine pv (po g1 1) ?_
          refine wl_gv rfl (gv_ldR (v := .int .i64 at_) rfl (by kernel_rfl) (by kernel_rfl) (((S4.blk 0 rfl).cell 1).trans rfl) ?_)
          refine wl_gv rfl (gv_call (args := #[.pointer (some ⟨gd, 0, none⟩), .int .i64 at_]) rfl Try.func40 (by kernel_rfl) rfl rfl (by kernel_rfl) ?_)
          have S30 : St F w0 w2 (PDisk gd s :: row g1 #[.int .i64 kind, .int .i64 at_, .slice A d.length cd, .slice A2 ps.length cp] 49 :: L) := St.permT [row g1 #[.int .i64 kind, .int .i64 at_, .slice A d.length cd, .slice A2 ps.length cp] 49, PDisk gd s] [1, 0] (by decide) rfl S4
          refine Calls.mono (pd_fuse hat S30) ?_
          rintro _ w31 ⟨rfl, S32⟩
          refine ⟨_, rfl, ?_⟩
          refine wl_end (fr [pq gd, .agg #[iv kind, iv at_, .slice A d.length cd, .slice A2 ps.length cp], ud, pq g1, pq g1, iv kind, fv, fv, ud, ud, ud, ud, fv, fv, ud, ud, ud, ud, ud, ud, ud, fv, fv, ud, ud, tv, tv, pq gd, po g1 1, iv at_, .tuple #[]] 31) (by kernel_rfl) ?_
          refine inb_n ?_
          refine bodyPost_end (v := .tuple #[]) (results_none rfl _ _ _) rfl ?_
          have S33 : St F w0 w31 (PDisk gd (s.fuseR at_) :: L) := St.permT [PDisk gd (s.fuseR at_), row g1 #[.int .i64 kind, .int .i64 at_, .slice A d.length cd, .slice A2 ps.length cp] 49] [0] (by decide) rfl S32
          have hx : s.actR kind at_ d ps = (s.fuseR at_) := by
            unfold Dsk.actR; rw [if_neg k1, if_neg k2, if_neg k3, if_pos k4]
          exact ⟨rfl, by rw [hx]; exact S33⟩
        · skip
          refine pv fv ?_
          refine wl_end (fr [pq gd, .agg #[iv kind, iv at_, .slice A d.length cd, .slice A2 ps.length cp], ud, pq g1, pq g1, iv kind, fv, fv, ud, ud, ud, ud, fv, fv, ud, ud, ud, ud, ud, ud, ud, fv, fv, ud, ud, fv, fv] 35) (by kernel_rfl) ?_
          refine then_n ?_
          refine wp_cond_false (by kernel_rfl) ?_
          refine wp_seq ?_
          refine wp_region_lit ?_
          refine wl_gv rfl (gv_eq (x := kind) (y := 6) (by kernel_rfl) (fun k6 => ?_) (fun k6 => ?_))
          · skip
            refine pv tv ?_
            refine wl_end (fr [pq gd, .agg #[iv kind, iv at_, .slice A d.length cd, .slice A2 ps.length cp], ud, pq g1, pq g1, iv kind, fv, fv, ud, ud, ud, ud, fv, fv, ud, ud, ud, ud, ud, ud, ud, fv, fv, ud, ud, fv, fv, ud, ud, ud, ud, tv, tv] 29) (by kernel_rfl) ?_
            refine then_n ?_
            refine wp_cond_true (by kernel_rfl) ?_
            refine wp_region_lit ?_
            refine pv (pq gd) ?_
            refine pv (po g1 3) ?_
            refine wl_gv rfl (gv_ldR (v := .slice A2 ps.length cp) rfl (by kernel_rfl) (by kernel_rfl) (((S4.blk 0 rfl).cell 3).trans rfl) ?_)
            refine wl_gv rfl (gv_call (args := #[.slice A2 ps.length cp]) rfl Try.func37 (by kernel_rfl) rfl rfl (by kernel_rfl) ?_)
            refine Calls.mono (tpicks (ps := ps) S4 (RoV.more (RoV.more hp)) hpm) ?_
            rintro _ w35 ⟨g34, rfl, S36⟩
            refine ⟨_, rfl, ?_⟩
            refine wl_gv rfl (gv_call (args := #[.pointer (some ⟨gd, 0, none⟩), .slice (some ⟨g34, 0, none⟩) ps.length ps.length]) rfl Try.func36 (by kernel_rfl) rfl rfl (by kernel_rfl) ?_)
            have S37 : St F w0 w35 (PDisk gd s :: row g34 ((picksV ps).toArray) 66 :: row g1 #[.int .i64 kind, .int .i64 at_, .slice A d.length cd, .slice A2 ps.length cp] 49 :: L) := St.permT [row g34 ((picksV ps).toArray) 66, row g1 #[.int .i64 kind, .int .i64 at_, .slice A d.length cd, .slice A2 ps.length cp] 49, PDisk gd s] [2, 0, 1] (by decide) rfl S36
            refine Calls.mono (pd_crash S37 (RoV.item 0 rfl) rfl (by omega)) ?_
            rintro _ w38 ⟨rfl, S39⟩
            refine ⟨_, rfl, ?_⟩
            refine wl_end (fr [pq gd, .agg #[iv kind, iv at_, .slice A d.length cd, .slice A2 ps.length cp], ud, pq g1, pq g1, iv kind, fv, fv, ud, ud, ud, ud, fv, fv, ud, ud, ud, ud, ud, ud, ud, fv, fv, ud, ud, fv, fv, ud, ud, ud, ud, tv, tv, pq gd, po g1 3, .slice A2 ps.length cp, sl g34 0 ps.length ps.length, .tuple #[]] 24) (by kernel_rfl) ?_
            refine inb_n ?_
            refine bodyPost_end (v := .tuple #[]) (results_none rfl _ _ _) rfl ?_
            have S40 : St F w0 w38 (PDisk gd (s.crashR ps) :: L) := St.permT [PDisk gd (s.crashR ps), row g34 ((picksV ps).toArray) 66, row g1 #[.int .i64 kind, .int .i64 at_, .slice A d.length cd, .slice A2 ps.length cp] 49] [0] (by decide) rfl S39
            have hx : s.actR kind at_ d ps = (s.crashR ps) := by
              unfold Dsk.actR; rw [if_neg k1, if_neg k2, if_neg k3, if_neg k4, if_pos k6]
            exact ⟨rfl, by rw [hx]; exact S40⟩
          · skip
            refine pv fv ?_
            refine wl_end (fr [pq gd, .agg #[iv kind, iv at_, .slice A d.length cd, .slice A2 ps.length cp], ud, pq g1, pq g1, iv kind, fv, fv, ud, ud, ud, ud, fv, fv, ud, ud, ud, ud, ud, ud, ud, fv, fv, ud, ud, fv, fv, ud, ud, ud, ud, fv, fv] 29) (by kernel_rfl) ?_
            refine then_n ?_
            refine wp_cond_false (by kernel_rfl) ?_
            refine wp_seq ?_
            refine wp_region_lit ?_
            refine wl_gv rfl (gv_eq (x := kind) (y := 7) (by kernel_rfl) (fun k7 => ?_) (fun k7 => ?_))
            · skip
              refine pv tv ?_
              refine wl_end (fr [pq gd, .agg #[iv kind, iv at_, .slice A d.length cd, .slice A2 ps.length cp], ud, pq g1, pq g1, iv kind, fv, fv, ud, ud, ud, ud, fv, fv, ud, ud, ud, ud, ud, ud, ud, fv, fv, ud, ud, fv, fv, ud, ud, ud, ud, fv, fv, ud, ud, ud, ud, ud, tv, tv] 22) (by kernel_rfl) ?_
              refine then_n ?_
              refine wp_cond_true (by kernel_rfl) ?_
              refine wp_region_lit ?_
              refine pv (pq gd) ?_
              refine wl_gv rfl (gv_call (args := #[.pointer (some ⟨gd, 0, none⟩)]) rfl Try.func66 (by kernel_rfl) rfl rfl (by kernel_rfl) ?_)
              have S41 : St F w0 w2 (PDisk gd s :: row g1 #[.int .i64 kind, .int .i64 at_, .slice A d.length cd, .slice A2 ps.length cp] 49 :: L) := St.permT [row g1 #[.int .i64 kind, .int .i64 at_, .slice A d.length cd, .slice A2 ps.length cp] 49, PDisk gd s] [1, 0] (by decide) rfl S4
              refine Calls.mono (pd_take S41) ?_
              rintro _ w42 ⟨rfl, S43⟩
              refine ⟨_, rfl, ?_⟩
              refine wl_end (fr [pq gd, .agg #[iv kind, iv at_, .slice A d.length cd, .slice A2 ps.length cp], ud, pq g1, pq g1, iv kind, fv, fv, ud, ud, ud, ud, fv, fv, ud, ud, ud, ud, ud, ud, ud, fv, fv, ud, ud, fv, fv, ud, ud, ud, ud, fv, fv, ud, ud, ud, ud, ud, tv, tv, pq gd, iv (inc s.life)] 20) (by kernel_rfl) ?_
              refine inb_n ?_
              refine bodyPost_end (v := .tuple #[]) (results_none rfl _ _ _) rfl ?_
              have S44 : St F w0 w42 (PDisk gd ({ s with life := inc s.life }) :: L) := St.permT [PDisk gd ({ s with life := inc s.life }), row g1 #[.int .i64 kind, .int .i64 at_, .slice A d.length cd, .slice A2 ps.length cp] 49] [0] (by decide) rfl S43
              have hx : s.actR kind at_ d ps = ({ s with life := inc s.life }) := by
                unfold Dsk.actR; rw [if_neg k1, if_neg k2, if_neg k3, if_neg k4, if_neg k6, if_pos k7]
              exact ⟨rfl, by rw [hx]; exact S44⟩
            · skip
              refine pv fv ?_
              refine wl_end (fr [pq gd, .agg #[iv kind, iv at_, .slice A d.length cd, .slice A2 ps.length cp], ud, pq g1, pq g1, iv kind, fv, fv, ud, ud, ud, ud, fv, fv, ud, ud, ud, ud, ud, ud, ud, fv, fv, ud, ud, fv, fv, ud, ud, ud, ud, fv, fv, ud, ud, ud, ud, ud, fv, fv] 22) (by kernel_rfl) ?_
              refine then_n ?_
              refine wp_cond_false (by kernel_rfl) ?_
              refine wp_seq ?_
              refine wp_region_lit ?_
              refine wl_gv rfl (gv_eq (x := kind) (y := 5) (by kernel_rfl) (fun k5 => ?_) (fun k5 => ?_))
              · skip
                refine pv tv ?_
                refine wl_end (fr [pq gd, .agg #[iv kind, iv at_, .slice A d.length cd, .slice A2 ps.length cp], ud, pq g1, pq g1, iv kind, fv, fv, ud, ud, ud, ud, fv, fv, ud, ud, ud, ud, ud, ud, ud, fv, fv, ud, ud, fv, fv, ud, ud, ud, ud, fv, fv, ud, ud, ud, ud, ud, fv, fv, ud, ud, tv, tv] 18) (by kernel_rfl) ?_
                refine then_n ?_
                refine wp_cond_true (by kernel_rfl) ?_
                refine wp_region_lit ?_
                refine pv (pq gd) ?_
                refine wl_gv rfl (gv_call (args := #[.pointer (some ⟨gd, 0, none⟩)]) rfl Try.func22 (by kernel_rfl) rfl rfl (by kernel_rfl) ?_)
                refine Calls.mono (pd_burnt S4 1 rfl) ?_
                rintro _ _ ⟨rfl, rfl⟩
                refine ⟨_, rfl, ?_⟩
                refine wl_end (fr [pq gd, .agg #[iv kind, iv at_, .slice A d.length cd, .slice A2 ps.length cp], ud, pq g1, pq g1, iv kind, fv, fv, ud, ud, ud, ud, fv, fv, ud, ud, ud, ud, ud, ud, ud, fv, fv, ud, ud, fv, fv, ud, ud, ud, ud, fv, fv, ud, ud, ud, ud, ud, fv, fv, ud, ud, tv, tv, pq gd, .bool (decide (s.left = 0))] 16) (by kernel_rfl) ?_
                refine inb_n ?_
                refine bodyPost_end (v := .tuple #[]) (results_none rfl _ _ _) rfl ?_
                have S45 : St F w0 w2 (PDisk gd s :: L) := St.permT [row g1 #[.int .i64 kind, .int .i64 at_, .slice A d.length cd, .slice A2 ps.length cp] 49, PDisk gd s] [1] (by decide) rfl S4
                have hx : s.actR kind at_ d ps = s := by
                  unfold Dsk.actR; rw [if_neg k1, if_neg k2, if_neg k3, if_neg k4, if_neg k6, if_neg k7]
                exact ⟨rfl, by rw [hx]; exact S45⟩
              · skip
                refine pv fv ?_
                refine wl_end (fr [pq gd, .agg #[iv kind, iv at_, .slice A d.length cd, .slice A2 ps.length cp], ud, pq g1, pq g1, iv kind, fv, fv, ud, ud, ud, ud, fv, fv, ud, ud, ud, ud, ud, ud, ud, fv, fv, ud, ud, fv, fv, ud, ud, ud, ud, fv, fv, ud, ud, ud, ud, ud, fv, fv, ud, ud, fv, fv] 18) (by kernel_rfl) ?_
                refine then_n ?_
                refine wp_cond_false (by kernel_rfl) ?_
                refine wp_seq ?_
                refine wp_region_lit ?_
                refine wl_gv rfl (gv_eq (x := kind) (y := 8) (by kernel_rfl) (fun k8 => ?_) (fun k8 => ?_))
                · skip
                  refine pv tv ?_
                  refine wl_end (fr [pq gd, .agg #[iv kind, iv at_, .slice A d.length cd, .slice A2 ps.length cp], ud, pq g1, pq g1, iv kind, fv, fv, ud, ud, ud, ud, fv, fv, ud, ud, ud, ud, ud, ud, ud, fv, fv, ud, ud, fv, fv, ud, ud, ud, ud, fv, fv, ud, ud, ud, ud, ud, fv, fv, ud, ud, fv, fv, ud, ud, tv, tv] 14) (by kernel_rfl) ?_
                  refine then_n ?_
                  refine wp_cond_true (by kernel_rfl) ?_
                  refine wp_region_lit ?_
                  refine pv (pq gd) ?_
                  refine wl_gv rfl (gv_call (args := #[.pointer (some ⟨gd, 0, none⟩)]) rfl Try.func23 (by kernel_rfl) rfl rfl (by kernel_rfl) ?_)
                  refine Calls.mono (pd_life S4 1 rfl) ?_
                  rintro _ _ ⟨rfl, rfl⟩
                  refine ⟨_, rfl, ?_⟩
                  refine wl_end (fr [pq gd, .agg #[iv kind, iv at_, .slice A d.length cd, .slice A2 ps.length cp], ud, pq g1, pq g1, iv kind, fv, fv, ud, ud, ud, ud, fv, fv, ud, ud, ud, ud, ud, ud, ud, fv, fv, ud, ud, fv, fv, ud, ud, ud, ud, fv, fv, ud, ud, ud, ud, ud, fv, fv, ud, ud, fv, fv, ud, ud, tv, tv, pq gd, iv s.life] 12) (by kernel_rfl) ?_
                  refine inb_n ?_
                  refine bodyPost_end (v := .tuple #[]) (results_none rfl _ _ _) rfl ?_
                  have S46 : St F w0 w2 (PDisk gd s :: L) := St.permT [row g1 #[.int .i64 kind, .int .i64 at_, .slice A d.length cd, .slice A2 ps.length cp] 49, PDisk gd s] [1] (by decide) rfl S4
                  have hx : s.actR kind at_ d ps = s := by
                    unfold Dsk.actR; rw [if_neg k1, if_neg k2, if_neg k3, if_neg k4, if_neg k6, if_neg k7]
                  exact ⟨rfl, by rw [hx]; exact S46⟩
                · skip
                  refine pv fv ?_
                  refine wl_end (fr [pq gd, .agg #[iv kind, iv at_, .slice A d.length cd, .slice A2 ps.length cp], ud, pq g1, pq g1, iv kind, fv, fv, ud, ud, ud, ud, fv, fv, ud, ud, ud, ud, ud, ud, ud, fv, fv, ud, ud, fv, fv, ud, ud, ud, ud, fv, fv, ud, ud, ud, ud, ud, fv, fv, ud, ud, fv, fv, ud, ud, fv, fv] 14) (by kernel_rfl) ?_
                  refine then_n ?_
                  refine wp_cond_false (by kernel_rfl) ?_
                  refine wp_seq ?_
                  refine wp_region_lit ?_
                  refine wl_gv rfl (gv_eq (x := kind) (y := 9) (by kernel_rfl) (fun k9 => ?_) (fun k9 => ?_))
                  · skip
                    refine pv tv ?_
                    refine wl_end (fr [pq gd, .agg #[iv kind, iv at_, .slice A d.length cd, .slice A2 ps.length cp], ud, pq g1, pq g1, iv kind, fv, fv, ud, ud, ud, ud, fv, fv, ud, ud, ud, ud, ud, ud, ud, fv, fv, ud, ud, fv, fv, ud, ud, ud, ud, fv, fv, ud, ud, ud, ud, ud, fv, fv, ud, ud, fv, fv, ud, ud, fv, fv, ud, ud, tv, tv] 10) (by kernel_rfl) ?_
                    refine then_n ?_
                    refine wp_cond_true (by kernel_rfl) ?_
                    refine wp_region_lit ?_
                    refine pv (pq gd) ?_
                    refine wl_gv rfl (gv_call (args := #[.pointer (some ⟨gd, 0, none⟩)]) rfl Try.func25 (by kernel_rfl) rfl rfl (by kernel_rfl) ?_)
                    have S47 : St F w0 w2 (PDisk gd s :: row g1 #[.int .i64 kind, .int .i64 at_, .slice A d.length cd, .slice A2 ps.length cp] 49 :: L) := St.permT [row g1 #[.int .i64 kind, .int .i64 at_, .slice A d.length cd, .slice A2 ps.length cp] 49, PDisk gd s] [1, 0] (by decide) rfl S4
                    refine Calls.mono (pd_image S47) ?_
                    rintro _ w48 ⟨v50, rfl, S49⟩
                    refine ⟨_, rfl, ?_⟩
                    refine wl_end (fr [pq gd, .agg #[iv kind, iv at_, .slice A d.length cd, .slice A2 ps.length cp], ud, pq g1, pq g1, iv kind, fv, fv, ud, ud, ud, ud, fv, fv, ud, ud, ud, ud, ud, ud, ud, fv, fv, ud, ud, fv, fv, ud, ud, ud, ud, fv, fv, ud, ud, ud, ud, ud, fv, fv, ud, ud, fv, fv, ud, ud, fv, fv, ud, ud, tv, tv, pq gd, v50] 8) (by kernel_rfl) ?_
                    refine inb_n ?_
                    refine bodyPost_end (v := .tuple #[]) (results_none rfl _ _ _) rfl ?_
                    have S51 : St F w0 w48 (PDisk gd s :: L) := St.permT [bytesA v50 s.last.flatten, PDisk gd s, row g1 #[.int .i64 kind, .int .i64 at_, .slice A d.length cd, .slice A2 ps.length cp] 49] [1] (by decide) rfl S49
                    have hx : s.actR kind at_ d ps = s := by
                      unfold Dsk.actR; rw [if_neg k1, if_neg k2, if_neg k3, if_neg k4, if_neg k6, if_neg k7]
                    exact ⟨rfl, by rw [hx]; exact S51⟩
                  · skip
                    refine pv fv ?_
                    refine wl_end (fr [pq gd, .agg #[iv kind, iv at_, .slice A d.length cd, .slice A2 ps.length cp], ud, pq g1, pq g1, iv kind, fv, fv, ud, ud, ud, ud, fv, fv, ud, ud, ud, ud, ud, ud, ud, fv, fv, ud, ud, fv, fv, ud, ud, ud, ud, fv, fv, ud, ud, ud, ud, ud, fv, fv, ud, ud, fv, fv, ud, ud, fv, fv, ud, ud, fv, fv] 10) (by kernel_rfl) ?_
                    refine then_n ?_
                    refine wp_cond_false (by kernel_rfl) ?_
                    refine wp_seq ?_
                    refine wp_region_lit ?_
                    refine wl_gv rfl (gv_eq (x := kind) (y := 10) (by kernel_rfl) (fun k10 => ?_) (fun k10 => ?_))
                    · skip
                      refine pv tv ?_
                      refine wl_end (fr [pq gd, .agg #[iv kind, iv at_, .slice A d.length cd, .slice A2 ps.length cp], ud, pq g1, pq g1, iv kind, fv, fv, ud, ud, ud, ud, fv, fv, ud, ud, ud, ud, ud, ud, ud, fv, fv, ud, ud, fv, fv, ud, ud, ud, ud, fv, fv, ud, ud, ud, ud, ud, fv, fv, ud, ud, fv, fv, ud, ud, fv, fv, ud, ud, fv, fv, ud, ud, tv, tv] 6) (by kernel_rfl) ?_
                      refine then_n ?_
                      refine wp_cond_true (by kernel_rfl) ?_
                      refine wp_region_lit ?_
                      refine pv (pq gd) ?_
                      refine wl_gv rfl (gv_call (args := #[.pointer (some ⟨gd, 0, none⟩)]) rfl Try.func24 (by kernel_rfl) rfl rfl (by kernel_rfl) ?_)
                      have S52 : St F w0 w2 (PDisk gd s :: row g1 #[.int .i64 kind, .int .i64 at_, .slice A d.length cd, .slice A2 ps.length cp] 49 :: L) := St.permT [row g1 #[.int .i64 kind, .int .i64 at_, .slice A d.length cd, .slice A2 ps.length cp] 49, PDisk gd s] [1, 0] (by decide) rfl S4
                      refine Calls.mono (pd_counts S52) ?_
                      rintro _ w53 ⟨rfl, S54⟩
                      refine ⟨_, rfl, ?_⟩
                      refine wl_end (fr [pq gd, .agg #[iv kind, iv at_, .slice A d.length cd, .slice A2 ps.length cp], ud, pq g1, pq g1, iv kind, fv, fv, ud, ud, ud, ud, fv, fv, ud, ud, ud, ud, ud, ud, ud, fv, fv, ud, ud, fv, fv, ud, ud, ud, ud, fv, fv, ud, ud, ud, ud, ud, fv, fv, ud, ud, fv, fv, ud, ud, fv, fv, ud, ud, fv, fv, ud, ud, tv, tv, pq gd, .agg #[iv s.rd, iv s.wr, iv s.fl, iv s.rf, iv (s.pend.length : Int)]] 4) (by kernel_rfl) ?_
                      refine inb_n ?_
                      refine bodyPost_end (v := .tuple #[]) (results_none rfl _ _ _) rfl ?_
                      have S55 : St F w0 w53 (PDisk gd s :: L) := St.permT [PDisk gd s, row g1 #[.int .i64 kind, .int .i64 at_, .slice A d.length cd, .slice A2 ps.length cp] 49] [0] (by decide) rfl S54
                      have hx : s.actR kind at_ d ps = s := by
                        unfold Dsk.actR; rw [if_neg k1, if_neg k2, if_neg k3, if_neg k4, if_neg k6, if_neg k7]
                      exact ⟨rfl, by rw [hx]; exact S55⟩
                    · skip
                      refine pv fv ?_
                      refine wl_end (fr [pq gd, .agg #[iv kind, iv at_, .slice A d.length cd, .slice A2 ps.length cp], ud, pq g1, pq g1, iv kind, fv, fv, ud, ud, ud, ud, fv, fv, ud, ud, ud, ud, ud, ud, ud, fv, fv, ud, ud, fv, fv, ud, ud, ud, ud, fv, fv, ud, ud, ud, ud, ud, fv, fv, ud, ud, fv, fv, ud, ud, fv, fv, ud, ud, fv, fv, ud, ud, fv, fv] 6) (by kernel_rfl) ?_
                      refine then_n ?_
                      refine wp_cond_false (by kernel_rfl) ?_
                      refine wp_seq ?_
                      refine wp_region_lit ?_
                      refine wl_gv rfl (gv_eq (x := kind) (y := 11) (by kernel_rfl) (fun k11 => ?_) (fun k11 => ?_))
                      · skip
                        refine pv tv ?_
                        refine wl_end (fr [pq gd, .agg #[iv kind, iv at_, .slice A d.length cd, .slice A2 ps.length cp], ud, pq g1, pq g1, iv kind, fv, fv, ud, ud, ud, ud, fv, fv, ud, ud, ud, ud, ud, ud, ud, fv, fv, ud, ud, fv, fv, ud, ud, ud, ud, fv, fv, ud, ud, ud, ud, ud, fv, fv, ud, ud, fv, fv, ud, ud, fv, fv, ud, ud, fv, fv, ud, ud, fv, fv, ud, ud, tv, tv] 2) (by kernel_rfl) ?_
                        refine then_n ?_
                        refine wp_cond_true (by kernel_rfl) ?_
                        refine wp_region_lit ?_
                        refine pv (pq gd) ?_
                        refine wl_gv rfl (gv_call (args := #[.pointer (some ⟨gd, 0, none⟩)]) rfl Try.func21 (by kernel_rfl) rfl rfl (by kernel_rfl) ?_)
                        refine Calls.mono (pd_sectors S4 1 rfl) ?_
                        rintro _ _ ⟨rfl, rfl⟩
                        refine ⟨_, rfl, ?_⟩
                        refine wl_end (fr [pq gd, .agg #[iv kind, iv at_, .slice A d.length cd, .slice A2 ps.length cp], ud, pq g1, pq g1, iv kind, fv, fv, ud, ud, ud, ud, fv, fv, ud, ud, ud, ud, ud, ud, ud, fv, fv, ud, ud, fv, fv, ud, ud, ud, ud, fv, fv, ud, ud, ud, ud, ud, fv, fv, ud, ud, fv, fv, ud, ud, fv, fv, ud, ud, fv, fv, ud, ud, fv, fv, ud, ud, tv, tv, pq gd, iv (s.last.length : Int)] 0) (by kernel_rfl) ?_
                        refine inb_n ?_
                        refine bodyPost_end (v := .tuple #[]) (results_none rfl _ _ _) rfl ?_
                        have S56 : St F w0 w2 (PDisk gd s :: L) := St.permT [row g1 #[.int .i64 kind, .int .i64 at_, .slice A d.length cd, .slice A2 ps.length cp] 49, PDisk gd s] [1] (by decide) rfl S4
                        have hx : s.actR kind at_ d ps = s := by
                          unfold Dsk.actR; rw [if_neg k1, if_neg k2, if_neg k3, if_neg k4, if_neg k6, if_neg k7]
                        exact ⟨rfl, by rw [hx]; exact S56⟩
                      · skip
                        refine pv fv ?_
                        refine wl_end (fr [pq gd, .agg #[iv kind, iv at_, .slice A d.length cd, .slice A2 ps.length cp], ud, pq g1, pq g1, iv kind, fv, fv, ud, ud, ud, ud, fv, fv, ud, ud, ud, ud, ud, ud, ud, fv, fv, ud, ud, fv, fv, ud, ud, ud, ud, fv, fv, ud, ud, ud, ud, ud, fv, fv, ud, ud, fv, fv, ud, ud, fv, fv, ud, ud, fv, fv, ud, ud, fv, fv, ud, ud, fv, fv] 2) (by kernel_rfl) ?_
                        refine then_n ?_
                        refine wp_cond_false (by kernel_rfl) ?_
                        refine wp_skip ?_
                        refine inb_n ?_
                        refine bodyPost_end (v := .tuple #[]) (results_none rfl _ _ _) rfl ?_
                        have S57 : St F w0 w2 (PDisk gd s :: L) := St.permT [row g1 #[.int .i64 kind, .int .i64 at_, .slice A d.length cd, .slice A2 ps.length cp] 49, PDisk gd s] [1] (by decide) rfl S4
                        have hx : s.actR kind at_ d ps = s := by
                          unfold Dsk.actR; rw [if_neg k1, if_neg k2, if_neg k3, if_neg k4, if_neg k6, if_neg k7]
                        exact ⟨rfl, by rw [hx]; exact S57⟩
/-- 512 bytes that begin with these. -/
def sectorB (l : List UInt8) : List UInt8 := splice (List.replicate 512 0) 0 (l.take 512)
theorem sectorB_len (l : List UInt8) : (sectorB l).length = 512 := by
  have h : (l.take 512).length ≤ 512 := by rw [List.length_take]; omega
  unfold sectorB splice
  simp only [List.length_append, List.length_take, List.length_drop, List.length_replicate]
  omega
theorem sector_all {F : Nat → Prop} {w0 w : World} {L : List Ast} {A : Option Addr} {l : List UInt8} {c : Nat} (S : St F w0 w L) (hr : RoT F w0 L A l) : Calls Try.prog 39 #[.slice A l.length c] w fun e w' => ∃ g, e = .returned (.slice (some ⟨g, 0, none⟩) 512 512) ∧ St F w0 w' (row g (bvs (sectorB l)) 5 :: L) := by
  refine wp_enter (fr [.slice A l.length c] 8) Try.func39 rfl (by kernel_rfl) ?_
  refine wp_seq ?_
  refine wp_region_lit ?_
  refine pv (.slice none 0 0) ?_
  refine wl_end (fr [.slice A l.length c, ud, .slice none 0 0] 6) (by kernel_rfl) ?_
  refine then_n ?_
  refine wp_seq ?_
  refine wp_region_lit ?_
  refine wl_gv rfl (gv_make (e := 5) (u := 512) (v := 512) (z := .int .u8 0) (sz := 1) (by_ := 1) (n := 512) (c := 512) (cs := (bvs (List.replicate 512 0))) S rfl (by kernel_rfl) ⟨by kernel_rfl⟩ (by kernel_rfl) (by kernel_rfl) rfl rfl (Nat.le_refl _) (by decide) (by decide) (mk_bytes _) (fun g1 w2 hg3 S4 => ?_))
  refine pv (sl g1 0 512 512) ?_
  refine wl_end (fr [.slice A l.length c, ud, .slice none 0 0, sl g1 0 512 512, sl g1 0 512 512] 4) (by kernel_rfl) ?_
  refine then_n ?_
  refine wp_seq ?_
  refine wp_region_lit ?_
  refine pv (sl g1 0 512 512) ?_
  refine pv (.slice A l.length c) ?_
  refine wl_gv rfl (gv_copy (e := 5) (off := 0) (dLen := 512) (dCap := 512) (sLen := l.length) (sCap := c) (A := A) (B := (List.replicate 512 0)) (l := l) S4 0 rfl rfl (by kernel_rfl) (by kernel_rfl) (by kernel_rfl) (by kernel_rfl) rfl (hr.out _ [row g1 (bvs (List.replicate 512 0)) 5] S4) (by simp) (L' := (row g1 (bvs (sectorB l)) 5 :: L)) rfl (fun w5 m7 S6 => ?_))
  refine wl_end (fr [.slice A l.length c, ud, .slice none 0 0, sl g1 0 512 512, sl g1 0 512 512, sl g1 0 512 512, .slice A l.length c, goInt m7] 1) (by kernel_rfl) ?_
  refine then_n ?_
  refine wp_seq ?_
  refine wp_region_lit ?_
  refine pv (sl g1 0 512 512) ?_
  refine pv (sl g1 0 512 512) ?_
  refine wl_end (fr [.slice A l.length c, ud, sl g1 0 512 512, sl g1 0 512 512, sl g1 0 512 512, sl g1 0 512 512, .slice A l.length c, goInt m7, sl g1 0 512 512] 0) (by kernel_rfl) ?_
  refine then_n ?_
  refine wp_ret ?_
  refine bodyPost_ret (v := .slice (some ⟨g1, 0, none⟩) 512 512) (results_t1 rfl (by kernel_rfl)) rfl ?_
  exact ⟨_, rfl, S6⟩
/-- A slice of bytes that somebody holds: where, what, how much room. -/
structure Hd where
  A : Option Addr
  l : List UInt8
  c : Nat
def Hd.val (x : Hd) : Value := .slice x.A x.l.length x.c
theorem secs_of_flat : ∀ {l : List (List UInt8)}, (∀ x ∈ l, x.length = 512) → secs l.flatten l.length = l
  | [], _ => rfl
  | y :: r, h => by
    have hy := h y List.mem_cons_self
    show (y ++ r.flatten).take 512 :: secs ((y ++ r.flatten).drop 512) r.length = y :: r
    rw [List.take_append_of_le_length (by omega), List.take_of_length_le (by omega), List.drop_append, List.drop_of_length_le (by omega), hy, List.nil_append, Nat.sub_self, List.drop_zero, secs_of_flat fun z hz => h z (List.mem_cons_of_mem _ hz)]
theorem cut_all {F : Nat → Prop} {w0 w : World} {L M : List Ast} {ad : Addr} {l : List UInt8} {ca m : Nat} (S : St F w0 w L) (hr : RoT F w0 M (some ad) l) (hl : l.length = 512 * m) (hm : m ≤ 4294967296) (hca : l.length ≤ ca) :
    Calls Try.prog 34 #[.slice (some ad) l.length ca] w fun e w' => ∃ (v : Value) (E : List Hd), e = .returned v ∧ E.map (·.l) = secs l m ∧ (∀ x ∈ E, RoT F w0 M x.A x.l) ∧ St F w0 w' (vec 31 1 v E.length (E.map Hd.val) :: L) := by
  have hsl := length_secs m l
  have S1 : St F w0 w (vec 31 1 (.slice none 0 0) ([] : List Hd).length (([] : List Hd).map Hd.val) :: L) := St.vec_nil S
  refine wp_enter (fr [.slice (some ad) l.length ca] 20) Try.func34 rfl (by kernel_rfl) ?_
  refine wp_seq ?_
  refine wp_region_lit ?_
  refine pv (.slice none 0 0) ?_
  refine wl_end (fr [.slice (some ad) l.length ca, ud, .slice none 0 0] 18) (by kernel_rfl) ?_
  refine then_n ?_
  refine wp_seq ?_
  refine wp_region_lit ?_
  refine pv (.slice none 0 0) ?_
  refine wl_end (fr [.slice (some ad) l.length ca, ud, .slice none 0 0, .slice none 0 0] 17) (by kernel_rfl) ?_
  refine then_n ?_
  refine wp_seq ?_
  refine wp_seq ?_
  refine wp_region_lit ?_
  refine pv (iv 0) ?_
  refine wl_end (fr [.slice (some ad) l.length ca, ud, .slice none 0 0, .slice none 0 0, iv 0] 16) (by kernel_rfl) ?_
  refine then_n ?_
  refine wp_block ?_
  refine wp_loop_g (G := Nat × Value × List Hd) (fun (g_ : Nat × Value × List Hd) (a_ : Act) (w_ : World) => ∃ J : Nat → Value, a_ = (fr [.slice (some ad) l.length ca, ud, .slice none 0 0, g_.2.1, iv ((512 * g_.1 : Nat) : Int), J 5, J 6, J 7, J 8, J 9, J 10, J 11, J 12, J 13, J 14, J 15, J 16, J 17, J 18, J 19] 1) ∧ St F w0 w_ (vec 31 1 g_.2.1 g_.2.2.length (g_.2.2.map Hd.val) :: L) ∧ (g_.1 ≤ m ∧ g_.2.2.length = g_.1 ∧ g_.2.2.map (·.l) = (secs l m).take g_.1 ∧ (∀ x ∈ g_.2.2, RoT F w0 M x.A x.l))) (fun g_ => m - g_.1) (0, .slice none 0 0, []) ⟨(jl []), by kernel_rfl, S1, ⟨Nat.zero_le _, rfl, rfl, fun z hz => (by cases hz)⟩⟩ ?_
  rintro ⟨i, v, E⟩ a_ w2 ⟨J, rfl, S3, hI4⟩
  skip
  have S3 : St F w0 w2 (vec 31 1 v E.length (E.map Hd.val) :: L) := S3
  have hI4 : (i ≤ m ∧ E.length = i ∧ E.map (·.l) = (secs l m).take i ∧ (∀ x ∈ E, RoT F w0 M x.A x.l)) := hI4
  refine wp_seq ?_
  refine wp_seq ?_
  refine wp_region_lit ?_
  refine pv (iv ((512 * i : Nat) : Int)) ?_
  refine wl_gv rfl (gv_int (k := .i64) (z := IntKind.i64.wrap (((512 * i : Nat) : Int) + 512)) (z' := ((512 * i + 512 : Nat) : Int)) (by kernel_rfl) (wr_eq (by omega) (by omega) (by omega)) ?_)
  refine pv (.slice (some ad) l.length ca) ?_
  refine pv (iv (l.length : Nat)) ?_
  refine wl_gv rfl (gv_dec (p := (((512 * i + 512 : Nat) : Int) : Int) ≤ (l.length : Nat)) (by kernel_rfl) (fun hb5 => ?_) (fun hb5 => ?_))
  · skip
    refine wl_end (fr [.slice (some ad) l.length ca, ud, .slice none 0 0, v, iv ((512 * i : Nat) : Int), iv ((512 * i : Nat) : Int), iv ((512 * i + 512 : Nat) : Int), .slice (some ad) l.length ca, iv (l.length : Nat), tv, J 10, J 11, J 12, J 13, J 14, J 15, J 16, J 17, J 18, J 19] 1) (by kernel_rfl) ?_
    refine then_n ?_
    refine wp_cond_true (by kernel_rfl) ?_
    refine wp_skip ?_
    refine then_n ?_
    refine wp_seq ?_
    refine wp_block ?_
    refine wp_region_lit ?_
    refine pv v ?_
    refine pv (.slice (some ad) l.length ca) ?_
    refine pv (iv ((512 * i : Nat) : Int)) ?_
    refine pv (iv ((512 * i : Nat) : Int)) ?_
    refine wl_gv rfl (gv_int (k := .i64) (z := IntKind.i64.wrap (((512 * i : Nat) : Int) + 512)) (z' := ((512 * i + 512 : Nat) : Int)) (by kernel_rfl) (wr_eq (by omega) (by omega) (by omega)) ?_)
    refine wl_gv rfl (gv_cutA (e := 5) (sz := 1) (ad := ad) (n := l.length) (c := ca) (kl := .i64) (kh := .i64) (u := ((512 * i : Nat) : Int)) (v := ((512 * i + 512 : Nat) : Int)) (lo := (512 * i)) (hi := (512 * i + 512)) (ad' := (ad.add (512 * i))) (n' := 512) (c' := (ca - 512 * i)) rfl (by kernel_rfl) (by kernel_rfl) (by kernel_rfl) (by kernel_rfl) (by kernel_rfl) rfl rfl (by omega) (by omega) (by omega) (by rw [Nat.mul_one]) (by omega) (by omega) ?_)
    refine wl_gv rfl (gv_slit (e := 31) (sz := 1) (z := .slice none 0 0) (by_ := 24) (vs := #[(0, .slice (some (ad.add (512 * i))) 512 (ca - 512 * i))]) (cells := #[.slice (some (ad.add (512 * i))) 512 (ca - 512 * i)]) S3 rfl (by kernel_rfl) ⟨by kernel_rfl⟩ (by kernel_rfl) (by kernel_rfl) (by kernel_rfl) (by kernel_rfl) (fun g6 w7 hg8 S9 => ?_))
    refine wl_gv rfl (gv_append (e := 31) (sz := 1) (n := E.length) (v := v) (vals := (E.map Hd.val)) (z := .slice none 0 0) (by_ := 24) (m := 1) (c' := 1) (ad := ⟨g6, 0, none⟩) (news := [.slice (some (ad.add (512 * i))) 512 (ca - 512 * i)]) (St.swap S9) rfl (by kernel_rfl) ⟨by kernel_rfl⟩ rfl (by kernel_rfl) (by kernel_rfl) (by decide) rfl (row_news (S9.blk 0 rfl)) (by intro u hu; simp at hu; subst hu; rfl) (by omega) (by omega) (fun v11 w10 S12 => ?_))
    refine pv v11 ?_
    refine wl_end (fr [.slice (some ad) l.length ca, ud, .slice none 0 0, v11, iv ((512 * i : Nat) : Int), iv ((512 * i : Nat) : Int), iv ((512 * i + 512 : Nat) : Int), .slice (some ad) l.length ca, iv (l.length : Nat), tv, J 10, J 11, v, .slice (some ad) l.length ca, iv ((512 * i : Nat) : Int), iv ((512 * i : Nat) : Int), iv ((512 * i + 512 : Nat) : Int), .slice (some (ad.add (512 * i))) 512 (ca - 512 * i), sl g6 0 1 1, v11] 1) (by kernel_rfl) ?_
    refine inb_n ?_
    refine then_n ?_
    refine wp_region_lit ?_
    refine pv (iv ((512 * i : Nat) : Int)) ?_
    refine wl_gv rfl (gv_int (k := .i64) (z := IntKind.i64.wrap (((512 * i : Nat) : Int) + 512)) (z' := ((512 * (i + 1) : Nat) : Int)) (by kernel_rfl) (wr_eq (by omega) (by omega) (by omega)) ?_)
    refine pv (iv ((512 * (i + 1) : Nat) : Int)) ?_
    refine wl_end (fr [.slice (some ad) l.length ca, ud, .slice none 0 0, v11, iv ((512 * (i + 1) : Nat) : Int), iv ((512 * i : Nat) : Int), iv ((512 * i + 512 : Nat) : Int), .slice (some ad) l.length ca, iv (l.length : Nat), tv, iv ((512 * i : Nat) : Int), iv ((512 * (i + 1) : Nat) : Int), v, .slice (some ad) l.length ca, iv ((512 * i : Nat) : Int), iv ((512 * i : Nat) : Int), iv ((512 * i + 512 : Nat) : Int), .slice (some (ad.add (512 * i))) 512 (ca - 512 * i), sl g6 0 1 1, v11] 1) (by kernel_rfl) ?_
    refine then_n ?_
    have S13 : St F w0 w10 (vec 31 1 v11 (E.length + 1) (E.map Hd.val ++ [.slice (some (ad.add (512 * i))) 512 (ca - 512 * i)]) :: L) := St.permT [vec 31 1 v11 (E.length + 1) (E.map Hd.val ++ [.slice (some (ad.add (512 * i))) 512 (ca - 512 * i)]), row g6 #[.slice (some (ad.add (512 * i))) 512 (ca - 512 * i)] 31] [0] (by decide) rfl S12
    have hx5 : ((l.drop (512 * i)).take 512).length = 512 := by rw [List.length_take, List.length_drop]; omega
    have htk : (secs l m).take (i + 1) = (secs l m).take i ++ [(l.drop (512 * i)).take 512] := by rw [List.take_add_one, secs_get m l i (by omega)]; rfl
    have hv9 : E.map Hd.val ++ [.slice (some (ad.add (512 * i))) 512 (ca - 512 * i)] = (E ++ [(⟨some (ad.add (512 * i)), (l.drop (512 * i)).take 512, ca - 512 * i⟩ : Hd)]).map Hd.val := by rw [List.map_append]; show _ = _ ++ [Value.slice (some (ad.add (512 * i))) ((l.drop (512 * i)).take 512).length (ca - 512 * i)]; rw [hx5]
    have hn9 : E.length + 1 = (E ++ [(⟨some (ad.add (512 * i)), (l.drop (512 * i)).take 512, ca - 512 * i⟩ : Hd)]).length := by rw [List.length_append]; rfl
    rw [hv9, hn9] at S13
    exact ⟨(i + 1, v11, E ++ [⟨some (ad.add (512 * i)), (l.drop (512 * i)).take 512, ca - 512 * i⟩]), ⟨(jl [ud, ud, ud, ud, ud, iv ((512 * i : Nat) : Int), iv ((512 * i + 512 : Nat) : Int), .slice (some ad) l.length ca, iv (l.length : Nat), tv, iv ((512 * i : Nat) : Int), iv ((512 * (i + 1) : Nat) : Int), v, .slice (some ad) l.length ca, iv ((512 * i : Nat) : Int), iv ((512 * i : Nat) : Int), iv ((512 * i + 512 : Nat) : Int), .slice (some (ad.add (512 * i))) 512 (ca - 512 * i), sl g6 0 1 1, v11]), by kernel_rfl, S13, ⟨by omega, by rw [List.length_append]; show E.length + 1 = i + 1; omega, by rw [List.map_append, hI4.2.2.1]; exact htk.symm, fun z hz => (List.mem_append.1 hz).elim (hI4.2.2.2 z) (fun h => by rw [List.mem_singleton] at h; subst h; exact RoT.sub hr (512 * i) 512)⟩⟩, (by show m - (i + 1) < m - i; omega)⟩
  · skip
    refine wl_end (fr [.slice (some ad) l.length ca, ud, .slice none 0 0, v, iv ((512 * i : Nat) : Int), iv ((512 * i : Nat) : Int), iv ((512 * i + 512 : Nat) : Int), .slice (some ad) l.length ca, iv (l.length : Nat), fv, J 10, J 11, J 12, J 13, J 14, J 15, J 16, J 17, J 18, J 19] 1) (by kernel_rfl) ?_
    refine then_n ?_
    refine wp_cond_false (by kernel_rfl) ?_
    refine wp_exit ?_
    refine then_x ?_
    refine then_x ?_
    refine inb_x ?_
    refine then_n ?_
    refine wp_seq ?_
    refine wp_region_lit ?_
    refine pv v ?_
    refine pv v ?_
    refine wl_end (fr [.slice (some ad) l.length ca, ud, v, v, iv ((512 * i : Nat) : Int), iv ((512 * i : Nat) : Int), iv ((512 * i + 512 : Nat) : Int), .slice (some ad) l.length ca, iv (l.length : Nat), fv, J 10, J 11, J 12, J 13, J 14, J 15, J 16, J 17, J 18, J 19, v] 0) (by kernel_rfl) ?_
    refine then_n ?_
    refine wp_ret ?_
    refine bodyPost_ret (v := v) (results_t1 rfl (by kernel_rfl)) rfl ?_
    have him : i = m := by omega
    have htk : (secs l m).take i = secs l m := List.take_of_length_le (by omega)
    exact ⟨_, E, rfl, hI4.2.2.1.trans htk, hI4.2.2.2, S3⟩
/-- Bytes that were handed out, and that are some: their row. -/
theorem St.bytes_open {F : Nat → Prop} {w0 w : World} {L : List Ast} {v : Value} {l : List UInt8} (S : St F w0 w (bytesA v l :: L)) (h0 : 0 < l.length) : ∃ g, v = .slice (some ⟨g, 0, none⟩) l.length l.length ∧ St F w0 w (row g (bvs l) 5 :: L) := by
  obtain ⟨fr, hs, h1, h2, h3⟩ := S
  rcases h1 0 _ rfl with ⟨_, r2, _⟩ | ⟨g, r1, r2⟩
  · subst r2; exact absurd h0 (by decide)
  · refine ⟨g, r1, fr, hs, fun i A hi => ?_, h2, h3⟩
    cases i with
    | zero => simp at hi; subst hi; exact r2
    | succ i => exact h1 (i + 1) A hi
end Go.Proofs
