/- New, Load of the program's disk. -/
import Derived.Test.YtefmefimhiedfaaHDskF
import Derived.Test.YtefmefimhiedfaaHDisk2
import Derived.Test.YtefmefimhiedfaaHReg
open Go Go.RowKit Go.Proofs.YtefmefimhiedfaaW.PrintWords Go.Proofs.YtefmefimhiedfaaW.PrintMore
namespace Go.Proofs
open Go.Vel
set_option linter.unusedVariables false
set_option maxRecDepth 100000
set_option maxHeartbeats 4000000
attribute [local irreducible] gives wpList Code.wp

/-- A new disk that holds these sectors. -/
def Dsk.mk0 (l : List (List UInt8)) : Dsk := { last := l, pend := [], left := -1, life := 1, rd := 0, wr := 0, fl := 0, rf := 0 }
def zsec : List UInt8 := List.replicate 512 0
theorem zflat (m : Nat) : (List.replicate m zsec).flatten = List.replicate (512 * m) 0 := by
  unfold zsec; rw [List.flatten_replicate_replicate, Nat.mul_comm]
theorem PFacts.mk0 {l : List (List UInt8)} {left : Int} (h : ∀ x ∈ l, x.length = 512) (h1 : 1 ≤ l.length) (h2 : l.length ≤ 2048) : PFacts (Dsk.mk0 l) 0 [] false left :=
  ⟨fun p hp => (by cases hp), List.nodup_nil, List.nodup_nil, fun p hp => (by cases hp), fun x hx => (by cases hx), fun p hp => (by cases hp), h, fun x hx => (by cases hx), h1, h2, rfl, fun h => absurd (show (0 : Int) ≤ -1 from h) (by decide), show (-1 : Int) ≤ -1 ∧ (-1 : Int) ≤ 9223372036854775807 by decide, Nat.zero_le _⟩
/-- The sectors of an image. -/
def secs (l : List UInt8) : Nat → List (List UInt8)
  | 0 => []
  | n + 1 => l.take 512 :: secs (l.drop 512) n
theorem length_secs : ∀ (n : Nat) (l : List UInt8), (secs l n).length = n
  | 0, _ => rfl
  | n + 1, l => by simp [secs, length_secs n]
theorem secs_len : ∀ (n : Nat) (l : List UInt8), l.length = 512 * n → ∀ x ∈ secs l n, x.length = 512
  | 0, _, _, x, hx => by cases hx
  | n + 1, l, h, x, hx => by
    rcases List.mem_cons.1 hx with rfl | hx
    · rw [List.length_take]; omega
    · exact secs_len n (l.drop 512) (by rw [List.length_drop]; omega) x hx
theorem secs_flat : ∀ (n : Nat) (l : List UInt8), l.length = 512 * n → (secs l n).flatten = l
  | 0, l, h => by have : l = [] := List.eq_nil_of_length_eq_zero (by omega)
                  subst this; rfl
  | n + 1, l, h => by rw [secs, List.flatten_cons, secs_flat n (l.drop 512) (by rw [List.length_drop]; omega), List.take_append_drop]

theorem pd_new_bad {n : Int} (hn : n < 1 ∨ 2048 < n) {F : Nat → Prop} {w0 w : World} {L : List Ast} (S : St F w0 w L) : Calls Try.prog 20 #[.int .i64 n] w fun e w' => e = .returned (.tuple #[.pointer none, .int .i64 10]) ∧ St F w0 w' L := by
  refine wp_enter (fr [iv n] 15) Try.func20 rfl (by kernel_rfl) ?_
  refine wp_seq ?_
  refine wp_region_lit ?_
  refine pv pn ?_
  refine pv (iv 0) ?_
  refine wl_end (fr [iv n, ud, pn, iv 0] 12) (by kernel_rfl) ?_
  refine then_n ?_
  refine wp_seq ?_
  refine wp_seq ?_
  refine wp_region_lit ?_
  refine pv (iv n) ?_
  refine wl_gv rfl (gv_dec (p := (n : Int) < 1) (by kernel_rfl) (fun hb1 => ?_) (fun hb1 => ?_))
  · skip
    refine pv tv ?_
    refine wl_not (by kernel_rfl) ?_
    refine wl_not (by kernel_rfl) ?_
    refine pv tv ?_
    refine wl_end (fr [iv n, ud, pn, iv 0, iv n, tv, tv, ud, ud, tv] 6) (by kernel_rfl) ?_
    refine then_n ?_
    refine wp_cond_true (by kernel_rfl) ?_
    refine wp_seq ?_
    refine wp_region_lit ?_
    refine pv pn ?_
    refine pv (iv 10) ?_
    refine wl_end (fr [iv n, ud, pn, iv 10, iv n, tv, tv, ud, ud, tv] 6) (by kernel_rfl) ?_
    refine then_n ?_
    refine wp_ret ?_
    refine then_r ?_
    refine bodyPost_ret (v := .tuple #[.pointer none, .int .i64 10]) (results_t2 rfl (by kernel_rfl) (by kernel_rfl)) rfl ?_
    exact ⟨rfl, S⟩
  · skip
    refine pv fv ?_
    refine wl_when (by kernel_rfl) (gv_val (v := .int .i64 n) (w' := w) (by kernel_rfl) ?_)
    refine wl_when (by kernel_rfl) (gv_dec (p := (n : Int) > 2048) (by kernel_rfl) (fun _ => ?_) (fun hd2 => False.elim (by omega)))
    refine pv tv ?_
    refine wl_end (fr [iv n, ud, pn, iv 0, iv n, fv, fv, iv n, tv, tv] 6) (by kernel_rfl) ?_
    refine then_n ?_
    refine wp_cond_true (by kernel_rfl) ?_
    refine wp_seq ?_
    refine wp_region_lit ?_
    refine pv pn ?_
    refine pv (iv 10) ?_
    refine wl_end (fr [iv n, ud, pn, iv 10, iv n, fv, fv, iv n, tv, tv] 6) (by kernel_rfl) ?_
    refine then_n ?_
    refine wp_ret ?_
    refine then_r ?_
    refine bodyPost_ret (v := .tuple #[.pointer none, .int .i64 10]) (results_t2 rfl (by kernel_rfl) (by kernel_rfl)) rfl ?_
    exact ⟨rfl, S⟩
theorem pd_new {m : Nat} (h1 : 1 ≤ m) (h2 : m ≤ 2048) {F : Nat → Prop} {w0 w : World} {L : List Ast} (S : St F w0 w L) : Calls Try.prog 20 #[.int .i64 ((m : Nat) : Int)] w fun e w' => ∃ g, e = .returned (.tuple #[.pointer (some ⟨g, 0, none⟩), .int .i64 0]) ∧ St F w0 w' (PDisk g (Dsk.mk0 (List.replicate m zsec)) :: L) := by
  refine wp_enter (fr [iv ((m : Nat) : Int)] 15) Try.func20 rfl (by kernel_rfl) ?_
  refine wp_seq ?_
  refine wp_region_lit ?_
  refine pv pn ?_
  refine pv (iv 0) ?_
  refine wl_end (fr [iv ((m : Nat) : Int), ud, pn, iv 0] 12) (by kernel_rfl) ?_
  refine then_n ?_
  refine wp_seq ?_
  refine wp_seq ?_
  refine wp_region_lit ?_
  refine pv (iv ((m : Nat) : Int)) ?_
  refine wl_gv rfl (gv_dec (p := (((m : Nat) : Int) : Int) < 1) (by kernel_rfl) (fun hd1 => False.elim (by omega)) (fun _ => ?_))
  refine pv fv ?_
  refine wl_when (by kernel_rfl) (gv_val (v := .int .i64 ((m : Nat) : Int)) (w' := w) (by kernel_rfl) ?_)
  refine wl_when (by kernel_rfl) (gv_dec (p := (((m : Nat) : Int) : Int) > 2048) (by kernel_rfl) (fun hd2 => False.elim (by omega)) (fun _ => ?_))
  refine pv fv ?_
  refine wl_end (fr [iv ((m : Nat) : Int), ud, pn, iv 0, iv ((m : Nat) : Int), fv, fv, iv ((m : Nat) : Int), fv, fv] 6) (by kernel_rfl) ?_
  refine then_n ?_
  refine wp_cond_false (by kernel_rfl) ?_
  refine wp_skip ?_
  refine then_n ?_
  refine wp_seq ?_
  refine wp_region_lit ?_
  refine pv (iv ((m : Nat) : Int)) ?_
  refine wl_gv rfl (gv_int (k := .i64) (z := IntKind.i64.wrap (((m : Nat) : Int) * 512)) (z' := ((512 * m : Nat) : Int)) (by kernel_rfl) (wr_eq (by omega) (by omega) (by omega)) ?_)
  refine wl_gv rfl (gv_make (e := 5) (u := ((512 * m : Nat) : Int)) (v := ((512 * m : Nat) : Int)) (z := .int .u8 0) (sz := 1) (by_ := 1) (n := (512 * m)) (c := (512 * m)) (cs := (bvs (List.replicate (512 * m) 0))) S rfl (by kernel_rfl) ⟨by kernel_rfl⟩ (by kernel_rfl) (by kernel_rfl) rfl rfl (Nat.le_refl _) (by omega) (by omega) (mk_bytes _) (fun g3 w4 hg5 S6 => ?_))
  refine wl_gv rfl (gv_map S6 rfl (fun g7 w8 hg9 S10 => ?_))
  refine pv (.agg #[sl g3 0 (512 * m) (512 * m), .map (some g7), fv, iv 0, iv 1, iv 0, iv 0, iv 0, iv 0, iv 0]) ?_
  refine wl_gv rfl (gv_box (v := .agg #[.slice (some ⟨g3, 0, none⟩) (512 * m) (512 * m), .map (some g7), .bool false, .int .i64 0, .int .i64 1, .int .i64 0, .int .i64 0, .int .i64 0, .int .i64 0, .int .i64 0]) S10 rfl (by kernel_rfl) (fun g11 w12 hg13 S14 => ?_))
  refine pv (pq g11) ?_
  refine pv (iv 0) ?_
  refine wl_end (fr [iv ((m : Nat) : Int), ud, pq g11, iv 0, iv ((m : Nat) : Int), fv, fv, iv ((m : Nat) : Int), fv, fv, iv ((m : Nat) : Int), iv ((512 * m : Nat) : Int), sl g3 0 (512 * m) (512 * m), .map (some g7), .agg #[sl g3 0 (512 * m) (512 * m), .map (some g7), fv, iv 0, iv 1, iv 0, iv 0, iv 0, iv 0, iv 0], pq g11] 0) (by kernel_rfl) ?_
  refine then_n ?_
  refine wp_ret ?_
  refine bodyPost_ret (v := .tuple #[.pointer (some ⟨g11, 0, none⟩), .int .i64 0]) (results_t2 rfl (by kernel_rfl) (by kernel_rfl)) rfl ?_
  have S15 : St F w0 w12 (row g11 #[.slice (some ⟨g3, 0, none⟩) (512 * m) (512 * m), .map (some g7), .bool false, .int .i64 0, .int .i64 1, .int .i64 0, .int .i64 0, .int .i64 0, .int .i64 0, .int .i64 0] 87 :: row g3 (bvs (List.replicate (512 * m) 0)) 5 :: pt g7 (mapO [] 0) :: L) := St.permT [row g11 #[.slice (some ⟨g3, 0, none⟩) (512 * m) (512 * m), .map (some g7), .bool false, .int .i64 0, .int .i64 1, .int .i64 0, .int .i64 0, .int .i64 0, .int .i64 0, .int .i64 0] 87, pt g7 (mapO [] 0), row g3 (bvs (List.replicate (512 * m) 0)) 5] [0, 2, 1] (by decide) rfl S14
  have S9 := St.rot (LA := [_, _, _]) (St.star_nil S15)
  rw [← zflat] at S9
  have hl : (List.replicate m zsec).length = m := List.length_replicate
  refine ⟨g11, rfl, St.pclose (gd := g3) (gm := g7) (clock := 0) (es := []) (fused := false) (left := 0) (s := Dsk.mk0 (List.replicate m zsec)) ?_ (PFacts.mk0 (fun x hx => by rw [List.eq_of_mem_replicate hx]; rfl) (by rw [hl]; exact h1) (by rw [hl]; exact h2))⟩
  unfold pdParts
  show St F w0 _ (row _ (dcells _ (512 * (List.replicate m zsec).length) (512 * (List.replicate m zsec).length) _ _ _ _ _ _ _ _ _) _ :: _)
  rw [hl]; exact S9
theorem pd_load_odd {F : Nat → Prop} {w0 w : World} {L : List Ast} (S : St F w0 w L) {A : Option Addr} {l : List UInt8} {ca : Nat} (hr : RoT F w0 L A l) (hlm : l.length ≤ 140737488355328) (ho : l.length % 512 ≠ 0) : Calls Try.prog 26 #[.slice A l.length ca] w fun e w' => e = .returned (.tuple #[.pointer none, .int .i64 2]) ∧ St F w0 w' L := by
  refine wp_enter (fr [.slice A l.length ca] 26) Try.func26 rfl (by kernel_rfl) ?_
  refine wp_seq ?_
  refine wp_region_lit ?_
  refine pv pn ?_
  refine pv (iv 0) ?_
  refine wl_end (fr [.slice A l.length ca, ud, pn, iv 0] 23) (by kernel_rfl) ?_
  refine then_n ?_
  refine wp_seq ?_
  refine wp_seq ?_
  refine wp_region_lit ?_
  refine pv (.slice A l.length ca) ?_
  refine pv (iv (l.length : Nat)) ?_
  refine wl_gv rfl (gv_int (k := .i64) (z := Int.tmod (l.length : Nat) 512) (z' := ((l.length % 512 : Nat) : Int)) (by kernel_rfl) (by rw [Int.tmod_eq_emod_of_nonneg (by omega)]; omega) ?_)
  refine wl_gv rfl (gv_ne (x := ((l.length % 512 : Nat) : Int)) (y := 0) (by kernel_rfl) (fun _ => ?_) (fun hd1 => False.elim (by omega)))
  refine wl_end (fr [.slice A l.length ca, ud, pn, iv 0, ud, ud, .slice A l.length ca, iv (l.length : Nat), iv ((l.length % 512 : Nat) : Int), tv] 17) (by kernel_rfl) ?_
  refine then_n ?_
  refine wp_cond_true (by kernel_rfl) ?_
  refine wp_seq ?_
  refine wp_region_lit ?_
  refine pv pn ?_
  refine pv (iv 2) ?_
  refine wl_end (fr [.slice A l.length ca, ud, pn, iv 2, ud, ud, .slice A l.length ca, iv (l.length : Nat), iv ((l.length % 512 : Nat) : Int), tv] 17) (by kernel_rfl) ?_
  refine then_n ?_
  refine wp_ret ?_
  refine then_r ?_
  refine bodyPost_ret (v := .tuple #[.pointer none, .int .i64 2]) (results_t2 rfl (by kernel_rfl) (by kernel_rfl)) rfl ?_
  exact ⟨rfl, S⟩
theorem pd_load_bad {F : Nat → Prop} {w0 w : World} {L : List Ast} (S : St F w0 w L) {A : Option Addr} {l : List UInt8} {ca : Nat} (hr : RoT F w0 L A l) (hlm : l.length ≤ 140737488355328) (ho : l.length % 512 = 0) (hb : l.length / 512 < 1 ∨ 2048 < l.length / 512) : Calls Try.prog 26 #[.slice A l.length ca] w fun e w' => e = .returned (.tuple #[.pointer none, .int .i64 10]) ∧ St F w0 w' L := by
  refine wp_enter (fr [.slice A l.length ca] 26) Try.func26 rfl (by kernel_rfl) ?_
  refine wp_seq ?_
  refine wp_region_lit ?_
  refine pv pn ?_
  refine pv (iv 0) ?_
  refine wl_end (fr [.slice A l.length ca, ud, pn, iv 0] 23) (by kernel_rfl) ?_
  refine then_n ?_
  refine wp_seq ?_
  refine wp_seq ?_
  refine wp_region_lit ?_
  refine pv (.slice A l.length ca) ?_
  refine pv (iv (l.length : Nat)) ?_
  refine wl_gv rfl (gv_int (k := .i64) (z := Int.tmod (l.length : Nat) 512) (z' := ((l.length % 512 : Nat) : Int)) (by kernel_rfl) (by rw [Int.tmod_eq_emod_of_nonneg (by omega)]; omega) ?_)
  refine wl_gv rfl (gv_ne (x := ((l.length % 512 : Nat) : Int)) (y := 0) (by kernel_rfl) (fun hd1 => False.elim (by omega)) (fun _ => ?_))
  refine wl_end (fr [.slice A l.length ca, ud, pn, iv 0, ud, ud, .slice A l.length ca, iv (l.length : Nat), iv ((l.length % 512 : Nat) : Int), fv] 17) (by kernel_rfl) ?_
  refine then_n ?_
  refine wp_cond_false (by kernel_rfl) ?_
  refine wp_skip ?_
  refine then_n ?_
  refine wp_seq ?_
  refine wp_region_lit ?_
  refine pv (.slice A l.length ca) ?_
  refine pv (iv (l.length : Nat)) ?_
  refine wl_gv rfl (gv_int (k := .i64) (z := IntKind.i64.wrap (Int.tdiv (l.length : Nat) 512)) (z' := ((l.length / 512 : Nat) : Int)) (by kernel_rfl) (wr_eq (by rw [Int.tdiv_eq_ediv_of_nonneg (by omega)]; omega) (by omega) (by omega)) ?_)
  refine wl_gv rfl (gv_call (args := #[.int .i64 ((l.length / 512 : Nat) : Int)]) rfl Try.func20 (by kernel_rfl) rfl rfl (by kernel_rfl) ?_)
  refine Calls.mono (pd_new_bad (by omega) S) ?_
  rintro _ w2 ⟨rfl, S3⟩
  refine ⟨_, rfl, ?_⟩
  refine pv (.tuple #[pn, iv 10]) ?_
  refine pv pn ?_
  refine pv (iv 10) ?_
  refine pv pn ?_
  refine pv (iv 10) ?_
  refine wl_end (fr [.slice A l.length ca, ud, pn, iv 0, pn, iv 10, .slice A l.length ca, iv (l.length : Nat), iv ((l.length % 512 : Nat) : Int), fv, .tuple #[pn, iv 10], .slice A l.length ca, iv (l.length : Nat), iv ((l.length / 512 : Nat) : Int), .tuple #[pn, iv 10], pn, iv 10] 10) (by kernel_rfl) ?_
  refine then_n ?_
  refine wp_seq ?_
  refine wp_seq ?_
  refine wp_region_lit ?_
  refine pv (iv 10) ?_
  refine wl_gv rfl (gv_eq (x := 10) (y := 0) (by kernel_rfl) (fun hd4 => False.elim (by omega)) (fun _ => ?_))
  refine wl_end (fr [.slice A l.length ca, ud, pn, iv 0, pn, iv 10, .slice A l.length ca, iv (l.length : Nat), iv ((l.length % 512 : Nat) : Int), fv, .tuple #[pn, iv 10], .slice A l.length ca, iv (l.length : Nat), iv ((l.length / 512 : Nat) : Int), .tuple #[pn, iv 10], pn, iv 10, iv 10, fv] 8) (by kernel_rfl) ?_
  refine then_n ?_
  refine wp_cond_false (by kernel_rfl) ?_
  refine wp_skip ?_
  refine then_n ?_
  refine wp_seq ?_
  refine wp_region_lit ?_
  refine pv pn ?_
  refine pv (iv 10) ?_
  refine pv pn ?_
  refine pv (iv 10) ?_
  refine wl_end (fr [.slice A l.length ca, ud, pn, iv 10, pn, iv 10, .slice A l.length ca, iv (l.length : Nat), iv ((l.length % 512 : Nat) : Int), fv, .tuple #[pn, iv 10], .slice A l.length ca, iv (l.length : Nat), iv ((l.length / 512 : Nat) : Int), .tuple #[pn, iv 10], pn, iv 10, iv 10, fv, ud, ud, ud, ud, ud, ud, pn, iv 10] 0) (by kernel_rfl) ?_
  refine then_n ?_
  refine wp_ret ?_
  refine bodyPost_ret (v := .tuple #[.pointer none, .int .i64 10]) (results_t2 rfl (by kernel_rfl) (by kernel_rfl)) rfl ?_
  exact ⟨rfl, S3⟩
theorem pd_load {F : Nat → Prop} {w0 w : World} {m : Nat} {L : List Ast} (S : St F w0 w L) {A : Option Addr} {l : List UInt8} {ca : Nat} (hr : RoT F w0 L A l) (hlm : l.length ≤ 140737488355328) (ho : l.length = 512 * m) (h1 : 1 ≤ m) (h2 : m ≤ 2048) : Calls Try.prog 26 #[.slice A l.length ca] w fun e w' => ∃ g, e = .returned (.tuple #[.pointer (some ⟨g, 0, none⟩), .int .i64 0]) ∧ St F w0 w' (PDisk g (Dsk.mk0 (secs l m)) :: L) := by
  refine wp_enter (fr [.slice A l.length ca] 26) Try.func26 rfl (by kernel_rfl) ?_
  refine wp_seq ?_
  refine wp_region_lit ?_
  refine pv pn ?_
  refine pv (iv 0) ?_
  refine wl_end (fr [.slice A l.length ca, ud, pn, iv 0] 23) (by kernel_rfl) ?_
  refine then_n ?_
  refine wp_seq ?_
  refine wp_seq ?_
  refine wp_region_lit ?_
  refine pv (.slice A l.length ca) ?_
  refine pv (iv (l.length : Nat)) ?_
  refine wl_gv rfl (gv_int (k := .i64) (z := Int.tmod (l.length : Nat) 512) (z' := ((l.length % 512 : Nat) : Int)) (by kernel_rfl) (by rw [Int.tmod_eq_emod_of_nonneg (by omega)]; omega) ?_)
  refine wl_gv rfl (gv_ne (x := ((l.length % 512 : Nat) : Int)) (y := 0) (by kernel_rfl) (fun hd1 => False.elim (by omega)) (fun _ => ?_))
  refine wl_end (fr [.slice A l.length ca, ud, pn, iv 0, ud, ud, .slice A l.length ca, iv (l.length : Nat), iv ((l.length % 512 : Nat) : Int), fv] 17) (by kernel_rfl) ?_
  refine then_n ?_
  refine wp_cond_false (by kernel_rfl) ?_
  refine wp_skip ?_
  refine then_n ?_
  refine wp_seq ?_
  refine wp_region_lit ?_
  refine pv (.slice A l.length ca) ?_
  refine pv (iv (l.length : Nat)) ?_
  refine wl_gv rfl (gv_int (k := .i64) (z := IntKind.i64.wrap (Int.tdiv (l.length : Nat) 512)) (z' := ((m : Nat) : Int)) (by kernel_rfl) (wr_eq (by rw [Int.tdiv_eq_ediv_of_nonneg (by omega)]; omega) (by omega) (by omega)) ?_)
  refine wl_gv rfl (gv_call (args := #[.int .i64 ((m : Nat) : Int)]) rfl Try.func20 (by kernel_rfl) rfl rfl (by kernel_rfl) ?_)
  refine Calls.mono (pd_new h1 h2 S) ?_
  rintro _ w2 ⟨g, rfl, S9⟩
  refine ⟨_, rfl, ?_⟩
  obtain ⟨gd, gm, clock, es, fused, left, hf, S⟩ := St.popen S9
  have hl : (Dsk.mk0 (List.replicate m zsec)).last.length = m := List.length_replicate
  have hlf : (Dsk.mk0 (List.replicate m zsec)).last.flatten = List.replicate (512 * m) 0 := zflat m
  unfold pdParts at S
  rw [hl, hlf] at S
  change St F w0 w2 (row g #[.slice (some ⟨gd, 0, none⟩) (512 * m) (512 * m), .map (some gm), .bool fused, .int .i64 left, .int .i64 1, .int .i64 0, .int .i64 0, .int .i64 0, .int .i64 0, .int .i64 0] 87 :: row gd (bvs (List.replicate (512 * m) 0)) 5 :: pt gm (mapO (es.map PEnt.ent) clock) :: stars (es.map PEnt.ast) :: L) at S
  refine pv (.tuple #[pq g, iv 0]) ?_
  refine pv (pq g) ?_
  refine pv (iv 0) ?_
  refine pv (pq g) ?_
  refine pv (iv 0) ?_
  refine wl_end (fr [.slice A l.length ca, ud, pn, iv 0, pq g, iv 0, .slice A l.length ca, iv (l.length : Nat), iv ((l.length % 512 : Nat) : Int), fv, .tuple #[pq g, iv 0], .slice A l.length ca, iv (l.length : Nat), iv ((m : Nat) : Int), .tuple #[pq g, iv 0], pq g, iv 0] 10) (by kernel_rfl) ?_
  refine then_n ?_
  refine wp_seq ?_
  refine wp_seq ?_
  refine wp_region_lit ?_
  refine pv (iv 0) ?_
  refine wl_gv rfl (gv_eq (x := 0) (y := 0) (by kernel_rfl) (fun _ => ?_) (fun hd3 => False.elim (by omega)))
  refine wl_end (fr [.slice A l.length ca, ud, pn, iv 0, pq g, iv 0, .slice A l.length ca, iv (l.length : Nat), iv ((l.length % 512 : Nat) : Int), fv, .tuple #[pq g, iv 0], .slice A l.length ca, iv (l.length : Nat), iv ((m : Nat) : Int), .tuple #[pq g, iv 0], pq g, iv 0, iv 0, tv] 8) (by kernel_rfl) ?_
  refine then_n ?_
  refine wp_cond_true (by kernel_rfl) ?_
  refine wp_region_lit ?_
  refine pv (pq g) ?_
  refine pv (pq g) ?_
  refine pv (pq g) ?_
  refine wl_gv rfl (gv_ldR (v := .slice (some ⟨gd, 0, none⟩) (512 * m) (512 * m)) rfl (by kernel_rfl) (by kernel_rfl) (((S.blk 0 rfl).cell 0).trans rfl) ?_)
  refine pv (.slice A l.length ca) ?_
  refine wl_gv rfl (gv_copy (e := 5) (off := 0) (dLen := (512 * m)) (dCap := (512 * m)) (sLen := l.length) (sCap := ca) (A := A) (B := (List.replicate (512 * m) 0)) (l := l) S 1 rfl rfl (by kernel_rfl) (by kernel_rfl) (by kernel_rfl) (by kernel_rfl) rfl (hr.out _ [row g #[.slice (some ⟨gd, 0, none⟩) (512 * m) (512 * m), .map (some gm), .bool fused, .int .i64 left, .int .i64 1, .int .i64 0, .int .i64 0, .int .i64 0, .int .i64 0, .int .i64 0] 87, row gd (bvs (List.replicate (512 * m) 0)) 5, pt gm (mapO (es.map PEnt.ent) clock), stars (es.map PEnt.ast)] S) (by simp) (L' := (row g #[.slice (some ⟨gd, 0, none⟩) (512 * m) (512 * m), .map (some gm), .bool fused, .int .i64 left, .int .i64 1, .int .i64 0, .int .i64 0, .int .i64 0, .int .i64 0, .int .i64 0] 87 :: row gd (bvs l) 5 :: pt gm (mapO (es.map PEnt.ent) clock) :: stars (es.map PEnt.ast) :: L)) (by rw [copy_all ho]; rfl) (fun w4 m6 S5 => ?_))
  refine wl_end (fr [.slice A l.length ca, ud, pn, iv 0, pq g, iv 0, .slice A l.length ca, iv (l.length : Nat), iv ((l.length % 512 : Nat) : Int), fv, .tuple #[pq g, iv 0], .slice A l.length ca, iv (l.length : Nat), iv ((m : Nat) : Int), .tuple #[pq g, iv 0], pq g, iv 0, iv 0, tv, pq g, pq g, pq g, sl gd 0 (512 * m) (512 * m), .slice A l.length ca, goInt m6] 2) (by kernel_rfl) ?_
  refine then_n ?_
  refine wp_seq ?_
  refine wp_region_lit ?_
  refine pv (pq g) ?_
  refine pv (iv 0) ?_
  refine pv (pq g) ?_
  refine pv (iv 0) ?_
  refine wl_end (fr [.slice A l.length ca, ud, pq g, iv 0, pq g, iv 0, .slice A l.length ca, iv (l.length : Nat), iv ((l.length % 512 : Nat) : Int), fv, .tuple #[pq g, iv 0], .slice A l.length ca, iv (l.length : Nat), iv ((m : Nat) : Int), .tuple #[pq g, iv 0], pq g, iv 0, iv 0, tv, pq g, pq g, pq g, sl gd 0 (512 * m) (512 * m), .slice A l.length ca, goInt m6, pq g, iv 0] 0) (by kernel_rfl) ?_
  refine then_n ?_
  refine wp_ret ?_
  refine bodyPost_ret (v := .tuple #[.pointer (some ⟨g, 0, none⟩), .int .i64 0]) (results_t2 rfl (by kernel_rfl) (by kernel_rfl)) rfl ?_
  have hsl := length_secs m l
  have hss := secs_flat m l ho
  refine ⟨g, rfl, St.pclose (gd := gd) (gm := gm) (clock := clock) (es := es) (fused := fused) (left := left) (s := Dsk.mk0 (secs l m)) ?_ ?_⟩
  · unfold pdParts; show St F w0 _ (row _ (dcells _ (512 * (secs l m).length) (512 * (secs l m).length) _ _ _ _ _ _ _ _ _) _ :: row _ (bvs (secs l m).flatten) _ :: _); rw [hsl, hss]; exact S5
  · have he : es = [] := by
      cases es with
      | nil => rfl
      | cons p r => exact absurd (List.map_eq_nil_iff.1 (hf.ws p List.mem_cons_self)) (hf.ne p List.mem_cons_self)
    subst he
    have hm := PFacts.mk0 (left := left) (secs_len m l ho) (by rw [hsl]; exact h1) (by rw [hsl]; exact h2)
    exact ⟨fun p hp => (by cases hp), List.nodup_nil, List.nodup_nil, fun p hp => (by cases hp), fun x hx => (by cases hx), fun p hp => (by cases hp), hm.len, hm.plen, hm.n1, hm.n2, hf.fuse, hf.left, hf.lb, hm.pn⟩
end Go.Proofs
