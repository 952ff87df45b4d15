/- first, ask, alike, mix, cutOf, pairOf, renews of the laws. -/
import Derived.Test.YtgelippmcflppaaHPair
open Go Go.RowKit Go.Proofs.YtgelippmcflppaaW.PrintWords Go.Proofs.YtgelippmcflppaaW.PrintMore
namespace Go.Proofs
open Go.Vel
set_option linter.unusedVariables false
set_option maxRecDepth 100000
set_option maxHeartbeats 4000000
attribute [local irreducible] gives wpList Code.wp

theorem sec0 : (sec3 []).length = 512 := sec3_len []
theorem seal_over {o b : List UInt8} (ho : o.length = 512) (hb : b.length ≤ 504) : (sealF o b).2 = 0 ∧ (sealF o b).1.length = 512 ∧ ∃ t : UInt8, t.toNat ≤ 2 ∧ (sealF o b).1 = form t b := by
  have e : sealF o b = (form (turnOf (o.getD 0 0) (o.getD 511 0)) b, 0) := by unfold sealF; rw [if_neg (by omega), if_neg (by omega)]
  rw [e]
  exact ⟨rfl, length_form _ hb, _, (turn_ne _ _).2.2, rfl⟩
theorem first_told : newestF (sealF (sec3 []) [7, 0, 0, 0, 0, 0, 0, 0]).1 (sealF (sec3 []) [9, 0, 0, 0, 0, 0, 0, 0, 65]).1 = (1, 9, [65], 0) := by
  obtain ⟨_, l1, t1, h1, e1⟩ := seal_over (o := sec3 []) (b := [7, 0, 0, 0, 0, 0, 0, 0]) sec0 (by decide)
  obtain ⟨_, l2, t2, h2, e2⟩ := seal_over (o := sec3 []) (b := [9, 0, 0, 0, 0, 0, 0, 0, 65]) sec0 (by decide)
  have r1 := readF_new (t := t1) (no := 7) (d := []) h1 (by decide) (by decide) (by decide)
  have r2 := readF_new (t := t2) (no := 9) (d := [65]) h2 (by decide) (by decide) (by decide)
  have g1 : le8 7 ++ [] = [7, 0, 0, 0, 0, 0, 0, 0] := by decide
  have g2 : le8 9 ++ [65] = [9, 0, 0, 0, 0, 0, 0, 0, 65] := by decide
  rw [g1, ← e1] at r1
  rw [g2, ← e2] at r2
  rw [newest_of ⟨l1, l2⟩, r1, r2]; rfl
theorem ps_newest' {F : Nat → Prop} {w0 w : World} {L : List Ast} (S : St F w0 w L) {A B : Option Addr} {a b : List UInt8} {m n ca cb : Nat} (hm0 : m = a.length) (hn0 : n = b.length) (ha : RoT F w0 L A a) (hb : RoT F w0 L B b) (hma : a.length ≤ 9223372036854775807) (hmb : b.length ≤ 9223372036854775807) : Calls Try.prog 37 #[.slice A m ca, .slice B n cb] w fun e w' => ∃ A c, e = .returned (.tuple #[.int .i64 ((newestF a b).1 : Int), .int .i64 ((newestF a b).2.1 : Int), .slice A (newestF a b).2.2.1.length c, .int .i64 ((newestF a b).2.2.2 : Int)]) ∧ St F w0 w' (bytesX (.slice A (newestF a b).2.2.1.length c) (newestF a b).2.2.1 :: L) := by
  subst hm0 hn0
  refine (ps_newest S ha hb hma hmb).mono fun e w' h => ?_
  obtain ⟨v, rfl, S2⟩ := h
  obtain ⟨A', c', rfl, _⟩ := St.bytesX_v S2
  exact ⟨A', c', rfl, S2⟩
theorem newest_len (a b : List UInt8) (ha : a.length = 512) (hb : b.length = 512) : (newestF a b).2.2.1.length ≤ 504 := by
  have hr : ∀ s : List UInt8, (readF s).2.length ≤ 504 := fun s => by
    have := openF_len' s
    unfold readF
    split
    · exact Nat.zero_le _
    · split
      · exact Nat.zero_le _
      · show ((openF s).1.drop 8).length ≤ 504; rw [List.length_drop]; omega
  rw [newest_of ⟨ha, hb⟩]
  split
  · exact Nat.zero_le _
  · split
    · exact hr _
    · exact hr _
theorem first_all {F : Nat → Prop} {w0 w : World} {L : List Ast} (S : St F w0 w L) : Calls Try.prog 19 #[] w fun e w' => e = .returned (.bool true) ∧ St F w0 w' L := by
  have f1 := seal_over (o := sec3 []) (b := [7, 0, 0, 0, 0, 0, 0, 0]) sec0 (by decide)
  have f2 := seal_over (o := sec3 []) (b := [9, 0, 0, 0, 0, 0, 0, 0, 65]) sec0 (by decide)
  have f3 := first_told
  have f4 := sec0
  refine wp_enter (fr [] 53) Try.func19 rfl (by kernel_rfl) ?_
  refine wp_seq ?_
  refine wp_region_lit ?_
  refine pv fv ?_
  refine wl_end _ rfl ?_
  refine then_n ?_
  refine wp_seq ?_
  refine wp_region_lit ?_
  refine wl_gv rfl (gv_call (args := #[.slice none 0 0]) rfl Try.func18 (by kernel_rfl) rfl rfl (by kernel_rfl) ?_)
  refine Calls.mono (se3 (l := []) (A := none) (ca := 0) S RoT.nil (Nat.zero_le _)) ?_
  rintro _ w1 ⟨A3, c4, rfl, S2⟩
  refine ⟨_, rfl, ?_⟩
  refine wl_gv rfl (gv_slit (e := 5) (sz := 1) (z := .int .u8 0) (by_ := 1) (vs := #[(0, .int .u8 7), (1, .int .u8 0), (2, .int .u8 0), (3, .int .u8 0), (4, .int .u8 0), (5, .int .u8 0), (6, .int .u8 0), (7, .int .u8 0)]) (cells := #[.int .u8 7, .int .u8 0, .int .u8 0, .int .u8 0, .int .u8 0, .int .u8 0, .int .u8 0, .int .u8 0]) S2 rfl (by kernel_rfl) ⟨by kernel_rfl⟩ (by kernel_rfl) (by kernel_rfl) (by kernel_rfl) (by kernel_rfl) (fun g5 w6 hg7 S8 => ?_))
  refine wl_gv rfl (gv_call (args := #[.slice A3 512 c4, .slice (some ⟨g5, 0, none⟩) 8 8]) rfl Try.func24 (by kernel_rfl) rfl rfl (by kernel_rfl) ?_)
  refine Calls.mono (ps_seal' (a := sec3 []) (b := [7, 0, 0, 0, 0, 0, 0, 0]) S8 f4.symm rfl (RoT.ofVec 1 rfl) (RoT.item (B := [7, 0, 0, 0, 0, 0, 0, 0]) 0 rfl 0 8 _ rfl) (by omega) (by decide)) ?_
  rintro _ w9 ⟨Ap, cp, rfl, S10⟩
  refine ⟨_, rfl, ?_⟩
  have S11 : St F w0 w9 (bytesX (.slice Ap (sealF (sec3 []) [7, 0, 0, 0, 0, 0, 0, 0]).1.length cp) (sealF (sec3 []) [7, 0, 0, 0, 0, 0, 0, 0]).1 :: L) := St.permT [bytesX (.slice Ap (sealF (sec3 []) [7, 0, 0, 0, 0, 0, 0, 0]).1.length cp) (sealF (sec3 []) [7, 0, 0, 0, 0, 0, 0, 0]).1, row g5 #[.int .u8 7, .int .u8 0, .int .u8 0, .int .u8 0, .int .u8 0, .int .u8 0, .int .u8 0, .int .u8 0] 5, vec 5 1 (.slice A3 512 c4) 512 ((sec3 []).map bv)] [0] (by decide) rfl S10
  refine pv (.tuple #[.slice Ap ((sealF (sec3 []) [7, 0, 0, 0, 0, 0, 0, 0]).1.length) cp, iv ((sealF (sec3 []) [7, 0, 0, 0, 0, 0, 0, 0]).2 : Int)]) ?_
  refine pv (.slice Ap ((sealF (sec3 []) [7, 0, 0, 0, 0, 0, 0, 0]).1.length) cp) ?_
  refine pv (iv ((sealF (sec3 []) [7, 0, 0, 0, 0, 0, 0, 0]).2 : Int)) ?_
  refine pv (.slice Ap ((sealF (sec3 []) [7, 0, 0, 0, 0, 0, 0, 0]).1.length) cp) ?_
  refine pv (iv ((sealF (sec3 []) [7, 0, 0, 0, 0, 0, 0, 0]).2 : Int)) ?_
  refine wl_end _ rfl ?_
  refine then_n ?_
  refine wp_seq ?_
  refine wp_region_lit ?_
  refine wl_gv rfl (gv_call (args := #[.slice none 0 0]) rfl Try.func18 (by kernel_rfl) rfl rfl (by kernel_rfl) ?_)
  refine Calls.mono (se3 (l := []) (A := none) (ca := 0) S11 RoT.nil (Nat.zero_le _)) ?_
  rintro _ w12 ⟨A14, c15, rfl, S13⟩
  refine ⟨_, rfl, ?_⟩
  refine wl_gv rfl (gv_slit (e := 5) (sz := 1) (z := .int .u8 0) (by_ := 1) (vs := #[(0, .int .u8 9), (1, .int .u8 0), (2, .int .u8 0), (3, .int .u8 0), (4, .int .u8 0), (5, .int .u8 0), (6, .int .u8 0), (7, .int .u8 0), (8, .int .u8 65)]) (cells := #[.int .u8 9, .int .u8 0, .int .u8 0, .int .u8 0, .int .u8 0, .int .u8 0, .int .u8 0, .int .u8 0, .int .u8 65]) S13 rfl (by kernel_rfl) ⟨by kernel_rfl⟩ (by kernel_rfl) (by kernel_rfl) (by kernel_rfl) (by kernel_rfl) (fun g16 w17 hg18 S19 => ?_))
  refine wl_gv rfl (gv_call (args := #[.slice A14 512 c15, .slice (some ⟨g16, 0, none⟩) 9 9]) rfl Try.func24 (by kernel_rfl) rfl rfl (by kernel_rfl) ?_)
  refine Calls.mono (ps_seal' (a := sec3 []) (b := [9, 0, 0, 0, 0, 0, 0, 0, 65]) S19 f4.symm rfl (RoT.ofVec 1 rfl) (RoT.item (B := [9, 0, 0, 0, 0, 0, 0, 0, 65]) 0 rfl 0 9 _ rfl) (by omega) (by decide)) ?_
  rintro _ w20 ⟨Ar, cr, rfl, S21⟩
  refine ⟨_, rfl, ?_⟩
  have S22 : St F w0 w20 (bytesX (.slice Ar (sealF (sec3 []) [9, 0, 0, 0, 0, 0, 0, 0, 65]).1.length cr) (sealF (sec3 []) [9, 0, 0, 0, 0, 0, 0, 0, 65]).1 :: bytesX (.slice Ap (sealF (sec3 []) [7, 0, 0, 0, 0, 0, 0, 0]).1.length cp) (sealF (sec3 []) [7, 0, 0, 0, 0, 0, 0, 0]).1 :: L) := St.permT [bytesX (.slice Ar (sealF (sec3 []) [9, 0, 0, 0, 0, 0, 0, 0, 65]).1.length cr) (sealF (sec3 []) [9, 0, 0, 0, 0, 0, 0, 0, 65]).1, row g16 #[.int .u8 9, .int .u8 0, .int .u8 0, .int .u8 0, .int .u8 0, .int .u8 0, .int .u8 0, .int .u8 0, .int .u8 65] 5, vec 5 1 (.slice A14 512 c15) 512 ((sec3 []).map bv), bytesX (.slice Ap (sealF (sec3 []) [7, 0, 0, 0, 0, 0, 0, 0]).1.length cp) (sealF (sec3 []) [7, 0, 0, 0, 0, 0, 0, 0]).1] [0, 3] (by decide) rfl S21
  refine pv (.tuple #[.slice Ar ((sealF (sec3 []) [9, 0, 0, 0, 0, 0, 0, 0, 65]).1.length) cr, iv ((sealF (sec3 []) [9, 0, 0, 0, 0, 0, 0, 0, 65]).2 : Int)]) ?_
  refine pv (.slice Ar ((sealF (sec3 []) [9, 0, 0, 0, 0, 0, 0, 0, 65]).1.length) cr) ?_
  refine pv (iv ((sealF (sec3 []) [9, 0, 0, 0, 0, 0, 0, 0, 65]).2 : Int)) ?_
  refine pv (.slice Ar ((sealF (sec3 []) [9, 0, 0, 0, 0, 0, 0, 0, 65]).1.length) cr) ?_
  refine pv (iv ((sealF (sec3 []) [9, 0, 0, 0, 0, 0, 0, 0, 65]).2 : Int)) ?_
  refine wl_end _ rfl ?_
  refine then_n ?_
  refine wp_seq ?_
  refine wp_seq ?_
  refine wp_region_lit ?_
  refine pv (iv ((sealF (sec3 []) [7, 0, 0, 0, 0, 0, 0, 0]).2 : Int)) ?_
  refine wl_gv rfl (gv_call (args := #[.int .i64 ((sealF (sec3 []) [7, 0, 0, 0, 0, 0, 0, 0]).2 : Int)]) rfl Try.func35 (by kernel_rfl) rfl rfl (by kernel_rfl) ?_)
  refine Calls.mono (num_ro) ?_
  rintro _ _ ⟨rfl, rfl⟩
  refine ⟨_, rfl, ?_⟩
  refine wl_gv rfl (gv_ne (x := ((sealF (sec3 []) [7, 0, 0, 0, 0, 0, 0, 0]).2 : Int)) (y := 0) (by kernel_rfl) (fun hd23 => False.elim (hd23 (by rw [f1.1]; rfl))) (fun _ => ?_))
  refine pv fv ?_
  refine wl_when (by kernel_rfl) (gv_val (v := .int .i64 ((sealF (sec3 []) [9, 0, 0, 0, 0, 0, 0, 0, 65]).2 : Int)) (w' := w20) (by kernel_rfl) ?_)
  refine wl_when (by kernel_rfl) (gv_call (args := #[.int .i64 ((sealF (sec3 []) [9, 0, 0, 0, 0, 0, 0, 0, 65]).2 : Int)]) rfl Try.func35 (by kernel_rfl) rfl rfl (by kernel_rfl) ?_)
  refine Calls.mono (num_ro) ?_
  rintro _ _ ⟨rfl, rfl⟩
  refine ⟨_, rfl, ?_⟩
  refine wl_when (by kernel_rfl) (gv_ne (x := ((sealF (sec3 []) [9, 0, 0, 0, 0, 0, 0, 0, 65]).2 : Int)) (y := 0) (by kernel_rfl) (fun hd24 => False.elim (hd24 (by rw [f2.1]; rfl))) (fun _ => ?_))
  refine pv fv ?_
  refine wl_end _ rfl ?_
  refine then_n ?_
  refine wp_cond_false (by kernel_rfl) ?_
  refine wp_skip ?_
  refine then_n ?_
  refine wp_seq ?_
  refine wp_region_lit ?_
  refine pv (.slice Ap ((sealF (sec3 []) [7, 0, 0, 0, 0, 0, 0, 0]).1.length) cp) ?_
  refine pv (.slice Ar ((sealF (sec3 []) [9, 0, 0, 0, 0, 0, 0, 0, 65]).1.length) cr) ?_
  refine wl_gv rfl (gv_call (args := #[.slice Ap ((sealF (sec3 []) [7, 0, 0, 0, 0, 0, 0, 0]).1.length) cp, .slice Ar ((sealF (sec3 []) [9, 0, 0, 0, 0, 0, 0, 0, 65]).1.length) cr]) rfl Try.func37 (by kernel_rfl) rfl rfl (by kernel_rfl) ?_)
  refine Calls.mono (ps_newest' (a := (sealF (sec3 []) [7, 0, 0, 0, 0, 0, 0, 0]).1) (b := (sealF (sec3 []) [9, 0, 0, 0, 0, 0, 0, 0, 65]).1) S22 rfl rfl (RoT.bytesX 1 rfl rfl) (RoT.bytesX 0 rfl rfl) (by omega) (by omega)) ?_
  rintro _ w25 ⟨Aq, cq, rfl, S26⟩
  rw [f3] at S26
  refine ⟨_, rfl, ?_⟩
  rw [f3]
  have S27 : St F w0 w25 (bytesX (.slice Aq 1 cq) [65] :: bytesX (.slice Ar (sealF (sec3 []) [9, 0, 0, 0, 0, 0, 0, 0, 65]).1.length cr) (sealF (sec3 []) [9, 0, 0, 0, 0, 0, 0, 0, 65]).1 :: bytesX (.slice Ap (sealF (sec3 []) [7, 0, 0, 0, 0, 0, 0, 0]).1.length cp) (sealF (sec3 []) [7, 0, 0, 0, 0, 0, 0, 0]).1 :: L) := S26
  refine pv (.tuple #[iv 1, iv 9, .slice Aq 1 cq, iv 0]) ?_
  refine pv (iv 1) ?_
  refine pv (iv 9) ?_
  refine pv (.slice Aq 1 cq) ?_
  refine pv (iv 0) ?_
  refine pv (iv 1) ?_
  refine pv (iv 9) ?_
  refine pv (.slice Aq 1 cq) ?_
  refine pv (iv 0) ?_
  refine wl_end (fr [fv, .slice Ap ((sealF (sec3 []) [7, 0, 0, 0, 0, 0, 0, 0]).1.length) cp, iv ((sealF (sec3 []) [7, 0, 0, 0, 0, 0, 0, 0]).2 : Int), .slice Ar ((sealF (sec3 []) [9, 0, 0, 0, 0, 0, 0, 0, 65]).1.length) cr, iv ((sealF (sec3 []) [9, 0, 0, 0, 0, 0, 0, 0, 65]).2 : Int), iv 1, iv 9, .slice Aq 1 cq, iv 0, .tuple #[.slice Ap ((sealF (sec3 []) [7, 0, 0, 0, 0, 0, 0, 0]).1.length) cp, iv ((sealF (sec3 []) [7, 0, 0, 0, 0, 0, 0, 0]).2 : Int)], .slice A3 512 c4, sl g5 0 8 8, .tuple #[.slice Ap ((sealF (sec3 []) [7, 0, 0, 0, 0, 0, 0, 0]).1.length) cp, iv ((sealF (sec3 []) [7, 0, 0, 0, 0, 0, 0, 0]).2 : Int)], .slice Ap ((sealF (sec3 []) [7, 0, 0, 0, 0, 0, 0, 0]).1.length) cp, iv ((sealF (sec3 []) [7, 0, 0, 0, 0, 0, 0, 0]).2 : Int), .tuple #[.slice Ar ((sealF (sec3 []) [9, 0, 0, 0, 0, 0, 0, 0, 65]).1.length) cr, iv ((sealF (sec3 []) [9, 0, 0, 0, 0, 0, 0, 0, 65]).2 : Int)], .slice A14 512 c15, sl g16 0 9 9, .tuple #[.slice Ar ((sealF (sec3 []) [9, 0, 0, 0, 0, 0, 0, 0, 65]).1.length) cr, iv ((sealF (sec3 []) [9, 0, 0, 0, 0, 0, 0, 0, 65]).2 : Int)], .slice Ar ((sealF (sec3 []) [9, 0, 0, 0, 0, 0, 0, 0, 65]).1.length) cr, iv ((sealF (sec3 []) [9, 0, 0, 0, 0, 0, 0, 0, 65]).2 : Int), iv ((sealF (sec3 []) [7, 0, 0, 0, 0, 0, 0, 0]).2 : Int), iv ((sealF (sec3 []) [7, 0, 0, 0, 0, 0, 0, 0]).2 : Int), fv, fv, iv ((sealF (sec3 []) [9, 0, 0, 0, 0, 0, 0, 0, 65]).2 : Int), iv ((sealF (sec3 []) [9, 0, 0, 0, 0, 0, 0, 0, 65]).2 : Int), fv, fv, .tuple #[iv 1, iv 9, .slice Aq 1 cq, iv 0], .slice Ap ((sealF (sec3 []) [7, 0, 0, 0, 0, 0, 0, 0]).1.length) cp, .slice Ar ((sealF (sec3 []) [9, 0, 0, 0, 0, 0, 0, 0, 65]).1.length) cr, .tuple #[iv 1, iv 9, .slice Aq 1 cq, iv 0], iv 1, iv 9, .slice Aq 1 cq, iv 0] 16) (by kernel_rfl) ?_
  refine then_n ?_
  refine wp_seq ?_
  refine wp_region_lit ?_
  refine pv (iv 0) ?_
  refine wl_gv rfl (gv_call (args := #[.int .i64 0]) rfl Try.func35 (by kernel_rfl) rfl rfl (by kernel_rfl) ?_)
  refine Calls.mono (num_ro) ?_
  rintro _ _ ⟨rfl, rfl⟩
  refine ⟨_, rfl, ?_⟩
  refine wl_gv rfl (gv_eq (x := 0) (y := 0) (by kernel_rfl) (fun _ => ?_) (fun hd28 => False.elim (hd28 rfl)))
  refine pv tv ?_
  refine wl_when (by kernel_rfl) (gv_val (v := .int .i64 1) (w' := w25) (by kernel_rfl) ?_)
  refine wl_when (by kernel_rfl) (gv_eq (x := 1) (y := 1) (by kernel_rfl) (fun _ => ?_) (fun hd29 => False.elim (hd29 rfl)))
  refine pv tv ?_
  refine pv tv ?_
  refine wl_when (by kernel_rfl) (gv_val (v := .int .i64 9) (w' := w25) (by kernel_rfl) ?_)
  refine wl_when (by kernel_rfl) (gv_eq (x := 9) (y := 9) (by kernel_rfl) (fun _ => ?_) (fun hd30 => False.elim (hd30 rfl)))
  refine pv tv ?_
  refine pv tv ?_
  refine wl_when (by kernel_rfl) (gv_val (v := .slice Aq 1 cq) (w' := w25) (by kernel_rfl) ?_)
  refine wl_when (by kernel_rfl) (gv_slit (e := 5) (sz := 1) (z := .int .u8 0) (by_ := 1) (vs := #[(0, .int .u8 65)]) (cells := #[.int .u8 65]) S27 rfl (by kernel_rfl) ⟨by kernel_rfl⟩ (by kernel_rfl) (by kernel_rfl) (by kernel_rfl) (by kernel_rfl) (fun g31 w32 hg33 S34 => ?_))
  refine wl_when (by kernel_rfl) (gv_call (args := #[.slice Aq 1 cq, .slice (some ⟨g31, 0, none⟩) 1 1]) rfl Try.func28 (by kernel_rfl) rfl rfl (by kernel_rfl) ?_)
  refine Calls.mono (same3 (a := [65]) (b := [65]) (decide_eq_true rfl) S34 (RoT.bytesX 1 rfl rfl) (RoT.item (B := [65]) 0 rfl 0 1 _ rfl) (by decide) (by decide)) ?_
  rintro _ w35 ⟨rfl, S36⟩
  refine ⟨_, rfl, ?_⟩
  refine pv tv ?_
  refine pv tv ?_
  refine wl_end _ rfl ?_
  refine then_n ?_
  refine wp_ret ?_
  refine bodyPost_ret (v := .bool true) (results_t1 rfl (by kernel_rfl)) rfl ?_
  have S37 : St F w0 w35 (L) := St.permT [row g31 #[.int .u8 65] 5, bytesX (.slice Aq 1 cq) [65], bytesX (.slice Ar (sealF (sec3 []) [9, 0, 0, 0, 0, 0, 0, 0, 65]).1.length cr) (sealF (sec3 []) [9, 0, 0, 0, 0, 0, 0, 0, 65]).1, bytesX (.slice Ap (sealF (sec3 []) [7, 0, 0, 0, 0, 0, 0, 0]).1.length cp) (sealF (sec3 []) [7, 0, 0, 0, 0, 0, 0, 0]).1] [] (by decide) rfl S36
  exact ⟨rfl, S37⟩
theorem ask_all {F : Nat → Prop} {w0 w : World} {L : List Ast} (S : St F w0 w L) {A B : Option Addr} {a b : List UInt8} {m n ca cb : Nat} (hm0 : m = a.length) (hn0 : n = b.length) (ha : RoT F w0 L A a) (hb : RoT F w0 L B b) (hma : a.length ≤ 140737488355328) (hmb : b.length ≤ 140737488355328) : Calls Try.prog 23 #[.slice A m ca, .slice B n cb] w fun e w' => ∃ A c, e = .returned (.agg #[.int .i64 ((newestF a b).1 : Int), .int .i64 ((newestF a b).2.1 : Int), .slice A (newestF a b).2.2.1.length c, .int .i64 ((newestF a b).2.2.2 : Int)]) ∧ St F w0 w' (bytesX (.slice A (newestF a b).2.2.1.length c) (newestF a b).2.2.1 :: L) := by
  subst hm0 hn0
  refine wp_enter (fr [.slice A a.length ca, .slice B b.length cb] 23) Try.func23 rfl (by kernel_rfl) ?_
  refine wp_seq ?_
  refine wp_region_lit ?_
  refine wl_gv rfl (gv_new (z := .agg #[.int .i64 0, .int .i64 0, .slice none 0 0, .int .i64 0]) S rfl (by kernel_rfl) (fun g1 w2 hg3 S4 => ?_))
  refine wl_end _ rfl ?_
  refine then_n ?_
  refine wp_seq ?_
  refine wp_region_lit ?_
  refine pv (.slice A a.length ca) ?_
  refine wl_gv rfl (gv_call (args := #[.slice A a.length ca]) rfl Try.func26 (by kernel_rfl) rfl rfl (by kernel_rfl) ?_)
  refine Calls.mono (tw3 (l := a) S4 ha.more (by omega)) ?_
  rintro _ w5 ⟨A7, c8, rfl, S6⟩
  refine ⟨_, rfl, ?_⟩
  refine pv (.slice B b.length cb) ?_
  refine wl_gv rfl (gv_call (args := #[.slice B b.length cb]) rfl Try.func26 (by kernel_rfl) rfl rfl (by kernel_rfl) ?_)
  refine Calls.mono (tw3 (l := b) S6 hb.more.more (by omega)) ?_
  rintro _ w9 ⟨A11, c12, rfl, S10⟩
  refine ⟨_, rfl, ?_⟩
  refine wl_gv rfl (gv_call (args := #[.slice A7 a.length c8, .slice A11 b.length c12]) rfl Try.func37 (by kernel_rfl) rfl rfl (by kernel_rfl) ?_)
  refine Calls.mono (ps_newest' (a := a) (b := b) S10 rfl rfl (RoT.ofVec 1 rfl) (RoT.ofVec 0 rfl) (by omega) (by omega)) ?_
  rintro _ w13 ⟨Aq, cq, rfl, S14⟩
  refine ⟨_, rfl, ?_⟩
  refine pv (.tuple #[iv ((newestF a b).1 : Int), iv ((newestF a b).2.1 : Int), .slice Aq ((newestF a b).2.2.1.length) cq, iv ((newestF a b).2.2.2 : Int)]) ?_
  refine pv (iv ((newestF a b).1 : Int)) ?_
  refine pv (iv ((newestF a b).2.1 : Int)) ?_
  refine pv (.slice Aq ((newestF a b).2.2.1.length) cq) ?_
  refine pv (iv ((newestF a b).2.2.2 : Int)) ?_
  refine pv (iv ((newestF a b).1 : Int)) ?_
  refine pv (iv ((newestF a b).2.1 : Int)) ?_
  refine pv (.slice Aq ((newestF a b).2.2.1.length) cq) ?_
  refine pv (iv ((newestF a b).2.2.2 : Int)) ?_
  refine wl_end _ rfl ?_
  refine then_n ?_
  refine wp_seq ?_
  refine wp_region_lit ?_
  refine pv (iv ((newestF a b).1 : Int)) ?_
  refine pv (iv ((newestF a b).2.1 : Int)) ?_
  refine pv (.slice Aq ((newestF a b).2.2.1.length) cq) ?_
  refine pv (iv ((newestF a b).2.2.2 : Int)) ?_
  refine wl_gv rfl (gv_call (args := #[.int .i64 ((newestF a b).2.2.2 : Int)]) rfl Try.func35 (by kernel_rfl) rfl rfl (by kernel_rfl) ?_)
  refine Calls.mono (num_ro) ?_
  rintro _ _ ⟨rfl, rfl⟩
  refine ⟨_, rfl, ?_⟩
  refine pv (.agg #[iv ((newestF a b).1 : Int), iv ((newestF a b).2.1 : Int), .slice Aq ((newestF a b).2.2.1.length) cq, iv ((newestF a b).2.2.2 : Int)]) ?_
  refine wl_gv rfl (gv_stA (k := 0) (vs := [.int .i64 ((newestF a b).1 : Int), .int .i64 ((newestF a b).2.1 : Int), .slice Aq ((newestF a b).2.2.1.length) cq, .int .i64 ((newestF a b).2.2.2 : Int)]) S14 3 rfl rfl (by kernel_rfl) (by kernel_rfl) (by kernel_rfl) rfl (by simp [Value.oneCell']) (Nat.le_of_ble_eq_true (by kernel_rfl)) (L' := (bytesX (.slice Aq (newestF a b).2.2.1.length cq) (newestF a b).2.2.1 :: vec 5 1 (.slice A11 b.length c12) b.length (b.map bv) :: vec 5 1 (.slice A7 a.length c8) a.length (a.map bv) :: row g1 #[.int .i64 ((newestF a b).1 : Int), .int .i64 ((newestF a b).2.1 : Int), .slice Aq ((newestF a b).2.2.1.length) cq, .int .i64 ((newestF a b).2.2.2 : Int)] 53 :: L)) rfl (fun w15 S16 => ?_))
  refine wl_end _ rfl ?_
  refine then_n ?_
  refine wp_ret ?_
  refine bodyPost_ret (v := .agg #[.int .i64 ((newestF a b).1 : Int), .int .i64 ((newestF a b).2.1 : Int), .slice Aq ((newestF a b).2.2.1.length) cq, .int .i64 ((newestF a b).2.2.2 : Int)]) (results_cell1 rfl _ (S16.get 3 rfl) (by kernel_rfl) (by kernel_rfl)) rfl ?_
  have S17 : St F w0 w15 (bytesX (.slice Aq (newestF a b).2.2.1.length cq) (newestF a b).2.2.1 :: L) := St.permT [bytesX (.slice Aq (newestF a b).2.2.1.length cq) (newestF a b).2.2.1, vec 5 1 (.slice A11 b.length c12) b.length (b.map bv), vec 5 1 (.slice A7 a.length c8) a.length (a.map bv), row g1 #[.int .i64 ((newestF a b).1 : Int), .int .i64 ((newestF a b).2.1 : Int), .slice Aq ((newestF a b).2.2.1.length) cq, .int .i64 ((newestF a b).2.2.2 : Int)] 53] [0] (by decide) rfl S16
  exact ⟨_, _, rfl, S17⟩
theorem alike_all {F : Nat → Prop} {w0 w : World} {L : List Ast} (S : St F w0 w L) {s1 n1 e1 s2 n2 e2 : Int} {A1 A2 : Option Addr} {x y : List UInt8} {m n c1 c2 : Nat} (hm0 : m = x.length) (hn0 : n = y.length) (hx : RoT F w0 L A1 x) (hy : RoT F w0 L A2 y) (hmx : x.length ≤ 9223372036854775807) (hmy : y.length ≤ 9223372036854775807) {t : Bool} (ht : decide (s1 = s2 ∧ n1 = n2 ∧ e1 = e2 ∧ x = y) = t) : Calls Try.prog 38 #[.agg #[.int .i64 s1, .int .i64 n1, .slice A1 m c1, .int .i64 e1], .agg #[.int .i64 s2, .int .i64 n2, .slice A2 n c2, .int .i64 e2]] w fun e w' => e = .returned (.bool t) ∧ St F w0 w' L := by
  subst hm0 hn0 ht
  refine wp_enter (fr [.agg #[iv s1, iv n1, .slice A1 x.length c1, iv e1], .agg #[iv s2, iv n2, .slice A2 y.length c2, iv e2]] 29) Try.func38 rfl (by kernel_rfl) ?_
  refine wp_seq ?_
  refine wp_region_lit ?_
  refine wl_gv rfl (gv_box (v := .agg #[.int .i64 s1, .int .i64 n1, .slice A1 x.length c1, .int .i64 e1]) S rfl (by kernel_rfl) (fun g1 w2 hg3 S4 => ?_))
  refine wl_gv rfl (gv_box (v := .agg #[.int .i64 s2, .int .i64 n2, .slice A2 y.length c2, .int .i64 e2]) S4 rfl (by kernel_rfl) (fun g5 w6 hg7 S8 => ?_))
  refine pv fv ?_
  refine wl_end _ rfl ?_
  refine then_n ?_
  refine wp_seq ?_
  refine wp_region_lit ?_
  refine pv (pq g1) ?_
  refine wl_gv rfl (gv_ldR (v := .int .i64 s1) rfl (by kernel_rfl) (by kernel_rfl) (((S8.blk 1 rfl).cell 0).trans rfl) ?_)
  refine pv (pq g5) ?_
  refine wl_gv rfl (gv_ldR (v := .int .i64 s2) rfl (by kernel_rfl) (by kernel_rfl) (((S8.blk 0 rfl).cell 0).trans rfl) ?_)
  refine wl_gv rfl (gv_eq (x := s1) (y := s2) (by kernel_rfl) (fun k1 => ?_) (fun k1 => ?_))
  · skip
    refine pv tv ?_
    refine wl_when (by kernel_rfl) (gv_val (v := .pointer (some ⟨g1, 1, none⟩)) (w' := w6) (by kernel_rfl) ?_)
    refine wl_when (by kernel_rfl) (gv_ldR (v := .int .i64 n1) rfl (by kernel_rfl) (by kernel_rfl) (((S8.blk 1 rfl).cell 1).trans rfl) ?_)
    refine wl_when (by kernel_rfl) (gv_val (v := .pointer (some ⟨g5, 1, none⟩)) (w' := w6) (by kernel_rfl) ?_)
    refine wl_when (by kernel_rfl) (gv_ldR (v := .int .i64 n2) rfl (by kernel_rfl) (by kernel_rfl) (((S8.blk 0 rfl).cell 1).trans rfl) ?_)
    refine wl_when (by kernel_rfl) (gv_eq (x := n1) (y := n2) (by kernel_rfl) (fun k2 => ?_) (fun k2 => ?_))
    · skip
      refine pv tv ?_
      refine pv tv ?_
      refine wl_when (by kernel_rfl) (gv_val (v := .pointer (some ⟨g1, 3, none⟩)) (w' := w6) (by kernel_rfl) ?_)
      refine wl_when (by kernel_rfl) (gv_ldR (v := .int .i64 e1) rfl (by kernel_rfl) (by kernel_rfl) (((S8.blk 1 rfl).cell 3).trans rfl) ?_)
      refine wl_when (by kernel_rfl) (gv_val (v := .pointer (some ⟨g5, 3, none⟩)) (w' := w6) (by kernel_rfl) ?_)
      refine wl_when (by kernel_rfl) (gv_ldR (v := .int .i64 e2) rfl (by kernel_rfl) (by kernel_rfl) (((S8.blk 0 rfl).cell 3).trans rfl) ?_)
      refine wl_when (by kernel_rfl) (gv_eq (x := e1) (y := e2) (by kernel_rfl) (fun k3 => ?_) (fun k3 => ?_))
      · skip
        refine pv tv ?_
        refine pv tv ?_
        refine wl_when (by kernel_rfl) (gv_val (v := .pointer (some ⟨g1, 2, none⟩)) (w' := w6) (by kernel_rfl) ?_)
        refine wl_when (by kernel_rfl) (gv_ldR (v := .slice A1 x.length c1) rfl (by kernel_rfl) (by kernel_rfl) (((S8.blk 1 rfl).cell 2).trans rfl) ?_)
        refine wl_when (by kernel_rfl) (gv_val (v := .pointer (some ⟨g5, 2, none⟩)) (w' := w6) (by kernel_rfl) ?_)
        refine wl_when (by kernel_rfl) (gv_ldR (v := .slice A2 y.length c2) rfl (by kernel_rfl) (by kernel_rfl) (((S8.blk 0 rfl).cell 2).trans rfl) ?_)
        refine wl_when (by kernel_rfl) (gv_call (args := #[.slice A1 x.length c1, .slice A2 y.length c2]) rfl Try.func28 (by kernel_rfl) rfl rfl (by kernel_rfl) ?_)
        refine Calls.mono (same3_ S8 hx.more.more hy.more.more hmx hmy) ?_
        rintro _ w9 ⟨rfl, S10⟩
        refine ⟨_, rfl, ?_⟩
        refine pv (.bool (decide (x = y))) ?_
        refine pv (.bool (decide (x = y))) ?_
        refine wl_end _ rfl ?_
        refine then_n ?_
        refine wp_ret ?_
        refine bodyPost_ret (v := .bool (decide (x = y))) (results_t1 rfl (by kernel_rfl)) rfl ?_
        have S11 : St F w0 w9 (L) := St.permT [row g5 #[.int .i64 s2, .int .i64 n2, .slice A2 y.length c2, .int .i64 e2] 53, row g1 #[.int .i64 s1, .int .i64 n1, .slice A1 x.length c1, .int .i64 e1] 53] [] (by decide) rfl S10
        exact ⟨congrArg (fun b => Ending.returned (Value.bool b)) (decide_eq_decide.2 ⟨fun h => ⟨k1, k2, k3, h⟩, fun h => h.2.2.2⟩), S11⟩
      · skip
        refine pv fv ?_
        refine pv fv ?_
        refine wl_not (by kernel_rfl) ?_
        refine wl_not (by kernel_rfl) ?_
        refine wl_not (by kernel_rfl) ?_
        refine wl_not (by kernel_rfl) ?_
        refine wl_not (by kernel_rfl) ?_
        refine pv fv ?_
        refine pv fv ?_
        refine wl_end _ rfl ?_
        refine then_n ?_
        refine wp_ret ?_
        refine bodyPost_ret (v := .bool false) (results_t1 rfl (by kernel_rfl)) rfl ?_
        have S12 : St F w0 w6 (L) := St.permT [row g5 #[.int .i64 s2, .int .i64 n2, .slice A2 y.length c2, .int .i64 e2] 53, row g1 #[.int .i64 s1, .int .i64 n1, .slice A1 x.length c1, .int .i64 e1] 53] [] (by decide) rfl S8
        exact ⟨congrArg (fun b => Ending.returned (Value.bool b)) ((decide_eq_false fun h => k3 h.2.2.1).symm), S12⟩
    · skip
      refine pv fv ?_
      refine pv fv ?_
      refine wl_not (by kernel_rfl) ?_
      refine wl_not (by kernel_rfl) ?_
      refine wl_not (by kernel_rfl) ?_
      refine wl_not (by kernel_rfl) ?_
      refine wl_not (by kernel_rfl) ?_
      refine pv fv ?_
      refine pv fv ?_
      refine wl_not (by kernel_rfl) ?_
      refine wl_not (by kernel_rfl) ?_
      refine wl_not (by kernel_rfl) ?_
      refine wl_not (by kernel_rfl) ?_
      refine wl_not (by kernel_rfl) ?_
      refine pv fv ?_
      refine pv fv ?_
      refine wl_end _ rfl ?_
      refine then_n ?_
      refine wp_ret ?_
      refine bodyPost_ret (v := .bool false) (results_t1 rfl (by kernel_rfl)) rfl ?_
      have S13 : St F w0 w6 (L) := St.permT [row g5 #[.int .i64 s2, .int .i64 n2, .slice A2 y.length c2, .int .i64 e2] 53, row g1 #[.int .i64 s1, .int .i64 n1, .slice A1 x.length c1, .int .i64 e1] 53] [] (by decide) rfl S8
      exact ⟨congrArg (fun b => Ending.returned (Value.bool b)) ((decide_eq_false fun h => k2 h.2.1).symm), S13⟩
  · skip
    refine pv fv ?_
    refine wl_not (by kernel_rfl) ?_
    refine wl_not (by kernel_rfl) ?_
    refine wl_not (by kernel_rfl) ?_
    refine wl_not (by kernel_rfl) ?_
    refine wl_not (by kernel_rfl) ?_
    refine pv fv ?_
    refine pv fv ?_
    refine wl_not (by kernel_rfl) ?_
    refine wl_not (by kernel_rfl) ?_
    refine wl_not (by kernel_rfl) ?_
    refine wl_not (by kernel_rfl) ?_
    refine wl_not (by kernel_rfl) ?_
    refine pv fv ?_
    refine pv fv ?_
    refine wl_not (by kernel_rfl) ?_
    refine wl_not (by kernel_rfl) ?_
    refine wl_not (by kernel_rfl) ?_
    refine wl_not (by kernel_rfl) ?_
    refine wl_not (by kernel_rfl) ?_
    refine pv fv ?_
    refine pv fv ?_
    refine wl_end _ rfl ?_
    refine then_n ?_
    refine wp_ret ?_
    refine bodyPost_ret (v := .bool false) (results_t1 rfl (by kernel_rfl)) rfl ?_
    have S14 : St F w0 w6 (L) := St.permT [row g5 #[.int .i64 s2, .int .i64 n2, .slice A2 y.length c2, .int .i64 e2] 53, row g1 #[.int .i64 s1, .int .i64 n1, .slice A1 x.length c1, .int .i64 e1] 53] [] (by decide) rfl S8
    exact ⟨congrArg (fun b => Ending.returned (Value.bool b)) ((decide_eq_false fun h => k1 h.1).symm), S14⟩
theorem mix_get {a b : List UInt8} {c : Nat} (hc : c ≤ a.length) (i : Nat) : (a.take c ++ b.drop c).getD i 0 = if i < c then a.getD i 0 else b.getD i 0 := by
  have hl : (a.take c).length = c := by rw [List.length_take]; omega
  by_cases h : i < c
  · rw [if_pos h, List.getD_eq_getElem?_getD, List.getElem?_append_left (by omega), List.getElem?_take, if_pos h, List.getD_eq_getElem?_getD]
  · rw [if_neg h, List.getD_eq_getElem?_getD, List.getElem?_append_right (by omega), List.getElem?_drop, hl, show c + (i - c) = i from by omega, List.getD_eq_getElem?_getD]
theorem mix_all {F : Nat → Prop} {w0 w : World} {L : List Ast} (S : St F w0 w L) {A B : Option Addr} {a b : List UInt8} {m n c ca cb : Nat} (hm0 : m = a.length) (hn0 : n = b.length) (ha : RoT F w0 L A a) (hb : RoT F w0 L B b) (ha5 : a.length = 512) (hb5 : b.length = 512) (hc : c ≤ 512) : Calls Try.prog 39 #[.slice A m ca, .slice B n cb, .int .i64 ((c : Nat) : Int)] w fun e w' => ∃ A c', e = .returned (.slice A 512 c') ∧ St F w0 w' (vec 5 1 (.slice A 512 c') 512 ((a.take c ++ b.drop c).map bv) :: L) := by
  subst hm0 hn0
  have hg := mix_get (a := a) (b := b) (c := c) (by omega)
  have hMl : (a.take c ++ b.drop c).length = 512 := by rw [List.length_append, List.length_take, List.length_drop]; omega
  have S1 : St F w0 w (vec 5 1 (.slice none 0 0) 0 ([].map bv) :: L) := St.vec_nil S
  refine wp_enter (fr [.slice A a.length ca, .slice B b.length cb, iv ((c : Nat) : Int)] 38) Try.func39 rfl (by kernel_rfl) ?_
  refine wp_seq ?_
  refine wp_region_lit ?_
  refine pv (.slice none 0 0) ?_
  refine wl_end _ rfl ?_
  refine then_n ?_
  refine wp_seq ?_
  refine wp_region_lit ?_
  refine pv (.slice none 0 0) ?_
  refine wl_end _ rfl ?_
  refine then_n ?_
  refine wp_seq ?_
  refine wp_seq ?_
  refine wp_region_lit ?_
  refine pv (iv 0) ?_
  refine wl_end _ rfl ?_
  refine then_n ?_
  refine wp_block ?_
  refine wp_loop_g (G := Nat × Option Addr × Nat) (fun (g_ : Nat × Option Addr × Nat) (a_ : Act) (w_ : World) => ∃ J : Nat → Value, a_ = (fr [.slice A a.length ca, .slice B b.length cb, iv ((c : Nat) : Int), ud, ud, ud, .slice none 0 0, .slice g_.2.1 g_.1 g_.2.2, iv ((g_.1 : Nat) : Int), J 9, J 10, J 11, J 12, J 13, J 14, J 15, J 16, J 17, J 18, J 19, J 20, J 21, J 22, J 23, J 24, J 25, J 26, J 27, J 28, J 29, J 30, J 31, J 32, J 33, J 34, J 35, J 36, J 37, J 38, J 39] 1) ∧ St F w0 w_ (vec 5 1 (.slice g_.2.1 g_.1 g_.2.2) g_.1 ((pre (a.take c ++ b.drop c) g_.1).map bv) :: L) ∧ (g_.1 ≤ 512)) (fun g_ => 512 - g_.1) (0, none, 0) ⟨(jl []), by kernel_rfl, S1, Nat.zero_le _⟩ ?_
  rintro ⟨i, A5, c5⟩ a_ w2 ⟨J, rfl, S3, hI4⟩
  skip
  have S3 : St F w0 w2 (vec 5 1 (.slice A5 i c5) i ((pre (a.take c ++ b.drop c) i).map bv) :: L) := S3
  have hI4 : (i ≤ 512) := hI4
  refine wp_seq ?_
  refine wp_seq ?_
  refine wp_region_lit ?_
  refine pv (iv ((i : Nat) : Int)) ?_
  refine wl_gv rfl (gv_dec (p := (((i : Nat) : Int) : Int) < 512) (by kernel_rfl) (fun hb5 => ?_) (fun hb5 => ?_))
  · skip
    refine wl_end _ rfl ?_
    refine then_n ?_
    refine wp_cond_true (by kernel_rfl) ?_
    refine wp_skip ?_
    refine then_n ?_
    refine wp_seq ?_
    refine wp_block ?_
    refine wp_seq ?_
    refine wp_region_lit ?_
    refine pv (iv ((i : Nat) : Int)) ?_
    refine pv (iv ((c : Nat) : Int)) ?_
    refine wl_gv rfl (gv_dec (p := (((i : Nat) : Int) : Int) < ((c : Nat) : Int)) (by kernel_rfl) (fun hb6 => ?_) (fun hb6 => ?_))
    · skip
      refine pv tv ?_
      refine wl_when (by kernel_rfl) (gv_val (v := .int .i64 ((i : Nat) : Int)) (w' := w2) (by kernel_rfl) ?_)
      refine wl_when (by kernel_rfl) (gv_val (v := .slice A a.length ca) (w' := w2) (by kernel_rfl) ?_)
      refine wl_when (by kernel_rfl) (gv_val (v := .int .i64 (a.length : Nat)) (w' := w2) (by kernel_rfl) ?_)
      refine wl_when (by kernel_rfl) (gv_dec (p := (((i : Nat) : Int) : Int) < (a.length : Nat)) (by kernel_rfl) (fun _ => ?_) (fun hd7 => False.elim (by omega)))
      refine pv tv ?_
      refine wl_end _ rfl ?_
      refine then_n ?_
      refine wp_cond_true (by kernel_rfl) ?_
      refine wp_region_lit ?_
      have hi : i < a.length := by omega
      have hMi : (a.take c ++ b.drop c).getD i 0 = a.getD i 0 := by rw [hg, if_pos (by omega)]
      obtain ⟨ad, had⟩ := (ha.out _ [vec 5 1 (.slice A5 i c5) i ((pre (a.take c ++ b.drop c) i).map bv)] S3).at hi
      refine pv (.slice A5 i c5) ?_
      refine pv (.slice A a.length ca) ?_
      refine pv (iv ((i : Nat) : Int)) ?_
      refine wl_gv rfl (gv_ixB (e := 5) (sz := 1) (n := a.length) (c := ca) (i := ((i : Nat) : Int)) (k := .i64) (ad := ad) (ad' := (ad.add i)) (j := i) rfl (by kernel_rfl) (by kernel_rfl) (by rw [← had]; kernel_rfl) (by kernel_rfl) rfl hi (by rw [Nat.mul_one]) ?_)
      refine wl_gv rfl (gv_ldR (v := .int .u8 (((a.take c ++ b.drop c).getD i 0).toNat : Int)) rfl (by kernel_rfl) (by kernel_rfl) (by rw [hMi]; exact ((had ▸ ha.out _ [vec 5 1 (.slice A5 i c5) i ((pre (a.take c ++ b.drop c) i).map bv)] S3 : RdB _ (some ad) a).cell hi)) ?_)
      refine wl_gv rfl (gv_slit (e := 5) (sz := 1) (z := .int .u8 0) (by_ := 1) (vs := #[(0, .int .u8 (((a.take c ++ b.drop c).getD i 0).toNat : Int))]) (cells := #[.int .u8 (((a.take c ++ b.drop c).getD i 0).toNat : Int)]) S3 rfl (by kernel_rfl) ⟨by kernel_rfl⟩ (by kernel_rfl) (by kernel_rfl) (by kernel_rfl) (by kernel_rfl) (fun g8 w9 hg10 S11 => ?_))
      have S12 : St F w0 w9 (row g8 #[.int .u8 (((a.take c ++ b.drop c).getD i 0).toNat : Int)] 5 :: vec 5 1 (.slice A5 i c5) i ((pre (a.take c ++ b.drop c) i).map bv) :: L) := St.permT [row g8 #[.int .u8 (((a.take c ++ b.drop c).getD i 0).toNat : Int)] 5, vec 5 1 (.slice A5 i c5) i ((pre (a.take c ++ b.drop c) i).map bv)] [0, 1] (by decide) rfl S11
      refine wl_gv rfl (gv_append (e := 5) (sz := 1) (n := i) (v := (.slice A5 i c5)) (vals := ((pre (a.take c ++ b.drop c) i).map bv)) (z := .int .u8 0) (by_ := 1) (m := 1) (c' := 1) (ad := ⟨g8, 0, none⟩) (news := [.int .u8 (((a.take c ++ b.drop c).getD i 0).toNat : Int)]) (St.swap S12) rfl (by kernel_rfl) ⟨by kernel_rfl⟩ rfl (by kernel_rfl) (by kernel_rfl) (by decide) rfl (row_news (S12.blk 0 rfl)) (by intro u hu; simp at hu; subst hu; rfl) (by omega) (by omega) (fun v14 w13 S15 => ?_))
      have S16 : St F w0 w13 (vec 5 1 v14 (i + 1) ((pre (a.take c ++ b.drop c) i).map bv ++ [.int .u8 (((a.take c ++ b.drop c).getD i 0).toNat : Int)]) :: L) := St.permT [vec 5 1 v14 (i + 1) ((pre (a.take c ++ b.drop c) i).map bv ++ [.int .u8 (((a.take c ++ b.drop c).getD i 0).toNat : Int)]), row g8 #[.int .u8 (((a.take c ++ b.drop c).getD i 0).toNat : Int)] 5] [0] (by decide) rfl S15
      rw [pre_succ] at S16
      obtain ⟨A17, c18, rfl⟩ := St.vecV S16 0 rfl
      change St F w0 w13 (vec 5 1 (.slice A17 (i + 1) c18) (i + 1) ((pre (a.take c ++ b.drop c) (i + 1)).map bv) :: L) at S16
      refine pv (.slice A17 (i + 1) c18) ?_
      refine wl_end _ rfl ?_
      refine inb_n ?_
      refine then_n ?_
      refine wp_region_lit ?_
      refine pv (iv ((i : Nat) : Int)) ?_
      refine wl_gv rfl (gv_int (k := .i64) (z := IntKind.i64.wrap (((i : Nat) : Int) + 1)) (z' := ((i + 1 : Nat) : Int)) (by kernel_rfl) (wr_eq (by omega) (by omega) (by omega)) ?_)
      refine pv (iv ((i + 1 : Nat) : Int)) ?_
      refine wl_end _ rfl ?_
      refine then_n ?_
      exact ⟨(i + 1, A17, c18), ⟨(jl [ud, ud, ud, ud, ud, ud, ud, ud, ud, iv ((i : Nat) : Int), tv, iv ((i : Nat) : Int), iv ((i + 1 : Nat) : Int), iv ((i : Nat) : Int), iv ((c : Nat) : Int), tv, tv, iv ((i : Nat) : Int), .slice A a.length ca, iv (a.length : Nat), tv, tv, .slice A5 i c5, .slice A a.length ca, iv ((i : Nat) : Int), .pointer (some (ad.add i)), .int .u8 (((a.take c ++ b.drop c).getD i 0).toNat : Int), sl g8 0 1 1, .slice A17 (i + 1) c18, J 29, J 30, J 31, J 32, J 33, J 34, J 35, J 36, J 37, J 38, J 39]), by kernel_rfl, S16, (by omega)⟩, (by show 512 - (i + 1) < 512 - i; omega)⟩
    · skip
      refine pv fv ?_
      refine wl_not (by kernel_rfl) ?_
      refine wl_not (by kernel_rfl) ?_
      refine wl_not (by kernel_rfl) ?_
      refine wl_not (by kernel_rfl) ?_
      refine pv fv ?_
      refine wl_end _ rfl ?_
      refine then_n ?_
      refine wp_cond_false (by kernel_rfl) ?_
      refine wp_seq ?_
      refine wp_region_lit ?_
      refine pv (iv ((i : Nat) : Int)) ?_
      refine pv (.slice B b.length cb) ?_
      refine pv (iv (b.length : Nat)) ?_
      refine wl_gv rfl (gv_dec (p := (((i : Nat) : Int) : Int) < (b.length : Nat)) (by kernel_rfl) (fun _ => ?_) (fun hd19 => False.elim (by omega)))
      refine wl_end _ rfl ?_
      refine then_n ?_
      refine wp_cond_true (by kernel_rfl) ?_
      refine wp_region_lit ?_
      have hi : i < b.length := by omega
      have hMi : (a.take c ++ b.drop c).getD i 0 = b.getD i 0 := by rw [hg, if_neg (by omega)]
      obtain ⟨ad, had⟩ := (hb.out _ [vec 5 1 (.slice A5 i c5) i ((pre (a.take c ++ b.drop c) i).map bv)] S3).at hi
      refine pv (.slice A5 i c5) ?_
      refine pv (.slice B b.length cb) ?_
      refine pv (iv ((i : Nat) : Int)) ?_
      refine wl_gv rfl (gv_ixB (e := 5) (sz := 1) (n := b.length) (c := cb) (i := ((i : Nat) : Int)) (k := .i64) (ad := ad) (ad' := (ad.add i)) (j := i) rfl (by kernel_rfl) (by kernel_rfl) (by rw [← had]; kernel_rfl) (by kernel_rfl) rfl hi (by rw [Nat.mul_one]) ?_)
      refine wl_gv rfl (gv_ldR (v := .int .u8 (((a.take c ++ b.drop c).getD i 0).toNat : Int)) rfl (by kernel_rfl) (by kernel_rfl) (by rw [hMi]; exact ((had ▸ hb.out _ [vec 5 1 (.slice A5 i c5) i ((pre (a.take c ++ b.drop c) i).map bv)] S3 : RdB _ (some ad) b).cell hi)) ?_)
      refine wl_gv rfl (gv_slit (e := 5) (sz := 1) (z := .int .u8 0) (by_ := 1) (vs := #[(0, .int .u8 (((a.take c ++ b.drop c).getD i 0).toNat : Int))]) (cells := #[.int .u8 (((a.take c ++ b.drop c).getD i 0).toNat : Int)]) S3 rfl (by kernel_rfl) ⟨by kernel_rfl⟩ (by kernel_rfl) (by kernel_rfl) (by kernel_rfl) (by kernel_rfl) (fun g20 w21 hg22 S23 => ?_))
      have S24 : St F w0 w21 (row g20 #[.int .u8 (((a.take c ++ b.drop c).getD i 0).toNat : Int)] 5 :: vec 5 1 (.slice A5 i c5) i ((pre (a.take c ++ b.drop c) i).map bv) :: L) := St.permT [row g20 #[.int .u8 (((a.take c ++ b.drop c).getD i 0).toNat : Int)] 5, vec 5 1 (.slice A5 i c5) i ((pre (a.take c ++ b.drop c) i).map bv)] [0, 1] (by decide) rfl S23
      refine wl_gv rfl (gv_append (e := 5) (sz := 1) (n := i) (v := (.slice A5 i c5)) (vals := ((pre (a.take c ++ b.drop c) i).map bv)) (z := .int .u8 0) (by_ := 1) (m := 1) (c' := 1) (ad := ⟨g20, 0, none⟩) (news := [.int .u8 (((a.take c ++ b.drop c).getD i 0).toNat : Int)]) (St.swap S24) rfl (by kernel_rfl) ⟨by kernel_rfl⟩ rfl (by kernel_rfl) (by kernel_rfl) (by decide) rfl (row_news (S24.blk 0 rfl)) (by intro u hu; simp at hu; subst hu; rfl) (by omega) (by omega) (fun v26 w25 S27 => ?_))
      have S28 : St F w0 w25 (vec 5 1 v26 (i + 1) ((pre (a.take c ++ b.drop c) i).map bv ++ [.int .u8 (((a.take c ++ b.drop c).getD i 0).toNat : Int)]) :: L) := St.permT [vec 5 1 v26 (i + 1) ((pre (a.take c ++ b.drop c) i).map bv ++ [.int .u8 (((a.take c ++ b.drop c).getD i 0).toNat : Int)]), row g20 #[.int .u8 (((a.take c ++ b.drop c).getD i 0).toNat : Int)] 5] [0] (by decide) rfl S27
      rw [pre_succ] at S28
      obtain ⟨A29, c30, rfl⟩ := St.vecV S28 0 rfl
      change St F w0 w25 (vec 5 1 (.slice A29 (i + 1) c30) (i + 1) ((pre (a.take c ++ b.drop c) (i + 1)).map bv) :: L) at S28
      refine pv (.slice A29 (i + 1) c30) ?_
      refine wl_end _ rfl ?_
      refine inb_n ?_
      refine then_n ?_
      refine wp_region_lit ?_
      refine pv (iv ((i : Nat) : Int)) ?_
      refine wl_gv rfl (gv_int (k := .i64) (z := IntKind.i64.wrap (((i : Nat) : Int) + 1)) (z' := ((i + 1 : Nat) : Int)) (by kernel_rfl) (wr_eq (by omega) (by omega) (by omega)) ?_)
      refine pv (iv ((i + 1 : Nat) : Int)) ?_
      refine wl_end _ rfl ?_
      refine then_n ?_
      exact ⟨(i + 1, A29, c30), ⟨(jl [ud, ud, ud, ud, ud, ud, ud, ud, ud, iv ((i : Nat) : Int), tv, iv ((i : Nat) : Int), iv ((i + 1 : Nat) : Int), iv ((i : Nat) : Int), iv ((c : Nat) : Int), fv, fv, ud, ud, ud, ud, fv, J 22, J 23, J 24, J 25, J 26, J 27, J 28, iv ((i : Nat) : Int), .slice B b.length cb, iv (b.length : Nat), tv, .slice A5 i c5, .slice B b.length cb, iv ((i : Nat) : Int), .pointer (some (ad.add i)), .int .u8 (((a.take c ++ b.drop c).getD i 0).toNat : Int), sl g20 0 1 1, .slice A29 (i + 1) c30]), by kernel_rfl, S28, (by omega)⟩, (by show 512 - (i + 1) < 512 - i; omega)⟩
  · skip
    refine wl_end _ rfl ?_
    refine then_n ?_
    refine wp_cond_false (by kernel_rfl) ?_
    refine wp_exit ?_
    refine then_x ?_
    refine then_x ?_
    refine inb_x ?_
    refine then_n ?_
    refine wp_seq ?_
    refine wp_region_lit ?_
    refine pv (.slice A5 i c5) ?_
    refine pv (.slice A5 i c5) ?_
    refine wl_end _ rfl ?_
    refine then_n ?_
    refine wp_ret ?_
    refine bodyPost_ret (v := .slice A5 i c5) (results_t1 rfl (by kernel_rfl)) rfl ?_
    have hie : i = (a.take c ++ b.drop c).length := by omega
    have hpi : pre (a.take c ++ b.drop c) i = (a.take c ++ b.drop c) := by rw [hie, pre_all]
    rw [hpi, show i = 512 from by omega] at S3
    exact ⟨_, _, by rw [show i = 512 from by omega], S3⟩
theorem pairOf0 {w : World} {sl : Int} (hs : sl = 0) {Aa Ab As : Option Addr} {na nb ns ca cb cs : Nat} : Calls Try.prog 22 #[.slice Aa na ca, .slice Ab nb cb, .int .i64 sl, .slice As ns cs] w fun e w' => e = .returned (.tuple #[.slice As ns cs, .slice Ab nb cb]) ∧ w = w' := by
  refine wp_enter (fr [.slice Aa na ca, .slice Ab nb cb, iv sl, .slice As ns cs] 12) Try.func22 rfl (by kernel_rfl) ?_
  refine wp_seq ?_
  refine wp_region_lit ?_
  refine pv (.slice none 0 0) ?_
  refine pv (.slice none 0 0) ?_
  refine wl_end _ rfl ?_
  refine then_n ?_
  refine wp_seq ?_
  refine wp_seq ?_
  refine wp_region_lit ?_
  refine pv (iv sl) ?_
  refine wl_gv rfl (gv_eq (x := sl) (y := 0) (by kernel_rfl) (fun _ => ?_) (fun hd1 => False.elim (by omega)))
  refine wl_end _ rfl ?_
  refine then_n ?_
  refine wp_cond_true (by kernel_rfl) ?_
  refine wp_seq ?_
  refine wp_region_lit ?_
  refine pv (.slice As ns cs) ?_
  refine pv (.slice Ab nb cb) ?_
  refine pv (.slice As ns cs) ?_
  refine pv (.slice Ab nb cb) ?_
  refine wl_end _ rfl ?_
  refine then_n ?_
  refine wp_ret ?_
  refine then_r ?_
  refine bodyPost_ret (v := .tuple #[.slice As ns cs, .slice Ab nb cb]) (results_t2 rfl (by kernel_rfl) (by kernel_rfl)) rfl ?_
  exact ⟨rfl, rfl⟩
theorem pairOf1 {w : World} {sl : Int} (hs : sl = 1) {Aa Ab As : Option Addr} {na nb ns ca cb cs : Nat} : Calls Try.prog 22 #[.slice Aa na ca, .slice Ab nb cb, .int .i64 sl, .slice As ns cs] w fun e w' => e = .returned (.tuple #[.slice Aa na ca, .slice As ns cs]) ∧ w = w' := by
  refine wp_enter (fr [.slice Aa na ca, .slice Ab nb cb, iv sl, .slice As ns cs] 12) Try.func22 rfl (by kernel_rfl) ?_
  refine wp_seq ?_
  refine wp_region_lit ?_
  refine pv (.slice none 0 0) ?_
  refine pv (.slice none 0 0) ?_
  refine wl_end _ rfl ?_
  refine then_n ?_
  refine wp_seq ?_
  refine wp_seq ?_
  refine wp_region_lit ?_
  refine pv (iv sl) ?_
  refine wl_gv rfl (gv_eq (x := sl) (y := 0) (by kernel_rfl) (fun hd1 => False.elim (by omega)) (fun _ => ?_))
  refine wl_end _ rfl ?_
  refine then_n ?_
  refine wp_cond_false (by kernel_rfl) ?_
  refine wp_skip ?_
  refine then_n ?_
  refine wp_seq ?_
  refine wp_region_lit ?_
  refine pv (.slice Aa na ca) ?_
  refine pv (.slice As ns cs) ?_
  refine pv (.slice Aa na ca) ?_
  refine pv (.slice As ns cs) ?_
  refine wl_end _ rfl ?_
  refine then_n ?_
  refine wp_ret ?_
  refine bodyPost_ret (v := .tuple #[.slice Aa na ca, .slice As ns cs]) (results_t2 rfl (by kernel_rfl) (by kernel_rfl)) rfl ?_
  exact ⟨rfl, rfl⟩
theorem renews_all {F : Nat → Prop} {w0 w : World} {L : List Ast} (S : St F w0 w L) {A B D : Option Addr} {a b d : List UInt8} {m n k ca cb cd c : Nat} {no : Int} {back : Bool} (hm0 : m = a.length) (hn0 : n = b.length) (hk0 : k = d.length) (ha : RoT F w0 L A a) (hb : RoT F w0 L B b) (hd : RoT F w0 L D d) (ha5 : a.length = 512) (hb5 : b.length = 512) (hd5 : d.length ≤ 496) (hc : c ≤ 512) (hno : no ≤ 9223372036854775807) : Calls Try.prog 20 #[.slice A m ca, .slice B n cb, .int .i64 no, .slice D k cd, .int .i64 ((c : Nat) : Int), .bool back] w fun e w' => (e = .returned (.tuple #[.bool true, .int .i64 0, .slice none 0 0, .slice none 0 0]) ∧ (renewF a b no d).2.2 ≠ 0 ∧ St F w0 w' L) ∨ ∃ (As Am : Option Addr) (cs cm : Nat) (mm : List UInt8), e = .returned (.tuple #[.bool true, .int .i64 ((renewF a b no d).1 : Int), .slice As 512 cs, .slice Am 512 cm]) ∧ (renewF a b no d).2.2 = 0 ∧ Renewed a b no d ∧ (mm = (if (renewF a b no d).1 = 1 then b else a) ∨ mm = (renewF a b no d).2.1 ∨ openF mm = ([], 30)) ∧ mm.length = 512 ∧ St F w0 w' (vec 5 1 (.slice Am 512 cm) 512 (mm.map bv) :: bytesX (.slice As 512 cs) (renewF a b no d).2.1 :: L) := by
  subst hm0 hn0 hk0
  have hrt := renew_told (a := a) (b := b) (no := no) (d := d) ⟨ha5, hb5⟩ hd5 hno
  have hql := newest_len a b ha5 hb5
  have hnl := newest_lt a b
  refine wp_enter (fr [.slice A a.length ca, .slice B b.length cb, iv no, .slice D d.length cd, iv ((c : Nat) : Int), .bool back] 143) Try.func20 rfl (by kernel_rfl) ?_
  refine wp_seq ?_
  refine wp_region_lit ?_
  refine pv fv ?_
  refine pv (iv 0) ?_
  refine pv (.slice none 0 0) ?_
  refine pv (.slice none 0 0) ?_
  refine wl_end _ rfl ?_
  refine then_n ?_
  refine wp_seq ?_
  refine wp_region_lit ?_
  refine pv (.slice A a.length ca) ?_
  refine pv (.slice B b.length cb) ?_
  refine wl_gv rfl (gv_call (args := #[.slice A a.length ca, .slice B b.length cb]) rfl Try.func23 (by kernel_rfl) rfl rfl (by kernel_rfl) ?_)
  refine Calls.mono (ask_all (a := a) (b := b) S rfl rfl ha hb (by omega) (by omega)) ?_
  rintro _ w1 ⟨A3, c4, rfl, S2⟩
  refine ⟨_, rfl, ?_⟩
  have S5 : St F w0 w1 (bytesX (.slice A3 ((newestF a b).2.2.1).length c4) ((newestF a b).2.2.1) :: L) := S2
  refine wl_gv rfl (gv_new (z := .agg #[.int .i64 0, .int .i64 0, .slice none 0 0, .int .i64 0]) S5 rfl (by kernel_rfl) (fun g6 w7 hg8 S9 => ?_))
  refine wl_gv rfl (gv_stA (k := 0) (vs := [.int .i64 ((newestF a b).1 : Int), .int .i64 ((newestF a b).2.1 : Int), .slice A3 (((newestF a b).2.2.1).length) c4, .int .i64 ((newestF a b).2.2.2 : Int)]) S9 0 rfl rfl (by kernel_rfl) (by kernel_rfl) (by kernel_rfl) rfl (by simp [Value.oneCell']) (Nat.le_of_ble_eq_true (by kernel_rfl)) (L' := (row g6 #[.int .i64 ((newestF a b).1 : Int), .int .i64 ((newestF a b).2.1 : Int), .slice A3 (((newestF a b).2.2.1).length) c4, .int .i64 ((newestF a b).2.2.2 : Int)] 53 :: bytesX (.slice A3 ((newestF a b).2.2.1).length c4) ((newestF a b).2.2.1) :: L)) rfl (fun w10 S11 => ?_))
  refine wl_end _ rfl ?_
  refine then_n ?_
  refine wp_seq ?_
  refine wp_region_lit ?_
  refine pv (.slice A a.length ca) ?_
  refine wl_gv rfl (gv_call (args := #[.slice A a.length ca]) rfl Try.func26 (by kernel_rfl) rfl rfl (by kernel_rfl) ?_)
  refine Calls.mono (tw3 (l := a) S11 ha.more.more (by omega)) ?_
  rintro _ w12 ⟨A14, c15, rfl, S13⟩
  refine ⟨_, rfl, ?_⟩
  refine pv (.slice B b.length cb) ?_
  refine wl_gv rfl (gv_call (args := #[.slice B b.length cb]) rfl Try.func26 (by kernel_rfl) rfl rfl (by kernel_rfl) ?_)
  refine Calls.mono (tw3 (l := b) S13 hb.more.more.more (by omega)) ?_
  rintro _ w16 ⟨A18, c19, rfl, S17⟩
  refine ⟨_, rfl, ?_⟩
  refine pv (iv no) ?_
  refine pv (.slice D d.length cd) ?_
  refine wl_gv rfl (gv_call (args := #[.slice D d.length cd]) rfl Try.func26 (by kernel_rfl) rfl rfl (by kernel_rfl) ?_)
  refine Calls.mono (tw3 (l := d) S17 hd.more.more.more.more (by omega)) ?_
  rintro _ w20 ⟨A22, c23, rfl, S21⟩
  refine ⟨_, rfl, ?_⟩
  refine wl_gv rfl (gv_call (args := #[.slice A14 a.length c15, .slice A18 b.length c19, .int .i64 no, .slice A22 d.length c23]) rfl Try.func33 (by kernel_rfl) rfl rfl (by kernel_rfl) ?_)
  refine Calls.mono (ps_renew' (a := a) (b := b) (d := d) S21 (RoT.ofVec 2 rfl) (RoT.ofVec 1 rfl) (RoT.ofVec 0 rfl) (by omega) (by omega) (by omega) hno) ?_
  rintro _ w24 ⟨As, cs_, rfl, S25⟩
  refine ⟨_, rfl, ?_⟩
  rcases hrt with ⟨hbad, hmay⟩ | ⟨hgood, hmay, hR⟩
  · skip
    refine pv (.tuple #[iv ((renewF a b no d).1 : Int), .slice As ((renewF a b no d).2.1.length) cs_, iv ((renewF a b no d).2.2 : Int)]) ?_
    refine pv (iv ((renewF a b no d).1 : Int)) ?_
    refine pv (.slice As ((renewF a b no d).2.1.length) cs_) ?_
    refine pv (iv ((renewF a b no d).2.2 : Int)) ?_
    refine pv (iv ((renewF a b no d).1 : Int)) ?_
    refine pv (.slice As ((renewF a b no d).2.1.length) cs_) ?_
    refine pv (iv ((renewF a b no d).2.2 : Int)) ?_
    refine wl_end _ rfl ?_
    refine then_n ?_
    refine wp_seq ?_
    refine wp_region_lit ?_
    refine pv (iv no) ?_
    refine wl_gv rfl (gv_dec (p := (no : Int) ≥ 1) (by kernel_rfl) (fun hb26 => ?_) (fun hb26 => ?_))
    · skip
      refine pv tv ?_
      refine wl_when (by kernel_rfl) (gv_val (v := .pointer (some ⟨g6, 3, none⟩)) (w' := w24) (by kernel_rfl) ?_)
      refine wl_when (by kernel_rfl) (gv_ldR (v := .int .i64 ((newestF a b).2.2.2 : Int)) rfl (by kernel_rfl) (by kernel_rfl) (((S25.blk 4 rfl).cell 3).trans rfl) ?_)
      refine wl_when (by kernel_rfl) (gv_ne (x := ((newestF a b).2.2.2 : Int)) (y := 0) (by kernel_rfl) (fun hb27 => ?_) (fun hb27 => ?_))
      · skip
        exfalso; omega
      · skip
        refine wl_when (by kernel_rfl) (gv_val (v := .bool false) (w' := w24) (by kernel_rfl) ?_)
        refine wl_when (by kernel_rfl) (gv_val (v := .int .i64 no) (w' := w24) (by kernel_rfl) ?_)
        refine wl_when (by kernel_rfl) (gv_val (v := .pointer (some ⟨g6, 1, none⟩)) (w' := w24) (by kernel_rfl) ?_)
        refine wl_when (by kernel_rfl) (gv_ldR (v := .int .i64 ((newestF a b).2.1 : Int)) rfl (by kernel_rfl) (by kernel_rfl) (((S25.blk 4 rfl).cell 1).trans rfl) ?_)
        refine wl_when (by kernel_rfl) (gv_dec (p := (no : Int) > ((newestF a b).2.1 : Int)) (by kernel_rfl) (fun hb28 => ?_) (fun hb28 => ?_))
        · skip
          exfalso; omega
        · skip
          refine wl_when (by kernel_rfl) (gv_val (v := .bool false) (w' := w24) (by kernel_rfl) ?_)
          refine pv fv ?_
          refine pv fv ?_
          refine wl_end (fr [.slice A a.length ca, .slice B b.length cb, iv no, .slice D d.length cd, iv ((c : Nat) : Int), .bool back, ud, ud, ud, ud, ud, ud, fv, iv 0, .slice none 0 0, .slice none 0 0, pq g6, iv ((renewF a b no d).1 : Int), .slice As ((renewF a b no d).2.1.length) cs_, iv ((renewF a b no d).2.2 : Int), fv, ud, ud, ud, ud, ud, ud, .slice A a.length ca, .slice B b.length cb, .agg #[iv ((newestF a b).1 : Int), iv ((newestF a b).2.1 : Int), .slice A3 (((newestF a b).2.2.1).length) c4, iv ((newestF a b).2.2.2 : Int)], .tuple #[iv ((renewF a b no d).1 : Int), .slice As ((renewF a b no d).2.1.length) cs_, iv ((renewF a b no d).2.2 : Int)], .slice A a.length ca, .slice A14 a.length c15, .slice B b.length cb, .slice A18 b.length c19, iv no, .slice D d.length cd, .slice A22 d.length c23, .tuple #[iv ((renewF a b no d).1 : Int), .slice As ((renewF a b no d).2.1.length) cs_, iv ((renewF a b no d).2.2 : Int)], iv ((renewF a b no d).1 : Int), .slice As ((renewF a b no d).2.1.length) cs_, iv ((renewF a b no d).2.2 : Int), iv no, tv, tv, po g6 3, iv ((newestF a b).2.2.2 : Int), fv, fv, iv no, po g6 1, iv ((newestF a b).2.1 : Int), fv, fv, fv] 94) (by kernel_rfl) ?_
          refine then_n ?_
          refine wp_seq ?_
          refine wp_seq ?_
          refine wp_region_lit ?_
          refine pv (iv ((renewF a b no d).2.2 : Int)) ?_
          refine wl_gv rfl (gv_call (args := #[.int .i64 ((renewF a b no d).2.2 : Int)]) rfl Try.func35 (by kernel_rfl) rfl rfl (by kernel_rfl) ?_)
          refine Calls.mono (num_ro) ?_
          rintro _ _ ⟨rfl, rfl⟩
          refine ⟨_, rfl, ?_⟩
          refine wl_gv rfl (gv_ne (x := ((renewF a b no d).2.2 : Int)) (y := 0) (by kernel_rfl) (fun hb29 => ?_) (fun hb29 => ?_))
          · skip
            refine wl_end _ rfl ?_
            refine then_n ?_
            refine wp_cond_true (by kernel_rfl) ?_
            refine wp_seq ?_
            refine wp_region_lit ?_
            refine pv fv ?_
            refine pv tv ?_
            refine pv tv ?_
            refine pv (iv 0) ?_
            refine pv (.slice none 0 0) ?_
            refine pv (.slice none 0 0) ?_
            refine wl_end _ rfl ?_
            refine then_n ?_
            refine wp_ret ?_
            refine then_r ?_
            refine bodyPost_ret (v := .tuple #[.bool true, .int .i64 0, .slice none 0 0, .slice none 0 0]) (Go.Proofs.results_tmp4 rfl _ _ (by kernel_rfl) (by kernel_rfl) (by kernel_rfl) (by kernel_rfl)) rfl ?_
            have S30 : St F w0 w24 (L) := St.permT [bytesX (.slice As (renewF a b no d).2.1.length cs_) (renewF a b no d).2.1, vec 5 1 (.slice A22 d.length c23) d.length (d.map bv), vec 5 1 (.slice A18 b.length c19) b.length (b.map bv), vec 5 1 (.slice A14 a.length c15) a.length (a.map bv), row g6 #[.int .i64 ((newestF a b).1 : Int), .int .i64 ((newestF a b).2.1 : Int), .slice A3 (((newestF a b).2.2.1).length) c4, .int .i64 ((newestF a b).2.2.2 : Int)] 53, bytesX (.slice A3 ((newestF a b).2.2.1).length c4) ((newestF a b).2.2.1)] [] (by decide) rfl S25
            exact .inl ⟨rfl, hbad, S30⟩
          · skip
            exfalso; omega
    · skip
      refine pv fv ?_
      refine wl_not (by kernel_rfl) ?_
      refine wl_not (by kernel_rfl) ?_
      refine wl_not (by kernel_rfl) ?_
      refine wl_not (by kernel_rfl) ?_
      refine wl_not (by kernel_rfl) ?_
      refine wl_not (by kernel_rfl) ?_
      refine wl_not (by kernel_rfl) ?_
      refine wl_not (by kernel_rfl) ?_
      refine wl_not (by kernel_rfl) ?_
      refine pv fv ?_
      refine pv fv ?_
      refine wl_end (fr [.slice A a.length ca, .slice B b.length cb, iv no, .slice D d.length cd, iv ((c : Nat) : Int), .bool back, ud, ud, ud, ud, ud, ud, fv, iv 0, .slice none 0 0, .slice none 0 0, pq g6, iv ((renewF a b no d).1 : Int), .slice As ((renewF a b no d).2.1.length) cs_, iv ((renewF a b no d).2.2 : Int), fv, ud, ud, ud, ud, ud, ud, .slice A a.length ca, .slice B b.length cb, .agg #[iv ((newestF a b).1 : Int), iv ((newestF a b).2.1 : Int), .slice A3 (((newestF a b).2.2.1).length) c4, iv ((newestF a b).2.2.2 : Int)], .tuple #[iv ((renewF a b no d).1 : Int), .slice As ((renewF a b no d).2.1.length) cs_, iv ((renewF a b no d).2.2 : Int)], .slice A a.length ca, .slice A14 a.length c15, .slice B b.length cb, .slice A18 b.length c19, iv no, .slice D d.length cd, .slice A22 d.length c23, .tuple #[iv ((renewF a b no d).1 : Int), .slice As ((renewF a b no d).2.1.length) cs_, iv ((renewF a b no d).2.2 : Int)], iv ((renewF a b no d).1 : Int), .slice As ((renewF a b no d).2.1.length) cs_, iv ((renewF a b no d).2.2 : Int), iv no, fv, fv, ud, ud, ud, ud, ud, ud, ud, ud, ud, fv] 94) (by kernel_rfl) ?_
      refine then_n ?_
      refine wp_seq ?_
      refine wp_seq ?_
      refine wp_region_lit ?_
      refine pv (iv ((renewF a b no d).2.2 : Int)) ?_
      refine wl_gv rfl (gv_call (args := #[.int .i64 ((renewF a b no d).2.2 : Int)]) rfl Try.func35 (by kernel_rfl) rfl rfl (by kernel_rfl) ?_)
      refine Calls.mono (num_ro) ?_
      rintro _ _ ⟨rfl, rfl⟩
      refine ⟨_, rfl, ?_⟩
      refine wl_gv rfl (gv_ne (x := ((renewF a b no d).2.2 : Int)) (y := 0) (by kernel_rfl) (fun hb31 => ?_) (fun hb31 => ?_))
      · skip
        refine wl_end _ rfl ?_
        refine then_n ?_
        refine wp_cond_true (by kernel_rfl) ?_
        refine wp_seq ?_
        refine wp_region_lit ?_
        refine pv fv ?_
        refine pv tv ?_
        refine pv tv ?_
        refine pv (iv 0) ?_
        refine pv (.slice none 0 0) ?_
        refine pv (.slice none 0 0) ?_
        refine wl_end _ rfl ?_
        refine then_n ?_
        refine wp_ret ?_
        refine then_r ?_
        refine bodyPost_ret (v := .tuple #[.bool true, .int .i64 0, .slice none 0 0, .slice none 0 0]) (Go.Proofs.results_tmp4 rfl _ _ (by kernel_rfl) (by kernel_rfl) (by kernel_rfl) (by kernel_rfl)) rfl ?_
        have S32 : St F w0 w24 (L) := St.permT [bytesX (.slice As (renewF a b no d).2.1.length cs_) (renewF a b no d).2.1, vec 5 1 (.slice A22 d.length c23) d.length (d.map bv), vec 5 1 (.slice A18 b.length c19) b.length (b.map bv), vec 5 1 (.slice A14 a.length c15) a.length (a.map bv), row g6 #[.int .i64 ((newestF a b).1 : Int), .int .i64 ((newestF a b).2.1 : Int), .slice A3 (((newestF a b).2.2.1).length) c4, .int .i64 ((newestF a b).2.2.2 : Int)] 53, bytesX (.slice A3 ((newestF a b).2.2.1).length c4) ((newestF a b).2.2.1)] [] (by decide) rfl S25
        exact .inl ⟨rfl, hbad, S32⟩
      · skip
        exfalso; omega
  · rcases hR.slot with hs0 | hs0
    · skip
      have hsl := hR.len
      rw [hsl] at S25
      rw [hsl]
      have hsl5 : (renewF a b no d).2.1.length = 512 := hR.len
      refine pv (.tuple #[iv ((renewF a b no d).1 : Int), .slice As 512 cs_, iv ((renewF a b no d).2.2 : Int)]) ?_
      refine pv (iv ((renewF a b no d).1 : Int)) ?_
      refine pv (.slice As 512 cs_) ?_
      refine pv (iv ((renewF a b no d).2.2 : Int)) ?_
      refine pv (iv ((renewF a b no d).1 : Int)) ?_
      refine pv (.slice As 512 cs_) ?_
      refine pv (iv ((renewF a b no d).2.2 : Int)) ?_
      refine wl_end _ rfl ?_
      refine then_n ?_
      refine wp_seq ?_
      refine wp_region_lit ?_
      refine pv (iv no) ?_
      refine wl_gv rfl (gv_dec (p := (no : Int) ≥ 1) (by kernel_rfl) (fun hb33 => ?_) (fun hb33 => ?_))
      · skip
        refine pv tv ?_
        refine wl_when (by kernel_rfl) (gv_val (v := .pointer (some ⟨g6, 3, none⟩)) (w' := w24) (by kernel_rfl) ?_)
        refine wl_when (by kernel_rfl) (gv_ldR (v := .int .i64 ((newestF a b).2.2.2 : Int)) rfl (by kernel_rfl) (by kernel_rfl) (((S25.blk 4 rfl).cell 3).trans rfl) ?_)
        refine wl_when (by kernel_rfl) (gv_ne (x := ((newestF a b).2.2.2 : Int)) (y := 0) (by kernel_rfl) (fun hb34 => ?_) (fun hb34 => ?_))
        · skip
          refine wl_when (by kernel_rfl) (gv_val (v := .bool true) (w' := w24) (by kernel_rfl) ?_)
          refine wl_not (by kernel_rfl) ?_
          refine wl_not (by kernel_rfl) ?_
          refine wl_not (by kernel_rfl) ?_
          refine wl_not (by kernel_rfl) ?_
          refine wl_when (by kernel_rfl) (gv_val (v := .bool true) (w' := w24) (by kernel_rfl) ?_)
          refine pv tv ?_
          refine pv tv ?_
          refine wl_end (fr [.slice A a.length ca, .slice B b.length cb, iv no, .slice D d.length cd, iv ((c : Nat) : Int), .bool back, ud, ud, ud, ud, ud, ud, fv, iv 0, .slice none 0 0, .slice none 0 0, pq g6, iv ((renewF a b no d).1 : Int), .slice As 512 cs_, iv ((renewF a b no d).2.2 : Int), tv, ud, ud, ud, ud, ud, ud, .slice A a.length ca, .slice B b.length cb, .agg #[iv ((newestF a b).1 : Int), iv ((newestF a b).2.1 : Int), .slice A3 (((newestF a b).2.2.1).length) c4, iv ((newestF a b).2.2.2 : Int)], .tuple #[iv ((renewF a b no d).1 : Int), .slice As 512 cs_, iv ((renewF a b no d).2.2 : Int)], .slice A a.length ca, .slice A14 a.length c15, .slice B b.length cb, .slice A18 b.length c19, iv no, .slice D d.length cd, .slice A22 d.length c23, .tuple #[iv ((renewF a b no d).1 : Int), .slice As 512 cs_, iv ((renewF a b no d).2.2 : Int)], iv ((renewF a b no d).1 : Int), .slice As 512 cs_, iv ((renewF a b no d).2.2 : Int), iv no, tv, tv, po g6 3, iv ((newestF a b).2.2.2 : Int), tv, tv, ud, ud, ud, ud, tv, tv] 94) (by kernel_rfl) ?_
          refine then_n ?_
          refine wp_seq ?_
          refine wp_seq ?_
          refine wp_region_lit ?_
          refine pv (iv ((renewF a b no d).2.2 : Int)) ?_
          refine wl_gv rfl (gv_call (args := #[.int .i64 ((renewF a b no d).2.2 : Int)]) rfl Try.func35 (by kernel_rfl) rfl rfl (by kernel_rfl) ?_)
          refine Calls.mono (num_ro) ?_
          rintro _ _ ⟨rfl, rfl⟩
          refine ⟨_, rfl, ?_⟩
          refine wl_gv rfl (gv_ne (x := ((renewF a b no d).2.2 : Int)) (y := 0) (by kernel_rfl) (fun hb35 => ?_) (fun hb35 => ?_))
          · skip
            exfalso; omega
          · skip
            refine wl_end _ rfl ?_
            refine then_n ?_
            refine wp_cond_false (by kernel_rfl) ?_
            refine wp_skip ?_
            refine then_n ?_
            refine wp_seq ?_
            refine wp_seq ?_
            refine wp_region_lit ?_
            refine pv tv ?_
            refine pv fv ?_
            refine pv fv ?_
            refine wl_when (by kernel_rfl) (gv_val (v := .slice As 512 cs_) (w' := w24) (by kernel_rfl) ?_)
            refine wl_when (by kernel_rfl) (gv_val (v := .int .i64 512) (w' := w24) (by kernel_rfl) ?_)
            refine wl_when (by kernel_rfl) (gv_ne (x := 512) (y := 512) (by kernel_rfl) (fun hd36 => False.elim (hd36 rfl)) (fun _ => ?_))
            refine pv fv ?_
            refine pv fv ?_
            refine wl_when (by kernel_rfl) (gv_val (v := .int .i64 ((renewF a b no d).1 : Int)) (w' := w24) (by kernel_rfl) ?_)
            refine wl_when (by kernel_rfl) (gv_ne (x := ((renewF a b no d).1 : Int)) (y := 0) (by kernel_rfl) (fun hd37 => False.elim (by omega)) (fun _ => ?_))
            refine wl_when (by kernel_rfl) (gv_val (v := .bool false) (w' := w24) (by kernel_rfl) ?_)
            refine wl_not (by kernel_rfl) ?_
            refine wl_not (by kernel_rfl) ?_
            refine wl_when (by kernel_rfl) (gv_val (v := .bool false) (w' := w24) (by kernel_rfl) ?_)
            refine pv fv ?_
            refine pv fv ?_
            refine wl_when (by kernel_rfl) (gv_val (v := .pointer (some ⟨g6, 3, none⟩)) (w' := w24) (by kernel_rfl) ?_)
            refine wl_when (by kernel_rfl) (gv_ldR (v := .int .i64 ((newestF a b).2.2.2 : Int)) rfl (by kernel_rfl) (by kernel_rfl) (((S25.blk 4 rfl).cell 3).trans rfl) ?_)
            refine wl_when (by kernel_rfl) (gv_eq (x := ((newestF a b).2.2.2 : Int)) (y := 0) (by kernel_rfl) (fun hd38 => False.elim (by omega)) (fun _ => ?_))
            refine wl_when (by kernel_rfl) (gv_val (v := .bool false) (w' := w24) (by kernel_rfl) ?_)
            refine wl_not (by kernel_rfl) ?_
            refine wl_not (by kernel_rfl) ?_
            refine wl_not (by kernel_rfl) ?_
            refine wl_not (by kernel_rfl) ?_
            refine wl_when (by kernel_rfl) (gv_val (v := .bool false) (w' := w24) (by kernel_rfl) ?_)
            refine pv fv ?_
            refine pv fv ?_
            refine wl_when (by kernel_rfl) (gv_val (v := .pointer (some ⟨g6, 3, none⟩)) (w' := w24) (by kernel_rfl) ?_)
            refine wl_when (by kernel_rfl) (gv_ldR (v := .int .i64 ((newestF a b).2.2.2 : Int)) rfl (by kernel_rfl) (by kernel_rfl) (((S25.blk 4 rfl).cell 3).trans rfl) ?_)
            refine wl_when (by kernel_rfl) (gv_ne (x := ((newestF a b).2.2.2 : Int)) (y := 0) (by kernel_rfl) (fun _ => ?_) (fun hd39 => False.elim (by omega)))
            refine wl_when (by kernel_rfl) (gv_val (v := .bool true) (w' := w24) (by kernel_rfl) ?_)
            refine wl_when (by kernel_rfl) (gv_val (v := .int .i64 ((renewF a b no d).1 : Int)) (w' := w24) (by kernel_rfl) ?_)
            refine wl_when (by kernel_rfl) (gv_ne (x := ((renewF a b no d).1 : Int)) (y := 0) (by kernel_rfl) (fun hd40 => False.elim (by have := hR.first (by omega); omega)) (fun _ => ?_))
            refine wl_when (by kernel_rfl) (gv_val (v := .bool false) (w' := w24) (by kernel_rfl) ?_)
            refine pv fv ?_
            refine wl_end (fr [.slice A a.length ca, .slice B b.length cb, iv no, .slice D d.length cd, iv ((c : Nat) : Int), .bool back, ud, ud, ud, ud, ud, ud, fv, iv 0, .slice none 0 0, .slice none 0 0, pq g6, iv ((renewF a b no d).1 : Int), .slice As 512 cs_, iv ((renewF a b no d).2.2 : Int), tv, ud, ud, ud, ud, ud, ud, .slice A a.length ca, .slice B b.length cb, .agg #[iv ((newestF a b).1 : Int), iv ((newestF a b).2.1 : Int), .slice A3 (((newestF a b).2.2.1).length) c4, iv ((newestF a b).2.2.2 : Int)], .tuple #[iv ((renewF a b no d).1 : Int), .slice As 512 cs_, iv ((renewF a b no d).2.2 : Int)], .slice A a.length ca, .slice A14 a.length c15, .slice B b.length cb, .slice A18 b.length c19, iv no, .slice D d.length cd, .slice A22 d.length c23, .tuple #[iv ((renewF a b no d).1 : Int), .slice As 512 cs_, iv ((renewF a b no d).2.2 : Int)], iv ((renewF a b no d).1 : Int), .slice As 512 cs_, iv ((renewF a b no d).2.2 : Int), iv no, tv, tv, po g6 3, iv ((newestF a b).2.2.2 : Int), tv, tv, ud, ud, ud, ud, tv, tv, iv ((renewF a b no d).2.2 : Int), iv ((renewF a b no d).2.2 : Int), fv, ud, ud, tv, fv, fv, .slice As 512 cs_, iv 512, fv, fv, fv, iv ((renewF a b no d).1 : Int), fv, fv, ud, ud, fv, fv, fv, po g6 3, iv ((newestF a b).2.2.2 : Int), fv, fv, ud, ud, ud, ud, fv, fv, fv, po g6 3, iv ((newestF a b).2.2.2 : Int), tv, tv, iv ((renewF a b no d).1 : Int), fv, fv, fv] 54) (by kernel_rfl) ?_
            refine then_n ?_
            refine wp_cond_false (by kernel_rfl) ?_
            refine wp_skip ?_
            refine then_n ?_
            refine wp_seq ?_
            refine wp_region_lit ?_
            have hnew : newestF (renewF a b no d).2.1 b = ((renewF a b no d).1, no.toNat, d, 0) := by have := hR.new; rw [show putIn a b (renewF a b no d).1 (renewF a b no d).2.1 = ((renewF a b no d).2.1, b) from by unfold putIn; rw [if_pos hs0]] at this; exact this
            have hold : (if (renewF a b no d).1 = 1 then b else a) = a := if_neg (by omega)
            refine pv (iv ((renewF a b no d).1 : Int)) ?_
            refine pv (iv no) ?_
            refine pv (.slice D d.length cd) ?_
            refine pv (.agg #[iv ((renewF a b no d).1 : Int), iv no, .slice D d.length cd, iv 0]) ?_
            refine wl_gv rfl (gv_new (z := .agg #[.int .i64 0, .int .i64 0, .slice none 0 0, .int .i64 0]) S25 rfl (by kernel_rfl) (fun g41 w42 hg43 S44 => ?_))
            refine wl_gv rfl (gv_stA (k := 0) (vs := [.int .i64 ((renewF a b no d).1 : Int), .int .i64 no, .slice D d.length cd, .int .i64 0]) S44 0 rfl rfl (by kernel_rfl) (by kernel_rfl) (by kernel_rfl) rfl (by simp [Value.oneCell']) (Nat.le_of_ble_eq_true (by kernel_rfl)) (L' := (row g41 #[.int .i64 ((renewF a b no d).1 : Int), .int .i64 no, .slice D d.length cd, .int .i64 0] 53 :: bytesX (.slice As 512 cs_) (renewF a b no d).2.1 :: vec 5 1 (.slice A22 d.length c23) d.length (d.map bv) :: vec 5 1 (.slice A18 b.length c19) b.length (b.map bv) :: vec 5 1 (.slice A14 a.length c15) a.length (a.map bv) :: row g6 #[.int .i64 ((newestF a b).1 : Int), .int .i64 ((newestF a b).2.1 : Int), .slice A3 (((newestF a b).2.2.1).length) c4, .int .i64 ((newestF a b).2.2.2 : Int)] 53 :: bytesX (.slice A3 ((newestF a b).2.2.1).length c4) ((newestF a b).2.2.1) :: L)) rfl (fun w45 S46 => ?_))
            refine wl_end _ rfl ?_
            refine then_n ?_
            refine wp_seq ?_
            refine wp_region_lit ?_
            refine pv (.slice A a.length ca) ?_
            refine pv (.slice B b.length cb) ?_
            refine pv (iv ((renewF a b no d).1 : Int)) ?_
            refine pv (.slice As 512 cs_) ?_
            refine wl_gv rfl (gv_call (args := #[.slice A a.length ca, .slice B b.length cb, .int .i64 ((renewF a b no d).1 : Int), .slice As 512 cs_]) rfl Try.func22 (by kernel_rfl) rfl rfl (by kernel_rfl) ?_)
            refine Calls.mono (pairOf0 (by omega)) ?_
            rintro _ _ ⟨rfl, rfl⟩
            refine ⟨_, rfl, ?_⟩
            refine pv (.tuple #[.slice As 512 cs_, .slice B b.length cb]) ?_
            refine pv (.slice As 512 cs_) ?_
            refine pv (.slice B b.length cb) ?_
            refine pv (.slice As 512 cs_) ?_
            refine pv (.slice B b.length cb) ?_
            refine wl_end _ rfl ?_
            refine then_n ?_
            refine wp_seq ?_
            refine wp_region_lit ?_
            refine pv (.slice As 512 cs_) ?_
            refine pv (.slice B b.length cb) ?_
            refine wl_gv rfl (gv_call (args := #[.slice As 512 cs_, .slice B b.length cb]) rfl Try.func23 (by kernel_rfl) rfl rfl (by kernel_rfl) ?_)
            refine Calls.mono (ask_all (a := (renewF a b no d).2.1) (b := b) S46 hsl5.symm rfl (RoT.bytesX 1 rfl rfl) hb.more.more.more.more.more.more.more (by omega) (by omega)) ?_
            rintro _ w47 ⟨A49, c50, rfl, S48⟩
            rw [hnew] at S48
            refine ⟨_, rfl, ?_⟩
            rw [hnew]
            have S51 : St F w0 w47 (bytesX (.slice A49 d.length c50) d :: row g41 #[.int .i64 ((renewF a b no d).1 : Int), .int .i64 no, .slice D d.length cd, .int .i64 0] 53 :: bytesX (.slice As 512 cs_) (renewF a b no d).2.1 :: vec 5 1 (.slice A22 d.length c23) d.length (d.map bv) :: vec 5 1 (.slice A18 b.length c19) b.length (b.map bv) :: vec 5 1 (.slice A14 a.length c15) a.length (a.map bv) :: row g6 #[.int .i64 ((newestF a b).1 : Int), .int .i64 ((newestF a b).2.1 : Int), .slice A3 (((newestF a b).2.2.1).length) c4, .int .i64 ((newestF a b).2.2.2 : Int)] 53 :: bytesX (.slice A3 ((newestF a b).2.2.1).length c4) ((newestF a b).2.2.1) :: L) := S48
            refine wl_gv rfl (gv_new (z := .agg #[.int .i64 0, .int .i64 0, .slice none 0 0, .int .i64 0]) S51 rfl (by kernel_rfl) (fun g52 w53 hg54 S55 => ?_))
            refine wl_gv rfl (gv_stA (k := 0) (vs := [.int .i64 ((renewF a b no d).1 : Int), .int .i64 ((no.toNat : Nat) : Int), .slice A49 d.length c50, .int .i64 0]) S55 0 rfl rfl (by kernel_rfl) (by kernel_rfl) (by kernel_rfl) rfl (by simp [Value.oneCell']) (Nat.le_of_ble_eq_true (by kernel_rfl)) (L' := (row g52 #[.int .i64 ((renewF a b no d).1 : Int), .int .i64 ((no.toNat : Nat) : Int), .slice A49 d.length c50, .int .i64 0] 53 :: bytesX (.slice A49 d.length c50) d :: row g41 #[.int .i64 ((renewF a b no d).1 : Int), .int .i64 no, .slice D d.length cd, .int .i64 0] 53 :: bytesX (.slice As 512 cs_) (renewF a b no d).2.1 :: vec 5 1 (.slice A22 d.length c23) d.length (d.map bv) :: vec 5 1 (.slice A18 b.length c19) b.length (b.map bv) :: vec 5 1 (.slice A14 a.length c15) a.length (a.map bv) :: row g6 #[.int .i64 ((newestF a b).1 : Int), .int .i64 ((newestF a b).2.1 : Int), .slice A3 (((newestF a b).2.2.1).length) c4, .int .i64 ((newestF a b).2.2.2 : Int)] 53 :: bytesX (.slice A3 ((newestF a b).2.2.1).length c4) ((newestF a b).2.2.1) :: L)) rfl (fun w56 S57 => ?_))
            refine wl_end _ rfl ?_
            refine then_n ?_
            refine wp_seq ?_
            refine wp_seq ?_
            refine wp_region_lit ?_
            refine wl_gv rfl (gv_ldA (k := 0) (n := 4) (vs := [.int .i64 ((renewF a b no d).1 : Int), .int .i64 ((no.toNat : Nat) : Int), .slice A49 d.length c50, .int .i64 0]) S57 0 rfl rfl (by kernel_rfl) (by kernel_rfl) rfl rfl ?_)
            refine wl_gv rfl (gv_ldA (k := 0) (n := 4) (vs := [.int .i64 ((renewF a b no d).1 : Int), .int .i64 no, .slice D d.length cd, .int .i64 0]) S57 2 rfl rfl (by kernel_rfl) (by kernel_rfl) rfl rfl ?_)
            refine wl_gv rfl (gv_call (args := #[.agg #[.int .i64 ((renewF a b no d).1 : Int), .int .i64 ((no.toNat : Nat) : Int), .slice A49 d.length c50, .int .i64 0], .agg #[.int .i64 ((renewF a b no d).1 : Int), .int .i64 no, .slice D d.length cd, .int .i64 0]]) rfl Try.func38 (by kernel_rfl) rfl rfl (by kernel_rfl) ?_)
            refine Calls.mono (alike_all (t := true) S57 rfl rfl (RoT.bytesX 1 rfl rfl) hd.more.more.more.more.more.more.more.more.more (by omega) (by omega) (decide_eq_true ⟨rfl, by omega, rfl, rfl⟩)) ?_
            rintro _ w58 ⟨rfl, S59⟩
            refine ⟨_, rfl, ?_⟩
            refine pv fv ?_
            refine wl_end _ rfl ?_
            refine then_n ?_
            refine wp_cond_false (by kernel_rfl) ?_
            refine wp_skip ?_
            refine then_n ?_
            refine wp_seq ?_
            refine wp_region_lit ?_
            refine pv (.slice A a.length ca) ?_
            refine pv (.slice A a.length ca) ?_
            refine wl_end _ rfl ?_
            refine then_n ?_
            refine wp_seq ?_
            refine wp_seq ?_
            refine wp_region_lit ?_
            refine pv (iv ((renewF a b no d).1 : Int)) ?_
            refine wl_gv rfl (gv_eq (x := ((renewF a b no d).1 : Int)) (y := 1) (by kernel_rfl) (fun hd60 => False.elim (by omega)) (fun _ => ?_))
            refine wl_end _ rfl ?_
            refine then_n ?_
            refine wp_cond_false (by kernel_rfl) ?_
            refine wp_skip ?_
            refine then_n ?_
            refine wp_seq ?_
            refine wp_region_lit ?_
            refine pv (.slice A a.length ca) ?_
            refine pv (.slice As 512 cs_) ?_
            refine pv (iv ((c : Nat) : Int)) ?_
            refine wl_gv rfl (gv_call (args := #[.slice A a.length ca, .slice As 512 cs_, .int .i64 ((c : Nat) : Int)]) rfl Try.func39 (by kernel_rfl) rfl rfl (by kernel_rfl) ?_)
            refine Calls.mono (mix_all (a := a) (b := (renewF a b no d).2.1) S59 rfl hsl5.symm ha.more.more.more.more.more.more.more.more.more (RoT.bytesX 3 rfl rfl) (by omega) (by omega) hc) ?_
            rintro _ w61 ⟨A63, c64, rfl, S62⟩
            refine ⟨_, rfl, ?_⟩
            refine pv (.slice A63 512 c64) ?_
            refine wl_end (fr [.slice A a.length ca, .slice B b.length cb, iv no, .slice D d.length cd, iv ((c : Nat) : Int), .bool back, ud, ud, ud, ud, ud, ud, fv, iv 0, .slice none 0 0, .slice none 0 0, pq g6, iv ((renewF a b no d).1 : Int), .slice As 512 cs_, iv ((renewF a b no d).2.2 : Int), tv, pq g41, .slice As 512 cs_, .slice B b.length cb, pq g52, .slice A a.length ca, .slice A63 512 c64, .slice A a.length ca, .slice B b.length cb, .agg #[iv ((newestF a b).1 : Int), iv ((newestF a b).2.1 : Int), .slice A3 (((newestF a b).2.2.1).length) c4, iv ((newestF a b).2.2.2 : Int)], .tuple #[iv ((renewF a b no d).1 : Int), .slice As 512 cs_, iv ((renewF a b no d).2.2 : Int)], .slice A a.length ca, .slice A14 a.length c15, .slice B b.length cb, .slice A18 b.length c19, iv no, .slice D d.length cd, .slice A22 d.length c23, .tuple #[iv ((renewF a b no d).1 : Int), .slice As 512 cs_, iv ((renewF a b no d).2.2 : Int)], iv ((renewF a b no d).1 : Int), .slice As 512 cs_, iv ((renewF a b no d).2.2 : Int), iv no, tv, tv, po g6 3, iv ((newestF a b).2.2.2 : Int), tv, tv, ud, ud, ud, ud, tv, tv, iv ((renewF a b no d).2.2 : Int), iv ((renewF a b no d).2.2 : Int), fv, ud, ud, tv, fv, fv, .slice As 512 cs_, iv 512, fv, fv, fv, iv ((renewF a b no d).1 : Int), fv, fv, ud, ud, fv, fv, fv, po g6 3, iv ((newestF a b).2.2.2 : Int), fv, fv, ud, ud, ud, ud, fv, fv, fv, po g6 3, iv ((newestF a b).2.2.2 : Int), tv, tv, iv ((renewF a b no d).1 : Int), fv, fv, fv, iv ((renewF a b no d).1 : Int), iv no, .slice D d.length cd, .agg #[iv ((renewF a b no d).1 : Int), iv no, .slice D d.length cd, iv 0], .tuple #[.slice As 512 cs_, .slice B b.length cb], .slice A a.length ca, .slice B b.length cb, iv ((renewF a b no d).1 : Int), .slice As 512 cs_, .tuple #[.slice As 512 cs_, .slice B b.length cb], .slice As 512 cs_, .slice B b.length cb, .slice As 512 cs_, .slice B b.length cb, .agg #[iv ((renewF a b no d).1 : Int), iv ((no.toNat : Nat) : Int), .slice A49 d.length c50, iv 0], .agg #[iv ((renewF a b no d).1 : Int), iv ((no.toNat : Nat) : Int), .slice A49 d.length c50, iv 0], .agg #[iv ((renewF a b no d).1 : Int), iv no, .slice D d.length cd, iv 0], tv, fv, .slice A a.length ca, iv ((renewF a b no d).1 : Int), fv, ud, .slice A a.length ca, .slice As 512 cs_, iv ((c : Nat) : Int), .slice A63 512 c64] 27) (by kernel_rfl) ?_
            refine then_n ?_
            refine wp_seq ?_
            refine wp_seq ?_
            refine wp_region_lit ?_
            refine pv (.bool back) ?_
            refine wl_end _ rfl ?_
            refine then_n ?_
            refine wp_cond_split (t := back) (by kernel_rfl) (fun hc65 => ?_) (fun hc65 => ?_)
            · skip
              refine wp_region_lit ?_
              refine pv (.slice As 512 cs_) ?_
              refine pv (.slice A a.length ca) ?_
              refine pv (iv ((c : Nat) : Int)) ?_
              refine wl_gv rfl (gv_call (args := #[.slice As 512 cs_, .slice A a.length ca, .int .i64 ((c : Nat) : Int)]) rfl Try.func39 (by kernel_rfl) rfl rfl (by kernel_rfl) ?_)
              refine Calls.mono (mix_all (a := (renewF a b no d).2.1) (b := a) S62 hsl5.symm rfl (RoT.bytesX 4 rfl rfl) ha.more.more.more.more.more.more.more.more.more.more (by omega) (by omega) hc) ?_
              rintro _ w66 ⟨A68, c69, rfl, S67⟩
              refine ⟨_, rfl, ?_⟩
              have S70 : St F w0 w66 (vec 5 1 (.slice A68 512 c69) 512 ((((renewF a b no d).2.1).take c ++ a.drop c).map bv) :: row g52 #[.int .i64 ((renewF a b no d).1 : Int), .int .i64 ((no.toNat : Nat) : Int), .slice A49 d.length c50, .int .i64 0] 53 :: bytesX (.slice A49 d.length c50) d :: row g41 #[.int .i64 ((renewF a b no d).1 : Int), .int .i64 no, .slice D d.length cd, .int .i64 0] 53 :: bytesX (.slice As 512 cs_) (renewF a b no d).2.1 :: vec 5 1 (.slice A22 d.length c23) d.length (d.map bv) :: vec 5 1 (.slice A18 b.length c19) b.length (b.map bv) :: vec 5 1 (.slice A14 a.length c15) a.length (a.map bv) :: row g6 #[.int .i64 ((newestF a b).1 : Int), .int .i64 ((newestF a b).2.1 : Int), .slice A3 (((newestF a b).2.2.1).length) c4, .int .i64 ((newestF a b).2.2.2 : Int)] 53 :: bytesX (.slice A3 ((newestF a b).2.2.1).length c4) ((newestF a b).2.2.1) :: L) := St.permT [vec 5 1 (.slice A68 512 c69) 512 ((((renewF a b no d).2.1).take c ++ a.drop c).map bv), vec 5 1 (.slice A63 512 c64) 512 ((a.take c ++ ((renewF a b no d).2.1).drop c).map bv), row g52 #[.int .i64 ((renewF a b no d).1 : Int), .int .i64 ((no.toNat : Nat) : Int), .slice A49 d.length c50, .int .i64 0] 53, bytesX (.slice A49 d.length c50) d, row g41 #[.int .i64 ((renewF a b no d).1 : Int), .int .i64 no, .slice D d.length cd, .int .i64 0] 53, bytesX (.slice As 512 cs_) (renewF a b no d).2.1, vec 5 1 (.slice A22 d.length c23) d.length (d.map bv), vec 5 1 (.slice A18 b.length c19) b.length (b.map bv), vec 5 1 (.slice A14 a.length c15) a.length (a.map bv), row g6 #[.int .i64 ((newestF a b).1 : Int), .int .i64 ((newestF a b).2.1 : Int), .slice A3 (((newestF a b).2.2.1).length) c4, .int .i64 ((newestF a b).2.2.2 : Int)] 53, bytesX (.slice A3 ((newestF a b).2.2.1).length c4) ((newestF a b).2.2.1)] [0, 2, 3, 4, 5, 6, 7, 8, 9, 10] (by decide) rfl S67
              refine pv (.slice A68 512 c69) ?_
              refine wl_end _ rfl ?_
              refine then_n ?_
              refine wp_seq ?_
              refine wp_region_lit ?_
              have hmx : (((renewF a b no d).2.1).take c ++ a.drop c) = (if (renewF a b no d).1 = 1 then b else a) ∨ (((renewF a b no d).2.1).take c ++ a.drop c) = (renewF a b no d).2.1 ∨ openF (((renewF a b no d).2.1).take c ++ a.drop c) = ([], 30) := by have := hR.mix c hc; simp only [hold] at this ⊢; exact this.2
              have hm5 : (((renewF a b no d).2.1).take c ++ a.drop c).length = 512 := by rw [List.length_append, List.length_take, List.length_drop]; omega
              have hto : newestF (((renewF a b no d).2.1).take c ++ a.drop c) b = ((renewF a b no d).1, no.toNat, d, 0) ∨ newestF (((renewF a b no d).2.1).take c ++ a.drop c) b = newestF a b := by have := hR.torn _ hmx hm5; rw [show putIn a b (renewF a b no d).1 (((renewF a b no d).2.1).take c ++ a.drop c) = ((((renewF a b no d).2.1).take c ++ a.drop c), b) from by unfold putIn; rw [if_pos hs0]] at this; exact this
              have hgl : (newestF (((renewF a b no d).2.1).take c ++ a.drop c) b).2.2.1.length ≤ 504 := newest_len _ _ (by omega) (by omega)
              refine pv (.slice A a.length ca) ?_
              refine pv (.slice B b.length cb) ?_
              refine pv (iv ((renewF a b no d).1 : Int)) ?_
              refine pv (.slice A68 512 c69) ?_
              refine wl_gv rfl (gv_call (args := #[.slice A a.length ca, .slice B b.length cb, .int .i64 ((renewF a b no d).1 : Int), .slice A68 512 c69]) rfl Try.func22 (by kernel_rfl) rfl rfl (by kernel_rfl) ?_)
              refine Calls.mono (pairOf0 (by omega)) ?_
              rintro _ _ ⟨rfl, rfl⟩
              refine ⟨_, rfl, ?_⟩
              refine pv (.tuple #[.slice A68 512 c69, .slice B b.length cb]) ?_
              refine pv (.slice A68 512 c69) ?_
              refine pv (.slice B b.length cb) ?_
              refine pv (.slice A68 512 c69) ?_
              refine pv (.slice B b.length cb) ?_
              refine wl_end _ rfl ?_
              refine then_n ?_
              refine wp_seq ?_
              refine wp_region_lit ?_
              refine pv (.slice A68 512 c69) ?_
              refine pv (.slice B b.length cb) ?_
              refine wl_gv rfl (gv_call (args := #[.slice A68 512 c69, .slice B b.length cb]) rfl Try.func23 (by kernel_rfl) rfl rfl (by kernel_rfl) ?_)
              refine Calls.mono (ask_all (a := ((renewF a b no d).2.1).take c ++ a.drop c) (b := b) S70 hm5.symm rfl (RoT.ofVec 0 rfl) hb.more.more.more.more.more.more.more.more.more.more (by omega) (by omega)) ?_
              rintro _ w71 ⟨A73, c74, rfl, S72⟩
              refine ⟨_, rfl, ?_⟩
              have S75 : St F w0 w71 (bytesX (.slice A73 ((newestF (((renewF a b no d).2.1).take c ++ a.drop c) b).2.2.1).length c74) ((newestF (((renewF a b no d).2.1).take c ++ a.drop c) b).2.2.1) :: vec 5 1 (.slice A68 512 c69) 512 ((((renewF a b no d).2.1).take c ++ a.drop c).map bv) :: row g52 #[.int .i64 ((renewF a b no d).1 : Int), .int .i64 ((no.toNat : Nat) : Int), .slice A49 d.length c50, .int .i64 0] 53 :: bytesX (.slice A49 d.length c50) d :: row g41 #[.int .i64 ((renewF a b no d).1 : Int), .int .i64 no, .slice D d.length cd, .int .i64 0] 53 :: bytesX (.slice As 512 cs_) (renewF a b no d).2.1 :: vec 5 1 (.slice A22 d.length c23) d.length (d.map bv) :: vec 5 1 (.slice A18 b.length c19) b.length (b.map bv) :: vec 5 1 (.slice A14 a.length c15) a.length (a.map bv) :: row g6 #[.int .i64 ((newestF a b).1 : Int), .int .i64 ((newestF a b).2.1 : Int), .slice A3 (((newestF a b).2.2.1).length) c4, .int .i64 ((newestF a b).2.2.2 : Int)] 53 :: bytesX (.slice A3 ((newestF a b).2.2.1).length c4) ((newestF a b).2.2.1) :: L) := S72
              refine wl_gv rfl (gv_stA (k := 0) (vs := [.int .i64 ((newestF (((renewF a b no d).2.1).take c ++ a.drop c) b).1 : Int), .int .i64 ((newestF (((renewF a b no d).2.1).take c ++ a.drop c) b).2.1 : Int), .slice A73 (((newestF (((renewF a b no d).2.1).take c ++ a.drop c) b).2.2.1).length) c74, .int .i64 ((newestF (((renewF a b no d).2.1).take c ++ a.drop c) b).2.2.2 : Int)]) S75 2 rfl rfl (by kernel_rfl) (by kernel_rfl) (by kernel_rfl) rfl (by simp [Value.oneCell']) (Nat.le_of_ble_eq_true (by kernel_rfl)) (L' := (bytesX (.slice A73 ((newestF (((renewF a b no d).2.1).take c ++ a.drop c) b).2.2.1).length c74) ((newestF (((renewF a b no d).2.1).take c ++ a.drop c) b).2.2.1) :: vec 5 1 (.slice A68 512 c69) 512 ((((renewF a b no d).2.1).take c ++ a.drop c).map bv) :: row g52 #[.int .i64 ((newestF (((renewF a b no d).2.1).take c ++ a.drop c) b).1 : Int), .int .i64 ((newestF (((renewF a b no d).2.1).take c ++ a.drop c) b).2.1 : Int), .slice A73 (((newestF (((renewF a b no d).2.1).take c ++ a.drop c) b).2.2.1).length) c74, .int .i64 ((newestF (((renewF a b no d).2.1).take c ++ a.drop c) b).2.2.2 : Int)] 53 :: bytesX (.slice A49 d.length c50) d :: row g41 #[.int .i64 ((renewF a b no d).1 : Int), .int .i64 no, .slice D d.length cd, .int .i64 0] 53 :: bytesX (.slice As 512 cs_) (renewF a b no d).2.1 :: vec 5 1 (.slice A22 d.length c23) d.length (d.map bv) :: vec 5 1 (.slice A18 b.length c19) b.length (b.map bv) :: vec 5 1 (.slice A14 a.length c15) a.length (a.map bv) :: row g6 #[.int .i64 ((newestF a b).1 : Int), .int .i64 ((newestF a b).2.1 : Int), .slice A3 (((newestF a b).2.2.1).length) c4, .int .i64 ((newestF a b).2.2.2 : Int)] 53 :: bytesX (.slice A3 ((newestF a b).2.2.1).length c4) ((newestF a b).2.2.1) :: L)) rfl (fun w76 S77 => ?_))
              refine wl_end _ rfl ?_
              refine then_n ?_
              refine wp_seq ?_
              refine wp_region_lit ?_
              refine wl_gv rfl (gv_ldA (k := 0) (n := 4) (vs := [.int .i64 ((newestF (((renewF a b no d).2.1).take c ++ a.drop c) b).1 : Int), .int .i64 ((newestF (((renewF a b no d).2.1).take c ++ a.drop c) b).2.1 : Int), .slice A73 (((newestF (((renewF a b no d).2.1).take c ++ a.drop c) b).2.2.1).length) c74, .int .i64 ((newestF (((renewF a b no d).2.1).take c ++ a.drop c) b).2.2.2 : Int)]) S77 2 rfl rfl (by kernel_rfl) (by kernel_rfl) rfl rfl ?_)
              refine wl_gv rfl (gv_ldA (k := 0) (n := 4) (vs := [.int .i64 ((renewF a b no d).1 : Int), .int .i64 no, .slice D d.length cd, .int .i64 0]) S77 4 rfl rfl (by kernel_rfl) (by kernel_rfl) rfl rfl ?_)
              refine wl_gv rfl (gv_call (args := #[.agg #[.int .i64 ((newestF (((renewF a b no d).2.1).take c ++ a.drop c) b).1 : Int), .int .i64 ((newestF (((renewF a b no d).2.1).take c ++ a.drop c) b).2.1 : Int), .slice A73 (((newestF (((renewF a b no d).2.1).take c ++ a.drop c) b).2.2.1).length) c74, .int .i64 ((newestF (((renewF a b no d).2.1).take c ++ a.drop c) b).2.2.2 : Int)], .agg #[.int .i64 ((renewF a b no d).1 : Int), .int .i64 no, .slice D d.length cd, .int .i64 0]]) rfl Try.func38 (by kernel_rfl) rfl rfl (by kernel_rfl) ?_)
              by_cases hal : (((newestF (((renewF a b no d).2.1).take c ++ a.drop c) b).1 : Int) = ((renewF a b no d).1 : Int) ∧ ((newestF (((renewF a b no d).2.1).take c ++ a.drop c) b).2.1 : Int) = no ∧ ((newestF (((renewF a b no d).2.1).take c ++ a.drop c) b).2.2.2 : Int) = 0 ∧ (newestF (((renewF a b no d).2.1).take c ++ a.drop c) b).2.2.1 = d)
              · skip
                refine Calls.mono (alike_all (t := true) S77 rfl rfl (RoT.bytesX 0 rfl rfl) hd.more.more.more.more.more.more.more.more.more.more.more (by omega) (by omega) (decide_eq_true hal)) ?_
                rintro _ w78 ⟨rfl, S79⟩
                refine ⟨_, rfl, ?_⟩
                refine pv tv ?_
                refine wl_not (by kernel_rfl) ?_
                refine wl_not (by kernel_rfl) ?_
                refine wl_not (by kernel_rfl) ?_
                refine pv tv ?_
                refine pv (iv ((renewF a b no d).1 : Int)) ?_
                refine pv (.slice As 512 cs_) ?_
                refine pv (.slice A68 512 c69) ?_
                refine pv tv ?_
                refine pv (iv ((renewF a b no d).1 : Int)) ?_
                refine pv (.slice As 512 cs_) ?_
                refine pv (.slice A68 512 c69) ?_
                refine wl_end (fr [.slice A a.length ca, .slice B b.length cb, iv no, .slice D d.length cd, iv ((c : Nat) : Int), .bool back, ud, ud, ud, ud, ud, ud, tv, iv ((renewF a b no d).1 : Int), .slice As 512 cs_, .slice A68 512 c69, pq g6, iv ((renewF a b no d).1 : Int), .slice As 512 cs_, iv ((renewF a b no d).2.2 : Int), tv, pq g41, .slice A68 512 c69, .slice B b.length cb, pq g52, .slice A a.length ca, .slice A68 512 c69, .slice A a.length ca, .slice B b.length cb, .agg #[iv ((newestF a b).1 : Int), iv ((newestF a b).2.1 : Int), .slice A3 (((newestF a b).2.2.1).length) c4, iv ((newestF a b).2.2.2 : Int)], .tuple #[iv ((renewF a b no d).1 : Int), .slice As 512 cs_, iv ((renewF a b no d).2.2 : Int)], .slice A a.length ca, .slice A14 a.length c15, .slice B b.length cb, .slice A18 b.length c19, iv no, .slice D d.length cd, .slice A22 d.length c23, .tuple #[iv ((renewF a b no d).1 : Int), .slice As 512 cs_, iv ((renewF a b no d).2.2 : Int)], iv ((renewF a b no d).1 : Int), .slice As 512 cs_, iv ((renewF a b no d).2.2 : Int), iv no, tv, tv, po g6 3, iv ((newestF a b).2.2.2 : Int), tv, tv, ud, ud, ud, ud, tv, tv, iv ((renewF a b no d).2.2 : Int), iv ((renewF a b no d).2.2 : Int), fv, ud, ud, tv, fv, fv, .slice As 512 cs_, iv 512, fv, fv, fv, iv ((renewF a b no d).1 : Int), fv, fv, ud, ud, fv, fv, fv, po g6 3, iv ((newestF a b).2.2.2 : Int), fv, fv, ud, ud, ud, ud, fv, fv, fv, po g6 3, iv ((newestF a b).2.2.2 : Int), tv, tv, iv ((renewF a b no d).1 : Int), fv, fv, fv, iv ((renewF a b no d).1 : Int), iv no, .slice D d.length cd, .agg #[iv ((renewF a b no d).1 : Int), iv no, .slice D d.length cd, iv 0], .tuple #[.slice As 512 cs_, .slice B b.length cb], .slice A a.length ca, .slice B b.length cb, iv ((renewF a b no d).1 : Int), .slice As 512 cs_, .tuple #[.slice As 512 cs_, .slice B b.length cb], .slice As 512 cs_, .slice B b.length cb, .slice As 512 cs_, .slice B b.length cb, .agg #[iv ((renewF a b no d).1 : Int), iv ((no.toNat : Nat) : Int), .slice A49 d.length c50, iv 0], .agg #[iv ((renewF a b no d).1 : Int), iv ((no.toNat : Nat) : Int), .slice A49 d.length c50, iv 0], .agg #[iv ((renewF a b no d).1 : Int), iv no, .slice D d.length cd, iv 0], tv, fv, .slice A a.length ca, iv ((renewF a b no d).1 : Int), fv, ud, .slice A a.length ca, .slice As 512 cs_, iv ((c : Nat) : Int), .slice A63 512 c64, .bool back, .slice As 512 cs_, .slice A a.length ca, iv ((c : Nat) : Int), .slice A68 512 c69, .tuple #[.slice A68 512 c69, .slice B b.length cb], .slice A a.length ca, .slice B b.length cb, iv ((renewF a b no d).1 : Int), .slice A68 512 c69, .tuple #[.slice A68 512 c69, .slice B b.length cb], .slice A68 512 c69, .slice B b.length cb, .slice A68 512 c69, .slice B b.length cb, .agg #[iv ((newestF (((renewF a b no d).2.1).take c ++ a.drop c) b).1 : Int), iv ((newestF (((renewF a b no d).2.1).take c ++ a.drop c) b).2.1 : Int), .slice A73 (((newestF (((renewF a b no d).2.1).take c ++ a.drop c) b).2.2.1).length) c74, iv ((newestF (((renewF a b no d).2.1).take c ++ a.drop c) b).2.2.2 : Int)], .agg #[iv ((newestF (((renewF a b no d).2.1).take c ++ a.drop c) b).1 : Int), iv ((newestF (((renewF a b no d).2.1).take c ++ a.drop c) b).2.1 : Int), .slice A73 (((newestF (((renewF a b no d).2.1).take c ++ a.drop c) b).2.2.1).length) c74, iv ((newestF (((renewF a b no d).2.1).take c ++ a.drop c) b).2.2.2 : Int)], .agg #[iv ((renewF a b no d).1 : Int), iv no, .slice D d.length cd, iv 0], tv, tv, ud, ud, ud, tv, iv ((renewF a b no d).1 : Int), .slice As 512 cs_, .slice A68 512 c69] 0) (by kernel_rfl) ?_
                refine then_n ?_
                refine wp_ret ?_
                refine bodyPost_ret (v := .tuple #[.bool true, .int .i64 ((renewF a b no d).1 : Int), .slice As 512 cs_, .slice A68 512 c69]) (Go.Proofs.results_tmp4 rfl _ _ (by kernel_rfl) (by kernel_rfl) (by kernel_rfl) (by kernel_rfl)) rfl ?_
                have S80 : St F w0 w78 (vec 5 1 (.slice A68 512 c69) 512 ((((renewF a b no d).2.1).take c ++ a.drop c).map bv) :: bytesX (.slice As 512 cs_) (renewF a b no d).2.1 :: L) := St.permT [bytesX (.slice A73 ((newestF (((renewF a b no d).2.1).take c ++ a.drop c) b).2.2.1).length c74) ((newestF (((renewF a b no d).2.1).take c ++ a.drop c) b).2.2.1), vec 5 1 (.slice A68 512 c69) 512 ((((renewF a b no d).2.1).take c ++ a.drop c).map bv), row g52 #[.int .i64 ((newestF (((renewF a b no d).2.1).take c ++ a.drop c) b).1 : Int), .int .i64 ((newestF (((renewF a b no d).2.1).take c ++ a.drop c) b).2.1 : Int), .slice A73 (((newestF (((renewF a b no d).2.1).take c ++ a.drop c) b).2.2.1).length) c74, .int .i64 ((newestF (((renewF a b no d).2.1).take c ++ a.drop c) b).2.2.2 : Int)] 53, bytesX (.slice A49 d.length c50) d, row g41 #[.int .i64 ((renewF a b no d).1 : Int), .int .i64 no, .slice D d.length cd, .int .i64 0] 53, bytesX (.slice As 512 cs_) (renewF a b no d).2.1, vec 5 1 (.slice A22 d.length c23) d.length (d.map bv), vec 5 1 (.slice A18 b.length c19) b.length (b.map bv), vec 5 1 (.slice A14 a.length c15) a.length (a.map bv), row g6 #[.int .i64 ((newestF a b).1 : Int), .int .i64 ((newestF a b).2.1 : Int), .slice A3 (((newestF a b).2.2.1).length) c4, .int .i64 ((newestF a b).2.2.2 : Int)] 53, bytesX (.slice A3 ((newestF a b).2.2.1).length c4) ((newestF a b).2.2.1)] [1, 5] (by decide) rfl S79
                exact .inr ⟨As, A68, cs_, c69, ((renewF a b no d).2.1).take c ++ a.drop c, rfl, hgood, hR, hmx, hm5, S80⟩
              · skip
                have hto2 := hto.resolve_left (fun h => hal (by rw [h]; exact ⟨rfl, by show ((no.toNat : Nat) : Int) = no; omega, rfl, rfl⟩))
                refine Calls.mono (alike_all (t := false) S77 rfl rfl (RoT.bytesX 0 rfl rfl) hd.more.more.more.more.more.more.more.more.more.more.more (by omega) (by omega) (decide_eq_false hal)) ?_
                rintro _ w81 ⟨rfl, S82⟩
                refine ⟨_, rfl, ?_⟩
                refine pv fv ?_
                refine wl_when (by kernel_rfl) (gv_ldA (k := 0) (n := 4) (vs := [.int .i64 ((newestF (((renewF a b no d).2.1).take c ++ a.drop c) b).1 : Int), .int .i64 ((newestF (((renewF a b no d).2.1).take c ++ a.drop c) b).2.1 : Int), .slice A73 (((newestF (((renewF a b no d).2.1).take c ++ a.drop c) b).2.2.1).length) c74, .int .i64 ((newestF (((renewF a b no d).2.1).take c ++ a.drop c) b).2.2.2 : Int)]) S82 2 rfl rfl (by kernel_rfl) (by kernel_rfl) rfl rfl ?_)
                refine wl_when (by kernel_rfl) (gv_ldA (k := 0) (n := 4) (vs := [.int .i64 ((newestF a b).1 : Int), .int .i64 ((newestF a b).2.1 : Int), .slice A3 (((newestF a b).2.2.1).length) c4, .int .i64 ((newestF a b).2.2.2 : Int)]) S82 9 rfl rfl (by kernel_rfl) (by kernel_rfl) rfl rfl ?_)
                refine wl_when (by kernel_rfl) (gv_call (args := #[.agg #[.int .i64 ((newestF (((renewF a b no d).2.1).take c ++ a.drop c) b).1 : Int), .int .i64 ((newestF (((renewF a b no d).2.1).take c ++ a.drop c) b).2.1 : Int), .slice A73 (((newestF (((renewF a b no d).2.1).take c ++ a.drop c) b).2.2.1).length) c74, .int .i64 ((newestF (((renewF a b no d).2.1).take c ++ a.drop c) b).2.2.2 : Int)], .agg #[.int .i64 ((newestF a b).1 : Int), .int .i64 ((newestF a b).2.1 : Int), .slice A3 (((newestF a b).2.2.1).length) c4, .int .i64 ((newestF a b).2.2.2 : Int)]]) rfl Try.func38 (by kernel_rfl) rfl rfl (by kernel_rfl) ?_)
                refine Calls.mono (alike_all (t := true) S82 rfl rfl (RoT.bytesX 0 rfl rfl) (RoT.bytesX 10 rfl rfl) (by omega) (by omega) (by rw [hto2]; exact decide_eq_true ⟨rfl, rfl, rfl, rfl⟩)) ?_
                rintro _ w83 ⟨rfl, S84⟩
                refine ⟨_, rfl, ?_⟩
                refine pv tv ?_
                refine pv (iv ((renewF a b no d).1 : Int)) ?_
                refine pv (.slice As 512 cs_) ?_
                refine pv (.slice A68 512 c69) ?_
                refine pv tv ?_
                refine pv (iv ((renewF a b no d).1 : Int)) ?_
                refine pv (.slice As 512 cs_) ?_
                refine pv (.slice A68 512 c69) ?_
                refine wl_end (fr [.slice A a.length ca, .slice B b.length cb, iv no, .slice D d.length cd, iv ((c : Nat) : Int), .bool back, ud, ud, ud, ud, ud, ud, tv, iv ((renewF a b no d).1 : Int), .slice As 512 cs_, .slice A68 512 c69, pq g6, iv ((renewF a b no d).1 : Int), .slice As 512 cs_, iv ((renewF a b no d).2.2 : Int), tv, pq g41, .slice A68 512 c69, .slice B b.length cb, pq g52, .slice A a.length ca, .slice A68 512 c69, .slice A a.length ca, .slice B b.length cb, .agg #[iv ((newestF a b).1 : Int), iv ((newestF a b).2.1 : Int), .slice A3 (((newestF a b).2.2.1).length) c4, iv ((newestF a b).2.2.2 : Int)], .tuple #[iv ((renewF a b no d).1 : Int), .slice As 512 cs_, iv ((renewF a b no d).2.2 : Int)], .slice A a.length ca, .slice A14 a.length c15, .slice B b.length cb, .slice A18 b.length c19, iv no, .slice D d.length cd, .slice A22 d.length c23, .tuple #[iv ((renewF a b no d).1 : Int), .slice As 512 cs_, iv ((renewF a b no d).2.2 : Int)], iv ((renewF a b no d).1 : Int), .slice As 512 cs_, iv ((renewF a b no d).2.2 : Int), iv no, tv, tv, po g6 3, iv ((newestF a b).2.2.2 : Int), tv, tv, ud, ud, ud, ud, tv, tv, iv ((renewF a b no d).2.2 : Int), iv ((renewF a b no d).2.2 : Int), fv, ud, ud, tv, fv, fv, .slice As 512 cs_, iv 512, fv, fv, fv, iv ((renewF a b no d).1 : Int), fv, fv, ud, ud, fv, fv, fv, po g6 3, iv ((newestF a b).2.2.2 : Int), fv, fv, ud, ud, ud, ud, fv, fv, fv, po g6 3, iv ((newestF a b).2.2.2 : Int), tv, tv, iv ((renewF a b no d).1 : Int), fv, fv, fv, iv ((renewF a b no d).1 : Int), iv no, .slice D d.length cd, .agg #[iv ((renewF a b no d).1 : Int), iv no, .slice D d.length cd, iv 0], .tuple #[.slice As 512 cs_, .slice B b.length cb], .slice A a.length ca, .slice B b.length cb, iv ((renewF a b no d).1 : Int), .slice As 512 cs_, .tuple #[.slice As 512 cs_, .slice B b.length cb], .slice As 512 cs_, .slice B b.length cb, .slice As 512 cs_, .slice B b.length cb, .agg #[iv ((renewF a b no d).1 : Int), iv ((no.toNat : Nat) : Int), .slice A49 d.length c50, iv 0], .agg #[iv ((renewF a b no d).1 : Int), iv ((no.toNat : Nat) : Int), .slice A49 d.length c50, iv 0], .agg #[iv ((renewF a b no d).1 : Int), iv no, .slice D d.length cd, iv 0], tv, fv, .slice A a.length ca, iv ((renewF a b no d).1 : Int), fv, ud, .slice A a.length ca, .slice As 512 cs_, iv ((c : Nat) : Int), .slice A63 512 c64, .bool back, .slice As 512 cs_, .slice A a.length ca, iv ((c : Nat) : Int), .slice A68 512 c69, .tuple #[.slice A68 512 c69, .slice B b.length cb], .slice A a.length ca, .slice B b.length cb, iv ((renewF a b no d).1 : Int), .slice A68 512 c69, .tuple #[.slice A68 512 c69, .slice B b.length cb], .slice A68 512 c69, .slice B b.length cb, .slice A68 512 c69, .slice B b.length cb, .agg #[iv ((newestF (((renewF a b no d).2.1).take c ++ a.drop c) b).1 : Int), iv ((newestF (((renewF a b no d).2.1).take c ++ a.drop c) b).2.1 : Int), .slice A73 (((newestF (((renewF a b no d).2.1).take c ++ a.drop c) b).2.2.1).length) c74, iv ((newestF (((renewF a b no d).2.1).take c ++ a.drop c) b).2.2.2 : Int)], .agg #[iv ((newestF (((renewF a b no d).2.1).take c ++ a.drop c) b).1 : Int), iv ((newestF (((renewF a b no d).2.1).take c ++ a.drop c) b).2.1 : Int), .slice A73 (((newestF (((renewF a b no d).2.1).take c ++ a.drop c) b).2.2.1).length) c74, iv ((newestF (((renewF a b no d).2.1).take c ++ a.drop c) b).2.2.2 : Int)], .agg #[iv ((renewF a b no d).1 : Int), iv no, .slice D d.length cd, iv 0], fv, fv, .agg #[iv ((newestF (((renewF a b no d).2.1).take c ++ a.drop c) b).1 : Int), iv ((newestF (((renewF a b no d).2.1).take c ++ a.drop c) b).2.1 : Int), .slice A73 (((newestF (((renewF a b no d).2.1).take c ++ a.drop c) b).2.2.1).length) c74, iv ((newestF (((renewF a b no d).2.1).take c ++ a.drop c) b).2.2.2 : Int)], .agg #[iv ((newestF a b).1 : Int), iv ((newestF a b).2.1 : Int), .slice A3 (((newestF a b).2.2.1).length) c4, iv ((newestF a b).2.2.2 : Int)], tv, tv, iv ((renewF a b no d).1 : Int), .slice As 512 cs_, .slice A68 512 c69] 0) (by kernel_rfl) ?_
                refine then_n ?_
                refine wp_ret ?_
                refine bodyPost_ret (v := .tuple #[.bool true, .int .i64 ((renewF a b no d).1 : Int), .slice As 512 cs_, .slice A68 512 c69]) (Go.Proofs.results_tmp4 rfl _ _ (by kernel_rfl) (by kernel_rfl) (by kernel_rfl) (by kernel_rfl)) rfl ?_
                have S85 : St F w0 w83 (vec 5 1 (.slice A68 512 c69) 512 ((((renewF a b no d).2.1).take c ++ a.drop c).map bv) :: bytesX (.slice As 512 cs_) (renewF a b no d).2.1 :: L) := St.permT [bytesX (.slice A73 ((newestF (((renewF a b no d).2.1).take c ++ a.drop c) b).2.2.1).length c74) ((newestF (((renewF a b no d).2.1).take c ++ a.drop c) b).2.2.1), vec 5 1 (.slice A68 512 c69) 512 ((((renewF a b no d).2.1).take c ++ a.drop c).map bv), row g52 #[.int .i64 ((newestF (((renewF a b no d).2.1).take c ++ a.drop c) b).1 : Int), .int .i64 ((newestF (((renewF a b no d).2.1).take c ++ a.drop c) b).2.1 : Int), .slice A73 (((newestF (((renewF a b no d).2.1).take c ++ a.drop c) b).2.2.1).length) c74, .int .i64 ((newestF (((renewF a b no d).2.1).take c ++ a.drop c) b).2.2.2 : Int)] 53, bytesX (.slice A49 d.length c50) d, row g41 #[.int .i64 ((renewF a b no d).1 : Int), .int .i64 no, .slice D d.length cd, .int .i64 0] 53, bytesX (.slice As 512 cs_) (renewF a b no d).2.1, vec 5 1 (.slice A22 d.length c23) d.length (d.map bv), vec 5 1 (.slice A18 b.length c19) b.length (b.map bv), vec 5 1 (.slice A14 a.length c15) a.length (a.map bv), row g6 #[.int .i64 ((newestF a b).1 : Int), .int .i64 ((newestF a b).2.1 : Int), .slice A3 (((newestF a b).2.2.1).length) c4, .int .i64 ((newestF a b).2.2.2 : Int)] 53, bytesX (.slice A3 ((newestF a b).2.2.1).length c4) ((newestF a b).2.2.1)] [1, 5] (by decide) rfl S84
                exact .inr ⟨As, A68, cs_, c69, ((renewF a b no d).2.1).take c ++ a.drop c, rfl, hgood, hR, hmx, hm5, S85⟩
            · skip
              refine wp_skip ?_
              refine then_n ?_
              refine wp_seq ?_
              refine wp_region_lit ?_
              have hmx : (a.take c ++ ((renewF a b no d).2.1).drop c) = (if (renewF a b no d).1 = 1 then b else a) ∨ (a.take c ++ ((renewF a b no d).2.1).drop c) = (renewF a b no d).2.1 ∨ openF (a.take c ++ ((renewF a b no d).2.1).drop c) = ([], 30) := by have := hR.mix c hc; simp only [hold] at this ⊢; exact this.1
              have hm5 : (a.take c ++ ((renewF a b no d).2.1).drop c).length = 512 := by rw [List.length_append, List.length_take, List.length_drop]; omega
              have hto : newestF (a.take c ++ ((renewF a b no d).2.1).drop c) b = ((renewF a b no d).1, no.toNat, d, 0) ∨ newestF (a.take c ++ ((renewF a b no d).2.1).drop c) b = newestF a b := by have := hR.torn _ hmx hm5; rw [show putIn a b (renewF a b no d).1 (a.take c ++ ((renewF a b no d).2.1).drop c) = ((a.take c ++ ((renewF a b no d).2.1).drop c), b) from by unfold putIn; rw [if_pos hs0]] at this; exact this
              have hgl : (newestF (a.take c ++ ((renewF a b no d).2.1).drop c) b).2.2.1.length ≤ 504 := newest_len _ _ (by omega) (by omega)
              refine pv (.slice A a.length ca) ?_
              refine pv (.slice B b.length cb) ?_
              refine pv (iv ((renewF a b no d).1 : Int)) ?_
              refine pv (.slice A63 512 c64) ?_
              refine wl_gv rfl (gv_call (args := #[.slice A a.length ca, .slice B b.length cb, .int .i64 ((renewF a b no d).1 : Int), .slice A63 512 c64]) rfl Try.func22 (by kernel_rfl) rfl rfl (by kernel_rfl) ?_)
              refine Calls.mono (pairOf0 (by omega)) ?_
              rintro _ _ ⟨rfl, rfl⟩
              refine ⟨_, rfl, ?_⟩
              refine pv (.tuple #[.slice A63 512 c64, .slice B b.length cb]) ?_
              refine pv (.slice A63 512 c64) ?_
              refine pv (.slice B b.length cb) ?_
              refine pv (.slice A63 512 c64) ?_
              refine pv (.slice B b.length cb) ?_
              refine wl_end _ rfl ?_
              refine then_n ?_
              refine wp_seq ?_
              refine wp_region_lit ?_
              refine pv (.slice A63 512 c64) ?_
              refine pv (.slice B b.length cb) ?_
              refine wl_gv rfl (gv_call (args := #[.slice A63 512 c64, .slice B b.length cb]) rfl Try.func23 (by kernel_rfl) rfl rfl (by kernel_rfl) ?_)
              refine Calls.mono (ask_all (a := a.take c ++ ((renewF a b no d).2.1).drop c) (b := b) S62 hm5.symm rfl (RoT.ofVec 0 rfl) hb.more.more.more.more.more.more.more.more.more.more (by omega) (by omega)) ?_
              rintro _ w86 ⟨A88, c89, rfl, S87⟩
              refine ⟨_, rfl, ?_⟩
              have S90 : St F w0 w86 (bytesX (.slice A88 ((newestF (a.take c ++ ((renewF a b no d).2.1).drop c) b).2.2.1).length c89) ((newestF (a.take c ++ ((renewF a b no d).2.1).drop c) b).2.2.1) :: vec 5 1 (.slice A63 512 c64) 512 ((a.take c ++ ((renewF a b no d).2.1).drop c).map bv) :: row g52 #[.int .i64 ((renewF a b no d).1 : Int), .int .i64 ((no.toNat : Nat) : Int), .slice A49 d.length c50, .int .i64 0] 53 :: bytesX (.slice A49 d.length c50) d :: row g41 #[.int .i64 ((renewF a b no d).1 : Int), .int .i64 no, .slice D d.length cd, .int .i64 0] 53 :: bytesX (.slice As 512 cs_) (renewF a b no d).2.1 :: vec 5 1 (.slice A22 d.length c23) d.length (d.map bv) :: vec 5 1 (.slice A18 b.length c19) b.length (b.map bv) :: vec 5 1 (.slice A14 a.length c15) a.length (a.map bv) :: row g6 #[.int .i64 ((newestF a b).1 : Int), .int .i64 ((newestF a b).2.1 : Int), .slice A3 (((newestF a b).2.2.1).length) c4, .int .i64 ((newestF a b).2.2.2 : Int)] 53 :: bytesX (.slice A3 ((newestF a b).2.2.1).length c4) ((newestF a b).2.2.1) :: L) := S87
              refine wl_gv rfl (gv_stA (k := 0) (vs := [.int .i64 ((newestF (a.take c ++ ((renewF a b no d).2.1).drop c) b).1 : Int), .int .i64 ((newestF (a.take c ++ ((renewF a b no d).2.1).drop c) b).2.1 : Int), .slice A88 (((newestF (a.take c ++ ((renewF a b no d).2.1).drop c) b).2.2.1).length) c89, .int .i64 ((newestF (a.take c ++ ((renewF a b no d).2.1).drop c) b).2.2.2 : Int)]) S90 2 rfl rfl (by kernel_rfl) (by kernel_rfl) (by kernel_rfl) rfl (by simp [Value.oneCell']) (Nat.le_of_ble_eq_true (by kernel_rfl)) (L' := (bytesX (.slice A88 ((newestF (a.take c ++ ((renewF a b no d).2.1).drop c) b).2.2.1).length c89) ((newestF (a.take c ++ ((renewF a b no d).2.1).drop c) b).2.2.1) :: vec 5 1 (.slice A63 512 c64) 512 ((a.take c ++ ((renewF a b no d).2.1).drop c).map bv) :: row g52 #[.int .i64 ((newestF (a.take c ++ ((renewF a b no d).2.1).drop c) b).1 : Int), .int .i64 ((newestF (a.take c ++ ((renewF a b no d).2.1).drop c) b).2.1 : Int), .slice A88 (((newestF (a.take c ++ ((renewF a b no d).2.1).drop c) b).2.2.1).length) c89, .int .i64 ((newestF (a.take c ++ ((renewF a b no d).2.1).drop c) b).2.2.2 : Int)] 53 :: bytesX (.slice A49 d.length c50) d :: row g41 #[.int .i64 ((renewF a b no d).1 : Int), .int .i64 no, .slice D d.length cd, .int .i64 0] 53 :: bytesX (.slice As 512 cs_) (renewF a b no d).2.1 :: vec 5 1 (.slice A22 d.length c23) d.length (d.map bv) :: vec 5 1 (.slice A18 b.length c19) b.length (b.map bv) :: vec 5 1 (.slice A14 a.length c15) a.length (a.map bv) :: row g6 #[.int .i64 ((newestF a b).1 : Int), .int .i64 ((newestF a b).2.1 : Int), .slice A3 (((newestF a b).2.2.1).length) c4, .int .i64 ((newestF a b).2.2.2 : Int)] 53 :: bytesX (.slice A3 ((newestF a b).2.2.1).length c4) ((newestF a b).2.2.1) :: L)) rfl (fun w91 S92 => ?_))
              refine wl_end _ rfl ?_
              refine then_n ?_
              refine wp_seq ?_
              refine wp_region_lit ?_
              refine wl_gv rfl (gv_ldA (k := 0) (n := 4) (vs := [.int .i64 ((newestF (a.take c ++ ((renewF a b no d).2.1).drop c) b).1 : Int), .int .i64 ((newestF (a.take c ++ ((renewF a b no d).2.1).drop c) b).2.1 : Int), .slice A88 (((newestF (a.take c ++ ((renewF a b no d).2.1).drop c) b).2.2.1).length) c89, .int .i64 ((newestF (a.take c ++ ((renewF a b no d).2.1).drop c) b).2.2.2 : Int)]) S92 2 rfl rfl (by kernel_rfl) (by kernel_rfl) rfl rfl ?_)
              refine wl_gv rfl (gv_ldA (k := 0) (n := 4) (vs := [.int .i64 ((renewF a b no d).1 : Int), .int .i64 no, .slice D d.length cd, .int .i64 0]) S92 4 rfl rfl (by kernel_rfl) (by kernel_rfl) rfl rfl ?_)
              refine wl_gv rfl (gv_call (args := #[.agg #[.int .i64 ((newestF (a.take c ++ ((renewF a b no d).2.1).drop c) b).1 : Int), .int .i64 ((newestF (a.take c ++ ((renewF a b no d).2.1).drop c) b).2.1 : Int), .slice A88 (((newestF (a.take c ++ ((renewF a b no d).2.1).drop c) b).2.2.1).length) c89, .int .i64 ((newestF (a.take c ++ ((renewF a b no d).2.1).drop c) b).2.2.2 : Int)], .agg #[.int .i64 ((renewF a b no d).1 : Int), .int .i64 no, .slice D d.length cd, .int .i64 0]]) rfl Try.func38 (by kernel_rfl) rfl rfl (by kernel_rfl) ?_)
              by_cases hal : (((newestF (a.take c ++ ((renewF a b no d).2.1).drop c) b).1 : Int) = ((renewF a b no d).1 : Int) ∧ ((newestF (a.take c ++ ((renewF a b no d).2.1).drop c) b).2.1 : Int) = no ∧ ((newestF (a.take c ++ ((renewF a b no d).2.1).drop c) b).2.2.2 : Int) = 0 ∧ (newestF (a.take c ++ ((renewF a b no d).2.1).drop c) b).2.2.1 = d)
              · skip
                refine Calls.mono (alike_all (t := true) S92 rfl rfl (RoT.bytesX 0 rfl rfl) hd.more.more.more.more.more.more.more.more.more.more.more (by omega) (by omega) (decide_eq_true hal)) ?_
                rintro _ w93 ⟨rfl, S94⟩
                refine ⟨_, rfl, ?_⟩
                refine pv tv ?_
                refine wl_not (by kernel_rfl) ?_
                refine wl_not (by kernel_rfl) ?_
                refine wl_not (by kernel_rfl) ?_
                refine pv tv ?_
                refine pv (iv ((renewF a b no d).1 : Int)) ?_
                refine pv (.slice As 512 cs_) ?_
                refine pv (.slice A63 512 c64) ?_
                refine pv tv ?_
                refine pv (iv ((renewF a b no d).1 : Int)) ?_
                refine pv (.slice As 512 cs_) ?_
                refine pv (.slice A63 512 c64) ?_
                refine wl_end _ rfl ?_
                refine then_n ?_
                refine wp_ret ?_
                refine bodyPost_ret (v := .tuple #[.bool true, .int .i64 ((renewF a b no d).1 : Int), .slice As 512 cs_, .slice A63 512 c64]) (Go.Proofs.results_tmp4 rfl _ _ (by kernel_rfl) (by kernel_rfl) (by kernel_rfl) (by kernel_rfl)) rfl ?_
                have S95 : St F w0 w93 (vec 5 1 (.slice A63 512 c64) 512 ((a.take c ++ ((renewF a b no d).2.1).drop c).map bv) :: bytesX (.slice As 512 cs_) (renewF a b no d).2.1 :: L) := St.permT [bytesX (.slice A88 ((newestF (a.take c ++ ((renewF a b no d).2.1).drop c) b).2.2.1).length c89) ((newestF (a.take c ++ ((renewF a b no d).2.1).drop c) b).2.2.1), vec 5 1 (.slice A63 512 c64) 512 ((a.take c ++ ((renewF a b no d).2.1).drop c).map bv), row g52 #[.int .i64 ((newestF (a.take c ++ ((renewF a b no d).2.1).drop c) b).1 : Int), .int .i64 ((newestF (a.take c ++ ((renewF a b no d).2.1).drop c) b).2.1 : Int), .slice A88 (((newestF (a.take c ++ ((renewF a b no d).2.1).drop c) b).2.2.1).length) c89, .int .i64 ((newestF (a.take c ++ ((renewF a b no d).2.1).drop c) b).2.2.2 : Int)] 53, bytesX (.slice A49 d.length c50) d, row g41 #[.int .i64 ((renewF a b no d).1 : Int), .int .i64 no, .slice D d.length cd, .int .i64 0] 53, bytesX (.slice As 512 cs_) (renewF a b no d).2.1, vec 5 1 (.slice A22 d.length c23) d.length (d.map bv), vec 5 1 (.slice A18 b.length c19) b.length (b.map bv), vec 5 1 (.slice A14 a.length c15) a.length (a.map bv), row g6 #[.int .i64 ((newestF a b).1 : Int), .int .i64 ((newestF a b).2.1 : Int), .slice A3 (((newestF a b).2.2.1).length) c4, .int .i64 ((newestF a b).2.2.2 : Int)] 53, bytesX (.slice A3 ((newestF a b).2.2.1).length c4) ((newestF a b).2.2.1)] [1, 5] (by decide) rfl S94
                exact .inr ⟨As, A63, cs_, c64, a.take c ++ ((renewF a b no d).2.1).drop c, rfl, hgood, hR, hmx, hm5, S95⟩
              · skip
                have hto2 := hto.resolve_left (fun h => hal (by rw [h]; exact ⟨rfl, by show ((no.toNat : Nat) : Int) = no; omega, rfl, rfl⟩))
                refine Calls.mono (alike_all (t := false) S92 rfl rfl (RoT.bytesX 0 rfl rfl) hd.more.more.more.more.more.more.more.more.more.more.more (by omega) (by omega) (decide_eq_false hal)) ?_
                rintro _ w96 ⟨rfl, S97⟩
                refine ⟨_, rfl, ?_⟩
                refine pv fv ?_
                refine wl_when (by kernel_rfl) (gv_ldA (k := 0) (n := 4) (vs := [.int .i64 ((newestF (a.take c ++ ((renewF a b no d).2.1).drop c) b).1 : Int), .int .i64 ((newestF (a.take c ++ ((renewF a b no d).2.1).drop c) b).2.1 : Int), .slice A88 (((newestF (a.take c ++ ((renewF a b no d).2.1).drop c) b).2.2.1).length) c89, .int .i64 ((newestF (a.take c ++ ((renewF a b no d).2.1).drop c) b).2.2.2 : Int)]) S97 2 rfl rfl (by kernel_rfl) (by kernel_rfl) rfl rfl ?_)
                refine wl_when (by kernel_rfl) (gv_ldA (k := 0) (n := 4) (vs := [.int .i64 ((newestF a b).1 : Int), .int .i64 ((newestF a b).2.1 : Int), .slice A3 (((newestF a b).2.2.1).length) c4, .int .i64 ((newestF a b).2.2.2 : Int)]) S97 9 rfl rfl (by kernel_rfl) (by kernel_rfl) rfl rfl ?_)
                refine wl_when (by kernel_rfl) (gv_call (args := #[.agg #[.int .i64 ((newestF (a.take c ++ ((renewF a b no d).2.1).drop c) b).1 : Int), .int .i64 ((newestF (a.take c ++ ((renewF a b no d).2.1).drop c) b).2.1 : Int), .slice A88 (((newestF (a.take c ++ ((renewF a b no d).2.1).drop c) b).2.2.1).length) c89, .int .i64 ((newestF (a.take c ++ ((renewF a b no d).2.1).drop c) b).2.2.2 : Int)], .agg #[.int .i64 ((newestF a b).1 : Int), .int .i64 ((newestF a b).2.1 : Int), .slice A3 (((newestF a b).2.2.1).length) c4, .int .i64 ((newestF a b).2.2.2 : Int)]]) rfl Try.func38 (by kernel_rfl) rfl rfl (by kernel_rfl) ?_)
                refine Calls.mono (alike_all (t := true) S97 rfl rfl (RoT.bytesX 0 rfl rfl) (RoT.bytesX 10 rfl rfl) (by omega) (by omega) (by rw [hto2]; exact decide_eq_true ⟨rfl, rfl, rfl, rfl⟩)) ?_
                rintro _ w98 ⟨rfl, S99⟩
                refine ⟨_, rfl, ?_⟩
                refine pv tv ?_
                refine pv (iv ((renewF a b no d).1 : Int)) ?_
                refine pv (.slice As 512 cs_) ?_
                refine pv (.slice A63 512 c64) ?_
                refine pv tv ?_
                refine pv (iv ((renewF a b no d).1 : Int)) ?_
                refine pv (.slice As 512 cs_) ?_
                refine pv (.slice A63 512 c64) ?_
                refine wl_end _ rfl ?_
                refine then_n ?_
                refine wp_ret ?_
                refine bodyPost_ret (v := .tuple #[.bool true, .int .i64 ((renewF a b no d).1 : Int), .slice As 512 cs_, .slice A63 512 c64]) (Go.Proofs.results_tmp4 rfl _ _ (by kernel_rfl) (by kernel_rfl) (by kernel_rfl) (by kernel_rfl)) rfl ?_
                have S100 : St F w0 w98 (vec 5 1 (.slice A63 512 c64) 512 ((a.take c ++ ((renewF a b no d).2.1).drop c).map bv) :: bytesX (.slice As 512 cs_) (renewF a b no d).2.1 :: L) := St.permT [bytesX (.slice A88 ((newestF (a.take c ++ ((renewF a b no d).2.1).drop c) b).2.2.1).length c89) ((newestF (a.take c ++ ((renewF a b no d).2.1).drop c) b).2.2.1), vec 5 1 (.slice A63 512 c64) 512 ((a.take c ++ ((renewF a b no d).2.1).drop c).map bv), row g52 #[.int .i64 ((newestF (a.take c ++ ((renewF a b no d).2.1).drop c) b).1 : Int), .int .i64 ((newestF (a.take c ++ ((renewF a b no d).2.1).drop c) b).2.1 : Int), .slice A88 (((newestF (a.take c ++ ((renewF a b no d).2.1).drop c) b).2.2.1).length) c89, .int .i64 ((newestF (a.take c ++ ((renewF a b no d).2.1).drop c) b).2.2.2 : Int)] 53, bytesX (.slice A49 d.length c50) d, row g41 #[.int .i64 ((renewF a b no d).1 : Int), .int .i64 no, .slice D d.length cd, .int .i64 0] 53, bytesX (.slice As 512 cs_) (renewF a b no d).2.1, vec 5 1 (.slice A22 d.length c23) d.length (d.map bv), vec 5 1 (.slice A18 b.length c19) b.length (b.map bv), vec 5 1 (.slice A14 a.length c15) a.length (a.map bv), row g6 #[.int .i64 ((newestF a b).1 : Int), .int .i64 ((newestF a b).2.1 : Int), .slice A3 (((newestF a b).2.2.1).length) c4, .int .i64 ((newestF a b).2.2.2 : Int)] 53, bytesX (.slice A3 ((newestF a b).2.2.1).length c4) ((newestF a b).2.2.1)] [1, 5] (by decide) rfl S99
                exact .inr ⟨As, A63, cs_, c64, a.take c ++ ((renewF a b no d).2.1).drop c, rfl, hgood, hR, hmx, hm5, S100⟩
        · skip
          refine wl_when (by kernel_rfl) (gv_val (v := .bool false) (w' := w24) (by kernel_rfl) ?_)
          refine wl_when (by kernel_rfl) (gv_val (v := .int .i64 no) (w' := w24) (by kernel_rfl) ?_)
          refine wl_when (by kernel_rfl) (gv_val (v := .pointer (some ⟨g6, 1, none⟩)) (w' := w24) (by kernel_rfl) ?_)
          refine wl_when (by kernel_rfl) (gv_ldR (v := .int .i64 ((newestF a b).2.1 : Int)) rfl (by kernel_rfl) (by kernel_rfl) (((S25.blk 4 rfl).cell 1).trans rfl) ?_)
          refine wl_when (by kernel_rfl) (gv_dec (p := (no : Int) > ((newestF a b).2.1 : Int)) (by kernel_rfl) (fun hb101 => ?_) (fun hb101 => ?_))
          · skip
            refine wl_when (by kernel_rfl) (gv_val (v := .bool true) (w' := w24) (by kernel_rfl) ?_)
            refine pv tv ?_
            refine pv tv ?_
            refine wl_end (fr [.slice A a.length ca, .slice B b.length cb, iv no, .slice D d.length cd, iv ((c : Nat) : Int), .bool back, ud, ud, ud, ud, ud, ud, fv, iv 0, .slice none 0 0, .slice none 0 0, pq g6, iv ((renewF a b no d).1 : Int), .slice As 512 cs_, iv ((renewF a b no d).2.2 : Int), tv, ud, ud, ud, ud, ud, ud, .slice A a.length ca, .slice B b.length cb, .agg #[iv ((newestF a b).1 : Int), iv ((newestF a b).2.1 : Int), .slice A3 (((newestF a b).2.2.1).length) c4, iv ((newestF a b).2.2.2 : Int)], .tuple #[iv ((renewF a b no d).1 : Int), .slice As 512 cs_, iv ((renewF a b no d).2.2 : Int)], .slice A a.length ca, .slice A14 a.length c15, .slice B b.length cb, .slice A18 b.length c19, iv no, .slice D d.length cd, .slice A22 d.length c23, .tuple #[iv ((renewF a b no d).1 : Int), .slice As 512 cs_, iv ((renewF a b no d).2.2 : Int)], iv ((renewF a b no d).1 : Int), .slice As 512 cs_, iv ((renewF a b no d).2.2 : Int), iv no, tv, tv, po g6 3, iv ((newestF a b).2.2.2 : Int), fv, fv, iv no, po g6 1, iv ((newestF a b).2.1 : Int), tv, tv, tv] 94) (by kernel_rfl) ?_
            refine then_n ?_
            refine wp_seq ?_
            refine wp_seq ?_
            refine wp_region_lit ?_
            refine pv (iv ((renewF a b no d).2.2 : Int)) ?_
            refine wl_gv rfl (gv_call (args := #[.int .i64 ((renewF a b no d).2.2 : Int)]) rfl Try.func35 (by kernel_rfl) rfl rfl (by kernel_rfl) ?_)
            refine Calls.mono (num_ro) ?_
            rintro _ _ ⟨rfl, rfl⟩
            refine ⟨_, rfl, ?_⟩
            refine wl_gv rfl (gv_ne (x := ((renewF a b no d).2.2 : Int)) (y := 0) (by kernel_rfl) (fun hb102 => ?_) (fun hb102 => ?_))
            · skip
              exfalso; omega
            · skip
              refine wl_end _ rfl ?_
              refine then_n ?_
              refine wp_cond_false (by kernel_rfl) ?_
              refine wp_skip ?_
              refine then_n ?_
              refine wp_seq ?_
              refine wp_seq ?_
              refine wp_region_lit ?_
              refine pv tv ?_
              refine pv fv ?_
              refine pv fv ?_
              refine wl_when (by kernel_rfl) (gv_val (v := .slice As 512 cs_) (w' := w24) (by kernel_rfl) ?_)
              refine wl_when (by kernel_rfl) (gv_val (v := .int .i64 512) (w' := w24) (by kernel_rfl) ?_)
              refine wl_when (by kernel_rfl) (gv_ne (x := 512) (y := 512) (by kernel_rfl) (fun hd103 => False.elim (hd103 rfl)) (fun _ => ?_))
              refine pv fv ?_
              refine pv fv ?_
              refine wl_when (by kernel_rfl) (gv_val (v := .int .i64 ((renewF a b no d).1 : Int)) (w' := w24) (by kernel_rfl) ?_)
              refine wl_when (by kernel_rfl) (gv_ne (x := ((renewF a b no d).1 : Int)) (y := 0) (by kernel_rfl) (fun hd104 => False.elim (by omega)) (fun _ => ?_))
              refine wl_when (by kernel_rfl) (gv_val (v := .bool false) (w' := w24) (by kernel_rfl) ?_)
              refine wl_not (by kernel_rfl) ?_
              refine wl_not (by kernel_rfl) ?_
              refine wl_when (by kernel_rfl) (gv_val (v := .bool false) (w' := w24) (by kernel_rfl) ?_)
              refine pv fv ?_
              refine pv fv ?_
              refine wl_when (by kernel_rfl) (gv_val (v := .pointer (some ⟨g6, 3, none⟩)) (w' := w24) (by kernel_rfl) ?_)
              refine wl_when (by kernel_rfl) (gv_ldR (v := .int .i64 ((newestF a b).2.2.2 : Int)) rfl (by kernel_rfl) (by kernel_rfl) (((S25.blk 4 rfl).cell 3).trans rfl) ?_)
              refine wl_when (by kernel_rfl) (gv_eq (x := ((newestF a b).2.2.2 : Int)) (y := 0) (by kernel_rfl) (fun _ => ?_) (fun hd105 => False.elim (by omega)))
              refine wl_when (by kernel_rfl) (gv_val (v := .bool true) (w' := w24) (by kernel_rfl) ?_)
              refine wl_when (by kernel_rfl) (gv_val (v := .int .i64 ((renewF a b no d).1 : Int)) (w' := w24) (by kernel_rfl) ?_)
              refine wl_when (by kernel_rfl) (gv_val (v := .pointer (some ⟨g6, 0, none⟩)) (w' := w24) (by kernel_rfl) ?_)
              refine wl_when (by kernel_rfl) (gv_ldR (v := .int .i64 ((newestF a b).1 : Int)) rfl (by kernel_rfl) (by kernel_rfl) (((S25.blk 4 rfl).cell 0).trans rfl) ?_)
              refine wl_when (by kernel_rfl) (gv_eq (x := ((renewF a b no d).1 : Int)) (y := ((newestF a b).1 : Int)) (by kernel_rfl) (fun hd106 => False.elim (by have := hR.other (by omega); omega)) (fun _ => ?_))
              refine wl_when (by kernel_rfl) (gv_val (v := .bool false) (w' := w24) (by kernel_rfl) ?_)
              refine pv fv ?_
              refine pv fv ?_
              refine wl_when (by kernel_rfl) (gv_val (v := .pointer (some ⟨g6, 3, none⟩)) (w' := w24) (by kernel_rfl) ?_)
              refine wl_when (by kernel_rfl) (gv_ldR (v := .int .i64 ((newestF a b).2.2.2 : Int)) rfl (by kernel_rfl) (by kernel_rfl) (((S25.blk 4 rfl).cell 3).trans rfl) ?_)
              refine wl_when (by kernel_rfl) (gv_ne (x := ((newestF a b).2.2.2 : Int)) (y := 0) (by kernel_rfl) (fun hd107 => False.elim (by omega)) (fun _ => ?_))
              refine wl_when (by kernel_rfl) (gv_val (v := .bool false) (w' := w24) (by kernel_rfl) ?_)
              refine wl_not (by kernel_rfl) ?_
              refine wl_not (by kernel_rfl) ?_
              refine wl_when (by kernel_rfl) (gv_val (v := .bool false) (w' := w24) (by kernel_rfl) ?_)
              refine pv fv ?_
              refine wl_end (fr [.slice A a.length ca, .slice B b.length cb, iv no, .slice D d.length cd, iv ((c : Nat) : Int), .bool back, ud, ud, ud, ud, ud, ud, fv, iv 0, .slice none 0 0, .slice none 0 0, pq g6, iv ((renewF a b no d).1 : Int), .slice As 512 cs_, iv ((renewF a b no d).2.2 : Int), tv, ud, ud, ud, ud, ud, ud, .slice A a.length ca, .slice B b.length cb, .agg #[iv ((newestF a b).1 : Int), iv ((newestF a b).2.1 : Int), .slice A3 (((newestF a b).2.2.1).length) c4, iv ((newestF a b).2.2.2 : Int)], .tuple #[iv ((renewF a b no d).1 : Int), .slice As 512 cs_, iv ((renewF a b no d).2.2 : Int)], .slice A a.length ca, .slice A14 a.length c15, .slice B b.length cb, .slice A18 b.length c19, iv no, .slice D d.length cd, .slice A22 d.length c23, .tuple #[iv ((renewF a b no d).1 : Int), .slice As 512 cs_, iv ((renewF a b no d).2.2 : Int)], iv ((renewF a b no d).1 : Int), .slice As 512 cs_, iv ((renewF a b no d).2.2 : Int), iv no, tv, tv, po g6 3, iv ((newestF a b).2.2.2 : Int), fv, fv, iv no, po g6 1, iv ((newestF a b).2.1 : Int), tv, tv, tv, iv ((renewF a b no d).2.2 : Int), iv ((renewF a b no d).2.2 : Int), fv, ud, ud, tv, fv, fv, .slice As 512 cs_, iv 512, fv, fv, fv, iv ((renewF a b no d).1 : Int), fv, fv, ud, ud, fv, fv, fv, po g6 3, iv ((newestF a b).2.2.2 : Int), tv, tv, iv ((renewF a b no d).1 : Int), pq g6, iv ((newestF a b).1 : Int), fv, fv, fv, fv, po g6 3, iv ((newestF a b).2.2.2 : Int), fv, fv, ud, ud, fv, fv] 54) (by kernel_rfl) ?_
              refine then_n ?_
              refine wp_cond_false (by kernel_rfl) ?_
              refine wp_skip ?_
              refine then_n ?_
              refine wp_seq ?_
              refine wp_region_lit ?_
              have hnew : newestF (renewF a b no d).2.1 b = ((renewF a b no d).1, no.toNat, d, 0) := by have := hR.new; rw [show putIn a b (renewF a b no d).1 (renewF a b no d).2.1 = ((renewF a b no d).2.1, b) from by unfold putIn; rw [if_pos hs0]] at this; exact this
              have hold : (if (renewF a b no d).1 = 1 then b else a) = a := if_neg (by omega)
              refine pv (iv ((renewF a b no d).1 : Int)) ?_
              refine pv (iv no) ?_
              refine pv (.slice D d.length cd) ?_
              refine pv (.agg #[iv ((renewF a b no d).1 : Int), iv no, .slice D d.length cd, iv 0]) ?_
              refine wl_gv rfl (gv_new (z := .agg #[.int .i64 0, .int .i64 0, .slice none 0 0, .int .i64 0]) S25 rfl (by kernel_rfl) (fun g108 w109 hg110 S111 => ?_))
              refine wl_gv rfl (gv_stA (k := 0) (vs := [.int .i64 ((renewF a b no d).1 : Int), .int .i64 no, .slice D d.length cd, .int .i64 0]) S111 0 rfl rfl (by kernel_rfl) (by kernel_rfl) (by kernel_rfl) rfl (by simp [Value.oneCell']) (Nat.le_of_ble_eq_true (by kernel_rfl)) (L' := (row g108 #[.int .i64 ((renewF a b no d).1 : Int), .int .i64 no, .slice D d.length cd, .int .i64 0] 53 :: bytesX (.slice As 512 cs_) (renewF a b no d).2.1 :: vec 5 1 (.slice A22 d.length c23) d.length (d.map bv) :: vec 5 1 (.slice A18 b.length c19) b.length (b.map bv) :: vec 5 1 (.slice A14 a.length c15) a.length (a.map bv) :: row g6 #[.int .i64 ((newestF a b).1 : Int), .int .i64 ((newestF a b).2.1 : Int), .slice A3 (((newestF a b).2.2.1).length) c4, .int .i64 ((newestF a b).2.2.2 : Int)] 53 :: bytesX (.slice A3 ((newestF a b).2.2.1).length c4) ((newestF a b).2.2.1) :: L)) rfl (fun w112 S113 => ?_))
              refine wl_end _ rfl ?_
              refine then_n ?_
              refine wp_seq ?_
              refine wp_region_lit ?_
              refine pv (.slice A a.length ca) ?_
              refine pv (.slice B b.length cb) ?_
              refine pv (iv ((renewF a b no d).1 : Int)) ?_
              refine pv (.slice As 512 cs_) ?_
              refine wl_gv rfl (gv_call (args := #[.slice A a.length ca, .slice B b.length cb, .int .i64 ((renewF a b no d).1 : Int), .slice As 512 cs_]) rfl Try.func22 (by kernel_rfl) rfl rfl (by kernel_rfl) ?_)
              refine Calls.mono (pairOf0 (by omega)) ?_
              rintro _ _ ⟨rfl, rfl⟩
              refine ⟨_, rfl, ?_⟩
              refine pv (.tuple #[.slice As 512 cs_, .slice B b.length cb]) ?_
              refine pv (.slice As 512 cs_) ?_
              refine pv (.slice B b.length cb) ?_
              refine pv (.slice As 512 cs_) ?_
              refine pv (.slice B b.length cb) ?_
              refine wl_end _ rfl ?_
              refine then_n ?_
              refine wp_seq ?_
              refine wp_region_lit ?_
              refine pv (.slice As 512 cs_) ?_
              refine pv (.slice B b.length cb) ?_
              refine wl_gv rfl (gv_call (args := #[.slice As 512 cs_, .slice B b.length cb]) rfl Try.func23 (by kernel_rfl) rfl rfl (by kernel_rfl) ?_)
              refine Calls.mono (ask_all (a := (renewF a b no d).2.1) (b := b) S113 hsl5.symm rfl (RoT.bytesX 1 rfl rfl) hb.more.more.more.more.more.more.more (by omega) (by omega)) ?_
              rintro _ w114 ⟨A116, c117, rfl, S115⟩
              rw [hnew] at S115
              refine ⟨_, rfl, ?_⟩
              rw [hnew]
              have S118 : St F w0 w114 (bytesX (.slice A116 d.length c117) d :: row g108 #[.int .i64 ((renewF a b no d).1 : Int), .int .i64 no, .slice D d.length cd, .int .i64 0] 53 :: bytesX (.slice As 512 cs_) (renewF a b no d).2.1 :: vec 5 1 (.slice A22 d.length c23) d.length (d.map bv) :: vec 5 1 (.slice A18 b.length c19) b.length (b.map bv) :: vec 5 1 (.slice A14 a.length c15) a.length (a.map bv) :: row g6 #[.int .i64 ((newestF a b).1 : Int), .int .i64 ((newestF a b).2.1 : Int), .slice A3 (((newestF a b).2.2.1).length) c4, .int .i64 ((newestF a b).2.2.2 : Int)] 53 :: bytesX (.slice A3 ((newestF a b).2.2.1).length c4) ((newestF a b).2.2.1) :: L) := S115
              refine wl_gv rfl (gv_new (z := .agg #[.int .i64 0, .int .i64 0, .slice none 0 0, .int .i64 0]) S118 rfl (by kernel_rfl) (fun g119 w120 hg121 S122 => ?_))
              refine wl_gv rfl (gv_stA (k := 0) (vs := [.int .i64 ((renewF a b no d).1 : Int), .int .i64 ((no.toNat : Nat) : Int), .slice A116 d.length c117, .int .i64 0]) S122 0 rfl rfl (by kernel_rfl) (by kernel_rfl) (by kernel_rfl) rfl (by simp [Value.oneCell']) (Nat.le_of_ble_eq_true (by kernel_rfl)) (L' := (row g119 #[.int .i64 ((renewF a b no d).1 : Int), .int .i64 ((no.toNat : Nat) : Int), .slice A116 d.length c117, .int .i64 0] 53 :: bytesX (.slice A116 d.length c117) d :: row g108 #[.int .i64 ((renewF a b no d).1 : Int), .int .i64 no, .slice D d.length cd, .int .i64 0] 53 :: bytesX (.slice As 512 cs_) (renewF a b no d).2.1 :: vec 5 1 (.slice A22 d.length c23) d.length (d.map bv) :: vec 5 1 (.slice A18 b.length c19) b.length (b.map bv) :: vec 5 1 (.slice A14 a.length c15) a.length (a.map bv) :: row g6 #[.int .i64 ((newestF a b).1 : Int), .int .i64 ((newestF a b).2.1 : Int), .slice A3 (((newestF a b).2.2.1).length) c4, .int .i64 ((newestF a b).2.2.2 : Int)] 53 :: bytesX (.slice A3 ((newestF a b).2.2.1).length c4) ((newestF a b).2.2.1) :: L)) rfl (fun w123 S124 => ?_))
              refine wl_end _ rfl ?_
              refine then_n ?_
              refine wp_seq ?_
              refine wp_seq ?_
              refine wp_region_lit ?_
              refine wl_gv rfl (gv_ldA (k := 0) (n := 4) (vs := [.int .i64 ((renewF a b no d).1 : Int), .int .i64 ((no.toNat : Nat) : Int), .slice A116 d.length c117, .int .i64 0]) S124 0 rfl rfl (by kernel_rfl) (by kernel_rfl) rfl rfl ?_)
              refine wl_gv rfl (gv_ldA (k := 0) (n := 4) (vs := [.int .i64 ((renewF a b no d).1 : Int), .int .i64 no, .slice D d.length cd, .int .i64 0]) S124 2 rfl rfl (by kernel_rfl) (by kernel_rfl) rfl rfl ?_)
              refine wl_gv rfl (gv_call (args := #[.agg #[.int .i64 ((renewF a b no d).1 : Int), .int .i64 ((no.toNat : Nat) : Int), .slice A116 d.length c117, .int .i64 0], .agg #[.int .i64 ((renewF a b no d).1 : Int), .int .i64 no, .slice D d.length cd, .int .i64 0]]) rfl Try.func38 (by kernel_rfl) rfl rfl (by kernel_rfl) ?_)
              refine Calls.mono (alike_all (t := true) S124 rfl rfl (RoT.bytesX 1 rfl rfl) hd.more.more.more.more.more.more.more.more.more (by omega) (by omega) (decide_eq_true ⟨rfl, by omega, rfl, rfl⟩)) ?_
              rintro _ w125 ⟨rfl, S126⟩
              refine ⟨_, rfl, ?_⟩
              refine pv fv ?_
              refine wl_end _ rfl ?_
              refine then_n ?_
              refine wp_cond_false (by kernel_rfl) ?_
              refine wp_skip ?_
              refine then_n ?_
              refine wp_seq ?_
              refine wp_region_lit ?_
              refine pv (.slice A a.length ca) ?_
              refine pv (.slice A a.length ca) ?_
              refine wl_end _ rfl ?_
              refine then_n ?_
              refine wp_seq ?_
              refine wp_seq ?_
              refine wp_region_lit ?_
              refine pv (iv ((renewF a b no d).1 : Int)) ?_
              refine wl_gv rfl (gv_eq (x := ((renewF a b no d).1 : Int)) (y := 1) (by kernel_rfl) (fun hd127 => False.elim (by omega)) (fun _ => ?_))
              refine wl_end _ rfl ?_
              refine then_n ?_
              refine wp_cond_false (by kernel_rfl) ?_
              refine wp_skip ?_
              refine then_n ?_
              refine wp_seq ?_
              refine wp_region_lit ?_
              refine pv (.slice A a.length ca) ?_
              refine pv (.slice As 512 cs_) ?_
              refine pv (iv ((c : Nat) : Int)) ?_
              refine wl_gv rfl (gv_call (args := #[.slice A a.length ca, .slice As 512 cs_, .int .i64 ((c : Nat) : Int)]) rfl Try.func39 (by kernel_rfl) rfl rfl (by kernel_rfl) ?_)
              refine Calls.mono (mix_all (a := a) (b := (renewF a b no d).2.1) S126 rfl hsl5.symm ha.more.more.more.more.more.more.more.more.more (RoT.bytesX 3 rfl rfl) (by omega) (by omega) hc) ?_
              rintro _ w128 ⟨A130, c131, rfl, S129⟩
              refine ⟨_, rfl, ?_⟩
              refine pv (.slice A130 512 c131) ?_
              refine wl_end (fr [.slice A a.length ca, .slice B b.length cb, iv no, .slice D d.length cd, iv ((c : Nat) : Int), .bool back, ud, ud, ud, ud, ud, ud, fv, iv 0, .slice none 0 0, .slice none 0 0, pq g6, iv ((renewF a b no d).1 : Int), .slice As 512 cs_, iv ((renewF a b no d).2.2 : Int), tv, pq g108, .slice As 512 cs_, .slice B b.length cb, pq g119, .slice A a.length ca, .slice A130 512 c131, .slice A a.length ca, .slice B b.length cb, .agg #[iv ((newestF a b).1 : Int), iv ((newestF a b).2.1 : Int), .slice A3 (((newestF a b).2.2.1).length) c4, iv ((newestF a b).2.2.2 : Int)], .tuple #[iv ((renewF a b no d).1 : Int), .slice As 512 cs_, iv ((renewF a b no d).2.2 : Int)], .slice A a.length ca, .slice A14 a.length c15, .slice B b.length cb, .slice A18 b.length c19, iv no, .slice D d.length cd, .slice A22 d.length c23, .tuple #[iv ((renewF a b no d).1 : Int), .slice As 512 cs_, iv ((renewF a b no d).2.2 : Int)], iv ((renewF a b no d).1 : Int), .slice As 512 cs_, iv ((renewF a b no d).2.2 : Int), iv no, tv, tv, po g6 3, iv ((newestF a b).2.2.2 : Int), fv, fv, iv no, po g6 1, iv ((newestF a b).2.1 : Int), tv, tv, tv, iv ((renewF a b no d).2.2 : Int), iv ((renewF a b no d).2.2 : Int), fv, ud, ud, tv, fv, fv, .slice As 512 cs_, iv 512, fv, fv, fv, iv ((renewF a b no d).1 : Int), fv, fv, ud, ud, fv, fv, fv, po g6 3, iv ((newestF a b).2.2.2 : Int), tv, tv, iv ((renewF a b no d).1 : Int), pq g6, iv ((newestF a b).1 : Int), fv, fv, fv, fv, po g6 3, iv ((newestF a b).2.2.2 : Int), fv, fv, ud, ud, fv, fv, iv ((renewF a b no d).1 : Int), iv no, .slice D d.length cd, .agg #[iv ((renewF a b no d).1 : Int), iv no, .slice D d.length cd, iv 0], .tuple #[.slice As 512 cs_, .slice B b.length cb], .slice A a.length ca, .slice B b.length cb, iv ((renewF a b no d).1 : Int), .slice As 512 cs_, .tuple #[.slice As 512 cs_, .slice B b.length cb], .slice As 512 cs_, .slice B b.length cb, .slice As 512 cs_, .slice B b.length cb, .agg #[iv ((renewF a b no d).1 : Int), iv ((no.toNat : Nat) : Int), .slice A116 d.length c117, iv 0], .agg #[iv ((renewF a b no d).1 : Int), iv ((no.toNat : Nat) : Int), .slice A116 d.length c117, iv 0], .agg #[iv ((renewF a b no d).1 : Int), iv no, .slice D d.length cd, iv 0], tv, fv, .slice A a.length ca, iv ((renewF a b no d).1 : Int), fv, ud, .slice A a.length ca, .slice As 512 cs_, iv ((c : Nat) : Int), .slice A130 512 c131] 27) (by kernel_rfl) ?_
              refine then_n ?_
              refine wp_seq ?_
              refine wp_seq ?_
              refine wp_region_lit ?_
              refine pv (.bool back) ?_
              refine wl_end _ rfl ?_
              refine then_n ?_
              refine wp_cond_split (t := back) (by kernel_rfl) (fun hc132 => ?_) (fun hc132 => ?_)
              · skip
                refine wp_region_lit ?_
                refine pv (.slice As 512 cs_) ?_
                refine pv (.slice A a.length ca) ?_
                refine pv (iv ((c : Nat) : Int)) ?_
                refine wl_gv rfl (gv_call (args := #[.slice As 512 cs_, .slice A a.length ca, .int .i64 ((c : Nat) : Int)]) rfl Try.func39 (by kernel_rfl) rfl rfl (by kernel_rfl) ?_)
                refine Calls.mono (mix_all (a := (renewF a b no d).2.1) (b := a) S129 hsl5.symm rfl (RoT.bytesX 4 rfl rfl) ha.more.more.more.more.more.more.more.more.more.more (by omega) (by omega) hc) ?_
                rintro _ w133 ⟨A135, c136, rfl, S134⟩
                refine ⟨_, rfl, ?_⟩
                have S137 : St F w0 w133 (vec 5 1 (.slice A135 512 c136) 512 ((((renewF a b no d).2.1).take c ++ a.drop c).map bv) :: row g119 #[.int .i64 ((renewF a b no d).1 : Int), .int .i64 ((no.toNat : Nat) : Int), .slice A116 d.length c117, .int .i64 0] 53 :: bytesX (.slice A116 d.length c117) d :: row g108 #[.int .i64 ((renewF a b no d).1 : Int), .int .i64 no, .slice D d.length cd, .int .i64 0] 53 :: bytesX (.slice As 512 cs_) (renewF a b no d).2.1 :: vec 5 1 (.slice A22 d.length c23) d.length (d.map bv) :: vec 5 1 (.slice A18 b.length c19) b.length (b.map bv) :: vec 5 1 (.slice A14 a.length c15) a.length (a.map bv) :: row g6 #[.int .i64 ((newestF a b).1 : Int), .int .i64 ((newestF a b).2.1 : Int), .slice A3 (((newestF a b).2.2.1).length) c4, .int .i64 ((newestF a b).2.2.2 : Int)] 53 :: bytesX (.slice A3 ((newestF a b).2.2.1).length c4) ((newestF a b).2.2.1) :: L) := St.permT [vec 5 1 (.slice A135 512 c136) 512 ((((renewF a b no d).2.1).take c ++ a.drop c).map bv), vec 5 1 (.slice A130 512 c131) 512 ((a.take c ++ ((renewF a b no d).2.1).drop c).map bv), row g119 #[.int .i64 ((renewF a b no d).1 : Int), .int .i64 ((no.toNat : Nat) : Int), .slice A116 d.length c117, .int .i64 0] 53, bytesX (.slice A116 d.length c117) d, row g108 #[.int .i64 ((renewF a b no d).1 : Int), .int .i64 no, .slice D d.length cd, .int .i64 0] 53, bytesX (.slice As 512 cs_) (renewF a b no d).2.1, vec 5 1 (.slice A22 d.length c23) d.length (d.map bv), vec 5 1 (.slice A18 b.length c19) b.length (b.map bv), vec 5 1 (.slice A14 a.length c15) a.length (a.map bv), row g6 #[.int .i64 ((newestF a b).1 : Int), .int .i64 ((newestF a b).2.1 : Int), .slice A3 (((newestF a b).2.2.1).length) c4, .int .i64 ((newestF a b).2.2.2 : Int)] 53, bytesX (.slice A3 ((newestF a b).2.2.1).length c4) ((newestF a b).2.2.1)] [0, 2, 3, 4, 5, 6, 7, 8, 9, 10] (by decide) rfl S134
                refine pv (.slice A135 512 c136) ?_
                refine wl_end _ rfl ?_
                refine then_n ?_
                refine wp_seq ?_
                refine wp_region_lit ?_
                have hmx : (((renewF a b no d).2.1).take c ++ a.drop c) = (if (renewF a b no d).1 = 1 then b else a) ∨ (((renewF a b no d).2.1).take c ++ a.drop c) = (renewF a b no d).2.1 ∨ openF (((renewF a b no d).2.1).take c ++ a.drop c) = ([], 30) := by have := hR.mix c hc; simp only [hold] at this ⊢; exact this.2
                have hm5 : (((renewF a b no d).2.1).take c ++ a.drop c).length = 512 := by rw [List.length_append, List.length_take, List.length_drop]; omega
                have hto : newestF (((renewF a b no d).2.1).take c ++ a.drop c) b = ((renewF a b no d).1, no.toNat, d, 0) ∨ newestF (((renewF a b no d).2.1).take c ++ a.drop c) b = newestF a b := by have := hR.torn _ hmx hm5; rw [show putIn a b (renewF a b no d).1 (((renewF a b no d).2.1).take c ++ a.drop c) = ((((renewF a b no d).2.1).take c ++ a.drop c), b) from by unfold putIn; rw [if_pos hs0]] at this; exact this
                have hgl : (newestF (((renewF a b no d).2.1).take c ++ a.drop c) b).2.2.1.length ≤ 504 := newest_len _ _ (by omega) (by omega)
                refine pv (.slice A a.length ca) ?_
                refine pv (.slice B b.length cb) ?_
                refine pv (iv ((renewF a b no d).1 : Int)) ?_
                refine pv (.slice A135 512 c136) ?_
                refine wl_gv rfl (gv_call (args := #[.slice A a.length ca, .slice B b.length cb, .int .i64 ((renewF a b no d).1 : Int), .slice A135 512 c136]) rfl Try.func22 (by kernel_rfl) rfl rfl (by kernel_rfl) ?_)
                refine Calls.mono (pairOf0 (by omega)) ?_
                rintro _ _ ⟨rfl, rfl⟩
                refine ⟨_, rfl, ?_⟩
                refine pv (.tuple #[.slice A135 512 c136, .slice B b.length cb]) ?_
                refine pv (.slice A135 512 c136) ?_
                refine pv (.slice B b.length cb) ?_
                refine pv (.slice A135 512 c136) ?_
                refine pv (.slice B b.length cb) ?_
                refine wl_end _ rfl ?_
                refine then_n ?_
                refine wp_seq ?_
                refine wp_region_lit ?_
                refine pv (.slice A135 512 c136) ?_
                refine pv (.slice B b.length cb) ?_
                refine wl_gv rfl (gv_call (args := #[.slice A135 512 c136, .slice B b.length cb]) rfl Try.func23 (by kernel_rfl) rfl rfl (by kernel_rfl) ?_)
                refine Calls.mono (ask_all (a := ((renewF a b no d).2.1).take c ++ a.drop c) (b := b) S137 hm5.symm rfl (RoT.ofVec 0 rfl) hb.more.more.more.more.more.more.more.more.more.more (by omega) (by omega)) ?_
                rintro _ w138 ⟨A140, c141, rfl, S139⟩
                refine ⟨_, rfl, ?_⟩
                have S142 : St F w0 w138 (bytesX (.slice A140 ((newestF (((renewF a b no d).2.1).take c ++ a.drop c) b).2.2.1).length c141) ((newestF (((renewF a b no d).2.1).take c ++ a.drop c) b).2.2.1) :: vec 5 1 (.slice A135 512 c136) 512 ((((renewF a b no d).2.1).take c ++ a.drop c).map bv) :: row g119 #[.int .i64 ((renewF a b no d).1 : Int), .int .i64 ((no.toNat : Nat) : Int), .slice A116 d.length c117, .int .i64 0] 53 :: bytesX (.slice A116 d.length c117) d :: row g108 #[.int .i64 ((renewF a b no d).1 : Int), .int .i64 no, .slice D d.length cd, .int .i64 0] 53 :: bytesX (.slice As 512 cs_) (renewF a b no d).2.1 :: vec 5 1 (.slice A22 d.length c23) d.length (d.map bv) :: vec 5 1 (.slice A18 b.length c19) b.length (b.map bv) :: vec 5 1 (.slice A14 a.length c15) a.length (a.map bv) :: row g6 #[.int .i64 ((newestF a b).1 : Int), .int .i64 ((newestF a b).2.1 : Int), .slice A3 (((newestF a b).2.2.1).length) c4, .int .i64 ((newestF a b).2.2.2 : Int)] 53 :: bytesX (.slice A3 ((newestF a b).2.2.1).length c4) ((newestF a b).2.2.1) :: L) := S139
                refine wl_gv rfl (gv_stA (k := 0) (vs := [.int .i64 ((newestF (((renewF a b no d).2.1).take c ++ a.drop c) b).1 : Int), .int .i64 ((newestF (((renewF a b no d).2.1).take c ++ a.drop c) b).2.1 : Int), .slice A140 (((newestF (((renewF a b no d).2.1).take c ++ a.drop c) b).2.2.1).length) c141, .int .i64 ((newestF (((renewF a b no d).2.1).take c ++ a.drop c) b).2.2.2 : Int)]) S142 2 rfl rfl (by kernel_rfl) (by kernel_rfl) (by kernel_rfl) rfl (by simp [Value.oneCell']) (Nat.le_of_ble_eq_true (by kernel_rfl)) (L' := (bytesX (.slice A140 ((newestF (((renewF a b no d).2.1).take c ++ a.drop c) b).2.2.1).length c141) ((newestF (((renewF a b no d).2.1).take c ++ a.drop c) b).2.2.1) :: vec 5 1 (.slice A135 512 c136) 512 ((((renewF a b no d).2.1).take c ++ a.drop c).map bv) :: row g119 #[.int .i64 ((newestF (((renewF a b no d).2.1).take c ++ a.drop c) b).1 : Int), .int .i64 ((newestF (((renewF a b no d).2.1).take c ++ a.drop c) b).2.1 : Int), .slice A140 (((newestF (((renewF a b no d).2.1).take c ++ a.drop c) b).2.2.1).length) c141, .int .i64 ((newestF (((renewF a b no d).2.1).take c ++ a.drop c) b).2.2.2 : Int)] 53 :: bytesX (.slice A116 d.length c117) d :: row g108 #[.int .i64 ((renewF a b no d).1 : Int), .int .i64 no, .slice D d.length cd, .int .i64 0] 53 :: bytesX (.slice As 512 cs_) (renewF a b no d).2.1 :: vec 5 1 (.slice A22 d.length c23) d.length (d.map bv) :: vec 5 1 (.slice A18 b.length c19) b.length (b.map bv) :: vec 5 1 (.slice A14 a.length c15) a.length (a.map bv) :: row g6 #[.int .i64 ((newestF a b).1 : Int), .int .i64 ((newestF a b).2.1 : Int), .slice A3 (((newestF a b).2.2.1).length) c4, .int .i64 ((newestF a b).2.2.2 : Int)] 53 :: bytesX (.slice A3 ((newestF a b).2.2.1).length c4) ((newestF a b).2.2.1) :: L)) rfl (fun w143 S144 => ?_))
                refine wl_end _ rfl ?_
                refine then_n ?_
                refine wp_seq ?_
                refine wp_region_lit ?_
                refine wl_gv rfl (gv_ldA (k := 0) (n := 4) (vs := [.int .i64 ((newestF (((renewF a b no d).2.1).take c ++ a.drop c) b).1 : Int), .int .i64 ((newestF (((renewF a b no d).2.1).take c ++ a.drop c) b).2.1 : Int), .slice A140 (((newestF (((renewF a b no d).2.1).take c ++ a.drop c) b).2.2.1).length) c141, .int .i64 ((newestF (((renewF a b no d).2.1).take c ++ a.drop c) b).2.2.2 : Int)]) S144 2 rfl rfl (by kernel_rfl) (by kernel_rfl) rfl rfl ?_)
                refine wl_gv rfl (gv_ldA (k := 0) (n := 4) (vs := [.int .i64 ((renewF a b no d).1 : Int), .int .i64 no, .slice D d.length cd, .int .i64 0]) S144 4 rfl rfl (by kernel_rfl) (by kernel_rfl) rfl rfl ?_)
                refine wl_gv rfl (gv_call (args := #[.agg #[.int .i64 ((newestF (((renewF a b no d).2.1).take c ++ a.drop c) b).1 : Int), .int .i64 ((newestF (((renewF a b no d).2.1).take c ++ a.drop c) b).2.1 : Int), .slice A140 (((newestF (((renewF a b no d).2.1).take c ++ a.drop c) b).2.2.1).length) c141, .int .i64 ((newestF (((renewF a b no d).2.1).take c ++ a.drop c) b).2.2.2 : Int)], .agg #[.int .i64 ((renewF a b no d).1 : Int), .int .i64 no, .slice D d.length cd, .int .i64 0]]) rfl Try.func38 (by kernel_rfl) rfl rfl (by kernel_rfl) ?_)
                by_cases hal : (((newestF (((renewF a b no d).2.1).take c ++ a.drop c) b).1 : Int) = ((renewF a b no d).1 : Int) ∧ ((newestF (((renewF a b no d).2.1).take c ++ a.drop c) b).2.1 : Int) = no ∧ ((newestF (((renewF a b no d).2.1).take c ++ a.drop c) b).2.2.2 : Int) = 0 ∧ (newestF (((renewF a b no d).2.1).take c ++ a.drop c) b).2.2.1 = d)
                · skip
                  refine Calls.mono (alike_all (t := true) S144 rfl rfl (RoT.bytesX 0 rfl rfl) hd.more.more.more.more.more.more.more.more.more.more.more (by omega) (by omega) (decide_eq_true hal)) ?_
                  rintro _ w145 ⟨rfl, S146⟩
                  refine ⟨_, rfl, ?_⟩
                  refine pv tv ?_
                  refine wl_not (by kernel_rfl) ?_
                  refine wl_not (by kernel_rfl) ?_
                  refine wl_not (by kernel_rfl) ?_
                  refine pv tv ?_
                  refine pv (iv ((renewF a b no d).1 : Int)) ?_
                  refine pv (.slice As 512 cs_) ?_
                  refine pv (.slice A135 512 c136) ?_
                  refine pv tv ?_
                  refine pv (iv ((renewF a b no d).1 : Int)) ?_
                  refine pv (.slice As 512 cs_) ?_
                  refine pv (.slice A135 512 c136) ?_
                  refine wl_end (fr [.slice A a.length ca, .slice B b.length cb, iv no, .slice D d.length cd, iv ((c : Nat) : Int), .bool back, ud, ud, ud, ud, ud, ud, tv, iv ((renewF a b no d).1 : Int), .slice As 512 cs_, .slice A135 512 c136, pq g6, iv ((renewF a b no d).1 : Int), .slice As 512 cs_, iv ((renewF a b no d).2.2 : Int), tv, pq g108, .slice A135 512 c136, .slice B b.length cb, pq g119, .slice A a.length ca, .slice A135 512 c136, .slice A a.length ca, .slice B b.length cb, .agg #[iv ((newestF a b).1 : Int), iv ((newestF a b).2.1 : Int), .slice A3 (((newestF a b).2.2.1).length) c4, iv ((newestF a b).2.2.2 : Int)], .tuple #[iv ((renewF a b no d).1 : Int), .slice As 512 cs_, iv ((renewF a b no d).2.2 : Int)], .slice A a.length ca, .slice A14 a.length c15, .slice B b.length cb, .slice A18 b.length c19, iv no, .slice D d.length cd, .slice A22 d.length c23, .tuple #[iv ((renewF a b no d).1 : Int), .slice As 512 cs_, iv ((renewF a b no d).2.2 : Int)], iv ((renewF a b no d).1 : Int), .slice As 512 cs_, iv ((renewF a b no d).2.2 : Int), iv no, tv, tv, po g6 3, iv ((newestF a b).2.2.2 : Int), fv, fv, iv no, po g6 1, iv ((newestF a b).2.1 : Int), tv, tv, tv, iv ((renewF a b no d).2.2 : Int), iv ((renewF a b no d).2.2 : Int), fv, ud, ud, tv, fv, fv, .slice As 512 cs_, iv 512, fv, fv, fv, iv ((renewF a b no d).1 : Int), fv, fv, ud, ud, fv, fv, fv, po g6 3, iv ((newestF a b).2.2.2 : Int), tv, tv, iv ((renewF a b no d).1 : Int), pq g6, iv ((newestF a b).1 : Int), fv, fv, fv, fv, po g6 3, iv ((newestF a b).2.2.2 : Int), fv, fv, ud, ud, fv, fv, iv ((renewF a b no d).1 : Int), iv no, .slice D d.length cd, .agg #[iv ((renewF a b no d).1 : Int), iv no, .slice D d.length cd, iv 0], .tuple #[.slice As 512 cs_, .slice B b.length cb], .slice A a.length ca, .slice B b.length cb, iv ((renewF a b no d).1 : Int), .slice As 512 cs_, .tuple #[.slice As 512 cs_, .slice B b.length cb], .slice As 512 cs_, .slice B b.length cb, .slice As 512 cs_, .slice B b.length cb, .agg #[iv ((renewF a b no d).1 : Int), iv ((no.toNat : Nat) : Int), .slice A116 d.length c117, iv 0], .agg #[iv ((renewF a b no d).1 : Int), iv ((no.toNat : Nat) : Int), .slice A116 d.length c117, iv 0], .agg #[iv ((renewF a b no d).1 : Int), iv no, .slice D d.length cd, iv 0], tv, fv, .slice A a.length ca, iv ((renewF a b no d).1 : Int), fv, ud, .slice A a.length ca, .slice As 512 cs_, iv ((c : Nat) : Int), .slice A130 512 c131, .bool back, .slice As 512 cs_, .slice A a.length ca, iv ((c : Nat) : Int), .slice A135 512 c136, .tuple #[.slice A135 512 c136, .slice B b.length cb], .slice A a.length ca, .slice B b.length cb, iv ((renewF a b no d).1 : Int), .slice A135 512 c136, .tuple #[.slice A135 512 c136, .slice B b.length cb], .slice A135 512 c136, .slice B b.length cb, .slice A135 512 c136, .slice B b.length cb, .agg #[iv ((newestF (((renewF a b no d).2.1).take c ++ a.drop c) b).1 : Int), iv ((newestF (((renewF a b no d).2.1).take c ++ a.drop c) b).2.1 : Int), .slice A140 (((newestF (((renewF a b no d).2.1).take c ++ a.drop c) b).2.2.1).length) c141, iv ((newestF (((renewF a b no d).2.1).take c ++ a.drop c) b).2.2.2 : Int)], .agg #[iv ((newestF (((renewF a b no d).2.1).take c ++ a.drop c) b).1 : Int), iv ((newestF (((renewF a b no d).2.1).take c ++ a.drop c) b).2.1 : Int), .slice A140 (((newestF (((renewF a b no d).2.1).take c ++ a.drop c) b).2.2.1).length) c141, iv ((newestF (((renewF a b no d).2.1).take c ++ a.drop c) b).2.2.2 : Int)], .agg #[iv ((renewF a b no d).1 : Int), iv no, .slice D d.length cd, iv 0], tv, tv, ud, ud, ud, tv, iv ((renewF a b no d).1 : Int), .slice As 512 cs_, .slice A135 512 c136] 0) (by kernel_rfl) ?_
                  refine then_n ?_
                  refine wp_ret ?_
                  refine bodyPost_ret (v := .tuple #[.bool true, .int .i64 ((renewF a b no d).1 : Int), .slice As 512 cs_, .slice A135 512 c136]) (Go.Proofs.results_tmp4 rfl _ _ (by kernel_rfl) (by kernel_rfl) (by kernel_rfl) (by kernel_rfl)) rfl ?_
                  have S147 : St F w0 w145 (vec 5 1 (.slice A135 512 c136) 512 ((((renewF a b no d).2.1).take c ++ a.drop c).map bv) :: bytesX (.slice As 512 cs_) (renewF a b no d).2.1 :: L) := St.permT [bytesX (.slice A140 ((newestF (((renewF a b no d).2.1).take c ++ a.drop c) b).2.2.1).length c141) ((newestF (((renewF a b no d).2.1).take c ++ a.drop c) b).2.2.1), vec 5 1 (.slice A135 512 c136) 512 ((((renewF a b no d).2.1).take c ++ a.drop c).map bv), row g119 #[.int .i64 ((newestF (((renewF a b no d).2.1).take c ++ a.drop c) b).1 : Int), .int .i64 ((newestF (((renewF a b no d).2.1).take c ++ a.drop c) b).2.1 : Int), .slice A140 (((newestF (((renewF a b no d).2.1).take c ++ a.drop c) b).2.2.1).length) c141, .int .i64 ((newestF (((renewF a b no d).2.1).take c ++ a.drop c) b).2.2.2 : Int)] 53, bytesX (.slice A116 d.length c117) d, row g108 #[.int .i64 ((renewF a b no d).1 : Int), .int .i64 no, .slice D d.length cd, .int .i64 0] 53, bytesX (.slice As 512 cs_) (renewF a b no d).2.1, vec 5 1 (.slice A22 d.length c23) d.length (d.map bv), vec 5 1 (.slice A18 b.length c19) b.length (b.map bv), vec 5 1 (.slice A14 a.length c15) a.length (a.map bv), row g6 #[.int .i64 ((newestF a b).1 : Int), .int .i64 ((newestF a b).2.1 : Int), .slice A3 (((newestF a b).2.2.1).length) c4, .int .i64 ((newestF a b).2.2.2 : Int)] 53, bytesX (.slice A3 ((newestF a b).2.2.1).length c4) ((newestF a b).2.2.1)] [1, 5] (by decide) rfl S146
                  exact .inr ⟨As, A135, cs_, c136, ((renewF a b no d).2.1).take c ++ a.drop c, rfl, hgood, hR, hmx, hm5, S147⟩
                · skip
                  have hto2 := hto.resolve_left (fun h => hal (by rw [h]; exact ⟨rfl, by show ((no.toNat : Nat) : Int) = no; omega, rfl, rfl⟩))
                  refine Calls.mono (alike_all (t := false) S144 rfl rfl (RoT.bytesX 0 rfl rfl) hd.more.more.more.more.more.more.more.more.more.more.more (by omega) (by omega) (decide_eq_false hal)) ?_
                  rintro _ w148 ⟨rfl, S149⟩
                  refine ⟨_, rfl, ?_⟩
                  refine pv fv ?_
                  refine wl_when (by kernel_rfl) (gv_ldA (k := 0) (n := 4) (vs := [.int .i64 ((newestF (((renewF a b no d).2.1).take c ++ a.drop c) b).1 : Int), .int .i64 ((newestF (((renewF a b no d).2.1).take c ++ a.drop c) b).2.1 : Int), .slice A140 (((newestF (((renewF a b no d).2.1).take c ++ a.drop c) b).2.2.1).length) c141, .int .i64 ((newestF (((renewF a b no d).2.1).take c ++ a.drop c) b).2.2.2 : Int)]) S149 2 rfl rfl (by kernel_rfl) (by kernel_rfl) rfl rfl ?_)
                  refine wl_when (by kernel_rfl) (gv_ldA (k := 0) (n := 4) (vs := [.int .i64 ((newestF a b).1 : Int), .int .i64 ((newestF a b).2.1 : Int), .slice A3 (((newestF a b).2.2.1).length) c4, .int .i64 ((newestF a b).2.2.2 : Int)]) S149 9 rfl rfl (by kernel_rfl) (by kernel_rfl) rfl rfl ?_)
                  refine wl_when (by kernel_rfl) (gv_call (args := #[.agg #[.int .i64 ((newestF (((renewF a b no d).2.1).take c ++ a.drop c) b).1 : Int), .int .i64 ((newestF (((renewF a b no d).2.1).take c ++ a.drop c) b).2.1 : Int), .slice A140 (((newestF (((renewF a b no d).2.1).take c ++ a.drop c) b).2.2.1).length) c141, .int .i64 ((newestF (((renewF a b no d).2.1).take c ++ a.drop c) b).2.2.2 : Int)], .agg #[.int .i64 ((newestF a b).1 : Int), .int .i64 ((newestF a b).2.1 : Int), .slice A3 (((newestF a b).2.2.1).length) c4, .int .i64 ((newestF a b).2.2.2 : Int)]]) rfl Try.func38 (by kernel_rfl) rfl rfl (by kernel_rfl) ?_)
                  refine Calls.mono (alike_all (t := true) S149 rfl rfl (RoT.bytesX 0 rfl rfl) (RoT.bytesX 10 rfl rfl) (by omega) (by omega) (by rw [hto2]; exact decide_eq_true ⟨rfl, rfl, rfl, rfl⟩)) ?_
                  rintro _ w150 ⟨rfl, S151⟩
                  refine ⟨_, rfl, ?_⟩
                  refine pv tv ?_
                  refine pv (iv ((renewF a b no d).1 : Int)) ?_
                  refine pv (.slice As 512 cs_) ?_
                  refine pv (.slice A135 512 c136) ?_
                  refine pv tv ?_
                  refine pv (iv ((renewF a b no d).1 : Int)) ?_
                  refine pv (.slice As 512 cs_) ?_
                  refine pv (.slice A135 512 c136) ?_
                  refine wl_end (fr [.slice A a.length ca, .slice B b.length cb, iv no, .slice D d.length cd, iv ((c : Nat) : Int), .bool back, ud, ud, ud, ud, ud, ud, tv, iv ((renewF a b no d).1 : Int), .slice As 512 cs_, .slice A135 512 c136, pq g6, iv ((renewF a b no d).1 : Int), .slice As 512 cs_, iv ((renewF a b no d).2.2 : Int), tv, pq g108, .slice A135 512 c136, .slice B b.length cb, pq g119, .slice A a.length ca, .slice A135 512 c136, .slice A a.length ca, .slice B b.length cb, .agg #[iv ((newestF a b).1 : Int), iv ((newestF a b).2.1 : Int), .slice A3 (((newestF a b).2.2.1).length) c4, iv ((newestF a b).2.2.2 : Int)], .tuple #[iv ((renewF a b no d).1 : Int), .slice As 512 cs_, iv ((renewF a b no d).2.2 : Int)], .slice A a.length ca, .slice A14 a.length c15, .slice B b.length cb, .slice A18 b.length c19, iv no, .slice D d.length cd, .slice A22 d.length c23, .tuple #[iv ((renewF a b no d).1 : Int), .slice As 512 cs_, iv ((renewF a b no d).2.2 : Int)], iv ((renewF a b no d).1 : Int), .slice As 512 cs_, iv ((renewF a b no d).2.2 : Int), iv no, tv, tv, po g6 3, iv ((newestF a b).2.2.2 : Int), fv, fv, iv no, po g6 1, iv ((newestF a b).2.1 : Int), tv, tv, tv, iv ((renewF a b no d).2.2 : Int), iv ((renewF a b no d).2.2 : Int), fv, ud, ud, tv, fv, fv, .slice As 512 cs_, iv 512, fv, fv, fv, iv ((renewF a b no d).1 : Int), fv, fv, ud, ud, fv, fv, fv, po g6 3, iv ((newestF a b).2.2.2 : Int), tv, tv, iv ((renewF a b no d).1 : Int), pq g6, iv ((newestF a b).1 : Int), fv, fv, fv, fv, po g6 3, iv ((newestF a b).2.2.2 : Int), fv, fv, ud, ud, fv, fv, iv ((renewF a b no d).1 : Int), iv no, .slice D d.length cd, .agg #[iv ((renewF a b no d).1 : Int), iv no, .slice D d.length cd, iv 0], .tuple #[.slice As 512 cs_, .slice B b.length cb], .slice A a.length ca, .slice B b.length cb, iv ((renewF a b no d).1 : Int), .slice As 512 cs_, .tuple #[.slice As 512 cs_, .slice B b.length cb], .slice As 512 cs_, .slice B b.length cb, .slice As 512 cs_, .slice B b.length cb, .agg #[iv ((renewF a b no d).1 : Int), iv ((no.toNat : Nat) : Int), .slice A116 d.length c117, iv 0], .agg #[iv ((renewF a b no d).1 : Int), iv ((no.toNat : Nat) : Int), .slice A116 d.length c117, iv 0], .agg #[iv ((renewF a b no d).1 : Int), iv no, .slice D d.length cd, iv 0], tv, fv, .slice A a.length ca, iv ((renewF a b no d).1 : Int), fv, ud, .slice A a.length ca, .slice As 512 cs_, iv ((c : Nat) : Int), .slice A130 512 c131, .bool back, .slice As 512 cs_, .slice A a.length ca, iv ((c : Nat) : Int), .slice A135 512 c136, .tuple #[.slice A135 512 c136, .slice B b.length cb], .slice A a.length ca, .slice B b.length cb, iv ((renewF a b no d).1 : Int), .slice A135 512 c136, .tuple #[.slice A135 512 c136, .slice B b.length cb], .slice A135 512 c136, .slice B b.length cb, .slice A135 512 c136, .slice B b.length cb, .agg #[iv ((newestF (((renewF a b no d).2.1).take c ++ a.drop c) b).1 : Int), iv ((newestF (((renewF a b no d).2.1).take c ++ a.drop c) b).2.1 : Int), .slice A140 (((newestF (((renewF a b no d).2.1).take c ++ a.drop c) b).2.2.1).length) c141, iv ((newestF (((renewF a b no d).2.1).take c ++ a.drop c) b).2.2.2 : Int)], .agg #[iv ((newestF (((renewF a b no d).2.1).take c ++ a.drop c) b).1 : Int), iv ((newestF (((renewF a b no d).2.1).take c ++ a.drop c) b).2.1 : Int), .slice A140 (((newestF (((renewF a b no d).2.1).take c ++ a.drop c) b).2.2.1).length) c141, iv ((newestF (((renewF a b no d).2.1).take c ++ a.drop c) b).2.2.2 : Int)], .agg #[iv ((renewF a b no d).1 : Int), iv no, .slice D d.length cd, iv 0], fv, fv, .agg #[iv ((newestF (((renewF a b no d).2.1).take c ++ a.drop c) b).1 : Int), iv ((newestF (((renewF a b no d).2.1).take c ++ a.drop c) b).2.1 : Int), .slice A140 (((newestF (((renewF a b no d).2.1).take c ++ a.drop c) b).2.2.1).length) c141, iv ((newestF (((renewF a b no d).2.1).take c ++ a.drop c) b).2.2.2 : Int)], .agg #[iv ((newestF a b).1 : Int), iv ((newestF a b).2.1 : Int), .slice A3 (((newestF a b).2.2.1).length) c4, iv ((newestF a b).2.2.2 : Int)], tv, tv, iv ((renewF a b no d).1 : Int), .slice As 512 cs_, .slice A135 512 c136] 0) (by kernel_rfl) ?_
                  refine then_n ?_
                  refine wp_ret ?_
                  refine bodyPost_ret (v := .tuple #[.bool true, .int .i64 ((renewF a b no d).1 : Int), .slice As 512 cs_, .slice A135 512 c136]) (Go.Proofs.results_tmp4 rfl _ _ (by kernel_rfl) (by kernel_rfl) (by kernel_rfl) (by kernel_rfl)) rfl ?_
                  have S152 : St F w0 w150 (vec 5 1 (.slice A135 512 c136) 512 ((((renewF a b no d).2.1).take c ++ a.drop c).map bv) :: bytesX (.slice As 512 cs_) (renewF a b no d).2.1 :: L) := St.permT [bytesX (.slice A140 ((newestF (((renewF a b no d).2.1).take c ++ a.drop c) b).2.2.1).length c141) ((newestF (((renewF a b no d).2.1).take c ++ a.drop c) b).2.2.1), vec 5 1 (.slice A135 512 c136) 512 ((((renewF a b no d).2.1).take c ++ a.drop c).map bv), row g119 #[.int .i64 ((newestF (((renewF a b no d).2.1).take c ++ a.drop c) b).1 : Int), .int .i64 ((newestF (((renewF a b no d).2.1).take c ++ a.drop c) b).2.1 : Int), .slice A140 (((newestF (((renewF a b no d).2.1).take c ++ a.drop c) b).2.2.1).length) c141, .int .i64 ((newestF (((renewF a b no d).2.1).take c ++ a.drop c) b).2.2.2 : Int)] 53, bytesX (.slice A116 d.length c117) d, row g108 #[.int .i64 ((renewF a b no d).1 : Int), .int .i64 no, .slice D d.length cd, .int .i64 0] 53, bytesX (.slice As 512 cs_) (renewF a b no d).2.1, vec 5 1 (.slice A22 d.length c23) d.length (d.map bv), vec 5 1 (.slice A18 b.length c19) b.length (b.map bv), vec 5 1 (.slice A14 a.length c15) a.length (a.map bv), row g6 #[.int .i64 ((newestF a b).1 : Int), .int .i64 ((newestF a b).2.1 : Int), .slice A3 (((newestF a b).2.2.1).length) c4, .int .i64 ((newestF a b).2.2.2 : Int)] 53, bytesX (.slice A3 ((newestF a b).2.2.1).length c4) ((newestF a b).2.2.1)] [1, 5] (by decide) rfl S151
                  exact .inr ⟨As, A135, cs_, c136, ((renewF a b no d).2.1).take c ++ a.drop c, rfl, hgood, hR, hmx, hm5, S152⟩
              · skip
                refine wp_skip ?_
                refine then_n ?_
                refine wp_seq ?_
                refine wp_region_lit ?_
                have hmx : (a.take c ++ ((renewF a b no d).2.1).drop c) = (if (renewF a b no d).1 = 1 then b else a) ∨ (a.take c ++ ((renewF a b no d).2.1).drop c) = (renewF a b no d).2.1 ∨ openF (a.take c ++ ((renewF a b no d).2.1).drop c) = ([], 30) := by have := hR.mix c hc; simp only [hold] at this ⊢; exact this.1
                have hm5 : (a.take c ++ ((renewF a b no d).2.1).drop c).length = 512 := by rw [List.length_append, List.length_take, List.length_drop]; omega
                have hto : newestF (a.take c ++ ((renewF a b no d).2.1).drop c) b = ((renewF a b no d).1, no.toNat, d, 0) ∨ newestF (a.take c ++ ((renewF a b no d).2.1).drop c) b = newestF a b := by have := hR.torn _ hmx hm5; rw [show putIn a b (renewF a b no d).1 (a.take c ++ ((renewF a b no d).2.1).drop c) = ((a.take c ++ ((renewF a b no d).2.1).drop c), b) from by unfold putIn; rw [if_pos hs0]] at this; exact this
                have hgl : (newestF (a.take c ++ ((renewF a b no d).2.1).drop c) b).2.2.1.length ≤ 504 := newest_len _ _ (by omega) (by omega)
                refine pv (.slice A a.length ca) ?_
                refine pv (.slice B b.length cb) ?_
                refine pv (iv ((renewF a b no d).1 : Int)) ?_
                refine pv (.slice A130 512 c131) ?_
                refine wl_gv rfl (gv_call (args := #[.slice A a.length ca, .slice B b.length cb, .int .i64 ((renewF a b no d).1 : Int), .slice A130 512 c131]) rfl Try.func22 (by kernel_rfl) rfl rfl (by kernel_rfl) ?_)
                refine Calls.mono (pairOf0 (by omega)) ?_
                rintro _ _ ⟨rfl, rfl⟩
                refine ⟨_, rfl, ?_⟩
                refine pv (.tuple #[.slice A130 512 c131, .slice B b.length cb]) ?_
                refine pv (.slice A130 512 c131) ?_
                refine pv (.slice B b.length cb) ?_
                refine pv (.slice A130 512 c131) ?_
                refine pv (.slice B b.length cb) ?_
                refine wl_end _ rfl ?_
                refine then_n ?_
                refine wp_seq ?_
                refine wp_region_lit ?_
                refine pv (.slice A130 512 c131) ?_
                refine pv (.slice B b.length cb) ?_
                refine wl_gv rfl (gv_call (args := #[.slice A130 512 c131, .slice B b.length cb]) rfl Try.func23 (by kernel_rfl) rfl rfl (by kernel_rfl) ?_)
                refine Calls.mono (ask_all (a := a.take c ++ ((renewF a b no d).2.1).drop c) (b := b) S129 hm5.symm rfl (RoT.ofVec 0 rfl) hb.more.more.more.more.more.more.more.more.more.more (by omega) (by omega)) ?_
                rintro _ w153 ⟨A155, c156, rfl, S154⟩
                refine ⟨_, rfl, ?_⟩
                have S157 : St F w0 w153 (bytesX (.slice A155 ((newestF (a.take c ++ ((renewF a b no d).2.1).drop c) b).2.2.1).length c156) ((newestF (a.take c ++ ((renewF a b no d).2.1).drop c) b).2.2.1) :: vec 5 1 (.slice A130 512 c131) 512 ((a.take c ++ ((renewF a b no d).2.1).drop c).map bv) :: row g119 #[.int .i64 ((renewF a b no d).1 : Int), .int .i64 ((no.toNat : Nat) : Int), .slice A116 d.length c117, .int .i64 0] 53 :: bytesX (.slice A116 d.length c117) d :: row g108 #[.int .i64 ((renewF a b no d).1 : Int), .int .i64 no, .slice D d.length cd, .int .i64 0] 53 :: bytesX (.slice As 512 cs_) (renewF a b no d).2.1 :: vec 5 1 (.slice A22 d.length c23) d.length (d.map bv) :: vec 5 1 (.slice A18 b.length c19) b.length (b.map bv) :: vec 5 1 (.slice A14 a.length c15) a.length (a.map bv) :: row g6 #[.int .i64 ((newestF a b).1 : Int), .int .i64 ((newestF a b).2.1 : Int), .slice A3 (((newestF a b).2.2.1).length) c4, .int .i64 ((newestF a b).2.2.2 : Int)] 53 :: bytesX (.slice A3 ((newestF a b).2.2.1).length c4) ((newestF a b).2.2.1) :: L) := S154
                refine wl_gv rfl (gv_stA (k := 0) (vs := [.int .i64 ((newestF (a.take c ++ ((renewF a b no d).2.1).drop c) b).1 : Int), .int .i64 ((newestF (a.take c ++ ((renewF a b no d).2.1).drop c) b).2.1 : Int), .slice A155 (((newestF (a.take c ++ ((renewF a b no d).2.1).drop c) b).2.2.1).length) c156, .int .i64 ((newestF (a.take c ++ ((renewF a b no d).2.1).drop c) b).2.2.2 : Int)]) S157 2 rfl rfl (by kernel_rfl) (by kernel_rfl) (by kernel_rfl) rfl (by simp [Value.oneCell']) (Nat.le_of_ble_eq_true (by kernel_rfl)) (L' := (bytesX (.slice A155 ((newestF (a.take c ++ ((renewF a b no d).2.1).drop c) b).2.2.1).length c156) ((newestF (a.take c ++ ((renewF a b no d).2.1).drop c) b).2.2.1) :: vec 5 1 (.slice A130 512 c131) 512 ((a.take c ++ ((renewF a b no d).2.1).drop c).map bv) :: row g119 #[.int .i64 ((newestF (a.take c ++ ((renewF a b no d).2.1).drop c) b).1 : Int), .int .i64 ((newestF (a.take c ++ ((renewF a b no d).2.1).drop c) b).2.1 : Int), .slice A155 (((newestF (a.take c ++ ((renewF a b no d).2.1).drop c) b).2.2.1).length) c156, .int .i64 ((newestF (a.take c ++ ((renewF a b no d).2.1).drop c) b).2.2.2 : Int)] 53 :: bytesX (.slice A116 d.length c117) d :: row g108 #[.int .i64 ((renewF a b no d).1 : Int), .int .i64 no, .slice D d.length cd, .int .i64 0] 53 :: bytesX (.slice As 512 cs_) (renewF a b no d).2.1 :: vec 5 1 (.slice A22 d.length c23) d.length (d.map bv) :: vec 5 1 (.slice A18 b.length c19) b.length (b.map bv) :: vec 5 1 (.slice A14 a.length c15) a.length (a.map bv) :: row g6 #[.int .i64 ((newestF a b).1 : Int), .int .i64 ((newestF a b).2.1 : Int), .slice A3 (((newestF a b).2.2.1).length) c4, .int .i64 ((newestF a b).2.2.2 : Int)] 53 :: bytesX (.slice A3 ((newestF a b).2.2.1).length c4) ((newestF a b).2.2.1) :: L)) rfl (fun w158 S159 => ?_))
                refine wl_end _ rfl ?_
                refine then_n ?_
                refine wp_seq ?_
                refine wp_region_lit ?_
                refine wl_gv rfl (gv_ldA (k := 0) (n := 4) (vs := [.int .i64 ((newestF (a.take c ++ ((renewF a b no d).2.1).drop c) b).1 : Int), .int .i64 ((newestF (a.take c ++ ((renewF a b no d).2.1).drop c) b).2.1 : Int), .slice A155 (((newestF (a.take c ++ ((renewF a b no d).2.1).drop c) b).2.2.1).length) c156, .int .i64 ((newestF (a.take c ++ ((renewF a b no d).2.1).drop c) b).2.2.2 : Int)]) S159 2 rfl rfl (by kernel_rfl) (by kernel_rfl) rfl rfl ?_)
                refine wl_gv rfl (gv_ldA (k := 0) (n := 4) (vs := [.int .i64 ((renewF a b no d).1 : Int), .int .i64 no, .slice D d.length cd, .int .i64 0]) S159 4 rfl rfl (by kernel_rfl) (by kernel_rfl) rfl rfl ?_)
                refine wl_gv rfl (gv_call (args := #[.agg #[.int .i64 ((newestF (a.take c ++ ((renewF a b no d).2.1).drop c) b).1 : Int), .int .i64 ((newestF (a.take c ++ ((renewF a b no d).2.1).drop c) b).2.1 : Int), .slice A155 (((newestF (a.take c ++ ((renewF a b no d).2.1).drop c) b).2.2.1).length) c156, .int .i64 ((newestF (a.take c ++ ((renewF a b no d).2.1).drop c) b).2.2.2 : Int)], .agg #[.int .i64 ((renewF a b no d).1 : Int), .int .i64 no, .slice D d.length cd, .int .i64 0]]) rfl Try.func38 (by kernel_rfl) rfl rfl (by kernel_rfl) ?_)
                by_cases hal : (((newestF (a.take c ++ ((renewF a b no d).2.1).drop c) b).1 : Int) = ((renewF a b no d).1 : Int) ∧ ((newestF (a.take c ++ ((renewF a b no d).2.1).drop c) b).2.1 : Int) = no ∧ ((newestF (a.take c ++ ((renewF a b no d).2.1).drop c) b).2.2.2 : Int) = 0 ∧ (newestF (a.take c ++ ((renewF a b no d).2.1).drop c) b).2.2.1 = d)
                · skip
                  refine Calls.mono (alike_all (t := true) S159 rfl rfl (RoT.bytesX 0 rfl rfl) hd.more.more.more.more.more.more.more.more.more.more.more (by omega) (by omega) (decide_eq_true hal)) ?_
                  rintro _ w160 ⟨rfl, S161⟩
                  refine ⟨_, rfl, ?_⟩
                  refine pv tv ?_
                  refine wl_not (by kernel_rfl) ?_
                  refine wl_not (by kernel_rfl) ?_
                  refine wl_not (by kernel_rfl) ?_
                  refine pv tv ?_
                  refine pv (iv ((renewF a b no d).1 : Int)) ?_
                  refine pv (.slice As 512 cs_) ?_
                  refine pv (.slice A130 512 c131) ?_
                  refine pv tv ?_
                  refine pv (iv ((renewF a b no d).1 : Int)) ?_
                  refine pv (.slice As 512 cs_) ?_
                  refine pv (.slice A130 512 c131) ?_
                  refine wl_end _ rfl ?_
                  refine then_n ?_
                  refine wp_ret ?_
                  refine bodyPost_ret (v := .tuple #[.bool true, .int .i64 ((renewF a b no d).1 : Int), .slice As 512 cs_, .slice A130 512 c131]) (Go.Proofs.results_tmp4 rfl _ _ (by kernel_rfl) (by kernel_rfl) (by kernel_rfl) (by kernel_rfl)) rfl ?_
                  have S162 : St F w0 w160 (vec 5 1 (.slice A130 512 c131) 512 ((a.take c ++ ((renewF a b no d).2.1).drop c).map bv) :: bytesX (.slice As 512 cs_) (renewF a b no d).2.1 :: L) := St.permT [bytesX (.slice A155 ((newestF (a.take c ++ ((renewF a b no d).2.1).drop c) b).2.2.1).length c156) ((newestF (a.take c ++ ((renewF a b no d).2.1).drop c) b).2.2.1), vec 5 1 (.slice A130 512 c131) 512 ((a.take c ++ ((renewF a b no d).2.1).drop c).map bv), row g119 #[.int .i64 ((newestF (a.take c ++ ((renewF a b no d).2.1).drop c) b).1 : Int), .int .i64 ((newestF (a.take c ++ ((renewF a b no d).2.1).drop c) b).2.1 : Int), .slice A155 (((newestF (a.take c ++ ((renewF a b no d).2.1).drop c) b).2.2.1).length) c156, .int .i64 ((newestF (a.take c ++ ((renewF a b no d).2.1).drop c) b).2.2.2 : Int)] 53, bytesX (.slice A116 d.length c117) d, row g108 #[.int .i64 ((renewF a b no d).1 : Int), .int .i64 no, .slice D d.length cd, .int .i64 0] 53, bytesX (.slice As 512 cs_) (renewF a b no d).2.1, vec 5 1 (.slice A22 d.length c23) d.length (d.map bv), vec 5 1 (.slice A18 b.length c19) b.length (b.map bv), vec 5 1 (.slice A14 a.length c15) a.length (a.map bv), row g6 #[.int .i64 ((newestF a b).1 : Int), .int .i64 ((newestF a b).2.1 : Int), .slice A3 (((newestF a b).2.2.1).length) c4, .int .i64 ((newestF a b).2.2.2 : Int)] 53, bytesX (.slice A3 ((newestF a b).2.2.1).length c4) ((newestF a b).2.2.1)] [1, 5] (by decide) rfl S161
                  exact .inr ⟨As, A130, cs_, c131, a.take c ++ ((renewF a b no d).2.1).drop c, rfl, hgood, hR, hmx, hm5, S162⟩
                · skip
                  have hto2 := hto.resolve_left (fun h => hal (by rw [h]; exact ⟨rfl, by show ((no.toNat : Nat) : Int) = no; omega, rfl, rfl⟩))
                  refine Calls.mono (alike_all (t := false) S159 rfl rfl (RoT.bytesX 0 rfl rfl) hd.more.more.more.more.more.more.more.more.more.more.more (by omega) (by omega) (decide_eq_false hal)) ?_
                  rintro _ w163 ⟨rfl, S164⟩
                  refine ⟨_, rfl, ?_⟩
                  refine pv fv ?_
                  refine wl_when (by kernel_rfl) (gv_ldA (k := 0) (n := 4) (vs := [.int .i64 ((newestF (a.take c ++ ((renewF a b no d).2.1).drop c) b).1 : Int), .int .i64 ((newestF (a.take c ++ ((renewF a b no d).2.1).drop c) b).2.1 : Int), .slice A155 (((newestF (a.take c ++ ((renewF a b no d).2.1).drop c) b).2.2.1).length) c156, .int .i64 ((newestF (a.take c ++ ((renewF a b no d).2.1).drop c) b).2.2.2 : Int)]) S164 2 rfl rfl (by kernel_rfl) (by kernel_rfl) rfl rfl ?_)
                  refine wl_when (by kernel_rfl) (gv_ldA (k := 0) (n := 4) (vs := [.int .i64 ((newestF a b).1 : Int), .int .i64 ((newestF a b).2.1 : Int), .slice A3 (((newestF a b).2.2.1).length) c4, .int .i64 ((newestF a b).2.2.2 : Int)]) S164 9 rfl rfl (by kernel_rfl) (by kernel_rfl) rfl rfl ?_)
                  refine wl_when (by kernel_rfl) (gv_call (args := #[.agg #[.int .i64 ((newestF (a.take c ++ ((renewF a b no d).2.1).drop c) b).1 : Int), .int .i64 ((newestF (a.take c ++ ((renewF a b no d).2.1).drop c) b).2.1 : Int), .slice A155 (((newestF (a.take c ++ ((renewF a b no d).2.1).drop c) b).2.2.1).length) c156, .int .i64 ((newestF (a.take c ++ ((renewF a b no d).2.1).drop c) b).2.2.2 : Int)], .agg #[.int .i64 ((newestF a b).1 : Int), .int .i64 ((newestF a b).2.1 : Int), .slice A3 (((newestF a b).2.2.1).length) c4, .int .i64 ((newestF a b).2.2.2 : Int)]]) rfl Try.func38 (by kernel_rfl) rfl rfl (by kernel_rfl) ?_)
                  refine Calls.mono (alike_all (t := true) S164 rfl rfl (RoT.bytesX 0 rfl rfl) (RoT.bytesX 10 rfl rfl) (by omega) (by omega) (by rw [hto2]; exact decide_eq_true ⟨rfl, rfl, rfl, rfl⟩)) ?_
                  rintro _ w165 ⟨rfl, S166⟩
                  refine ⟨_, rfl, ?_⟩
                  refine pv tv ?_
                  refine pv (iv ((renewF a b no d).1 : Int)) ?_
                  refine pv (.slice As 512 cs_) ?_
                  refine pv (.slice A130 512 c131) ?_
                  refine pv tv ?_
                  refine pv (iv ((renewF a b no d).1 : Int)) ?_
                  refine pv (.slice As 512 cs_) ?_
                  refine pv (.slice A130 512 c131) ?_
                  refine wl_end _ rfl ?_
                  refine then_n ?_
                  refine wp_ret ?_
                  refine bodyPost_ret (v := .tuple #[.bool true, .int .i64 ((renewF a b no d).1 : Int), .slice As 512 cs_, .slice A130 512 c131]) (Go.Proofs.results_tmp4 rfl _ _ (by kernel_rfl) (by kernel_rfl) (by kernel_rfl) (by kernel_rfl)) rfl ?_
                  have S167 : St F w0 w165 (vec 5 1 (.slice A130 512 c131) 512 ((a.take c ++ ((renewF a b no d).2.1).drop c).map bv) :: bytesX (.slice As 512 cs_) (renewF a b no d).2.1 :: L) := St.permT [bytesX (.slice A155 ((newestF (a.take c ++ ((renewF a b no d).2.1).drop c) b).2.2.1).length c156) ((newestF (a.take c ++ ((renewF a b no d).2.1).drop c) b).2.2.1), vec 5 1 (.slice A130 512 c131) 512 ((a.take c ++ ((renewF a b no d).2.1).drop c).map bv), row g119 #[.int .i64 ((newestF (a.take c ++ ((renewF a b no d).2.1).drop c) b).1 : Int), .int .i64 ((newestF (a.take c ++ ((renewF a b no d).2.1).drop c) b).2.1 : Int), .slice A155 (((newestF (a.take c ++ ((renewF a b no d).2.1).drop c) b).2.2.1).length) c156, .int .i64 ((newestF (a.take c ++ ((renewF a b no d).2.1).drop c) b).2.2.2 : Int)] 53, bytesX (.slice A116 d.length c117) d, row g108 #[.int .i64 ((renewF a b no d).1 : Int), .int .i64 no, .slice D d.length cd, .int .i64 0] 53, bytesX (.slice As 512 cs_) (renewF a b no d).2.1, vec 5 1 (.slice A22 d.length c23) d.length (d.map bv), vec 5 1 (.slice A18 b.length c19) b.length (b.map bv), vec 5 1 (.slice A14 a.length c15) a.length (a.map bv), row g6 #[.int .i64 ((newestF a b).1 : Int), .int .i64 ((newestF a b).2.1 : Int), .slice A3 (((newestF a b).2.2.1).length) c4, .int .i64 ((newestF a b).2.2.2 : Int)] 53, bytesX (.slice A3 ((newestF a b).2.2.1).length c4) ((newestF a b).2.2.1)] [1, 5] (by decide) rfl S166
                  exact .inr ⟨As, A130, cs_, c131, a.take c ++ ((renewF a b no d).2.1).drop c, rfl, hgood, hR, hmx, hm5, S167⟩
          · skip
            exfalso; omega
      · skip
        exfalso; omega
    · skip
      have hsl := hR.len
      rw [hsl] at S25
      rw [hsl]
      have hsl5 : (renewF a b no d).2.1.length = 512 := hR.len
      refine pv (.tuple #[iv ((renewF a b no d).1 : Int), .slice As 512 cs_, iv ((renewF a b no d).2.2 : Int)]) ?_
      refine pv (iv ((renewF a b no d).1 : Int)) ?_
      refine pv (.slice As 512 cs_) ?_
      refine pv (iv ((renewF a b no d).2.2 : Int)) ?_
      refine pv (iv ((renewF a b no d).1 : Int)) ?_
      refine pv (.slice As 512 cs_) ?_
      refine pv (iv ((renewF a b no d).2.2 : Int)) ?_
      refine wl_end _ rfl ?_
      refine then_n ?_
      refine wp_seq ?_
      refine wp_region_lit ?_
      refine pv (iv no) ?_
      refine wl_gv rfl (gv_dec (p := (no : Int) ≥ 1) (by kernel_rfl) (fun hb168 => ?_) (fun hb168 => ?_))
      · skip
        refine pv tv ?_
        refine wl_when (by kernel_rfl) (gv_val (v := .pointer (some ⟨g6, 3, none⟩)) (w' := w24) (by kernel_rfl) ?_)
        refine wl_when (by kernel_rfl) (gv_ldR (v := .int .i64 ((newestF a b).2.2.2 : Int)) rfl (by kernel_rfl) (by kernel_rfl) (((S25.blk 4 rfl).cell 3).trans rfl) ?_)
        refine wl_when (by kernel_rfl) (gv_ne (x := ((newestF a b).2.2.2 : Int)) (y := 0) (by kernel_rfl) (fun hb169 => ?_) (fun hb169 => ?_))
        · skip
          exact absurd (hR.first (by omega)) (by omega)
        · skip
          refine wl_when (by kernel_rfl) (gv_val (v := .bool false) (w' := w24) (by kernel_rfl) ?_)
          refine wl_when (by kernel_rfl) (gv_val (v := .int .i64 no) (w' := w24) (by kernel_rfl) ?_)
          refine wl_when (by kernel_rfl) (gv_val (v := .pointer (some ⟨g6, 1, none⟩)) (w' := w24) (by kernel_rfl) ?_)
          refine wl_when (by kernel_rfl) (gv_ldR (v := .int .i64 ((newestF a b).2.1 : Int)) rfl (by kernel_rfl) (by kernel_rfl) (((S25.blk 4 rfl).cell 1).trans rfl) ?_)
          refine wl_when (by kernel_rfl) (gv_dec (p := (no : Int) > ((newestF a b).2.1 : Int)) (by kernel_rfl) (fun hb170 => ?_) (fun hb170 => ?_))
          · skip
            refine wl_when (by kernel_rfl) (gv_val (v := .bool true) (w' := w24) (by kernel_rfl) ?_)
            refine pv tv ?_
            refine pv tv ?_
            refine wl_end (fr [.slice A a.length ca, .slice B b.length cb, iv no, .slice D d.length cd, iv ((c : Nat) : Int), .bool back, ud, ud, ud, ud, ud, ud, fv, iv 0, .slice none 0 0, .slice none 0 0, pq g6, iv ((renewF a b no d).1 : Int), .slice As 512 cs_, iv ((renewF a b no d).2.2 : Int), tv, ud, ud, ud, ud, ud, ud, .slice A a.length ca, .slice B b.length cb, .agg #[iv ((newestF a b).1 : Int), iv ((newestF a b).2.1 : Int), .slice A3 (((newestF a b).2.2.1).length) c4, iv ((newestF a b).2.2.2 : Int)], .tuple #[iv ((renewF a b no d).1 : Int), .slice As 512 cs_, iv ((renewF a b no d).2.2 : Int)], .slice A a.length ca, .slice A14 a.length c15, .slice B b.length cb, .slice A18 b.length c19, iv no, .slice D d.length cd, .slice A22 d.length c23, .tuple #[iv ((renewF a b no d).1 : Int), .slice As 512 cs_, iv ((renewF a b no d).2.2 : Int)], iv ((renewF a b no d).1 : Int), .slice As 512 cs_, iv ((renewF a b no d).2.2 : Int), iv no, tv, tv, po g6 3, iv ((newestF a b).2.2.2 : Int), fv, fv, iv no, po g6 1, iv ((newestF a b).2.1 : Int), tv, tv, tv] 94) (by kernel_rfl) ?_
            refine then_n ?_
            refine wp_seq ?_
            refine wp_seq ?_
            refine wp_region_lit ?_
            refine pv (iv ((renewF a b no d).2.2 : Int)) ?_
            refine wl_gv rfl (gv_call (args := #[.int .i64 ((renewF a b no d).2.2 : Int)]) rfl Try.func35 (by kernel_rfl) rfl rfl (by kernel_rfl) ?_)
            refine Calls.mono (num_ro) ?_
            rintro _ _ ⟨rfl, rfl⟩
            refine ⟨_, rfl, ?_⟩
            refine wl_gv rfl (gv_ne (x := ((renewF a b no d).2.2 : Int)) (y := 0) (by kernel_rfl) (fun hb171 => ?_) (fun hb171 => ?_))
            · skip
              exfalso; omega
            · skip
              refine wl_end _ rfl ?_
              refine then_n ?_
              refine wp_cond_false (by kernel_rfl) ?_
              refine wp_skip ?_
              refine then_n ?_
              refine wp_seq ?_
              refine wp_seq ?_
              refine wp_region_lit ?_
              refine pv tv ?_
              refine pv fv ?_
              refine pv fv ?_
              refine wl_when (by kernel_rfl) (gv_val (v := .slice As 512 cs_) (w' := w24) (by kernel_rfl) ?_)
              refine wl_when (by kernel_rfl) (gv_val (v := .int .i64 512) (w' := w24) (by kernel_rfl) ?_)
              refine wl_when (by kernel_rfl) (gv_ne (x := 512) (y := 512) (by kernel_rfl) (fun hd172 => False.elim (hd172 rfl)) (fun _ => ?_))
              refine pv fv ?_
              refine pv fv ?_
              refine wl_when (by kernel_rfl) (gv_val (v := .int .i64 ((renewF a b no d).1 : Int)) (w' := w24) (by kernel_rfl) ?_)
              refine wl_when (by kernel_rfl) (gv_ne (x := ((renewF a b no d).1 : Int)) (y := 0) (by kernel_rfl) (fun _ => ?_) (fun hd173 => False.elim (by omega)))
              refine wl_when (by kernel_rfl) (gv_val (v := .bool true) (w' := w24) (by kernel_rfl) ?_)
              refine wl_when (by kernel_rfl) (gv_val (v := .int .i64 ((renewF a b no d).1 : Int)) (w' := w24) (by kernel_rfl) ?_)
              refine wl_when (by kernel_rfl) (gv_ne (x := ((renewF a b no d).1 : Int)) (y := 1) (by kernel_rfl) (fun hd174 => False.elim (by omega)) (fun _ => ?_))
              refine wl_when (by kernel_rfl) (gv_val (v := .bool false) (w' := w24) (by kernel_rfl) ?_)
              refine pv fv ?_
              refine pv fv ?_
              refine wl_when (by kernel_rfl) (gv_val (v := .pointer (some ⟨g6, 3, none⟩)) (w' := w24) (by kernel_rfl) ?_)
              refine wl_when (by kernel_rfl) (gv_ldR (v := .int .i64 ((newestF a b).2.2.2 : Int)) rfl (by kernel_rfl) (by kernel_rfl) (((S25.blk 4 rfl).cell 3).trans rfl) ?_)
              refine wl_when (by kernel_rfl) (gv_eq (x := ((newestF a b).2.2.2 : Int)) (y := 0) (by kernel_rfl) (fun _ => ?_) (fun hd175 => False.elim (by omega)))
              refine wl_when (by kernel_rfl) (gv_val (v := .bool true) (w' := w24) (by kernel_rfl) ?_)
              refine wl_when (by kernel_rfl) (gv_val (v := .int .i64 ((renewF a b no d).1 : Int)) (w' := w24) (by kernel_rfl) ?_)
              refine wl_when (by kernel_rfl) (gv_val (v := .pointer (some ⟨g6, 0, none⟩)) (w' := w24) (by kernel_rfl) ?_)
              refine wl_when (by kernel_rfl) (gv_ldR (v := .int .i64 ((newestF a b).1 : Int)) rfl (by kernel_rfl) (by kernel_rfl) (((S25.blk 4 rfl).cell 0).trans rfl) ?_)
              refine wl_when (by kernel_rfl) (gv_eq (x := ((renewF a b no d).1 : Int)) (y := ((newestF a b).1 : Int)) (by kernel_rfl) (fun hd176 => False.elim (by have := hR.other (by omega); omega)) (fun _ => ?_))
              refine wl_when (by kernel_rfl) (gv_val (v := .bool false) (w' := w24) (by kernel_rfl) ?_)
              refine pv fv ?_
              refine pv fv ?_
              refine wl_when (by kernel_rfl) (gv_val (v := .pointer (some ⟨g6, 3, none⟩)) (w' := w24) (by kernel_rfl) ?_)
              refine wl_when (by kernel_rfl) (gv_ldR (v := .int .i64 ((newestF a b).2.2.2 : Int)) rfl (by kernel_rfl) (by kernel_rfl) (((S25.blk 4 rfl).cell 3).trans rfl) ?_)
              refine wl_when (by kernel_rfl) (gv_ne (x := ((newestF a b).2.2.2 : Int)) (y := 0) (by kernel_rfl) (fun hd177 => False.elim (by omega)) (fun _ => ?_))
              refine wl_when (by kernel_rfl) (gv_val (v := .bool false) (w' := w24) (by kernel_rfl) ?_)
              refine wl_not (by kernel_rfl) ?_
              refine wl_not (by kernel_rfl) ?_
              refine wl_when (by kernel_rfl) (gv_val (v := .bool false) (w' := w24) (by kernel_rfl) ?_)
              refine pv fv ?_
              refine wl_end (fr [.slice A a.length ca, .slice B b.length cb, iv no, .slice D d.length cd, iv ((c : Nat) : Int), .bool back, ud, ud, ud, ud, ud, ud, fv, iv 0, .slice none 0 0, .slice none 0 0, pq g6, iv ((renewF a b no d).1 : Int), .slice As 512 cs_, iv ((renewF a b no d).2.2 : Int), tv, ud, ud, ud, ud, ud, ud, .slice A a.length ca, .slice B b.length cb, .agg #[iv ((newestF a b).1 : Int), iv ((newestF a b).2.1 : Int), .slice A3 (((newestF a b).2.2.1).length) c4, iv ((newestF a b).2.2.2 : Int)], .tuple #[iv ((renewF a b no d).1 : Int), .slice As 512 cs_, iv ((renewF a b no d).2.2 : Int)], .slice A a.length ca, .slice A14 a.length c15, .slice B b.length cb, .slice A18 b.length c19, iv no, .slice D d.length cd, .slice A22 d.length c23, .tuple #[iv ((renewF a b no d).1 : Int), .slice As 512 cs_, iv ((renewF a b no d).2.2 : Int)], iv ((renewF a b no d).1 : Int), .slice As 512 cs_, iv ((renewF a b no d).2.2 : Int), iv no, tv, tv, po g6 3, iv ((newestF a b).2.2.2 : Int), fv, fv, iv no, po g6 1, iv ((newestF a b).2.1 : Int), tv, tv, tv, iv ((renewF a b no d).2.2 : Int), iv ((renewF a b no d).2.2 : Int), fv, ud, ud, tv, fv, fv, .slice As 512 cs_, iv 512, fv, fv, fv, iv ((renewF a b no d).1 : Int), tv, tv, iv ((renewF a b no d).1 : Int), fv, fv, fv, fv, po g6 3, iv ((newestF a b).2.2.2 : Int), tv, tv, iv ((renewF a b no d).1 : Int), pq g6, iv ((newestF a b).1 : Int), fv, fv, fv, fv, po g6 3, iv ((newestF a b).2.2.2 : Int), fv, fv, ud, ud, fv, fv] 54) (by kernel_rfl) ?_
              refine then_n ?_
              refine wp_cond_false (by kernel_rfl) ?_
              refine wp_skip ?_
              refine then_n ?_
              refine wp_seq ?_
              refine wp_region_lit ?_
              have hnew : newestF a (renewF a b no d).2.1 = ((renewF a b no d).1, no.toNat, d, 0) := by have := hR.new; rw [show putIn a b (renewF a b no d).1 (renewF a b no d).2.1 = (a, (renewF a b no d).2.1) from by unfold putIn; rw [if_neg (by omega)]] at this; exact this
              have hold : (if (renewF a b no d).1 = 1 then b else a) = b := if_pos hs0
              refine pv (iv ((renewF a b no d).1 : Int)) ?_
              refine pv (iv no) ?_
              refine pv (.slice D d.length cd) ?_
              refine pv (.agg #[iv ((renewF a b no d).1 : Int), iv no, .slice D d.length cd, iv 0]) ?_
              refine wl_gv rfl (gv_new (z := .agg #[.int .i64 0, .int .i64 0, .slice none 0 0, .int .i64 0]) S25 rfl (by kernel_rfl) (fun g178 w179 hg180 S181 => ?_))
              refine wl_gv rfl (gv_stA (k := 0) (vs := [.int .i64 ((renewF a b no d).1 : Int), .int .i64 no, .slice D d.length cd, .int .i64 0]) S181 0 rfl rfl (by kernel_rfl) (by kernel_rfl) (by kernel_rfl) rfl (by simp [Value.oneCell']) (Nat.le_of_ble_eq_true (by kernel_rfl)) (L' := (row g178 #[.int .i64 ((renewF a b no d).1 : Int), .int .i64 no, .slice D d.length cd, .int .i64 0] 53 :: bytesX (.slice As 512 cs_) (renewF a b no d).2.1 :: vec 5 1 (.slice A22 d.length c23) d.length (d.map bv) :: vec 5 1 (.slice A18 b.length c19) b.length (b.map bv) :: vec 5 1 (.slice A14 a.length c15) a.length (a.map bv) :: row g6 #[.int .i64 ((newestF a b).1 : Int), .int .i64 ((newestF a b).2.1 : Int), .slice A3 (((newestF a b).2.2.1).length) c4, .int .i64 ((newestF a b).2.2.2 : Int)] 53 :: bytesX (.slice A3 ((newestF a b).2.2.1).length c4) ((newestF a b).2.2.1) :: L)) rfl (fun w182 S183 => ?_))
              refine wl_end _ rfl ?_
              refine then_n ?_
              refine wp_seq ?_
              refine wp_region_lit ?_
              refine pv (.slice A a.length ca) ?_
              refine pv (.slice B b.length cb) ?_
              refine pv (iv ((renewF a b no d).1 : Int)) ?_
              refine pv (.slice As 512 cs_) ?_
              refine wl_gv rfl (gv_call (args := #[.slice A a.length ca, .slice B b.length cb, .int .i64 ((renewF a b no d).1 : Int), .slice As 512 cs_]) rfl Try.func22 (by kernel_rfl) rfl rfl (by kernel_rfl) ?_)
              refine Calls.mono (pairOf1 (by omega)) ?_
              rintro _ _ ⟨rfl, rfl⟩
              refine ⟨_, rfl, ?_⟩
              refine pv (.tuple #[.slice A a.length ca, .slice As 512 cs_]) ?_
              refine pv (.slice A a.length ca) ?_
              refine pv (.slice As 512 cs_) ?_
              refine pv (.slice A a.length ca) ?_
              refine pv (.slice As 512 cs_) ?_
              refine wl_end _ rfl ?_
              refine then_n ?_
              refine wp_seq ?_
              refine wp_region_lit ?_
              refine pv (.slice A a.length ca) ?_
              refine pv (.slice As 512 cs_) ?_
              refine wl_gv rfl (gv_call (args := #[.slice A a.length ca, .slice As 512 cs_]) rfl Try.func23 (by kernel_rfl) rfl rfl (by kernel_rfl) ?_)
              refine Calls.mono (ask_all (a := a) (b := (renewF a b no d).2.1) S183 rfl hsl5.symm ha.more.more.more.more.more.more.more (RoT.bytesX 1 rfl rfl) (by omega) (by omega)) ?_
              rintro _ w184 ⟨A186, c187, rfl, S185⟩
              rw [hnew] at S185
              refine ⟨_, rfl, ?_⟩
              rw [hnew]
              have S188 : St F w0 w184 (bytesX (.slice A186 d.length c187) d :: row g178 #[.int .i64 ((renewF a b no d).1 : Int), .int .i64 no, .slice D d.length cd, .int .i64 0] 53 :: bytesX (.slice As 512 cs_) (renewF a b no d).2.1 :: vec 5 1 (.slice A22 d.length c23) d.length (d.map bv) :: vec 5 1 (.slice A18 b.length c19) b.length (b.map bv) :: vec 5 1 (.slice A14 a.length c15) a.length (a.map bv) :: row g6 #[.int .i64 ((newestF a b).1 : Int), .int .i64 ((newestF a b).2.1 : Int), .slice A3 (((newestF a b).2.2.1).length) c4, .int .i64 ((newestF a b).2.2.2 : Int)] 53 :: bytesX (.slice A3 ((newestF a b).2.2.1).length c4) ((newestF a b).2.2.1) :: L) := S185
              refine wl_gv rfl (gv_new (z := .agg #[.int .i64 0, .int .i64 0, .slice none 0 0, .int .i64 0]) S188 rfl (by kernel_rfl) (fun g189 w190 hg191 S192 => ?_))
              refine wl_gv rfl (gv_stA (k := 0) (vs := [.int .i64 ((renewF a b no d).1 : Int), .int .i64 ((no.toNat : Nat) : Int), .slice A186 d.length c187, .int .i64 0]) S192 0 rfl rfl (by kernel_rfl) (by kernel_rfl) (by kernel_rfl) rfl (by simp [Value.oneCell']) (Nat.le_of_ble_eq_true (by kernel_rfl)) (L' := (row g189 #[.int .i64 ((renewF a b no d).1 : Int), .int .i64 ((no.toNat : Nat) : Int), .slice A186 d.length c187, .int .i64 0] 53 :: bytesX (.slice A186 d.length c187) d :: row g178 #[.int .i64 ((renewF a b no d).1 : Int), .int .i64 no, .slice D d.length cd, .int .i64 0] 53 :: bytesX (.slice As 512 cs_) (renewF a b no d).2.1 :: vec 5 1 (.slice A22 d.length c23) d.length (d.map bv) :: vec 5 1 (.slice A18 b.length c19) b.length (b.map bv) :: vec 5 1 (.slice A14 a.length c15) a.length (a.map bv) :: row g6 #[.int .i64 ((newestF a b).1 : Int), .int .i64 ((newestF a b).2.1 : Int), .slice A3 (((newestF a b).2.2.1).length) c4, .int .i64 ((newestF a b).2.2.2 : Int)] 53 :: bytesX (.slice A3 ((newestF a b).2.2.1).length c4) ((newestF a b).2.2.1) :: L)) rfl (fun w193 S194 => ?_))
              refine wl_end _ rfl ?_
              refine then_n ?_
              refine wp_seq ?_
              refine wp_seq ?_
              refine wp_region_lit ?_
              refine wl_gv rfl (gv_ldA (k := 0) (n := 4) (vs := [.int .i64 ((renewF a b no d).1 : Int), .int .i64 ((no.toNat : Nat) : Int), .slice A186 d.length c187, .int .i64 0]) S194 0 rfl rfl (by kernel_rfl) (by kernel_rfl) rfl rfl ?_)
              refine wl_gv rfl (gv_ldA (k := 0) (n := 4) (vs := [.int .i64 ((renewF a b no d).1 : Int), .int .i64 no, .slice D d.length cd, .int .i64 0]) S194 2 rfl rfl (by kernel_rfl) (by kernel_rfl) rfl rfl ?_)
              refine wl_gv rfl (gv_call (args := #[.agg #[.int .i64 ((renewF a b no d).1 : Int), .int .i64 ((no.toNat : Nat) : Int), .slice A186 d.length c187, .int .i64 0], .agg #[.int .i64 ((renewF a b no d).1 : Int), .int .i64 no, .slice D d.length cd, .int .i64 0]]) rfl Try.func38 (by kernel_rfl) rfl rfl (by kernel_rfl) ?_)
              refine Calls.mono (alike_all (t := true) S194 rfl rfl (RoT.bytesX 1 rfl rfl) hd.more.more.more.more.more.more.more.more.more (by omega) (by omega) (decide_eq_true ⟨rfl, by omega, rfl, rfl⟩)) ?_
              rintro _ w195 ⟨rfl, S196⟩
              refine ⟨_, rfl, ?_⟩
              refine pv fv ?_
              refine wl_end _ rfl ?_
              refine then_n ?_
              refine wp_cond_false (by kernel_rfl) ?_
              refine wp_skip ?_
              refine then_n ?_
              refine wp_seq ?_
              refine wp_region_lit ?_
              refine pv (.slice A a.length ca) ?_
              refine pv (.slice A a.length ca) ?_
              refine wl_end _ rfl ?_
              refine then_n ?_
              refine wp_seq ?_
              refine wp_seq ?_
              refine wp_region_lit ?_
              refine pv (iv ((renewF a b no d).1 : Int)) ?_
              refine wl_gv rfl (gv_eq (x := ((renewF a b no d).1 : Int)) (y := 1) (by kernel_rfl) (fun _ => ?_) (fun hd197 => False.elim (by omega)))
              refine wl_end _ rfl ?_
              refine then_n ?_
              refine wp_cond_true (by kernel_rfl) ?_
              refine wp_region_lit ?_
              refine pv (.slice B b.length cb) ?_
              refine pv (.slice B b.length cb) ?_
              refine wl_end (fr [.slice A a.length ca, .slice B b.length cb, iv no, .slice D d.length cd, iv ((c : Nat) : Int), .bool back, ud, ud, ud, ud, ud, ud, fv, iv 0, .slice none 0 0, .slice none 0 0, pq g6, iv ((renewF a b no d).1 : Int), .slice As 512 cs_, iv ((renewF a b no d).2.2 : Int), tv, pq g178, .slice A a.length ca, .slice As 512 cs_, pq g189, .slice B b.length cb, ud, .slice A a.length ca, .slice B b.length cb, .agg #[iv ((newestF a b).1 : Int), iv ((newestF a b).2.1 : Int), .slice A3 (((newestF a b).2.2.1).length) c4, iv ((newestF a b).2.2.2 : Int)], .tuple #[iv ((renewF a b no d).1 : Int), .slice As 512 cs_, iv ((renewF a b no d).2.2 : Int)], .slice A a.length ca, .slice A14 a.length c15, .slice B b.length cb, .slice A18 b.length c19, iv no, .slice D d.length cd, .slice A22 d.length c23, .tuple #[iv ((renewF a b no d).1 : Int), .slice As 512 cs_, iv ((renewF a b no d).2.2 : Int)], iv ((renewF a b no d).1 : Int), .slice As 512 cs_, iv ((renewF a b no d).2.2 : Int), iv no, tv, tv, po g6 3, iv ((newestF a b).2.2.2 : Int), fv, fv, iv no, po g6 1, iv ((newestF a b).2.1 : Int), tv, tv, tv, iv ((renewF a b no d).2.2 : Int), iv ((renewF a b no d).2.2 : Int), fv, ud, ud, tv, fv, fv, .slice As 512 cs_, iv 512, fv, fv, fv, iv ((renewF a b no d).1 : Int), tv, tv, iv ((renewF a b no d).1 : Int), fv, fv, fv, fv, po g6 3, iv ((newestF a b).2.2.2 : Int), tv, tv, iv ((renewF a b no d).1 : Int), pq g6, iv ((newestF a b).1 : Int), fv, fv, fv, fv, po g6 3, iv ((newestF a b).2.2.2 : Int), fv, fv, ud, ud, fv, fv, iv ((renewF a b no d).1 : Int), iv no, .slice D d.length cd, .agg #[iv ((renewF a b no d).1 : Int), iv no, .slice D d.length cd, iv 0], .tuple #[.slice A a.length ca, .slice As 512 cs_], .slice A a.length ca, .slice B b.length cb, iv ((renewF a b no d).1 : Int), .slice As 512 cs_, .tuple #[.slice A a.length ca, .slice As 512 cs_], .slice A a.length ca, .slice As 512 cs_, .slice A a.length ca, .slice As 512 cs_, .agg #[iv ((renewF a b no d).1 : Int), iv ((no.toNat : Nat) : Int), .slice A186 d.length c187, iv 0], .agg #[iv ((renewF a b no d).1 : Int), iv ((no.toNat : Nat) : Int), .slice A186 d.length c187, iv 0], .agg #[iv ((renewF a b no d).1 : Int), iv no, .slice D d.length cd, iv 0], tv, fv, .slice A a.length ca, iv ((renewF a b no d).1 : Int), tv, .slice B b.length cb] 31) (by kernel_rfl) ?_
              refine then_n ?_
              refine wp_seq ?_
              refine wp_region_lit ?_
              refine pv (.slice B b.length cb) ?_
              refine pv (.slice As 512 cs_) ?_
              refine pv (iv ((c : Nat) : Int)) ?_
              refine wl_gv rfl (gv_call (args := #[.slice B b.length cb, .slice As 512 cs_, .int .i64 ((c : Nat) : Int)]) rfl Try.func39 (by kernel_rfl) rfl rfl (by kernel_rfl) ?_)
              refine Calls.mono (mix_all (a := b) (b := (renewF a b no d).2.1) S196 rfl hsl5.symm hb.more.more.more.more.more.more.more.more.more (RoT.bytesX 3 rfl rfl) (by omega) (by omega) hc) ?_
              rintro _ w198 ⟨A200, c201, rfl, S199⟩
              refine ⟨_, rfl, ?_⟩
              refine pv (.slice A200 512 c201) ?_
              refine wl_end _ rfl ?_
              refine then_n ?_
              refine wp_seq ?_
              refine wp_seq ?_
              refine wp_region_lit ?_
              refine pv (.bool back) ?_
              refine wl_end _ rfl ?_
              refine then_n ?_
              refine wp_cond_split (t := back) (by kernel_rfl) (fun hc202 => ?_) (fun hc202 => ?_)
              · skip
                refine wp_region_lit ?_
                refine pv (.slice As 512 cs_) ?_
                refine pv (.slice B b.length cb) ?_
                refine pv (iv ((c : Nat) : Int)) ?_
                refine wl_gv rfl (gv_call (args := #[.slice As 512 cs_, .slice B b.length cb, .int .i64 ((c : Nat) : Int)]) rfl Try.func39 (by kernel_rfl) rfl rfl (by kernel_rfl) ?_)
                refine Calls.mono (mix_all (a := (renewF a b no d).2.1) (b := b) S199 hsl5.symm rfl (RoT.bytesX 4 rfl rfl) hb.more.more.more.more.more.more.more.more.more.more (by omega) (by omega) hc) ?_
                rintro _ w203 ⟨A205, c206, rfl, S204⟩
                refine ⟨_, rfl, ?_⟩
                have S207 : St F w0 w203 (vec 5 1 (.slice A205 512 c206) 512 ((((renewF a b no d).2.1).take c ++ b.drop c).map bv) :: row g189 #[.int .i64 ((renewF a b no d).1 : Int), .int .i64 ((no.toNat : Nat) : Int), .slice A186 d.length c187, .int .i64 0] 53 :: bytesX (.slice A186 d.length c187) d :: row g178 #[.int .i64 ((renewF a b no d).1 : Int), .int .i64 no, .slice D d.length cd, .int .i64 0] 53 :: bytesX (.slice As 512 cs_) (renewF a b no d).2.1 :: vec 5 1 (.slice A22 d.length c23) d.length (d.map bv) :: vec 5 1 (.slice A18 b.length c19) b.length (b.map bv) :: vec 5 1 (.slice A14 a.length c15) a.length (a.map bv) :: row g6 #[.int .i64 ((newestF a b).1 : Int), .int .i64 ((newestF a b).2.1 : Int), .slice A3 (((newestF a b).2.2.1).length) c4, .int .i64 ((newestF a b).2.2.2 : Int)] 53 :: bytesX (.slice A3 ((newestF a b).2.2.1).length c4) ((newestF a b).2.2.1) :: L) := St.permT [vec 5 1 (.slice A205 512 c206) 512 ((((renewF a b no d).2.1).take c ++ b.drop c).map bv), vec 5 1 (.slice A200 512 c201) 512 ((b.take c ++ ((renewF a b no d).2.1).drop c).map bv), row g189 #[.int .i64 ((renewF a b no d).1 : Int), .int .i64 ((no.toNat : Nat) : Int), .slice A186 d.length c187, .int .i64 0] 53, bytesX (.slice A186 d.length c187) d, row g178 #[.int .i64 ((renewF a b no d).1 : Int), .int .i64 no, .slice D d.length cd, .int .i64 0] 53, bytesX (.slice As 512 cs_) (renewF a b no d).2.1, vec 5 1 (.slice A22 d.length c23) d.length (d.map bv), vec 5 1 (.slice A18 b.length c19) b.length (b.map bv), vec 5 1 (.slice A14 a.length c15) a.length (a.map bv), row g6 #[.int .i64 ((newestF a b).1 : Int), .int .i64 ((newestF a b).2.1 : Int), .slice A3 (((newestF a b).2.2.1).length) c4, .int .i64 ((newestF a b).2.2.2 : Int)] 53, bytesX (.slice A3 ((newestF a b).2.2.1).length c4) ((newestF a b).2.2.1)] [0, 2, 3, 4, 5, 6, 7, 8, 9, 10] (by decide) rfl S204
                refine pv (.slice A205 512 c206) ?_
                refine wl_end _ rfl ?_
                refine then_n ?_
                refine wp_seq ?_
                refine wp_region_lit ?_
                have hmx : (((renewF a b no d).2.1).take c ++ b.drop c) = (if (renewF a b no d).1 = 1 then b else a) ∨ (((renewF a b no d).2.1).take c ++ b.drop c) = (renewF a b no d).2.1 ∨ openF (((renewF a b no d).2.1).take c ++ b.drop c) = ([], 30) := by have := hR.mix c hc; simp only [hold] at this ⊢; exact this.2
                have hm5 : (((renewF a b no d).2.1).take c ++ b.drop c).length = 512 := by rw [List.length_append, List.length_take, List.length_drop]; omega
                have hto : newestF a (((renewF a b no d).2.1).take c ++ b.drop c) = ((renewF a b no d).1, no.toNat, d, 0) ∨ newestF a (((renewF a b no d).2.1).take c ++ b.drop c) = newestF a b := by have := hR.torn _ hmx hm5; rw [show putIn a b (renewF a b no d).1 (((renewF a b no d).2.1).take c ++ b.drop c) = (a, (((renewF a b no d).2.1).take c ++ b.drop c)) from by unfold putIn; rw [if_neg (by omega)]] at this; exact this
                have hgl : (newestF a (((renewF a b no d).2.1).take c ++ b.drop c)).2.2.1.length ≤ 504 := newest_len _ _ (by omega) (by omega)
                refine pv (.slice A a.length ca) ?_
                refine pv (.slice B b.length cb) ?_
                refine pv (iv ((renewF a b no d).1 : Int)) ?_
                refine pv (.slice A205 512 c206) ?_
                refine wl_gv rfl (gv_call (args := #[.slice A a.length ca, .slice B b.length cb, .int .i64 ((renewF a b no d).1 : Int), .slice A205 512 c206]) rfl Try.func22 (by kernel_rfl) rfl rfl (by kernel_rfl) ?_)
                refine Calls.mono (pairOf1 (by omega)) ?_
                rintro _ _ ⟨rfl, rfl⟩
                refine ⟨_, rfl, ?_⟩
                refine pv (.tuple #[.slice A a.length ca, .slice A205 512 c206]) ?_
                refine pv (.slice A a.length ca) ?_
                refine pv (.slice A205 512 c206) ?_
                refine pv (.slice A a.length ca) ?_
                refine pv (.slice A205 512 c206) ?_
                refine wl_end _ rfl ?_
                refine then_n ?_
                refine wp_seq ?_
                refine wp_region_lit ?_
                refine pv (.slice A a.length ca) ?_
                refine pv (.slice A205 512 c206) ?_
                refine wl_gv rfl (gv_call (args := #[.slice A a.length ca, .slice A205 512 c206]) rfl Try.func23 (by kernel_rfl) rfl rfl (by kernel_rfl) ?_)
                refine Calls.mono (ask_all (a := a) (b := ((renewF a b no d).2.1).take c ++ b.drop c) S207 rfl hm5.symm ha.more.more.more.more.more.more.more.more.more.more (RoT.ofVec 0 rfl) (by omega) (by omega)) ?_
                rintro _ w208 ⟨A210, c211, rfl, S209⟩
                refine ⟨_, rfl, ?_⟩
                have S212 : St F w0 w208 (bytesX (.slice A210 ((newestF a (((renewF a b no d).2.1).take c ++ b.drop c)).2.2.1).length c211) ((newestF a (((renewF a b no d).2.1).take c ++ b.drop c)).2.2.1) :: vec 5 1 (.slice A205 512 c206) 512 ((((renewF a b no d).2.1).take c ++ b.drop c).map bv) :: row g189 #[.int .i64 ((renewF a b no d).1 : Int), .int .i64 ((no.toNat : Nat) : Int), .slice A186 d.length c187, .int .i64 0] 53 :: bytesX (.slice A186 d.length c187) d :: row g178 #[.int .i64 ((renewF a b no d).1 : Int), .int .i64 no, .slice D d.length cd, .int .i64 0] 53 :: bytesX (.slice As 512 cs_) (renewF a b no d).2.1 :: vec 5 1 (.slice A22 d.length c23) d.length (d.map bv) :: vec 5 1 (.slice A18 b.length c19) b.length (b.map bv) :: vec 5 1 (.slice A14 a.length c15) a.length (a.map bv) :: row g6 #[.int .i64 ((newestF a b).1 : Int), .int .i64 ((newestF a b).2.1 : Int), .slice A3 (((newestF a b).2.2.1).length) c4, .int .i64 ((newestF a b).2.2.2 : Int)] 53 :: bytesX (.slice A3 ((newestF a b).2.2.1).length c4) ((newestF a b).2.2.1) :: L) := S209
                refine wl_gv rfl (gv_stA (k := 0) (vs := [.int .i64 ((newestF a (((renewF a b no d).2.1).take c ++ b.drop c)).1 : Int), .int .i64 ((newestF a (((renewF a b no d).2.1).take c ++ b.drop c)).2.1 : Int), .slice A210 (((newestF a (((renewF a b no d).2.1).take c ++ b.drop c)).2.2.1).length) c211, .int .i64 ((newestF a (((renewF a b no d).2.1).take c ++ b.drop c)).2.2.2 : Int)]) S212 2 rfl rfl (by kernel_rfl) (by kernel_rfl) (by kernel_rfl) rfl (by simp [Value.oneCell']) (Nat.le_of_ble_eq_true (by kernel_rfl)) (L' := (bytesX (.slice A210 ((newestF a (((renewF a b no d).2.1).take c ++ b.drop c)).2.2.1).length c211) ((newestF a (((renewF a b no d).2.1).take c ++ b.drop c)).2.2.1) :: vec 5 1 (.slice A205 512 c206) 512 ((((renewF a b no d).2.1).take c ++ b.drop c).map bv) :: row g189 #[.int .i64 ((newestF a (((renewF a b no d).2.1).take c ++ b.drop c)).1 : Int), .int .i64 ((newestF a (((renewF a b no d).2.1).take c ++ b.drop c)).2.1 : Int), .slice A210 (((newestF a (((renewF a b no d).2.1).take c ++ b.drop c)).2.2.1).length) c211, .int .i64 ((newestF a (((renewF a b no d).2.1).take c ++ b.drop c)).2.2.2 : Int)] 53 :: bytesX (.slice A186 d.length c187) d :: row g178 #[.int .i64 ((renewF a b no d).1 : Int), .int .i64 no, .slice D d.length cd, .int .i64 0] 53 :: bytesX (.slice As 512 cs_) (renewF a b no d).2.1 :: vec 5 1 (.slice A22 d.length c23) d.length (d.map bv) :: vec 5 1 (.slice A18 b.length c19) b.length (b.map bv) :: vec 5 1 (.slice A14 a.length c15) a.length (a.map bv) :: row g6 #[.int .i64 ((newestF a b).1 : Int), .int .i64 ((newestF a b).2.1 : Int), .slice A3 (((newestF a b).2.2.1).length) c4, .int .i64 ((newestF a b).2.2.2 : Int)] 53 :: bytesX (.slice A3 ((newestF a b).2.2.1).length c4) ((newestF a b).2.2.1) :: L)) rfl (fun w213 S214 => ?_))
                refine wl_end _ rfl ?_
                refine then_n ?_
                refine wp_seq ?_
                refine wp_region_lit ?_
                refine wl_gv rfl (gv_ldA (k := 0) (n := 4) (vs := [.int .i64 ((newestF a (((renewF a b no d).2.1).take c ++ b.drop c)).1 : Int), .int .i64 ((newestF a (((renewF a b no d).2.1).take c ++ b.drop c)).2.1 : Int), .slice A210 (((newestF a (((renewF a b no d).2.1).take c ++ b.drop c)).2.2.1).length) c211, .int .i64 ((newestF a (((renewF a b no d).2.1).take c ++ b.drop c)).2.2.2 : Int)]) S214 2 rfl rfl (by kernel_rfl) (by kernel_rfl) rfl rfl ?_)
                refine wl_gv rfl (gv_ldA (k := 0) (n := 4) (vs := [.int .i64 ((renewF a b no d).1 : Int), .int .i64 no, .slice D d.length cd, .int .i64 0]) S214 4 rfl rfl (by kernel_rfl) (by kernel_rfl) rfl rfl ?_)
                refine wl_gv rfl (gv_call (args := #[.agg #[.int .i64 ((newestF a (((renewF a b no d).2.1).take c ++ b.drop c)).1 : Int), .int .i64 ((newestF a (((renewF a b no d).2.1).take c ++ b.drop c)).2.1 : Int), .slice A210 (((newestF a (((renewF a b no d).2.1).take c ++ b.drop c)).2.2.1).length) c211, .int .i64 ((newestF a (((renewF a b no d).2.1).take c ++ b.drop c)).2.2.2 : Int)], .agg #[.int .i64 ((renewF a b no d).1 : Int), .int .i64 no, .slice D d.length cd, .int .i64 0]]) rfl Try.func38 (by kernel_rfl) rfl rfl (by kernel_rfl) ?_)
                by_cases hal : (((newestF a (((renewF a b no d).2.1).take c ++ b.drop c)).1 : Int) = ((renewF a b no d).1 : Int) ∧ ((newestF a (((renewF a b no d).2.1).take c ++ b.drop c)).2.1 : Int) = no ∧ ((newestF a (((renewF a b no d).2.1).take c ++ b.drop c)).2.2.2 : Int) = 0 ∧ (newestF a (((renewF a b no d).2.1).take c ++ b.drop c)).2.2.1 = d)
                · skip
                  refine Calls.mono (alike_all (t := true) S214 rfl rfl (RoT.bytesX 0 rfl rfl) hd.more.more.more.more.more.more.more.more.more.more.more (by omega) (by omega) (decide_eq_true hal)) ?_
                  rintro _ w215 ⟨rfl, S216⟩
                  refine ⟨_, rfl, ?_⟩
                  refine pv tv ?_
                  refine wl_not (by kernel_rfl) ?_
                  refine wl_not (by kernel_rfl) ?_
                  refine wl_not (by kernel_rfl) ?_
                  refine pv tv ?_
                  refine pv (iv ((renewF a b no d).1 : Int)) ?_
                  refine pv (.slice As 512 cs_) ?_
                  refine pv (.slice A205 512 c206) ?_
                  refine pv tv ?_
                  refine pv (iv ((renewF a b no d).1 : Int)) ?_
                  refine pv (.slice As 512 cs_) ?_
                  refine pv (.slice A205 512 c206) ?_
                  refine wl_end (fr [.slice A a.length ca, .slice B b.length cb, iv no, .slice D d.length cd, iv ((c : Nat) : Int), .bool back, ud, ud, ud, ud, ud, ud, tv, iv ((renewF a b no d).1 : Int), .slice As 512 cs_, .slice A205 512 c206, pq g6, iv ((renewF a b no d).1 : Int), .slice As 512 cs_, iv ((renewF a b no d).2.2 : Int), tv, pq g178, .slice A a.length ca, .slice A205 512 c206, pq g189, .slice B b.length cb, .slice A205 512 c206, .slice A a.length ca, .slice B b.length cb, .agg #[iv ((newestF a b).1 : Int), iv ((newestF a b).2.1 : Int), .slice A3 (((newestF a b).2.2.1).length) c4, iv ((newestF a b).2.2.2 : Int)], .tuple #[iv ((renewF a b no d).1 : Int), .slice As 512 cs_, iv ((renewF a b no d).2.2 : Int)], .slice A a.length ca, .slice A14 a.length c15, .slice B b.length cb, .slice A18 b.length c19, iv no, .slice D d.length cd, .slice A22 d.length c23, .tuple #[iv ((renewF a b no d).1 : Int), .slice As 512 cs_, iv ((renewF a b no d).2.2 : Int)], iv ((renewF a b no d).1 : Int), .slice As 512 cs_, iv ((renewF a b no d).2.2 : Int), iv no, tv, tv, po g6 3, iv ((newestF a b).2.2.2 : Int), fv, fv, iv no, po g6 1, iv ((newestF a b).2.1 : Int), tv, tv, tv, iv ((renewF a b no d).2.2 : Int), iv ((renewF a b no d).2.2 : Int), fv, ud, ud, tv, fv, fv, .slice As 512 cs_, iv 512, fv, fv, fv, iv ((renewF a b no d).1 : Int), tv, tv, iv ((renewF a b no d).1 : Int), fv, fv, fv, fv, po g6 3, iv ((newestF a b).2.2.2 : Int), tv, tv, iv ((renewF a b no d).1 : Int), pq g6, iv ((newestF a b).1 : Int), fv, fv, fv, fv, po g6 3, iv ((newestF a b).2.2.2 : Int), fv, fv, ud, ud, fv, fv, iv ((renewF a b no d).1 : Int), iv no, .slice D d.length cd, .agg #[iv ((renewF a b no d).1 : Int), iv no, .slice D d.length cd, iv 0], .tuple #[.slice A a.length ca, .slice As 512 cs_], .slice A a.length ca, .slice B b.length cb, iv ((renewF a b no d).1 : Int), .slice As 512 cs_, .tuple #[.slice A a.length ca, .slice As 512 cs_], .slice A a.length ca, .slice As 512 cs_, .slice A a.length ca, .slice As 512 cs_, .agg #[iv ((renewF a b no d).1 : Int), iv ((no.toNat : Nat) : Int), .slice A186 d.length c187, iv 0], .agg #[iv ((renewF a b no d).1 : Int), iv ((no.toNat : Nat) : Int), .slice A186 d.length c187, iv 0], .agg #[iv ((renewF a b no d).1 : Int), iv no, .slice D d.length cd, iv 0], tv, fv, .slice A a.length ca, iv ((renewF a b no d).1 : Int), tv, .slice B b.length cb, .slice B b.length cb, .slice As 512 cs_, iv ((c : Nat) : Int), .slice A200 512 c201, .bool back, .slice As 512 cs_, .slice B b.length cb, iv ((c : Nat) : Int), .slice A205 512 c206, .tuple #[.slice A a.length ca, .slice A205 512 c206], .slice A a.length ca, .slice B b.length cb, iv ((renewF a b no d).1 : Int), .slice A205 512 c206, .tuple #[.slice A a.length ca, .slice A205 512 c206], .slice A a.length ca, .slice A205 512 c206, .slice A a.length ca, .slice A205 512 c206, .agg #[iv ((newestF a (((renewF a b no d).2.1).take c ++ b.drop c)).1 : Int), iv ((newestF a (((renewF a b no d).2.1).take c ++ b.drop c)).2.1 : Int), .slice A210 (((newestF a (((renewF a b no d).2.1).take c ++ b.drop c)).2.2.1).length) c211, iv ((newestF a (((renewF a b no d).2.1).take c ++ b.drop c)).2.2.2 : Int)], .agg #[iv ((newestF a (((renewF a b no d).2.1).take c ++ b.drop c)).1 : Int), iv ((newestF a (((renewF a b no d).2.1).take c ++ b.drop c)).2.1 : Int), .slice A210 (((newestF a (((renewF a b no d).2.1).take c ++ b.drop c)).2.2.1).length) c211, iv ((newestF a (((renewF a b no d).2.1).take c ++ b.drop c)).2.2.2 : Int)], .agg #[iv ((renewF a b no d).1 : Int), iv no, .slice D d.length cd, iv 0], tv, tv, ud, ud, ud, tv, iv ((renewF a b no d).1 : Int), .slice As 512 cs_, .slice A205 512 c206] 0) (by kernel_rfl) ?_
                  refine then_n ?_
                  refine wp_ret ?_
                  refine bodyPost_ret (v := .tuple #[.bool true, .int .i64 ((renewF a b no d).1 : Int), .slice As 512 cs_, .slice A205 512 c206]) (Go.Proofs.results_tmp4 rfl _ _ (by kernel_rfl) (by kernel_rfl) (by kernel_rfl) (by kernel_rfl)) rfl ?_
                  have S217 : St F w0 w215 (vec 5 1 (.slice A205 512 c206) 512 ((((renewF a b no d).2.1).take c ++ b.drop c).map bv) :: bytesX (.slice As 512 cs_) (renewF a b no d).2.1 :: L) := St.permT [bytesX (.slice A210 ((newestF a (((renewF a b no d).2.1).take c ++ b.drop c)).2.2.1).length c211) ((newestF a (((renewF a b no d).2.1).take c ++ b.drop c)).2.2.1), vec 5 1 (.slice A205 512 c206) 512 ((((renewF a b no d).2.1).take c ++ b.drop c).map bv), row g189 #[.int .i64 ((newestF a (((renewF a b no d).2.1).take c ++ b.drop c)).1 : Int), .int .i64 ((newestF a (((renewF a b no d).2.1).take c ++ b.drop c)).2.1 : Int), .slice A210 (((newestF a (((renewF a b no d).2.1).take c ++ b.drop c)).2.2.1).length) c211, .int .i64 ((newestF a (((renewF a b no d).2.1).take c ++ b.drop c)).2.2.2 : Int)] 53, bytesX (.slice A186 d.length c187) d, row g178 #[.int .i64 ((renewF a b no d).1 : Int), .int .i64 no, .slice D d.length cd, .int .i64 0] 53, bytesX (.slice As 512 cs_) (renewF a b no d).2.1, vec 5 1 (.slice A22 d.length c23) d.length (d.map bv), vec 5 1 (.slice A18 b.length c19) b.length (b.map bv), vec 5 1 (.slice A14 a.length c15) a.length (a.map bv), row g6 #[.int .i64 ((newestF a b).1 : Int), .int .i64 ((newestF a b).2.1 : Int), .slice A3 (((newestF a b).2.2.1).length) c4, .int .i64 ((newestF a b).2.2.2 : Int)] 53, bytesX (.slice A3 ((newestF a b).2.2.1).length c4) ((newestF a b).2.2.1)] [1, 5] (by decide) rfl S216
                  exact .inr ⟨As, A205, cs_, c206, ((renewF a b no d).2.1).take c ++ b.drop c, rfl, hgood, hR, hmx, hm5, S217⟩
                · skip
                  have hto2 := hto.resolve_left (fun h => hal (by rw [h]; exact ⟨rfl, by show ((no.toNat : Nat) : Int) = no; omega, rfl, rfl⟩))
                  refine Calls.mono (alike_all (t := false) S214 rfl rfl (RoT.bytesX 0 rfl rfl) hd.more.more.more.more.more.more.more.more.more.more.more (by omega) (by omega) (decide_eq_false hal)) ?_
                  rintro _ w218 ⟨rfl, S219⟩
                  refine ⟨_, rfl, ?_⟩
                  refine pv fv ?_
                  refine wl_when (by kernel_rfl) (gv_ldA (k := 0) (n := 4) (vs := [.int .i64 ((newestF a (((renewF a b no d).2.1).take c ++ b.drop c)).1 : Int), .int .i64 ((newestF a (((renewF a b no d).2.1).take c ++ b.drop c)).2.1 : Int), .slice A210 (((newestF a (((renewF a b no d).2.1).take c ++ b.drop c)).2.2.1).length) c211, .int .i64 ((newestF a (((renewF a b no d).2.1).take c ++ b.drop c)).2.2.2 : Int)]) S219 2 rfl rfl (by kernel_rfl) (by kernel_rfl) rfl rfl ?_)
                  refine wl_when (by kernel_rfl) (gv_ldA (k := 0) (n := 4) (vs := [.int .i64 ((newestF a b).1 : Int), .int .i64 ((newestF a b).2.1 : Int), .slice A3 (((newestF a b).2.2.1).length) c4, .int .i64 ((newestF a b).2.2.2 : Int)]) S219 9 rfl rfl (by kernel_rfl) (by kernel_rfl) rfl rfl ?_)
                  refine wl_when (by kernel_rfl) (gv_call (args := #[.agg #[.int .i64 ((newestF a (((renewF a b no d).2.1).take c ++ b.drop c)).1 : Int), .int .i64 ((newestF a (((renewF a b no d).2.1).take c ++ b.drop c)).2.1 : Int), .slice A210 (((newestF a (((renewF a b no d).2.1).take c ++ b.drop c)).2.2.1).length) c211, .int .i64 ((newestF a (((renewF a b no d).2.1).take c ++ b.drop c)).2.2.2 : Int)], .agg #[.int .i64 ((newestF a b).1 : Int), .int .i64 ((newestF a b).2.1 : Int), .slice A3 (((newestF a b).2.2.1).length) c4, .int .i64 ((newestF a b).2.2.2 : Int)]]) rfl Try.func38 (by kernel_rfl) rfl rfl (by kernel_rfl) ?_)
                  refine Calls.mono (alike_all (t := true) S219 rfl rfl (RoT.bytesX 0 rfl rfl) (RoT.bytesX 10 rfl rfl) (by omega) (by omega) (by rw [hto2]; exact decide_eq_true ⟨rfl, rfl, rfl, rfl⟩)) ?_
                  rintro _ w220 ⟨rfl, S221⟩
                  refine ⟨_, rfl, ?_⟩
                  refine pv tv ?_
                  refine pv (iv ((renewF a b no d).1 : Int)) ?_
                  refine pv (.slice As 512 cs_) ?_
                  refine pv (.slice A205 512 c206) ?_
                  refine pv tv ?_
                  refine pv (iv ((renewF a b no d).1 : Int)) ?_
                  refine pv (.slice As 512 cs_) ?_
                  refine pv (.slice A205 512 c206) ?_
                  refine wl_end (fr [.slice A a.length ca, .slice B b.length cb, iv no, .slice D d.length cd, iv ((c : Nat) : Int), .bool back, ud, ud, ud, ud, ud, ud, tv, iv ((renewF a b no d).1 : Int), .slice As 512 cs_, .slice A205 512 c206, pq g6, iv ((renewF a b no d).1 : Int), .slice As 512 cs_, iv ((renewF a b no d).2.2 : Int), tv, pq g178, .slice A a.length ca, .slice A205 512 c206, pq g189, .slice B b.length cb, .slice A205 512 c206, .slice A a.length ca, .slice B b.length cb, .agg #[iv ((newestF a b).1 : Int), iv ((newestF a b).2.1 : Int), .slice A3 (((newestF a b).2.2.1).length) c4, iv ((newestF a b).2.2.2 : Int)], .tuple #[iv ((renewF a b no d).1 : Int), .slice As 512 cs_, iv ((renewF a b no d).2.2 : Int)], .slice A a.length ca, .slice A14 a.length c15, .slice B b.length cb, .slice A18 b.length c19, iv no, .slice D d.length cd, .slice A22 d.length c23, .tuple #[iv ((renewF a b no d).1 : Int), .slice As 512 cs_, iv ((renewF a b no d).2.2 : Int)], iv ((renewF a b no d).1 : Int), .slice As 512 cs_, iv ((renewF a b no d).2.2 : Int), iv no, tv, tv, po g6 3, iv ((newestF a b).2.2.2 : Int), fv, fv, iv no, po g6 1, iv ((newestF a b).2.1 : Int), tv, tv, tv, iv ((renewF a b no d).2.2 : Int), iv ((renewF a b no d).2.2 : Int), fv, ud, ud, tv, fv, fv, .slice As 512 cs_, iv 512, fv, fv, fv, iv ((renewF a b no d).1 : Int), tv, tv, iv ((renewF a b no d).1 : Int), fv, fv, fv, fv, po g6 3, iv ((newestF a b).2.2.2 : Int), tv, tv, iv ((renewF a b no d).1 : Int), pq g6, iv ((newestF a b).1 : Int), fv, fv, fv, fv, po g6 3, iv ((newestF a b).2.2.2 : Int), fv, fv, ud, ud, fv, fv, iv ((renewF a b no d).1 : Int), iv no, .slice D d.length cd, .agg #[iv ((renewF a b no d).1 : Int), iv no, .slice D d.length cd, iv 0], .tuple #[.slice A a.length ca, .slice As 512 cs_], .slice A a.length ca, .slice B b.length cb, iv ((renewF a b no d).1 : Int), .slice As 512 cs_, .tuple #[.slice A a.length ca, .slice As 512 cs_], .slice A a.length ca, .slice As 512 cs_, .slice A a.length ca, .slice As 512 cs_, .agg #[iv ((renewF a b no d).1 : Int), iv ((no.toNat : Nat) : Int), .slice A186 d.length c187, iv 0], .agg #[iv ((renewF a b no d).1 : Int), iv ((no.toNat : Nat) : Int), .slice A186 d.length c187, iv 0], .agg #[iv ((renewF a b no d).1 : Int), iv no, .slice D d.length cd, iv 0], tv, fv, .slice A a.length ca, iv ((renewF a b no d).1 : Int), tv, .slice B b.length cb, .slice B b.length cb, .slice As 512 cs_, iv ((c : Nat) : Int), .slice A200 512 c201, .bool back, .slice As 512 cs_, .slice B b.length cb, iv ((c : Nat) : Int), .slice A205 512 c206, .tuple #[.slice A a.length ca, .slice A205 512 c206], .slice A a.length ca, .slice B b.length cb, iv ((renewF a b no d).1 : Int), .slice A205 512 c206, .tuple #[.slice A a.length ca, .slice A205 512 c206], .slice A a.length ca, .slice A205 512 c206, .slice A a.length ca, .slice A205 512 c206, .agg #[iv ((newestF a (((renewF a b no d).2.1).take c ++ b.drop c)).1 : Int), iv ((newestF a (((renewF a b no d).2.1).take c ++ b.drop c)).2.1 : Int), .slice A210 (((newestF a (((renewF a b no d).2.1).take c ++ b.drop c)).2.2.1).length) c211, iv ((newestF a (((renewF a b no d).2.1).take c ++ b.drop c)).2.2.2 : Int)], .agg #[iv ((newestF a (((renewF a b no d).2.1).take c ++ b.drop c)).1 : Int), iv ((newestF a (((renewF a b no d).2.1).take c ++ b.drop c)).2.1 : Int), .slice A210 (((newestF a (((renewF a b no d).2.1).take c ++ b.drop c)).2.2.1).length) c211, iv ((newestF a (((renewF a b no d).2.1).take c ++ b.drop c)).2.2.2 : Int)], .agg #[iv ((renewF a b no d).1 : Int), iv no, .slice D d.length cd, iv 0], fv, fv, .agg #[iv ((newestF a (((renewF a b no d).2.1).take c ++ b.drop c)).1 : Int), iv ((newestF a (((renewF a b no d).2.1).take c ++ b.drop c)).2.1 : Int), .slice A210 (((newestF a (((renewF a b no d).2.1).take c ++ b.drop c)).2.2.1).length) c211, iv ((newestF a (((renewF a b no d).2.1).take c ++ b.drop c)).2.2.2 : Int)], .agg #[iv ((newestF a b).1 : Int), iv ((newestF a b).2.1 : Int), .slice A3 (((newestF a b).2.2.1).length) c4, iv ((newestF a b).2.2.2 : Int)], tv, tv, iv ((renewF a b no d).1 : Int), .slice As 512 cs_, .slice A205 512 c206] 0) (by kernel_rfl) ?_
                  refine then_n ?_
                  refine wp_ret ?_
                  refine bodyPost_ret (v := .tuple #[.bool true, .int .i64 ((renewF a b no d).1 : Int), .slice As 512 cs_, .slice A205 512 c206]) (Go.Proofs.results_tmp4 rfl _ _ (by kernel_rfl) (by kernel_rfl) (by kernel_rfl) (by kernel_rfl)) rfl ?_
                  have S222 : St F w0 w220 (vec 5 1 (.slice A205 512 c206) 512 ((((renewF a b no d).2.1).take c ++ b.drop c).map bv) :: bytesX (.slice As 512 cs_) (renewF a b no d).2.1 :: L) := St.permT [bytesX (.slice A210 ((newestF a (((renewF a b no d).2.1).take c ++ b.drop c)).2.2.1).length c211) ((newestF a (((renewF a b no d).2.1).take c ++ b.drop c)).2.2.1), vec 5 1 (.slice A205 512 c206) 512 ((((renewF a b no d).2.1).take c ++ b.drop c).map bv), row g189 #[.int .i64 ((newestF a (((renewF a b no d).2.1).take c ++ b.drop c)).1 : Int), .int .i64 ((newestF a (((renewF a b no d).2.1).take c ++ b.drop c)).2.1 : Int), .slice A210 (((newestF a (((renewF a b no d).2.1).take c ++ b.drop c)).2.2.1).length) c211, .int .i64 ((newestF a (((renewF a b no d).2.1).take c ++ b.drop c)).2.2.2 : Int)] 53, bytesX (.slice A186 d.length c187) d, row g178 #[.int .i64 ((renewF a b no d).1 : Int), .int .i64 no, .slice D d.length cd, .int .i64 0] 53, bytesX (.slice As 512 cs_) (renewF a b no d).2.1, vec 5 1 (.slice A22 d.length c23) d.length (d.map bv), vec 5 1 (.slice A18 b.length c19) b.length (b.map bv), vec 5 1 (.slice A14 a.length c15) a.length (a.map bv), row g6 #[.int .i64 ((newestF a b).1 : Int), .int .i64 ((newestF a b).2.1 : Int), .slice A3 (((newestF a b).2.2.1).length) c4, .int .i64 ((newestF a b).2.2.2 : Int)] 53, bytesX (.slice A3 ((newestF a b).2.2.1).length c4) ((newestF a b).2.2.1)] [1, 5] (by decide) rfl S221
                  exact .inr ⟨As, A205, cs_, c206, ((renewF a b no d).2.1).take c ++ b.drop c, rfl, hgood, hR, hmx, hm5, S222⟩
              · skip
                refine wp_skip ?_
                refine then_n ?_
                refine wp_seq ?_
                refine wp_region_lit ?_
                have hmx : (b.take c ++ ((renewF a b no d).2.1).drop c) = (if (renewF a b no d).1 = 1 then b else a) ∨ (b.take c ++ ((renewF a b no d).2.1).drop c) = (renewF a b no d).2.1 ∨ openF (b.take c ++ ((renewF a b no d).2.1).drop c) = ([], 30) := by have := hR.mix c hc; simp only [hold] at this ⊢; exact this.1
                have hm5 : (b.take c ++ ((renewF a b no d).2.1).drop c).length = 512 := by rw [List.length_append, List.length_take, List.length_drop]; omega
                have hto : newestF a (b.take c ++ ((renewF a b no d).2.1).drop c) = ((renewF a b no d).1, no.toNat, d, 0) ∨ newestF a (b.take c ++ ((renewF a b no d).2.1).drop c) = newestF a b := by have := hR.torn _ hmx hm5; rw [show putIn a b (renewF a b no d).1 (b.take c ++ ((renewF a b no d).2.1).drop c) = (a, (b.take c ++ ((renewF a b no d).2.1).drop c)) from by unfold putIn; rw [if_neg (by omega)]] at this; exact this
                have hgl : (newestF a (b.take c ++ ((renewF a b no d).2.1).drop c)).2.2.1.length ≤ 504 := newest_len _ _ (by omega) (by omega)
                refine pv (.slice A a.length ca) ?_
                refine pv (.slice B b.length cb) ?_
                refine pv (iv ((renewF a b no d).1 : Int)) ?_
                refine pv (.slice A200 512 c201) ?_
                refine wl_gv rfl (gv_call (args := #[.slice A a.length ca, .slice B b.length cb, .int .i64 ((renewF a b no d).1 : Int), .slice A200 512 c201]) rfl Try.func22 (by kernel_rfl) rfl rfl (by kernel_rfl) ?_)
                refine Calls.mono (pairOf1 (by omega)) ?_
                rintro _ _ ⟨rfl, rfl⟩
                refine ⟨_, rfl, ?_⟩
                refine pv (.tuple #[.slice A a.length ca, .slice A200 512 c201]) ?_
                refine pv (.slice A a.length ca) ?_
                refine pv (.slice A200 512 c201) ?_
                refine pv (.slice A a.length ca) ?_
                refine pv (.slice A200 512 c201) ?_
                refine wl_end _ rfl ?_
                refine then_n ?_
                refine wp_seq ?_
                refine wp_region_lit ?_
                refine pv (.slice A a.length ca) ?_
                refine pv (.slice A200 512 c201) ?_
                refine wl_gv rfl (gv_call (args := #[.slice A a.length ca, .slice A200 512 c201]) rfl Try.func23 (by kernel_rfl) rfl rfl (by kernel_rfl) ?_)
                refine Calls.mono (ask_all (a := a) (b := b.take c ++ ((renewF a b no d).2.1).drop c) S199 rfl hm5.symm ha.more.more.more.more.more.more.more.more.more.more (RoT.ofVec 0 rfl) (by omega) (by omega)) ?_
                rintro _ w223 ⟨A225, c226, rfl, S224⟩
                refine ⟨_, rfl, ?_⟩
                have S227 : St F w0 w223 (bytesX (.slice A225 ((newestF a (b.take c ++ ((renewF a b no d).2.1).drop c)).2.2.1).length c226) ((newestF a (b.take c ++ ((renewF a b no d).2.1).drop c)).2.2.1) :: vec 5 1 (.slice A200 512 c201) 512 ((b.take c ++ ((renewF a b no d).2.1).drop c).map bv) :: row g189 #[.int .i64 ((renewF a b no d).1 : Int), .int .i64 ((no.toNat : Nat) : Int), .slice A186 d.length c187, .int .i64 0] 53 :: bytesX (.slice A186 d.length c187) d :: row g178 #[.int .i64 ((renewF a b no d).1 : Int), .int .i64 no, .slice D d.length cd, .int .i64 0] 53 :: bytesX (.slice As 512 cs_) (renewF a b no d).2.1 :: vec 5 1 (.slice A22 d.length c23) d.length (d.map bv) :: vec 5 1 (.slice A18 b.length c19) b.length (b.map bv) :: vec 5 1 (.slice A14 a.length c15) a.length (a.map bv) :: row g6 #[.int .i64 ((newestF a b).1 : Int), .int .i64 ((newestF a b).2.1 : Int), .slice A3 (((newestF a b).2.2.1).length) c4, .int .i64 ((newestF a b).2.2.2 : Int)] 53 :: bytesX (.slice A3 ((newestF a b).2.2.1).length c4) ((newestF a b).2.2.1) :: L) := S224
                refine wl_gv rfl (gv_stA (k := 0) (vs := [.int .i64 ((newestF a (b.take c ++ ((renewF a b no d).2.1).drop c)).1 : Int), .int .i64 ((newestF a (b.take c ++ ((renewF a b no d).2.1).drop c)).2.1 : Int), .slice A225 (((newestF a (b.take c ++ ((renewF a b no d).2.1).drop c)).2.2.1).length) c226, .int .i64 ((newestF a (b.take c ++ ((renewF a b no d).2.1).drop c)).2.2.2 : Int)]) S227 2 rfl rfl (by kernel_rfl) (by kernel_rfl) (by kernel_rfl) rfl (by simp [Value.oneCell']) (Nat.le_of_ble_eq_true (by kernel_rfl)) (L' := (bytesX (.slice A225 ((newestF a (b.take c ++ ((renewF a b no d).2.1).drop c)).2.2.1).length c226) ((newestF a (b.take c ++ ((renewF a b no d).2.1).drop c)).2.2.1) :: vec 5 1 (.slice A200 512 c201) 512 ((b.take c ++ ((renewF a b no d).2.1).drop c).map bv) :: row g189 #[.int .i64 ((newestF a (b.take c ++ ((renewF a b no d).2.1).drop c)).1 : Int), .int .i64 ((newestF a (b.take c ++ ((renewF a b no d).2.1).drop c)).2.1 : Int), .slice A225 (((newestF a (b.take c ++ ((renewF a b no d).2.1).drop c)).2.2.1).length) c226, .int .i64 ((newestF a (b.take c ++ ((renewF a b no d).2.1).drop c)).2.2.2 : Int)] 53 :: bytesX (.slice A186 d.length c187) d :: row g178 #[.int .i64 ((renewF a b no d).1 : Int), .int .i64 no, .slice D d.length cd, .int .i64 0] 53 :: bytesX (.slice As 512 cs_) (renewF a b no d).2.1 :: vec 5 1 (.slice A22 d.length c23) d.length (d.map bv) :: vec 5 1 (.slice A18 b.length c19) b.length (b.map bv) :: vec 5 1 (.slice A14 a.length c15) a.length (a.map bv) :: row g6 #[.int .i64 ((newestF a b).1 : Int), .int .i64 ((newestF a b).2.1 : Int), .slice A3 (((newestF a b).2.2.1).length) c4, .int .i64 ((newestF a b).2.2.2 : Int)] 53 :: bytesX (.slice A3 ((newestF a b).2.2.1).length c4) ((newestF a b).2.2.1) :: L)) rfl (fun w228 S229 => ?_))
                refine wl_end _ rfl ?_
                refine then_n ?_
                refine wp_seq ?_
                refine wp_region_lit ?_
                refine wl_gv rfl (gv_ldA (k := 0) (n := 4) (vs := [.int .i64 ((newestF a (b.take c ++ ((renewF a b no d).2.1).drop c)).1 : Int), .int .i64 ((newestF a (b.take c ++ ((renewF a b no d).2.1).drop c)).2.1 : Int), .slice A225 (((newestF a (b.take c ++ ((renewF a b no d).2.1).drop c)).2.2.1).length) c226, .int .i64 ((newestF a (b.take c ++ ((renewF a b no d).2.1).drop c)).2.2.2 : Int)]) S229 2 rfl rfl (by kernel_rfl) (by kernel_rfl) rfl rfl ?_)
                refine wl_gv rfl (gv_ldA (k := 0) (n := 4) (vs := [.int .i64 ((renewF a b no d).1 : Int), .int .i64 no, .slice D d.length cd, .int .i64 0]) S229 4 rfl rfl (by kernel_rfl) (by kernel_rfl) rfl rfl ?_)
                refine wl_gv rfl (gv_call (args := #[.agg #[.int .i64 ((newestF a (b.take c ++ ((renewF a b no d).2.1).drop c)).1 : Int), .int .i64 ((newestF a (b.take c ++ ((renewF a b no d).2.1).drop c)).2.1 : Int), .slice A225 (((newestF a (b.take c ++ ((renewF a b no d).2.1).drop c)).2.2.1).length) c226, .int .i64 ((newestF a (b.take c ++ ((renewF a b no d).2.1).drop c)).2.2.2 : Int)], .agg #[.int .i64 ((renewF a b no d).1 : Int), .int .i64 no, .slice D d.length cd, .int .i64 0]]) rfl Try.func38 (by kernel_rfl) rfl rfl (by kernel_rfl) ?_)
                by_cases hal : (((newestF a (b.take c ++ ((renewF a b no d).2.1).drop c)).1 : Int) = ((renewF a b no d).1 : Int) ∧ ((newestF a (b.take c ++ ((renewF a b no d).2.1).drop c)).2.1 : Int) = no ∧ ((newestF a (b.take c ++ ((renewF a b no d).2.1).drop c)).2.2.2 : Int) = 0 ∧ (newestF a (b.take c ++ ((renewF a b no d).2.1).drop c)).2.2.1 = d)
                · skip
                  refine Calls.mono (alike_all (t := true) S229 rfl rfl (RoT.bytesX 0 rfl rfl) hd.more.more.more.more.more.more.more.more.more.more.more (by omega) (by omega) (decide_eq_true hal)) ?_
                  rintro _ w230 ⟨rfl, S231⟩
                  refine ⟨_, rfl, ?_⟩
                  refine pv tv ?_
                  refine wl_not (by kernel_rfl) ?_
                  refine wl_not (by kernel_rfl) ?_
                  refine wl_not (by kernel_rfl) ?_
                  refine pv tv ?_
                  refine pv (iv ((renewF a b no d).1 : Int)) ?_
                  refine pv (.slice As 512 cs_) ?_
                  refine pv (.slice A200 512 c201) ?_
                  refine pv tv ?_
                  refine pv (iv ((renewF a b no d).1 : Int)) ?_
                  refine pv (.slice As 512 cs_) ?_
                  refine pv (.slice A200 512 c201) ?_
                  refine wl_end (fr [.slice A a.length ca, .slice B b.length cb, iv no, .slice D d.length cd, iv ((c : Nat) : Int), .bool back, ud, ud, ud, ud, ud, ud, tv, iv ((renewF a b no d).1 : Int), .slice As 512 cs_, .slice A200 512 c201, pq g6, iv ((renewF a b no d).1 : Int), .slice As 512 cs_, iv ((renewF a b no d).2.2 : Int), tv, pq g178, .slice A a.length ca, .slice A200 512 c201, pq g189, .slice B b.length cb, .slice A200 512 c201, .slice A a.length ca, .slice B b.length cb, .agg #[iv ((newestF a b).1 : Int), iv ((newestF a b).2.1 : Int), .slice A3 (((newestF a b).2.2.1).length) c4, iv ((newestF a b).2.2.2 : Int)], .tuple #[iv ((renewF a b no d).1 : Int), .slice As 512 cs_, iv ((renewF a b no d).2.2 : Int)], .slice A a.length ca, .slice A14 a.length c15, .slice B b.length cb, .slice A18 b.length c19, iv no, .slice D d.length cd, .slice A22 d.length c23, .tuple #[iv ((renewF a b no d).1 : Int), .slice As 512 cs_, iv ((renewF a b no d).2.2 : Int)], iv ((renewF a b no d).1 : Int), .slice As 512 cs_, iv ((renewF a b no d).2.2 : Int), iv no, tv, tv, po g6 3, iv ((newestF a b).2.2.2 : Int), fv, fv, iv no, po g6 1, iv ((newestF a b).2.1 : Int), tv, tv, tv, iv ((renewF a b no d).2.2 : Int), iv ((renewF a b no d).2.2 : Int), fv, ud, ud, tv, fv, fv, .slice As 512 cs_, iv 512, fv, fv, fv, iv ((renewF a b no d).1 : Int), tv, tv, iv ((renewF a b no d).1 : Int), fv, fv, fv, fv, po g6 3, iv ((newestF a b).2.2.2 : Int), tv, tv, iv ((renewF a b no d).1 : Int), pq g6, iv ((newestF a b).1 : Int), fv, fv, fv, fv, po g6 3, iv ((newestF a b).2.2.2 : Int), fv, fv, ud, ud, fv, fv, iv ((renewF a b no d).1 : Int), iv no, .slice D d.length cd, .agg #[iv ((renewF a b no d).1 : Int), iv no, .slice D d.length cd, iv 0], .tuple #[.slice A a.length ca, .slice As 512 cs_], .slice A a.length ca, .slice B b.length cb, iv ((renewF a b no d).1 : Int), .slice As 512 cs_, .tuple #[.slice A a.length ca, .slice As 512 cs_], .slice A a.length ca, .slice As 512 cs_, .slice A a.length ca, .slice As 512 cs_, .agg #[iv ((renewF a b no d).1 : Int), iv ((no.toNat : Nat) : Int), .slice A186 d.length c187, iv 0], .agg #[iv ((renewF a b no d).1 : Int), iv ((no.toNat : Nat) : Int), .slice A186 d.length c187, iv 0], .agg #[iv ((renewF a b no d).1 : Int), iv no, .slice D d.length cd, iv 0], tv, fv, .slice A a.length ca, iv ((renewF a b no d).1 : Int), tv, .slice B b.length cb, .slice B b.length cb, .slice As 512 cs_, iv ((c : Nat) : Int), .slice A200 512 c201, .bool back, ud, ud, ud, ud, .tuple #[.slice A a.length ca, .slice A200 512 c201], .slice A a.length ca, .slice B b.length cb, iv ((renewF a b no d).1 : Int), .slice A200 512 c201, .tuple #[.slice A a.length ca, .slice A200 512 c201], .slice A a.length ca, .slice A200 512 c201, .slice A a.length ca, .slice A200 512 c201, .agg #[iv ((newestF a (b.take c ++ ((renewF a b no d).2.1).drop c)).1 : Int), iv ((newestF a (b.take c ++ ((renewF a b no d).2.1).drop c)).2.1 : Int), .slice A225 (((newestF a (b.take c ++ ((renewF a b no d).2.1).drop c)).2.2.1).length) c226, iv ((newestF a (b.take c ++ ((renewF a b no d).2.1).drop c)).2.2.2 : Int)], .agg #[iv ((newestF a (b.take c ++ ((renewF a b no d).2.1).drop c)).1 : Int), iv ((newestF a (b.take c ++ ((renewF a b no d).2.1).drop c)).2.1 : Int), .slice A225 (((newestF a (b.take c ++ ((renewF a b no d).2.1).drop c)).2.2.1).length) c226, iv ((newestF a (b.take c ++ ((renewF a b no d).2.1).drop c)).2.2.2 : Int)], .agg #[iv ((renewF a b no d).1 : Int), iv no, .slice D d.length cd, iv 0], tv, tv, ud, ud, ud, tv, iv ((renewF a b no d).1 : Int), .slice As 512 cs_, .slice A200 512 c201] 0) (by kernel_rfl) ?_
                  refine then_n ?_
                  refine wp_ret ?_
                  refine bodyPost_ret (v := .tuple #[.bool true, .int .i64 ((renewF a b no d).1 : Int), .slice As 512 cs_, .slice A200 512 c201]) (Go.Proofs.results_tmp4 rfl _ _ (by kernel_rfl) (by kernel_rfl) (by kernel_rfl) (by kernel_rfl)) rfl ?_
                  have S232 : St F w0 w230 (vec 5 1 (.slice A200 512 c201) 512 ((b.take c ++ ((renewF a b no d).2.1).drop c).map bv) :: bytesX (.slice As 512 cs_) (renewF a b no d).2.1 :: L) := St.permT [bytesX (.slice A225 ((newestF a (b.take c ++ ((renewF a b no d).2.1).drop c)).2.2.1).length c226) ((newestF a (b.take c ++ ((renewF a b no d).2.1).drop c)).2.2.1), vec 5 1 (.slice A200 512 c201) 512 ((b.take c ++ ((renewF a b no d).2.1).drop c).map bv), row g189 #[.int .i64 ((newestF a (b.take c ++ ((renewF a b no d).2.1).drop c)).1 : Int), .int .i64 ((newestF a (b.take c ++ ((renewF a b no d).2.1).drop c)).2.1 : Int), .slice A225 (((newestF a (b.take c ++ ((renewF a b no d).2.1).drop c)).2.2.1).length) c226, .int .i64 ((newestF a (b.take c ++ ((renewF a b no d).2.1).drop c)).2.2.2 : Int)] 53, bytesX (.slice A186 d.length c187) d, row g178 #[.int .i64 ((renewF a b no d).1 : Int), .int .i64 no, .slice D d.length cd, .int .i64 0] 53, bytesX (.slice As 512 cs_) (renewF a b no d).2.1, vec 5 1 (.slice A22 d.length c23) d.length (d.map bv), vec 5 1 (.slice A18 b.length c19) b.length (b.map bv), vec 5 1 (.slice A14 a.length c15) a.length (a.map bv), row g6 #[.int .i64 ((newestF a b).1 : Int), .int .i64 ((newestF a b).2.1 : Int), .slice A3 (((newestF a b).2.2.1).length) c4, .int .i64 ((newestF a b).2.2.2 : Int)] 53, bytesX (.slice A3 ((newestF a b).2.2.1).length c4) ((newestF a b).2.2.1)] [1, 5] (by decide) rfl S231
                  exact .inr ⟨As, A200, cs_, c201, b.take c ++ ((renewF a b no d).2.1).drop c, rfl, hgood, hR, hmx, hm5, S232⟩
                · skip
                  have hto2 := hto.resolve_left (fun h => hal (by rw [h]; exact ⟨rfl, by show ((no.toNat : Nat) : Int) = no; omega, rfl, rfl⟩))
                  refine Calls.mono (alike_all (t := false) S229 rfl rfl (RoT.bytesX 0 rfl rfl) hd.more.more.more.more.more.more.more.more.more.more.more (by omega) (by omega) (decide_eq_false hal)) ?_
                  rintro _ w233 ⟨rfl, S234⟩
                  refine ⟨_, rfl, ?_⟩
                  refine pv fv ?_
                  refine wl_when (by kernel_rfl) (gv_ldA (k := 0) (n := 4) (vs := [.int .i64 ((newestF a (b.take c ++ ((renewF a b no d).2.1).drop c)).1 : Int), .int .i64 ((newestF a (b.take c ++ ((renewF a b no d).2.1).drop c)).2.1 : Int), .slice A225 (((newestF a (b.take c ++ ((renewF a b no d).2.1).drop c)).2.2.1).length) c226, .int .i64 ((newestF a (b.take c ++ ((renewF a b no d).2.1).drop c)).2.2.2 : Int)]) S234 2 rfl rfl (by kernel_rfl) (by kernel_rfl) rfl rfl ?_)
                  refine wl_when (by kernel_rfl) (gv_ldA (k := 0) (n := 4) (vs := [.int .i64 ((newestF a b).1 : Int), .int .i64 ((newestF a b).2.1 : Int), .slice A3 (((newestF a b).2.2.1).length) c4, .int .i64 ((newestF a b).2.2.2 : Int)]) S234 9 rfl rfl (by kernel_rfl) (by kernel_rfl) rfl rfl ?_)
                  refine wl_when (by kernel_rfl) (gv_call (args := #[.agg #[.int .i64 ((newestF a (b.take c ++ ((renewF a b no d).2.1).drop c)).1 : Int), .int .i64 ((newestF a (b.take c ++ ((renewF a b no d).2.1).drop c)).2.1 : Int), .slice A225 (((newestF a (b.take c ++ ((renewF a b no d).2.1).drop c)).2.2.1).length) c226, .int .i64 ((newestF a (b.take c ++ ((renewF a b no d).2.1).drop c)).2.2.2 : Int)], .agg #[.int .i64 ((newestF a b).1 : Int), .int .i64 ((newestF a b).2.1 : Int), .slice A3 (((newestF a b).2.2.1).length) c4, .int .i64 ((newestF a b).2.2.2 : Int)]]) rfl Try.func38 (by kernel_rfl) rfl rfl (by kernel_rfl) ?_)
                  refine Calls.mono (alike_all (t := true) S234 rfl rfl (RoT.bytesX 0 rfl rfl) (RoT.bytesX 10 rfl rfl) (by omega) (by omega) (by rw [hto2]; exact decide_eq_true ⟨rfl, rfl, rfl, rfl⟩)) ?_
                  rintro _ w235 ⟨rfl, S236⟩
                  refine ⟨_, rfl, ?_⟩
                  refine pv tv ?_
                  refine pv (iv ((renewF a b no d).1 : Int)) ?_
                  refine pv (.slice As 512 cs_) ?_
                  refine pv (.slice A200 512 c201) ?_
                  refine pv tv ?_
                  refine pv (iv ((renewF a b no d).1 : Int)) ?_
                  refine pv (.slice As 512 cs_) ?_
                  refine pv (.slice A200 512 c201) ?_
                  refine wl_end (fr [.slice A a.length ca, .slice B b.length cb, iv no, .slice D d.length cd, iv ((c : Nat) : Int), .bool back, ud, ud, ud, ud, ud, ud, tv, iv ((renewF a b no d).1 : Int), .slice As 512 cs_, .slice A200 512 c201, pq g6, iv ((renewF a b no d).1 : Int), .slice As 512 cs_, iv ((renewF a b no d).2.2 : Int), tv, pq g178, .slice A a.length ca, .slice A200 512 c201, pq g189, .slice B b.length cb, .slice A200 512 c201, .slice A a.length ca, .slice B b.length cb, .agg #[iv ((newestF a b).1 : Int), iv ((newestF a b).2.1 : Int), .slice A3 (((newestF a b).2.2.1).length) c4, iv ((newestF a b).2.2.2 : Int)], .tuple #[iv ((renewF a b no d).1 : Int), .slice As 512 cs_, iv ((renewF a b no d).2.2 : Int)], .slice A a.length ca, .slice A14 a.length c15, .slice B b.length cb, .slice A18 b.length c19, iv no, .slice D d.length cd, .slice A22 d.length c23, .tuple #[iv ((renewF a b no d).1 : Int), .slice As 512 cs_, iv ((renewF a b no d).2.2 : Int)], iv ((renewF a b no d).1 : Int), .slice As 512 cs_, iv ((renewF a b no d).2.2 : Int), iv no, tv, tv, po g6 3, iv ((newestF a b).2.2.2 : Int), fv, fv, iv no, po g6 1, iv ((newestF a b).2.1 : Int), tv, tv, tv, iv ((renewF a b no d).2.2 : Int), iv ((renewF a b no d).2.2 : Int), fv, ud, ud, tv, fv, fv, .slice As 512 cs_, iv 512, fv, fv, fv, iv ((renewF a b no d).1 : Int), tv, tv, iv ((renewF a b no d).1 : Int), fv, fv, fv, fv, po g6 3, iv ((newestF a b).2.2.2 : Int), tv, tv, iv ((renewF a b no d).1 : Int), pq g6, iv ((newestF a b).1 : Int), fv, fv, fv, fv, po g6 3, iv ((newestF a b).2.2.2 : Int), fv, fv, ud, ud, fv, fv, iv ((renewF a b no d).1 : Int), iv no, .slice D d.length cd, .agg #[iv ((renewF a b no d).1 : Int), iv no, .slice D d.length cd, iv 0], .tuple #[.slice A a.length ca, .slice As 512 cs_], .slice A a.length ca, .slice B b.length cb, iv ((renewF a b no d).1 : Int), .slice As 512 cs_, .tuple #[.slice A a.length ca, .slice As 512 cs_], .slice A a.length ca, .slice As 512 cs_, .slice A a.length ca, .slice As 512 cs_, .agg #[iv ((renewF a b no d).1 : Int), iv ((no.toNat : Nat) : Int), .slice A186 d.length c187, iv 0], .agg #[iv ((renewF a b no d).1 : Int), iv ((no.toNat : Nat) : Int), .slice A186 d.length c187, iv 0], .agg #[iv ((renewF a b no d).1 : Int), iv no, .slice D d.length cd, iv 0], tv, fv, .slice A a.length ca, iv ((renewF a b no d).1 : Int), tv, .slice B b.length cb, .slice B b.length cb, .slice As 512 cs_, iv ((c : Nat) : Int), .slice A200 512 c201, .bool back, ud, ud, ud, ud, .tuple #[.slice A a.length ca, .slice A200 512 c201], .slice A a.length ca, .slice B b.length cb, iv ((renewF a b no d).1 : Int), .slice A200 512 c201, .tuple #[.slice A a.length ca, .slice A200 512 c201], .slice A a.length ca, .slice A200 512 c201, .slice A a.length ca, .slice A200 512 c201, .agg #[iv ((newestF a (b.take c ++ ((renewF a b no d).2.1).drop c)).1 : Int), iv ((newestF a (b.take c ++ ((renewF a b no d).2.1).drop c)).2.1 : Int), .slice A225 (((newestF a (b.take c ++ ((renewF a b no d).2.1).drop c)).2.2.1).length) c226, iv ((newestF a (b.take c ++ ((renewF a b no d).2.1).drop c)).2.2.2 : Int)], .agg #[iv ((newestF a (b.take c ++ ((renewF a b no d).2.1).drop c)).1 : Int), iv ((newestF a (b.take c ++ ((renewF a b no d).2.1).drop c)).2.1 : Int), .slice A225 (((newestF a (b.take c ++ ((renewF a b no d).2.1).drop c)).2.2.1).length) c226, iv ((newestF a (b.take c ++ ((renewF a b no d).2.1).drop c)).2.2.2 : Int)], .agg #[iv ((renewF a b no d).1 : Int), iv no, .slice D d.length cd, iv 0], fv, fv, .agg #[iv ((newestF a (b.take c ++ ((renewF a b no d).2.1).drop c)).1 : Int), iv ((newestF a (b.take c ++ ((renewF a b no d).2.1).drop c)).2.1 : Int), .slice A225 (((newestF a (b.take c ++ ((renewF a b no d).2.1).drop c)).2.2.1).length) c226, iv ((newestF a (b.take c ++ ((renewF a b no d).2.1).drop c)).2.2.2 : Int)], .agg #[iv ((newestF a b).1 : Int), iv ((newestF a b).2.1 : Int), .slice A3 (((newestF a b).2.2.1).length) c4, iv ((newestF a b).2.2.2 : Int)], tv, tv, iv ((renewF a b no d).1 : Int), .slice As 512 cs_, .slice A200 512 c201] 0) (by kernel_rfl) ?_
                  refine then_n ?_
                  refine wp_ret ?_
                  refine bodyPost_ret (v := .tuple #[.bool true, .int .i64 ((renewF a b no d).1 : Int), .slice As 512 cs_, .slice A200 512 c201]) (Go.Proofs.results_tmp4 rfl _ _ (by kernel_rfl) (by kernel_rfl) (by kernel_rfl) (by kernel_rfl)) rfl ?_
                  have S237 : St F w0 w235 (vec 5 1 (.slice A200 512 c201) 512 ((b.take c ++ ((renewF a b no d).2.1).drop c).map bv) :: bytesX (.slice As 512 cs_) (renewF a b no d).2.1 :: L) := St.permT [bytesX (.slice A225 ((newestF a (b.take c ++ ((renewF a b no d).2.1).drop c)).2.2.1).length c226) ((newestF a (b.take c ++ ((renewF a b no d).2.1).drop c)).2.2.1), vec 5 1 (.slice A200 512 c201) 512 ((b.take c ++ ((renewF a b no d).2.1).drop c).map bv), row g189 #[.int .i64 ((newestF a (b.take c ++ ((renewF a b no d).2.1).drop c)).1 : Int), .int .i64 ((newestF a (b.take c ++ ((renewF a b no d).2.1).drop c)).2.1 : Int), .slice A225 (((newestF a (b.take c ++ ((renewF a b no d).2.1).drop c)).2.2.1).length) c226, .int .i64 ((newestF a (b.take c ++ ((renewF a b no d).2.1).drop c)).2.2.2 : Int)] 53, bytesX (.slice A186 d.length c187) d, row g178 #[.int .i64 ((renewF a b no d).1 : Int), .int .i64 no, .slice D d.length cd, .int .i64 0] 53, bytesX (.slice As 512 cs_) (renewF a b no d).2.1, vec 5 1 (.slice A22 d.length c23) d.length (d.map bv), vec 5 1 (.slice A18 b.length c19) b.length (b.map bv), vec 5 1 (.slice A14 a.length c15) a.length (a.map bv), row g6 #[.int .i64 ((newestF a b).1 : Int), .int .i64 ((newestF a b).2.1 : Int), .slice A3 (((newestF a b).2.2.1).length) c4, .int .i64 ((newestF a b).2.2.2 : Int)] 53, bytesX (.slice A3 ((newestF a b).2.2.1).length c4) ((newestF a b).2.2.1)] [1, 5] (by decide) rfl S236
                  exact .inr ⟨As, A200, cs_, c201, b.take c ++ ((renewF a b no d).2.1).drop c, rfl, hgood, hR, hmx, hm5, S237⟩
          · skip
            exfalso; omega
      · skip
        exfalso; omega
end Go.Proofs
