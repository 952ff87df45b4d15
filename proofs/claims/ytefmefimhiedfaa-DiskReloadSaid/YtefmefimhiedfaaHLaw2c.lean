/- The laws DiskReload and DiskLasts answer true. -/
import Derived.Test.YtefmefimhiedfaaHDskM
open Go Go.RowKit Go.Proofs.YtefmefimhiedfaaW.PrintWords Go.Proofs.YtefmefimhiedfaaW.PrintMore
namespace Go.Proofs
open Go.Vel
set_option linter.unusedVariables false
set_option maxRecDepth 100000
set_option maxHeartbeats 4000000
attribute [local irreducible] gives wpList Code.wp

theorem diskReload_all (w : World) {A A3 : Option Addr} {l : List UInt8} {ca c3 : Nat} {ops : List OpD} (n : Int) (hr : RdB w A l) (hlm : l.length ≤ 140737488351232) (hs : RdV w A3 (opsV ops)) (hsm : ops.length ≤ 2199023255552) (hok : ∀ o ∈ ops, o.Ok w) : Calls Try.prog 17 #[.int .i64 n, .slice A l.length ca, .slice A3 ops.length c3] w fun e w' => e = .returned (.bool true) ∧ Below w.heap.size w w' := by
  have S0 : St none' w w [] := St.init none' w
  have hR : ∀ L, RoT none' w L A l := fun L => (Ro.of_C hr (fun _ h => h)).T
  refine wp_enter (fr [iv n, .slice A l.length ca, .slice A3 ops.length c3] 104) Try.func17 rfl (by kernel_rfl) ?_
  refine wp_seq ?_
  refine wp_region_lit ?_
  refine pv fv ?_
  refine wl_end (fr [iv n, .slice A l.length ca, .slice A3 ops.length c3, ud, ud, ud, fv] 100) (by kernel_rfl) ?_
  refine then_n ?_
  refine wp_seq ?_
  refine wp_region_lit ?_
  refine pv (iv n) ?_
  refine pv (.slice A l.length ca) ?_
  refine wl_gv rfl (gv_call (args := #[.int .i64 n, .slice A l.length ca]) rfl Try.func33 (by kernel_rfl) rfl rfl (by kernel_rfl) ?_)
  refine Calls.mono (open_all S0 (hR _) hlm n) ?_
  rintro _ w1 (⟨rfl, S2⟩ | ⟨gd, s, rfl, hsp, S2⟩)
  · refine ⟨_, rfl, ?_⟩
    refine pv (.tuple #[pn, tv]) ?_
    refine pv pn ?_
    refine pv tv ?_
    refine pv pn ?_
    refine pv tv ?_
    refine wl_end (fr [iv n, .slice A l.length ca, .slice A3 ops.length c3, ud, ud, ud, fv, pn, tv, ud, ud, ud, ud, ud, ud, ud, ud, ud, .tuple #[pn, tv], iv n, .slice A l.length ca, .tuple #[pn, tv], pn, tv] 83) (by kernel_rfl) ?_
    refine then_n ?_
    refine wp_seq ?_
    refine wp_seq ?_
    refine wp_region_lit ?_
    refine pv tv ?_
    refine pv fv ?_
    refine wl_end (fr [iv n, .slice A l.length ca, .slice A3 ops.length c3, ud, ud, ud, fv, pn, tv, ud, ud, ud, ud, ud, ud, ud, ud, ud, .tuple #[pn, tv], iv n, .slice A l.length ca, .tuple #[pn, tv], pn, tv, tv, fv] 81) (by kernel_rfl) ?_
    refine then_n ?_
    refine wp_cond_false (by kernel_rfl) ?_
    refine wp_skip ?_
    refine then_n ?_
    refine wp_seq ?_
    refine wp_seq ?_
    refine wp_region_lit ?_
    refine pv pn ?_
    refine pv tv ?_
    refine wl_end (fr [iv n, .slice A l.length ca, .slice A3 ops.length c3, ud, ud, ud, fv, pn, tv, ud, ud, ud, ud, ud, ud, ud, ud, ud, .tuple #[pn, tv], iv n, .slice A l.length ca, .tuple #[pn, tv], pn, tv, tv, fv, pn, tv] 79) (by kernel_rfl) ?_
    refine then_n ?_
    refine wp_cond_true (by kernel_rfl) ?_
    refine wp_seq ?_
    refine wp_region_lit ?_
    refine pv tv ?_
    refine wl_end (fr [iv n, .slice A l.length ca, .slice A3 ops.length c3, ud, ud, ud, tv, pn, tv, ud, ud, ud, ud, ud, ud, ud, ud, ud, .tuple #[pn, tv], iv n, .slice A l.length ca, .tuple #[pn, tv], pn, tv, tv, fv, pn, tv] 79) (by kernel_rfl) ?_
    refine then_n ?_
    refine wp_ret ?_
    refine then_r ?_
    refine bodyPost_ret (v := .bool true) (results_t1 rfl (by kernel_rfl)) rfl ?_
    exact ⟨rfl, S2.fr.below⟩
  · refine ⟨_, rfl, ?_⟩
    obtain ⟨hn1, _⟩ := St.pd_n1 S2
    refine pv (.tuple #[pq gd, tv]) ?_
    refine pv (pq gd) ?_
    refine pv tv ?_
    refine pv (pq gd) ?_
    refine pv tv ?_
    refine wl_end (fr [iv n, .slice A l.length ca, .slice A3 ops.length c3, ud, ud, ud, fv, pq gd, tv, ud, ud, ud, ud, ud, ud, ud, ud, ud, .tuple #[pq gd, tv], iv n, .slice A l.length ca, .tuple #[pq gd, tv], pq gd, tv] 83) (by kernel_rfl) ?_
    refine then_n ?_
    refine wp_seq ?_
    refine wp_seq ?_
    refine wp_region_lit ?_
    refine pv tv ?_
    refine pv fv ?_
    refine wl_end (fr [iv n, .slice A l.length ca, .slice A3 ops.length c3, ud, ud, ud, fv, pq gd, tv, ud, ud, ud, ud, ud, ud, ud, ud, ud, .tuple #[pq gd, tv], iv n, .slice A l.length ca, .tuple #[pq gd, tv], pq gd, tv, tv, fv] 81) (by kernel_rfl) ?_
    refine then_n ?_
    refine wp_cond_false (by kernel_rfl) ?_
    refine wp_skip ?_
    refine then_n ?_
    refine wp_seq ?_
    refine wp_seq ?_
    refine wp_region_lit ?_
    refine pv (pq gd) ?_
    refine pv fv ?_
    refine wl_end (fr [iv n, .slice A l.length ca, .slice A3 ops.length c3, ud, ud, ud, fv, pq gd, tv, ud, ud, ud, ud, ud, ud, ud, ud, ud, .tuple #[pq gd, tv], iv n, .slice A l.length ca, .tuple #[pq gd, tv], pq gd, tv, tv, fv, pq gd, fv] 79) (by kernel_rfl) ?_
    refine then_n ?_
    refine wp_cond_false (by kernel_rfl) ?_
    refine wp_skip ?_
    refine then_n ?_
    refine wp_seq ?_
    refine wp_seq ?_
    refine wp_region_lit ?_
    refine pv (iv 0) ?_
    refine wl_end (fr [iv n, .slice A l.length ca, .slice A3 ops.length c3, ud, ud, ud, fv, pq gd, tv, iv 0, ud, ud, ud, ud, ud, ud, ud, ud, .tuple #[pq gd, tv], iv n, .slice A l.length ca, .tuple #[pq gd, tv], pq gd, tv, tv, fv, pq gd, fv] 79) (by kernel_rfl) ?_
    refine then_n ?_
    refine wp_block ?_
    have S3 : St none' w w1 [PDisk gd s] := St.permT [PDisk gd s] [0] (by decide) rfl S2
    refine wp_loop_g (G := Nat × Dsk) (fun (g_ : Nat × Dsk) (a_ : Act) (w_ : World) => ∃ J : Nat → Value, a_ = (fr [iv n, .slice A l.length ca, .slice A3 ops.length c3, ud, ud, ud, fv, pq gd, tv, iv ((g_.1 : Nat) : Int), ud, ud, ud, ud, ud, ud, ud, ud, .tuple #[pq gd, tv], iv n, .slice A l.length ca, .tuple #[pq gd, tv], pq gd, tv, tv, fv, pq gd, fv, J 28, J 29, J 30, J 31, J 32, J 33, J 34, J 35, J 36, J 37, J 38, J 39] 67) ∧ St none' w w_ [PDisk gd g_.2] ∧ (g_.1 ≤ ops.length ∧ g_.2.pend.length ≤ g_.1)) (fun g_ => ops.length - g_.1) (0, s) ⟨(jl []), by kernel_rfl, S3, ⟨Nat.zero_le _, by show s.pend.length ≤ 0; rw [hsp]; exact Nat.le_refl _⟩⟩ ?_
    rintro ⟨i, s1⟩ a_ w4 ⟨J, rfl, S5, hI6⟩
    skip
    have S5 : St none' w w4 [PDisk gd s1] := S5
    have hI6 : (i ≤ ops.length ∧ s1.pend.length ≤ i) := hI6
    refine wp_seq ?_
    refine wp_seq ?_
    refine wp_region_lit ?_
    refine pv (iv ((i : Nat) : Int)) ?_
    refine pv (.slice A3 ops.length c3) ?_
    refine pv (iv (ops.length : Nat)) ?_
    refine wl_gv rfl (gv_dec (p := (((i : Nat) : Int) : Int) < (ops.length : Nat)) (by kernel_rfl) (fun hb7 => ?_) (fun hb7 => ?_))
    · skip
      have hi : i < ops.length := by omega
      obtain ⟨o, ho⟩ : ∃ o, ops[i]? = some o := ⟨_, List.getElem?_eq_getElem hi⟩
      have hk := hok o (List.mem_of_getElem? ho)
      obtain ⟨ad, hAd, hrs⟩ := (RoV.of_rd hs []).out w4 _ (show St none' w w4 ([PDisk gd s1] ++ []) from S5) (by rw [length_opsV]; omega)
      have hrq : RdV w4 (some ad) (opsV ops) := fun _ => ⟨ad, rfl, hrs⟩
      refine wl_end (fr [iv n, .slice A l.length ca, .slice A3 ops.length c3, ud, ud, ud, fv, pq gd, tv, iv ((i : Nat) : Int), ud, ud, ud, ud, ud, ud, ud, ud, .tuple #[pq gd, tv], iv n, .slice A l.length ca, .tuple #[pq gd, tv], pq gd, tv, tv, fv, pq gd, fv, iv ((i : Nat) : Int), .slice A3 ops.length c3, iv (ops.length : Nat), tv, J 32, J 33, J 34, J 35, J 36, J 37, J 38, J 39] 67) (by kernel_rfl) ?_
      refine then_n ?_
      refine wp_cond_true (by kernel_rfl) ?_
      refine wp_skip ?_
      refine then_n ?_
      refine wp_seq ?_
      refine wp_block ?_
      refine wp_region_lit ?_
      refine pv (pq gd) ?_
      refine pv (.slice A3 ops.length c3) ?_
      refine pv (iv ((i : Nat) : Int)) ?_
      refine wl_gv rfl (gv_ixB (e := 49) (sz := 4) (n := ops.length) (c := c3) (i := ((i : Nat) : Int)) (k := .i64) (ad := ad) (ad' := (ad.add (i * 4))) (j := i) rfl (by kernel_rfl) (by kernel_rfl) (by rw [← hAd]; kernel_rfl) (by kernel_rfl) rfl (by omega) rfl ?_)
      refine wl_gv rfl (gv_ldRA (ad := ad.add (i * 4)) (vs := [.int .i64 o.kind, .int .i64 o.at_, .slice o.A o.d.length o.cd, .slice o.A2 o.ps.length o.cp]) (n := 4) rfl (by kernel_rfl) (by kernel_rfl) rfl (RoV.cells hrq (i * 4) (fun j u hu => opsV_at ops _ _ ho j u hu) (Nat.succ_pos _)) ?_)
      refine wl_gv rfl (gv_call (args := #[.pointer (some ⟨gd, 0, none⟩), .agg #[.int .i64 o.kind, .int .i64 o.at_, .slice o.A o.d.length o.cd, .slice o.A2 o.ps.length o.cp]]) rfl Try.func38 (by kernel_rfl) rfl rfl (by kernel_rfl) ?_)
      refine Calls.mono (act_all S5 (Ro.of_C hk.d (fun _ h => h)).T (RoV.of_rd hk.p _) hk.hat hk.dm hk.pm (by have := hI6.2; omega)) ?_
      rintro _ w8 ⟨rfl, S9⟩
      refine ⟨_, rfl, ?_⟩
      refine wl_end (fr [iv n, .slice A l.length ca, .slice A3 ops.length c3, ud, ud, ud, fv, pq gd, tv, iv ((i : Nat) : Int), ud, ud, ud, ud, ud, ud, ud, ud, .tuple #[pq gd, tv], iv n, .slice A l.length ca, .tuple #[pq gd, tv], pq gd, tv, tv, fv, pq gd, fv, iv ((i : Nat) : Int), .slice A3 ops.length c3, iv (ops.length : Nat), tv, J 32, J 33, pq gd, .slice A3 ops.length c3, iv ((i : Nat) : Int), .pointer (some (ad.add (i * 4))), .agg #[iv o.kind, iv o.at_, .slice o.A o.d.length o.cd, .slice o.A2 o.ps.length o.cp], .tuple #[]] 67) (by kernel_rfl) ?_
      refine inb_n ?_
      refine then_n ?_
      refine wp_region_lit ?_
      refine pv (iv ((i : Nat) : Int)) ?_
      refine wl_gv rfl (gv_int (k := .i64) (z := IntKind.i64.wrap (((i : Nat) : Int) + 1)) (z' := ((i + 1 : Nat) : Int)) (by kernel_rfl) (wr_eq (by omega) (by omega) (by omega)) ?_)
      refine pv (iv ((i + 1 : Nat) : Int)) ?_
      have S10 : St none' w w8 [PDisk gd (s1.actR o.kind o.at_ o.d o.ps)] := St.permT [PDisk gd (s1.actR o.kind o.at_ o.d o.ps)] [0] (by decide) rfl S9
      refine wl_end (fr [iv n, .slice A l.length ca, .slice A3 ops.length c3, ud, ud, ud, fv, pq gd, tv, iv ((i + 1 : Nat) : Int), ud, ud, ud, ud, ud, ud, ud, ud, .tuple #[pq gd, tv], iv n, .slice A l.length ca, .tuple #[pq gd, tv], pq gd, tv, tv, fv, pq gd, fv, iv ((i : Nat) : Int), .slice A3 ops.length c3, iv (ops.length : Nat), tv, iv ((i : Nat) : Int), iv ((i + 1 : Nat) : Int), pq gd, .slice A3 ops.length c3, iv ((i : Nat) : Int), .pointer (some (ad.add (i * 4))), .agg #[iv o.kind, iv o.at_, .slice o.A o.d.length o.cd, .slice o.A2 o.ps.length o.cp], .tuple #[]] 67) (by kernel_rfl) ?_
      refine then_n ?_
      exact ⟨(i + 1, s1.actR o.kind o.at_ o.d o.ps), ⟨(jl [ud, ud, ud, ud, ud, ud, ud, ud, ud, ud, ud, ud, ud, ud, ud, ud, ud, ud, ud, ud, ud, ud, ud, ud, ud, ud, ud, ud, iv ((i : Nat) : Int), .slice A3 ops.length c3, iv (ops.length : Nat), tv, iv ((i : Nat) : Int), iv ((i + 1 : Nat) : Int), pq gd, .slice A3 ops.length c3, iv ((i : Nat) : Int), .pointer (some (ad.add (i * 4))), .agg #[iv o.kind, iv o.at_, .slice o.A o.d.length o.cd, .slice o.A2 o.ps.length o.cp], .tuple #[]]), by kernel_rfl, S10, ⟨by omega, Nat.le_trans (actR_pend s1 o.kind o.at_ o.d o.ps) (by have := hI6.2; omega)⟩⟩, (by show ops.length - (i + 1) < ops.length - i; omega)⟩
    · skip
      refine wl_end (fr [iv n, .slice A l.length ca, .slice A3 ops.length c3, ud, ud, ud, fv, pq gd, tv, iv ((i : Nat) : Int), ud, ud, ud, ud, ud, ud, ud, ud, .tuple #[pq gd, tv], iv n, .slice A l.length ca, .tuple #[pq gd, tv], pq gd, tv, tv, fv, pq gd, fv, iv ((i : Nat) : Int), .slice A3 ops.length c3, iv (ops.length : Nat), fv, J 32, J 33, J 34, J 35, J 36, J 37, J 38, J 39] 67) (by kernel_rfl) ?_
      refine then_n ?_
      refine wp_cond_false (by kernel_rfl) ?_
      refine wp_exit ?_
      refine then_x ?_
      refine then_x ?_
      refine inb_x ?_
      refine then_n ?_
      refine wp_seq ?_
      refine wp_region_lit ?_
      refine pv (pq gd) ?_
      refine wl_gv rfl (gv_call (args := #[.pointer (some ⟨gd, 0, none⟩)]) rfl Try.func25 (by kernel_rfl) rfl rfl (by kernel_rfl) ?_)
      obtain ⟨h14a, h14b⟩ := St.pd_small S5
      obtain ⟨h14c, _⟩ := St.pd_n1 S5
      have h14d := flat_len h14a
      refine Calls.mono (pd_image S5) ?_
      rintro _ w11 ⟨v_, rfl, S12⟩
      obtain ⟨gi13, rfl, S12'⟩ := St.bytes_open S12 (by omega)
      refine ⟨_, rfl, ?_⟩
      refine pv (sl gi13 0 s1.last.flatten.length s1.last.flatten.length) ?_
      refine wl_end (fr [iv n, .slice A l.length ca, .slice A3 ops.length c3, ud, ud, ud, fv, pq gd, tv, iv ((i : Nat) : Int), sl gi13 0 s1.last.flatten.length s1.last.flatten.length, ud, ud, ud, ud, ud, ud, ud, .tuple #[pq gd, tv], iv n, .slice A l.length ca, .tuple #[pq gd, tv], pq gd, tv, tv, fv, pq gd, fv, iv ((i : Nat) : Int), .slice A3 ops.length c3, iv (ops.length : Nat), fv, J 32, J 33, J 34, J 35, J 36, J 37, J 38, J 39, pq gd, sl gi13 0 s1.last.flatten.length s1.last.flatten.length] 65) (by kernel_rfl) ?_
      refine then_n ?_
      refine wp_seq ?_
      refine wp_region_lit ?_
      refine pv (pq gd) ?_
      refine wl_gv rfl (gv_call (args := #[.pointer (some ⟨gd, 0, none⟩), .slice none 0 0]) rfl Try.func36 (by kernel_rfl) rfl rfl (by kernel_rfl) ?_)
      have S15 : St none' w w11 [PDisk gd s1, row gi13 (bvs s1.last.flatten) 5] := St.permT [row gi13 (bvs s1.last.flatten) 5, PDisk gd s1] [1, 0] (by decide) rfl S12'
      refine Calls.mono (pd_crash (ps := []) S15 RoV.nil rfl (by decide)) ?_
      rintro _ w16 ⟨rfl, S17⟩
      refine ⟨_, rfl, ?_⟩
      refine wl_end (fr [iv n, .slice A l.length ca, .slice A3 ops.length c3, ud, ud, ud, fv, pq gd, tv, iv ((i : Nat) : Int), sl gi13 0 s1.last.flatten.length s1.last.flatten.length, ud, ud, ud, ud, ud, ud, ud, .tuple #[pq gd, tv], iv n, .slice A l.length ca, .tuple #[pq gd, tv], pq gd, tv, tv, fv, pq gd, fv, iv ((i : Nat) : Int), .slice A3 ops.length c3, iv (ops.length : Nat), fv, J 32, J 33, J 34, J 35, J 36, J 37, J 38, J 39, pq gd, sl gi13 0 s1.last.flatten.length s1.last.flatten.length, pq gd, .tuple #[]] 63) (by kernel_rfl) ?_
      refine then_n ?_
      refine wp_seq ?_
      refine wp_region_lit ?_
      refine pv (sl gi13 0 s1.last.flatten.length s1.last.flatten.length) ?_
      refine wl_gv rfl (gv_call (args := #[.slice (some ⟨gi13, 0, none⟩) s1.last.flatten.length s1.last.flatten.length]) rfl Try.func27 (by kernel_rfl) rfl rfl (by kernel_rfl) ?_)
      refine Calls.mono (ltwinS (l := s1.last.flatten) S17 (RoT.item 1 rfl 0 s1.last.flatten.length _ (by rw [List.drop_zero, List.take_length])) (by omega)) ?_
      rintro _ w19 ⟨g18, rfl, S20⟩
      refine ⟨_, rfl, ?_⟩
      refine wl_gv rfl (gv_call (args := #[.slice (some ⟨g18, 0, none⟩) s1.last.flatten.length s1.last.flatten.length]) rfl Try.func26 (by kernel_rfl) rfl rfl (by kernel_rfl) ?_)
      refine Calls.mono (pd_load (l := s1.last.flatten) (m := s1.last.length) S20 (RoT.item 0 rfl 0 s1.last.flatten.length _ (by rw [List.drop_zero, List.take_length])) (by omega) h14d h14c h14b) ?_
      rintro _ w21 ⟨gc, rfl, S22⟩
      refine ⟨_, rfl, ?_⟩
      rw [secs_of_flat h14a] at S22
      refine pv (.tuple #[pq gc, iv 0]) ?_
      refine pv (pq gc) ?_
      refine pv (iv 0) ?_
      refine pv (pq gc) ?_
      refine pv (iv 0) ?_
      refine wl_end (fr [iv n, .slice A l.length ca, .slice A3 ops.length c3, ud, ud, ud, fv, pq gd, tv, iv ((i : Nat) : Int), sl gi13 0 s1.last.flatten.length s1.last.flatten.length, pq gc, iv 0, ud, ud, ud, ud, ud, .tuple #[pq gd, tv], iv n, .slice A l.length ca, .tuple #[pq gd, tv], pq gd, tv, tv, fv, pq gd, fv, iv ((i : Nat) : Int), .slice A3 ops.length c3, iv (ops.length : Nat), fv, J 32, J 33, J 34, J 35, J 36, J 37, J 38, J 39, pq gd, sl gi13 0 s1.last.flatten.length s1.last.flatten.length, pq gd, .tuple #[], .tuple #[pq gc, iv 0], sl gi13 0 s1.last.flatten.length s1.last.flatten.length, sl g18 0 s1.last.flatten.length s1.last.flatten.length, .tuple #[pq gc, iv 0], pq gc, iv 0] 57) (by kernel_rfl) ?_
      refine then_n ?_
      refine wp_seq ?_
      refine wp_seq ?_
      refine wp_region_lit ?_
      refine pv (pq gc) ?_
      refine pv fv ?_
      refine pv fv ?_
      refine wl_when (by kernel_rfl) (gv_val (v := .int .i64 0) (w' := w21) (by kernel_rfl) ?_)
      refine wl_when (by kernel_rfl) (gv_ne (x := 0) (y := 0) (by kernel_rfl) (fun hd23 => False.elim (hd23 rfl)) (fun _ => ?_))
      refine pv fv ?_
      refine pv fv ?_
      refine wl_when (by kernel_rfl) (gv_val (v := .pointer (some ⟨gc, 0, none⟩)) (w' := w21) (by kernel_rfl) ?_)
      refine wl_when (by kernel_rfl) (gv_call (args := #[.pointer (some ⟨gc, 0, none⟩)]) rfl Try.func21 (by kernel_rfl) rfl rfl (by kernel_rfl) ?_)
      refine Calls.mono (pd_sectors S22 0 rfl) ?_
      rintro _ _ ⟨rfl, rfl⟩
      refine ⟨_, rfl, ?_⟩
      refine wl_when (by kernel_rfl) (gv_val (v := .pointer (some ⟨gd, 0, none⟩)) (w' := w21) (by kernel_rfl) ?_)
      refine wl_when (by kernel_rfl) (gv_call (args := #[.pointer (some ⟨gd, 0, none⟩)]) rfl Try.func21 (by kernel_rfl) rfl rfl (by kernel_rfl) ?_)
      refine Calls.mono (pd_sectors S22 2 rfl) ?_
      rintro _ _ ⟨rfl, rfl⟩
      refine ⟨_, rfl, ?_⟩
      refine wl_when (by kernel_rfl) (gv_ne (x := ((Dsk.mk0 s1.last).last.length : Int)) (y := ((s1.crashR []).last.length : Int)) (by kernel_rfl) (fun hd24 => False.elim (by have hcl := congrArg List.length (crash_nil s1); have hq : ((Dsk.mk0 s1.last).last.length : Int) = s1.last.length := rfl; omega)) (fun _ => ?_))
      refine pv fv ?_
      refine pv fv ?_
      refine wl_when (by kernel_rfl) (gv_val (v := .pointer (some ⟨gc, 0, none⟩)) (w' := w21) (by kernel_rfl) ?_)
      refine wl_when (by kernel_rfl) (gv_call (args := #[.pointer (some ⟨gc, 0, none⟩)]) rfl Try.func23 (by kernel_rfl) rfl rfl (by kernel_rfl) ?_)
      refine Calls.mono (pd_life S22 0 rfl) ?_
      rintro _ _ ⟨rfl, rfl⟩
      refine ⟨_, rfl, ?_⟩
      refine wl_when (by kernel_rfl) (gv_ne (x := 1) (y := 1) (by kernel_rfl) (fun hd25 => False.elim (hd25 rfl)) (fun _ => ?_))
      refine pv fv ?_
      refine wl_end (fr [iv n, .slice A l.length ca, .slice A3 ops.length c3, ud, ud, ud, fv, pq gd, tv, iv ((i : Nat) : Int), sl gi13 0 s1.last.flatten.length s1.last.flatten.length, pq gc, iv 0, ud, ud, ud, ud, ud, .tuple #[pq gd, tv], iv n, .slice A l.length ca, .tuple #[pq gd, tv], pq gd, tv, tv, fv, pq gd, fv, iv ((i : Nat) : Int), .slice A3 ops.length c3, iv (ops.length : Nat), fv, J 32, J 33, J 34, J 35, J 36, J 37, J 38, J 39, pq gd, sl gi13 0 s1.last.flatten.length s1.last.flatten.length, pq gd, .tuple #[], .tuple #[pq gc, iv 0], sl gi13 0 s1.last.flatten.length s1.last.flatten.length, sl g18 0 s1.last.flatten.length s1.last.flatten.length, .tuple #[pq gc, iv 0], pq gc, iv 0, pq gc, fv, fv, iv 0, fv, fv, fv, pq gc, iv ((Dsk.mk0 s1.last).last.length : Int), pq gd, iv ((s1.crashR []).last.length : Int), fv, fv, fv, pq gc, iv 1, fv, fv] 39) (by kernel_rfl) ?_
      refine then_n ?_
      refine wp_cond_false (by kernel_rfl) ?_
      refine wp_skip ?_
      refine then_n ?_
      refine wp_seq ?_
      refine wp_seq ?_
      refine wp_region_lit ?_
      refine pv (iv 0) ?_
      refine wl_end (fr [iv n, .slice A l.length ca, .slice A3 ops.length c3, ud, ud, ud, fv, pq gd, tv, iv ((i : Nat) : Int), sl gi13 0 s1.last.flatten.length s1.last.flatten.length, pq gc, iv 0, iv 0, ud, ud, ud, ud, .tuple #[pq gd, tv], iv n, .slice A l.length ca, .tuple #[pq gd, tv], pq gd, tv, tv, fv, pq gd, fv, iv ((i : Nat) : Int), .slice A3 ops.length c3, iv (ops.length : Nat), fv, J 32, J 33, J 34, J 35, J 36, J 37, J 38, J 39, pq gd, sl gi13 0 s1.last.flatten.length s1.last.flatten.length, pq gd, .tuple #[], .tuple #[pq gc, iv 0], sl gi13 0 s1.last.flatten.length s1.last.flatten.length, sl g18 0 s1.last.flatten.length s1.last.flatten.length, .tuple #[pq gc, iv 0], pq gc, iv 0, pq gc, fv, fv, iv 0, fv, fv, fv, pq gc, iv ((Dsk.mk0 s1.last).last.length : Int), pq gd, iv ((s1.crashR []).last.length : Int), fv, fv, fv, pq gc, iv 1, fv, fv] 39) (by kernel_rfl) ?_
      refine then_n ?_
      refine wp_block ?_
      have S26 : St none' w w21 [PDisk gc (Dsk.mk0 s1.last), PDisk gd (s1.crashR []), row gi13 (bvs s1.last.flatten) 5] := St.permT [PDisk gc (Dsk.mk0 s1.last), row g18 (bvs s1.last.flatten) 5, PDisk gd (s1.crashR []), row gi13 (bvs s1.last.flatten) 5] [0, 2, 3] (by decide) rfl S22
      have hcl := crash_nil s1
      refine wp_loop_g (G := Nat × Dsk × Dsk) (fun (g_ : Nat × Dsk × Dsk) (a_ : Act) (w_ : World) => ∃ J : Nat → Value, a_ = (fr [iv n, .slice A l.length ca, .slice A3 ops.length c3, ud, ud, ud, J 6, pq gd, tv, iv ((i : Nat) : Int), sl gi13 0 s1.last.flatten.length s1.last.flatten.length, pq gc, iv 0, iv ((g_.1 : Nat) : Int), J 14, J 15, J 16, J 17, .tuple #[pq gd, tv], iv n, .slice A l.length ca, .tuple #[pq gd, tv], pq gd, tv, tv, fv, pq gd, fv, iv ((i : Nat) : Int), .slice A3 ops.length c3, iv (ops.length : Nat), fv, J 32, J 33, J 34, J 35, J 36, J 37, J 38, J 39, pq gd, sl gi13 0 s1.last.flatten.length s1.last.flatten.length, pq gd, .tuple #[], .tuple #[pq gc, iv 0], sl gi13 0 s1.last.flatten.length s1.last.flatten.length, sl g18 0 s1.last.flatten.length s1.last.flatten.length, .tuple #[pq gc, iv 0], pq gc, iv 0, pq gc, fv, fv, iv 0, fv, fv, fv, pq gc, iv ((Dsk.mk0 s1.last).last.length : Int), pq gd, iv ((s1.crashR []).last.length : Int), fv, fv, fv, pq gc, iv 1, fv, fv, J 68, J 69, J 70, J 71, J 72, J 73, J 74, J 75, J 76, J 77, J 78, J 79, J 80, J 81, J 82, J 83, J 84, J 85, J 86, J 87, J 88, J 89, J 90, J 91, J 92, J 93, J 94, J 95, J 96, J 97, J 98, J 99, J 100, J 101, J 102] 4) ∧ St none' w w_ [PDisk gc g_.2.1, PDisk gd g_.2.2, row gi13 (bvs s1.last.flatten) 5] ∧ (g_.1 ≤ s1.last.length ∧ g_.2.1.last = s1.last ∧ g_.2.1.pend = [] ∧ g_.2.1.left = -1 ∧ g_.2.2.last = s1.last ∧ g_.2.2.pend = [] ∧ g_.2.2.left = -1)) (fun g_ => s1.last.length - g_.1) (0, Dsk.mk0 s1.last, s1.crashR []) ⟨(jl [ud, ud, ud, ud, ud, ud, fv, ud, ud, ud, ud, ud, ud, ud, ud, ud, ud, ud, ud, ud, ud, ud, ud, ud, ud, ud, ud, ud, ud, ud, ud, ud, J 32, J 33, J 34, J 35, J 36, J 37, J 38, J 39]), by kernel_rfl, S26, ⟨Nat.zero_le _, rfl, rfl, rfl, hcl, rfl, rfl⟩⟩ ?_
      rintro ⟨k, sc, sd⟩ a_ w27 ⟨J, rfl, S28, hI29⟩
      skip
      have S28 : St none' w w27 [PDisk gc sc, PDisk gd sd, row gi13 (bvs s1.last.flatten) 5] := S28
      have hI29 : (k ≤ s1.last.length ∧ sc.last = s1.last ∧ sc.pend = [] ∧ sc.left = -1 ∧ sd.last = s1.last ∧ sd.pend = [] ∧ sd.left = -1) := hI29
      refine wp_seq ?_
      refine wp_seq ?_
      refine wp_region_lit ?_
      refine pv (iv ((k : Nat) : Int)) ?_
      refine pv (pq gc) ?_
      refine wl_gv rfl (gv_call (args := #[.pointer (some ⟨gc, 0, none⟩)]) rfl Try.func21 (by kernel_rfl) rfl rfl (by kernel_rfl) ?_)
      refine Calls.mono (pd_sectors S28 0 rfl) ?_
      rintro _ _ ⟨rfl, rfl⟩
      refine ⟨_, rfl, ?_⟩
      refine wl_gv rfl (gv_dec (p := (((k : Nat) : Int) : Int) < (sc.last.length : Int)) (by kernel_rfl) (fun hb16 => ?_) (fun hb16 => ?_))
      · skip
        obtain ⟨hI0, hI1, hI2, hI3, hI4, hI5, hI6⟩ := hI29
        have hcl1 : (sc.last.length : Int) = s1.last.length := by rw [hI1]
        have hcl2 : (sd.last.length : Int) = s1.last.length := by rw [hI4]
        have hk : k < s1.last.length := by omega
        obtain ⟨c1, c2⟩ := readR_yes (s := sc) (a := ((k : Nat) : Int)) (by rw [hI3]; decide) (by omega) (by omega)
        obtain ⟨d1, d2⟩ := readR_yes (s := sd) (a := ((k : Nat) : Int)) (by rw [hI6]; decide) (by omega) (by omega)
        have hcx : (sc.readR ((k : Nat) : Int)).2.1 = s1.last.getD k [] := by rw [c2, Int.toNat_natCast, now_nil hI2, hI1]
        have hdx : (sd.readR ((k : Nat) : Int)).2.1 = s1.last.getD k [] := by rw [d2, Int.toNat_natCast, now_nil hI5, hI4]
        have h512 : (s1.last.getD k []).length = 512 := h14a _ (List.mem_of_getElem? (mem_getD hk))
        have hcx5 : (sc.readR ((k : Nat) : Int)).2.1.length = 512 := by rw [hcx]; exact h512
        have hdx5 : (sd.readR ((k : Nat) : Int)).2.1.length = 512 := by rw [hdx]; exact h512
        have hcd : (sc.readR ((k : Nat) : Int)).2.1 = (sd.readR ((k : Nat) : Int)).2.1 := hcx.trans hdx.symm
        refine wl_end (fr [iv n, .slice A l.length ca, .slice A3 ops.length c3, ud, ud, ud, J 6, pq gd, tv, iv ((i : Nat) : Int), sl gi13 0 s1.last.flatten.length s1.last.flatten.length, pq gc, iv 0, iv ((k : Nat) : Int), J 14, J 15, J 16, J 17, .tuple #[pq gd, tv], iv n, .slice A l.length ca, .tuple #[pq gd, tv], pq gd, tv, tv, fv, pq gd, fv, iv ((i : Nat) : Int), .slice A3 ops.length c3, iv (ops.length : Nat), fv, J 32, J 33, J 34, J 35, J 36, J 37, J 38, J 39, pq gd, sl gi13 0 s1.last.flatten.length s1.last.flatten.length, pq gd, .tuple #[], .tuple #[pq gc, iv 0], sl gi13 0 s1.last.flatten.length s1.last.flatten.length, sl g18 0 s1.last.flatten.length s1.last.flatten.length, .tuple #[pq gc, iv 0], pq gc, iv 0, pq gc, fv, fv, iv 0, fv, fv, fv, pq gc, iv ((Dsk.mk0 s1.last).last.length : Int), pq gd, iv ((s1.crashR []).last.length : Int), fv, fv, fv, pq gc, iv 1, fv, fv, iv ((k : Nat) : Int), pq gc, iv (sc.last.length : Int), tv, J 72, J 73, J 74, J 75, J 76, J 77, J 78, J 79, J 80, J 81, J 82, J 83, J 84, J 85, J 86, J 87, J 88, J 89, J 90, J 91, J 92, J 93, J 94, J 95, J 96, J 97, J 98, J 99, J 100, J 101, J 102] 4) (by kernel_rfl) ?_
        refine then_n ?_
        refine wp_cond_true (by kernel_rfl) ?_
        refine wp_skip ?_
        refine then_n ?_
        refine wp_seq ?_
        refine wp_block ?_
        refine wp_seq ?_
        refine wp_region_lit ?_
        refine pv (pq gc) ?_
        refine pv (iv ((k : Nat) : Int)) ?_
        refine wl_gv rfl (gv_call (args := #[.pointer (some ⟨gc, 0, none⟩), .int .i64 ((k : Nat) : Int)]) rfl Try.func29 (by kernel_rfl) rfl rfl (by kernel_rfl) ?_)
        refine Calls.mono (pd_read S28) ?_
        rintro _ w30 ⟨v_, rfl, S31⟩
        obtain ⟨AP32, rfl, S31'⟩ := St.bytes_eq S31
        refine ⟨_, rfl, ?_⟩
        refine pv (.tuple #[.slice AP32 ((sc.readR ((k : Nat) : Int)).2.1.length) ((sc.readR ((k : Nat) : Int)).2.1.length), iv ((sc.readR ((k : Nat) : Int)).2.2)]) ?_
        refine pv (.slice AP32 ((sc.readR ((k : Nat) : Int)).2.1.length) ((sc.readR ((k : Nat) : Int)).2.1.length)) ?_
        refine pv (iv ((sc.readR ((k : Nat) : Int)).2.2)) ?_
        refine pv (.slice AP32 ((sc.readR ((k : Nat) : Int)).2.1.length) ((sc.readR ((k : Nat) : Int)).2.1.length)) ?_
        refine pv (iv ((sc.readR ((k : Nat) : Int)).2.2)) ?_
        refine wl_end (fr [iv n, .slice A l.length ca, .slice A3 ops.length c3, ud, ud, ud, J 6, pq gd, tv, iv ((i : Nat) : Int), sl gi13 0 s1.last.flatten.length s1.last.flatten.length, pq gc, iv 0, iv ((k : Nat) : Int), .slice AP32 ((sc.readR ((k : Nat) : Int)).2.1.length) ((sc.readR ((k : Nat) : Int)).2.1.length), iv ((sc.readR ((k : Nat) : Int)).2.2), J 16, J 17, .tuple #[pq gd, tv], iv n, .slice A l.length ca, .tuple #[pq gd, tv], pq gd, tv, tv, fv, pq gd, fv, iv ((i : Nat) : Int), .slice A3 ops.length c3, iv (ops.length : Nat), fv, J 32, J 33, J 34, J 35, J 36, J 37, J 38, J 39, pq gd, sl gi13 0 s1.last.flatten.length s1.last.flatten.length, pq gd, .tuple #[], .tuple #[pq gc, iv 0], sl gi13 0 s1.last.flatten.length s1.last.flatten.length, sl g18 0 s1.last.flatten.length s1.last.flatten.length, .tuple #[pq gc, iv 0], pq gc, iv 0, pq gc, fv, fv, iv 0, fv, fv, fv, pq gc, iv ((Dsk.mk0 s1.last).last.length : Int), pq gd, iv ((s1.crashR []).last.length : Int), fv, fv, fv, pq gc, iv 1, fv, fv, iv ((k : Nat) : Int), pq gc, iv (sc.last.length : Int), tv, J 72, J 73, .tuple #[.slice AP32 ((sc.readR ((k : Nat) : Int)).2.1.length) ((sc.readR ((k : Nat) : Int)).2.1.length), iv ((sc.readR ((k : Nat) : Int)).2.2)], pq gc, iv ((k : Nat) : Int), .tuple #[.slice AP32 ((sc.readR ((k : Nat) : Int)).2.1.length) ((sc.readR ((k : Nat) : Int)).2.1.length), iv ((sc.readR ((k : Nat) : Int)).2.2)], .slice AP32 ((sc.readR ((k : Nat) : Int)).2.1.length) ((sc.readR ((k : Nat) : Int)).2.1.length), iv ((sc.readR ((k : Nat) : Int)).2.2), J 80, J 81, J 82, J 83, J 84, J 85, J 86, J 87, J 88, J 89, J 90, J 91, J 92, J 93, J 94, J 95, J 96, J 97, J 98, J 99, J 100, J 101, J 102] 4) (by kernel_rfl) ?_
        refine then_n ?_
        refine wp_seq ?_
        refine wp_region_lit ?_
        refine pv (pq gd) ?_
        refine pv (iv ((k : Nat) : Int)) ?_
        refine wl_gv rfl (gv_call (args := #[.pointer (some ⟨gd, 0, none⟩), .int .i64 ((k : Nat) : Int)]) rfl Try.func29 (by kernel_rfl) rfl rfl (by kernel_rfl) ?_)
        have S33 : St none' w w30 [PDisk gd sd, bytesA (.slice AP32 ((sc.readR ((k : Nat) : Int)).2.1.length) ((sc.readR ((k : Nat) : Int)).2.1.length)) (sc.readR ((k : Nat) : Int)).2.1, PDisk gc (sc.readR ((k : Nat) : Int)).1, row gi13 (bvs s1.last.flatten) 5] := St.permT [bytesA (.slice AP32 ((sc.readR ((k : Nat) : Int)).2.1.length) ((sc.readR ((k : Nat) : Int)).2.1.length)) (sc.readR ((k : Nat) : Int)).2.1, PDisk gc (sc.readR ((k : Nat) : Int)).1, PDisk gd sd, row gi13 (bvs s1.last.flatten) 5] [2, 0, 1, 3] (by decide) rfl S31'
        refine Calls.mono (pd_read S33) ?_
        rintro _ w34 ⟨v_, rfl, S35⟩
        obtain ⟨AP36, rfl, S35'⟩ := St.bytes_eq S35
        refine ⟨_, rfl, ?_⟩
        refine pv (.tuple #[.slice AP36 ((sd.readR ((k : Nat) : Int)).2.1.length) ((sd.readR ((k : Nat) : Int)).2.1.length), iv ((sd.readR ((k : Nat) : Int)).2.2)]) ?_
        refine pv (.slice AP36 ((sd.readR ((k : Nat) : Int)).2.1.length) ((sd.readR ((k : Nat) : Int)).2.1.length)) ?_
        refine pv (iv ((sd.readR ((k : Nat) : Int)).2.2)) ?_
        refine pv (.slice AP36 ((sd.readR ((k : Nat) : Int)).2.1.length) ((sd.readR ((k : Nat) : Int)).2.1.length)) ?_
        refine pv (iv ((sd.readR ((k : Nat) : Int)).2.2)) ?_
        refine wl_end (fr [iv n, .slice A l.length ca, .slice A3 ops.length c3, ud, ud, ud, J 6, pq gd, tv, iv ((i : Nat) : Int), sl gi13 0 s1.last.flatten.length s1.last.flatten.length, pq gc, iv 0, iv ((k : Nat) : Int), .slice AP32 ((sc.readR ((k : Nat) : Int)).2.1.length) ((sc.readR ((k : Nat) : Int)).2.1.length), iv ((sc.readR ((k : Nat) : Int)).2.2), .slice AP36 ((sd.readR ((k : Nat) : Int)).2.1.length) ((sd.readR ((k : Nat) : Int)).2.1.length), iv ((sd.readR ((k : Nat) : Int)).2.2), .tuple #[pq gd, tv], iv n, .slice A l.length ca, .tuple #[pq gd, tv], pq gd, tv, tv, fv, pq gd, fv, iv ((i : Nat) : Int), .slice A3 ops.length c3, iv (ops.length : Nat), fv, J 32, J 33, J 34, J 35, J 36, J 37, J 38, J 39, pq gd, sl gi13 0 s1.last.flatten.length s1.last.flatten.length, pq gd, .tuple #[], .tuple #[pq gc, iv 0], sl gi13 0 s1.last.flatten.length s1.last.flatten.length, sl g18 0 s1.last.flatten.length s1.last.flatten.length, .tuple #[pq gc, iv 0], pq gc, iv 0, pq gc, fv, fv, iv 0, fv, fv, fv, pq gc, iv ((Dsk.mk0 s1.last).last.length : Int), pq gd, iv ((s1.crashR []).last.length : Int), fv, fv, fv, pq gc, iv 1, fv, fv, iv ((k : Nat) : Int), pq gc, iv (sc.last.length : Int), tv, J 72, J 73, .tuple #[.slice AP32 ((sc.readR ((k : Nat) : Int)).2.1.length) ((sc.readR ((k : Nat) : Int)).2.1.length), iv ((sc.readR ((k : Nat) : Int)).2.2)], pq gc, iv ((k : Nat) : Int), .tuple #[.slice AP32 ((sc.readR ((k : Nat) : Int)).2.1.length) ((sc.readR ((k : Nat) : Int)).2.1.length), iv ((sc.readR ((k : Nat) : Int)).2.2)], .slice AP32 ((sc.readR ((k : Nat) : Int)).2.1.length) ((sc.readR ((k : Nat) : Int)).2.1.length), iv ((sc.readR ((k : Nat) : Int)).2.2), .tuple #[.slice AP36 ((sd.readR ((k : Nat) : Int)).2.1.length) ((sd.readR ((k : Nat) : Int)).2.1.length), iv ((sd.readR ((k : Nat) : Int)).2.2)], pq gd, iv ((k : Nat) : Int), .tuple #[.slice AP36 ((sd.readR ((k : Nat) : Int)).2.1.length) ((sd.readR ((k : Nat) : Int)).2.1.length), iv ((sd.readR ((k : Nat) : Int)).2.2)], .slice AP36 ((sd.readR ((k : Nat) : Int)).2.1.length) ((sd.readR ((k : Nat) : Int)).2.1.length), iv ((sd.readR ((k : Nat) : Int)).2.2), J 86, J 87, J 88, J 89, J 90, J 91, J 92, J 93, J 94, J 95, J 96, J 97, J 98, J 99, J 100, J 101, J 102] 4) (by kernel_rfl) ?_
        refine then_n ?_
        refine wp_seq ?_
        refine wp_region_lit ?_
        refine pv (iv ((sc.readR ((k : Nat) : Int)).2.2)) ?_
        refine wl_gv rfl (gv_ne (x := ((sc.readR ((k : Nat) : Int)).2.2)) (y := 0) (by kernel_rfl) (fun hd37 => False.elim (by omega)) (fun _ => ?_))
        refine pv fv ?_
        refine wl_when (by kernel_rfl) (gv_val (v := .int .i64 ((sd.readR ((k : Nat) : Int)).2.2)) (w' := w34) (by kernel_rfl) ?_)
        refine wl_when (by kernel_rfl) (gv_ne (x := ((sd.readR ((k : Nat) : Int)).2.2)) (y := 0) (by kernel_rfl) (fun hd38 => False.elim (by omega)) (fun _ => ?_))
        refine pv fv ?_
        refine pv fv ?_
        refine wl_when (by kernel_rfl) (gv_val (v := .slice AP32 ((sc.readR ((k : Nat) : Int)).2.1.length) ((sc.readR ((k : Nat) : Int)).2.1.length)) (w' := w34) (by kernel_rfl) ?_)
        refine wl_when (by kernel_rfl) (gv_val (v := .slice AP36 ((sd.readR ((k : Nat) : Int)).2.1.length) ((sd.readR ((k : Nat) : Int)).2.1.length)) (w' := w34) (by kernel_rfl) ?_)
        refine wl_when (by kernel_rfl) (gv_call (args := #[.slice AP32 ((sc.readR ((k : Nat) : Int)).2.1.length) ((sc.readR ((k : Nat) : Int)).2.1.length), .slice AP36 ((sd.readR ((k : Nat) : Int)).2.1.length) ((sd.readR ((k : Nat) : Int)).2.1.length)]) rfl Try.func28 (by kernel_rfl) rfl rfl (by kernel_rfl) ?_)
        refine Calls.mono (same_b (decide_eq_true hcd) S35' (RoT.bytes 2 rfl rfl) (RoT.bytes 0 rfl rfl) (by omega) (by omega)) ?_
        rintro _ w39 ⟨rfl, S40⟩
        refine ⟨_, rfl, ?_⟩
        refine wl_when (by kernel_rfl) (gv_val (v := .bool false) (w' := w39) (by kernel_rfl) ?_)
        refine pv fv ?_
        refine pv fv ?_
        refine wl_when (by kernel_rfl) (gv_val (v := .slice AP32 ((sc.readR ((k : Nat) : Int)).2.1.length) ((sc.readR ((k : Nat) : Int)).2.1.length)) (w' := w39) (by kernel_rfl) ?_)
        refine wl_when (by kernel_rfl) (gv_val (v := .int .i64 ((sc.readR ((k : Nat) : Int)).2.1.length : Nat)) (w' := w39) (by kernel_rfl) ?_)
        refine wl_when (by kernel_rfl) (gv_ne (x := ((sc.readR ((k : Nat) : Int)).2.1.length : Nat)) (y := 512) (by kernel_rfl) (fun hd41 => False.elim (by omega)) (fun _ => ?_))
        refine pv fv ?_
        refine wl_end (fr [iv n, .slice A l.length ca, .slice A3 ops.length c3, ud, ud, ud, J 6, pq gd, tv, iv ((i : Nat) : Int), sl gi13 0 s1.last.flatten.length s1.last.flatten.length, pq gc, iv 0, iv ((k : Nat) : Int), .slice AP32 ((sc.readR ((k : Nat) : Int)).2.1.length) ((sc.readR ((k : Nat) : Int)).2.1.length), iv ((sc.readR ((k : Nat) : Int)).2.2), .slice AP36 ((sd.readR ((k : Nat) : Int)).2.1.length) ((sd.readR ((k : Nat) : Int)).2.1.length), iv ((sd.readR ((k : Nat) : Int)).2.2), .tuple #[pq gd, tv], iv n, .slice A l.length ca, .tuple #[pq gd, tv], pq gd, tv, tv, fv, pq gd, fv, iv ((i : Nat) : Int), .slice A3 ops.length c3, iv (ops.length : Nat), fv, J 32, J 33, J 34, J 35, J 36, J 37, J 38, J 39, pq gd, sl gi13 0 s1.last.flatten.length s1.last.flatten.length, pq gd, .tuple #[], .tuple #[pq gc, iv 0], sl gi13 0 s1.last.flatten.length s1.last.flatten.length, sl g18 0 s1.last.flatten.length s1.last.flatten.length, .tuple #[pq gc, iv 0], pq gc, iv 0, pq gc, fv, fv, iv 0, fv, fv, fv, pq gc, iv ((Dsk.mk0 s1.last).last.length : Int), pq gd, iv ((s1.crashR []).last.length : Int), fv, fv, fv, pq gc, iv 1, fv, fv, iv ((k : Nat) : Int), pq gc, iv (sc.last.length : Int), tv, J 72, J 73, .tuple #[.slice AP32 ((sc.readR ((k : Nat) : Int)).2.1.length) ((sc.readR ((k : Nat) : Int)).2.1.length), iv ((sc.readR ((k : Nat) : Int)).2.2)], pq gc, iv ((k : Nat) : Int), .tuple #[.slice AP32 ((sc.readR ((k : Nat) : Int)).2.1.length) ((sc.readR ((k : Nat) : Int)).2.1.length), iv ((sc.readR ((k : Nat) : Int)).2.2)], .slice AP32 ((sc.readR ((k : Nat) : Int)).2.1.length) ((sc.readR ((k : Nat) : Int)).2.1.length), iv ((sc.readR ((k : Nat) : Int)).2.2), .tuple #[.slice AP36 ((sd.readR ((k : Nat) : Int)).2.1.length) ((sd.readR ((k : Nat) : Int)).2.1.length), iv ((sd.readR ((k : Nat) : Int)).2.2)], pq gd, iv ((k : Nat) : Int), .tuple #[.slice AP36 ((sd.readR ((k : Nat) : Int)).2.1.length) ((sd.readR ((k : Nat) : Int)).2.1.length), iv ((sd.readR ((k : Nat) : Int)).2.2)], .slice AP36 ((sd.readR ((k : Nat) : Int)).2.1.length) ((sd.readR ((k : Nat) : Int)).2.1.length), iv ((sd.readR ((k : Nat) : Int)).2.2), iv ((sc.readR ((k : Nat) : Int)).2.2), fv, fv, iv ((sd.readR ((k : Nat) : Int)).2.2), fv, fv, fv, .slice AP32 ((sc.readR ((k : Nat) : Int)).2.1.length) ((sc.readR ((k : Nat) : Int)).2.1.length), .slice AP36 ((sd.readR ((k : Nat) : Int)).2.1.length) ((sd.readR ((k : Nat) : Int)).2.1.length), tv, fv, fv, fv, .slice AP32 ((sc.readR ((k : Nat) : Int)).2.1.length) ((sc.readR ((k : Nat) : Int)).2.1.length), iv ((sc.readR ((k : Nat) : Int)).2.1.length : Nat), fv, fv] 4) (by kernel_rfl) ?_
        refine then_n ?_
        refine wp_cond_false (by kernel_rfl) ?_
        refine wp_skip ?_
        refine inb_n ?_
        refine then_n ?_
        refine wp_region_lit ?_
        refine pv (iv ((k : Nat) : Int)) ?_
        refine wl_gv rfl (gv_int (k := .i64) (z := IntKind.i64.wrap (((k : Nat) : Int) + 1)) (z' := ((k + 1 : Nat) : Int)) (by kernel_rfl) (wr_eq (by omega) (by omega) (by omega)) ?_)
        refine pv (iv ((k + 1 : Nat) : Int)) ?_
        refine wl_end (fr [iv n, .slice A l.length ca, .slice A3 ops.length c3, ud, ud, ud, J 6, pq gd, tv, iv ((i : Nat) : Int), sl gi13 0 s1.last.flatten.length s1.last.flatten.length, pq gc, iv 0, iv ((k + 1 : Nat) : Int), .slice AP32 ((sc.readR ((k : Nat) : Int)).2.1.length) ((sc.readR ((k : Nat) : Int)).2.1.length), iv ((sc.readR ((k : Nat) : Int)).2.2), .slice AP36 ((sd.readR ((k : Nat) : Int)).2.1.length) ((sd.readR ((k : Nat) : Int)).2.1.length), iv ((sd.readR ((k : Nat) : Int)).2.2), .tuple #[pq gd, tv], iv n, .slice A l.length ca, .tuple #[pq gd, tv], pq gd, tv, tv, fv, pq gd, fv, iv ((i : Nat) : Int), .slice A3 ops.length c3, iv (ops.length : Nat), fv, J 32, J 33, J 34, J 35, J 36, J 37, J 38, J 39, pq gd, sl gi13 0 s1.last.flatten.length s1.last.flatten.length, pq gd, .tuple #[], .tuple #[pq gc, iv 0], sl gi13 0 s1.last.flatten.length s1.last.flatten.length, sl g18 0 s1.last.flatten.length s1.last.flatten.length, .tuple #[pq gc, iv 0], pq gc, iv 0, pq gc, fv, fv, iv 0, fv, fv, fv, pq gc, iv ((Dsk.mk0 s1.last).last.length : Int), pq gd, iv ((s1.crashR []).last.length : Int), fv, fv, fv, pq gc, iv 1, fv, fv, iv ((k : Nat) : Int), pq gc, iv (sc.last.length : Int), tv, iv ((k : Nat) : Int), iv ((k + 1 : Nat) : Int), .tuple #[.slice AP32 ((sc.readR ((k : Nat) : Int)).2.1.length) ((sc.readR ((k : Nat) : Int)).2.1.length), iv ((sc.readR ((k : Nat) : Int)).2.2)], pq gc, iv ((k : Nat) : Int), .tuple #[.slice AP32 ((sc.readR ((k : Nat) : Int)).2.1.length) ((sc.readR ((k : Nat) : Int)).2.1.length), iv ((sc.readR ((k : Nat) : Int)).2.2)], .slice AP32 ((sc.readR ((k : Nat) : Int)).2.1.length) ((sc.readR ((k : Nat) : Int)).2.1.length), iv ((sc.readR ((k : Nat) : Int)).2.2), .tuple #[.slice AP36 ((sd.readR ((k : Nat) : Int)).2.1.length) ((sd.readR ((k : Nat) : Int)).2.1.length), iv ((sd.readR ((k : Nat) : Int)).2.2)], pq gd, iv ((k : Nat) : Int), .tuple #[.slice AP36 ((sd.readR ((k : Nat) : Int)).2.1.length) ((sd.readR ((k : Nat) : Int)).2.1.length), iv ((sd.readR ((k : Nat) : Int)).2.2)], .slice AP36 ((sd.readR ((k : Nat) : Int)).2.1.length) ((sd.readR ((k : Nat) : Int)).2.1.length), iv ((sd.readR ((k : Nat) : Int)).2.2), iv ((sc.readR ((k : Nat) : Int)).2.2), fv, fv, iv ((sd.readR ((k : Nat) : Int)).2.2), fv, fv, fv, .slice AP32 ((sc.readR ((k : Nat) : Int)).2.1.length) ((sc.readR ((k : Nat) : Int)).2.1.length), .slice AP36 ((sd.readR ((k : Nat) : Int)).2.1.length) ((sd.readR ((k : Nat) : Int)).2.1.length), tv, fv, fv, fv, .slice AP32 ((sc.readR ((k : Nat) : Int)).2.1.length) ((sc.readR ((k : Nat) : Int)).2.1.length), iv ((sc.readR ((k : Nat) : Int)).2.1.length : Nat), fv, fv] 4) (by kernel_rfl) ?_
        refine then_n ?_
        have S42 : St none' w w39 [PDisk gc (sc.readR ((k : Nat) : Int)).1, PDisk gd (sd.readR ((k : Nat) : Int)).1, row gi13 (bvs s1.last.flatten) 5] := St.permT [bytesA (.slice AP36 ((sd.readR ((k : Nat) : Int)).2.1.length) ((sd.readR ((k : Nat) : Int)).2.1.length)) (sd.readR ((k : Nat) : Int)).2.1, PDisk gd (sd.readR ((k : Nat) : Int)).1, bytesA (.slice AP32 ((sc.readR ((k : Nat) : Int)).2.1.length) ((sc.readR ((k : Nat) : Int)).2.1.length)) (sc.readR ((k : Nat) : Int)).2.1, PDisk gc (sc.readR ((k : Nat) : Int)).1, row gi13 (bvs s1.last.flatten) 5] [3, 1, 4] (by decide) rfl S40
        exact ⟨(k + 1, (sc.readR ((k : Nat) : Int)).1, (sd.readR ((k : Nat) : Int)).1), ⟨(jl [ud, ud, ud, ud, ud, ud, J 6, ud, ud, ud, ud, ud, ud, ud, .slice AP32 ((sc.readR ((k : Nat) : Int)).2.1.length) ((sc.readR ((k : Nat) : Int)).2.1.length), iv ((sc.readR ((k : Nat) : Int)).2.2), .slice AP36 ((sd.readR ((k : Nat) : Int)).2.1.length) ((sd.readR ((k : Nat) : Int)).2.1.length), iv ((sd.readR ((k : Nat) : Int)).2.2), ud, ud, ud, ud, ud, ud, ud, ud, ud, ud, ud, ud, ud, ud, J 32, J 33, J 34, J 35, J 36, J 37, J 38, J 39, ud, ud, ud, ud, ud, ud, ud, ud, ud, ud, ud, ud, ud, ud, ud, ud, ud, ud, ud, ud, ud, ud, ud, ud, ud, ud, ud, ud, iv ((k : Nat) : Int), pq gc, iv (sc.last.length : Int), tv, iv ((k : Nat) : Int), iv ((k + 1 : Nat) : Int), .tuple #[.slice AP32 ((sc.readR ((k : Nat) : Int)).2.1.length) ((sc.readR ((k : Nat) : Int)).2.1.length), iv ((sc.readR ((k : Nat) : Int)).2.2)], pq gc, iv ((k : Nat) : Int), .tuple #[.slice AP32 ((sc.readR ((k : Nat) : Int)).2.1.length) ((sc.readR ((k : Nat) : Int)).2.1.length), iv ((sc.readR ((k : Nat) : Int)).2.2)], .slice AP32 ((sc.readR ((k : Nat) : Int)).2.1.length) ((sc.readR ((k : Nat) : Int)).2.1.length), iv ((sc.readR ((k : Nat) : Int)).2.2), .tuple #[.slice AP36 ((sd.readR ((k : Nat) : Int)).2.1.length) ((sd.readR ((k : Nat) : Int)).2.1.length), iv ((sd.readR ((k : Nat) : Int)).2.2)], pq gd, iv ((k : Nat) : Int), .tuple #[.slice AP36 ((sd.readR ((k : Nat) : Int)).2.1.length) ((sd.readR ((k : Nat) : Int)).2.1.length), iv ((sd.readR ((k : Nat) : Int)).2.2)], .slice AP36 ((sd.readR ((k : Nat) : Int)).2.1.length) ((sd.readR ((k : Nat) : Int)).2.1.length), iv ((sd.readR ((k : Nat) : Int)).2.2), iv ((sc.readR ((k : Nat) : Int)).2.2), fv, fv, iv ((sd.readR ((k : Nat) : Int)).2.2), fv, fv, fv, .slice AP32 ((sc.readR ((k : Nat) : Int)).2.1.length) ((sc.readR ((k : Nat) : Int)).2.1.length), .slice AP36 ((sd.readR ((k : Nat) : Int)).2.1.length) ((sd.readR ((k : Nat) : Int)).2.1.length), tv, fv, fv, fv, .slice AP32 ((sc.readR ((k : Nat) : Int)).2.1.length) ((sc.readR ((k : Nat) : Int)).2.1.length), iv ((sc.readR ((k : Nat) : Int)).2.1.length : Nat), fv, fv]), by kernel_rfl, S42, ⟨by omega, by rw [(readR_same sc _).1]; exact hI1, by rw [(readR_same sc _).2.1]; exact hI2, by rw [(readR_same sc _).2.2]; exact hI3, by rw [(readR_same sd _).1]; exact hI4, by rw [(readR_same sd _).2.1]; exact hI5, by rw [(readR_same sd _).2.2]; exact hI6⟩⟩, (by show s1.last.length - (k + 1) < s1.last.length - k; omega)⟩
      · skip
        skip
        refine wl_end (fr [iv n, .slice A l.length ca, .slice A3 ops.length c3, ud, ud, ud, J 6, pq gd, tv, iv ((i : Nat) : Int), sl gi13 0 s1.last.flatten.length s1.last.flatten.length, pq gc, iv 0, iv ((k : Nat) : Int), J 14, J 15, J 16, J 17, .tuple #[pq gd, tv], iv n, .slice A l.length ca, .tuple #[pq gd, tv], pq gd, tv, tv, fv, pq gd, fv, iv ((i : Nat) : Int), .slice A3 ops.length c3, iv (ops.length : Nat), fv, J 32, J 33, J 34, J 35, J 36, J 37, J 38, J 39, pq gd, sl gi13 0 s1.last.flatten.length s1.last.flatten.length, pq gd, .tuple #[], .tuple #[pq gc, iv 0], sl gi13 0 s1.last.flatten.length s1.last.flatten.length, sl g18 0 s1.last.flatten.length s1.last.flatten.length, .tuple #[pq gc, iv 0], pq gc, iv 0, pq gc, fv, fv, iv 0, fv, fv, fv, pq gc, iv ((Dsk.mk0 s1.last).last.length : Int), pq gd, iv ((s1.crashR []).last.length : Int), fv, fv, fv, pq gc, iv 1, fv, fv, iv ((k : Nat) : Int), pq gc, iv (sc.last.length : Int), fv, J 72, J 73, J 74, J 75, J 76, J 77, J 78, J 79, J 80, J 81, J 82, J 83, J 84, J 85, J 86, J 87, J 88, J 89, J 90, J 91, J 92, J 93, J 94, J 95, J 96, J 97, J 98, J 99, J 100, J 101, J 102] 4) (by kernel_rfl) ?_
        refine then_n ?_
        refine wp_cond_false (by kernel_rfl) ?_
        refine wp_exit ?_
        refine then_x ?_
        refine then_x ?_
        refine inb_x ?_
        refine then_n ?_
        refine wp_seq ?_
        refine wp_region_lit ?_
        refine pv (sl gi13 0 s1.last.flatten.length s1.last.flatten.length) ?_
        refine pv (pq gd) ?_
        refine wl_gv rfl (gv_call (args := #[.pointer (some ⟨gd, 0, none⟩)]) rfl Try.func25 (by kernel_rfl) rfl rfl (by kernel_rfl) ?_)
        obtain ⟨hI0, hI1, hI2, hI3, hI4, hI5, hI6⟩ := hI29
        have S43 : St none' w w27 [PDisk gd sd, PDisk gc sc, row gi13 (bvs s1.last.flatten) 5] := St.permT [PDisk gc sc, PDisk gd sd, row gi13 (bvs s1.last.flatten) 5] [1, 0, 2] (by decide) rfl S28
        obtain ⟨h47a, h47b⟩ := St.pd_small S43
        obtain ⟨h47c, _⟩ := St.pd_n1 S43
        have h47d := flat_len h47a
        refine Calls.mono (pd_image S43) ?_
        rintro _ w44 ⟨v_, rfl, S45⟩
        obtain ⟨gi46, rfl, S45'⟩ := St.bytes_open S45 (by omega)
        refine ⟨_, rfl, ?_⟩
        refine wl_gv rfl (gv_call (args := #[.slice (some ⟨gi13, 0, none⟩) s1.last.flatten.length s1.last.flatten.length, .slice (some ⟨gi46, 0, none⟩) sd.last.flatten.length sd.last.flatten.length]) rfl Try.func28 (by kernel_rfl) rfl rfl (by kernel_rfl) ?_)
        have hfe : s1.last.flatten = sd.last.flatten := by rw [hI4]
        have hfl2 : sd.last.flatten.length = s1.last.flatten.length := by rw [hI4]
        refine Calls.mono (same_b (a := s1.last.flatten) (b := sd.last.flatten) (decide_eq_true hfe) S45' (RoT.item 3 rfl 0 s1.last.flatten.length _ (by rw [List.drop_zero, List.take_length])) (RoT.item 0 rfl 0 sd.last.flatten.length _ (by rw [List.drop_zero, List.take_length])) (by omega) (by omega)) ?_
        rintro _ w48 ⟨rfl, S49⟩
        refine ⟨_, rfl, ?_⟩
        refine pv tv ?_
        refine wl_end (fr [iv n, .slice A l.length ca, .slice A3 ops.length c3, ud, ud, ud, tv, pq gd, tv, iv ((i : Nat) : Int), sl gi13 0 s1.last.flatten.length s1.last.flatten.length, pq gc, iv 0, iv ((k : Nat) : Int), J 14, J 15, J 16, J 17, .tuple #[pq gd, tv], iv n, .slice A l.length ca, .tuple #[pq gd, tv], pq gd, tv, tv, fv, pq gd, fv, iv ((i : Nat) : Int), .slice A3 ops.length c3, iv (ops.length : Nat), fv, J 32, J 33, J 34, J 35, J 36, J 37, J 38, J 39, pq gd, sl gi13 0 s1.last.flatten.length s1.last.flatten.length, pq gd, .tuple #[], .tuple #[pq gc, iv 0], sl gi13 0 s1.last.flatten.length s1.last.flatten.length, sl g18 0 s1.last.flatten.length s1.last.flatten.length, .tuple #[pq gc, iv 0], pq gc, iv 0, pq gc, fv, fv, iv 0, fv, fv, fv, pq gc, iv ((Dsk.mk0 s1.last).last.length : Int), pq gd, iv ((s1.crashR []).last.length : Int), fv, fv, fv, pq gc, iv 1, fv, fv, iv ((k : Nat) : Int), pq gc, iv (sc.last.length : Int), fv, J 72, J 73, J 74, J 75, J 76, J 77, J 78, J 79, J 80, J 81, J 82, J 83, J 84, J 85, J 86, J 87, J 88, J 89, J 90, J 91, J 92, J 93, J 94, J 95, J 96, J 97, J 98, J 99, J 100, J 101, J 102, sl gi13 0 s1.last.flatten.length s1.last.flatten.length, pq gd, sl gi46 0 sd.last.flatten.length sd.last.flatten.length, tv] 0) (by kernel_rfl) ?_
        refine then_n ?_
        refine wp_ret ?_
        refine bodyPost_ret (v := .bool true) (results_t1 rfl (by kernel_rfl)) rfl ?_
        exact ⟨rfl, S49.fr.below⟩
end Go.Proofs
