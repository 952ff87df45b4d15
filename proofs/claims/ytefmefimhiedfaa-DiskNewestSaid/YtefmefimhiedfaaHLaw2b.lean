/- The law DiskNewest answers true. -/
import Derived.Test.YtefmefimhiedfaaHDskN
open Go Go.RowKit Go.Proofs.YtefmefimhiedfaaW.PrintWords Go.Proofs.YtefmefimhiedfaaW.PrintMore
namespace Go.Proofs
open Go.Vel
set_option linter.unusedVariables false
set_option maxRecDepth 100000
set_option maxHeartbeats 4000000
attribute [local irreducible] gives wpList Code.wp

theorem diskNewest_all (w : World) {A A3 : Option Addr} {l : List UInt8} {ca c3 : Nat} {ops : List OpD} (n : Int) (hr : RdB w A l) (hlm : l.length ≤ 140737488351232) (hs : RdV w A3 (opsV ops)) (hsm : ops.length ≤ 2199023255552) (hok : ∀ o ∈ ops, o.Ok w) : Calls Try.prog 13 #[.int .i64 n, .slice A l.length ca, .slice A3 ops.length c3] w fun e w' => e = .returned (.bool true) ∧ Below w.heap.size w w' := by
  have S0 : St none' w w [] := St.init none' w
  have hR : ∀ L, RoT none' w L A l := fun L => (Ro.of_C hr (fun _ h => h)).T
  refine wp_enter (fr [iv n, .slice A l.length ca, .slice A3 ops.length c3] 188) Try.func13 rfl (by kernel_rfl) ?_
  refine wp_seq ?_
  refine wp_region_lit ?_
  refine pv fv ?_
  refine wl_end (fr [iv n, .slice A l.length ca, .slice A3 ops.length c3, ud, ud, ud, fv] 184) (by kernel_rfl) ?_
  refine then_n ?_
  refine wp_seq ?_
  refine wp_region_lit ?_
  refine pv (iv n) ?_
  refine pv (.slice A l.length ca) ?_
  refine wl_gv rfl (gv_call (args := #[.int .i64 n, .slice A l.length ca]) rfl Try.func33 (by kernel_rfl) rfl rfl (by kernel_rfl) ?_)
  refine Calls.mono (open_all S0 (hR _) hlm n) ?_
  rintro _ w1 (⟨rfl, S2⟩ | ⟨gd, s, rfl, hsp, S2⟩)
  · refine ⟨_, rfl, ?_⟩
    refine pv (.tuple #[pn, tv]) ?_
    refine pv pn ?_
    refine pv tv ?_
    refine pv pn ?_
    refine pv tv ?_
    refine wl_end (fr [iv n, .slice A l.length ca, .slice A3 ops.length c3, ud, ud, ud, fv, pn, tv, ud, ud, ud, ud, ud, ud, ud, ud, ud, ud, ud, ud, ud, .tuple #[pn, tv], iv n, .slice A l.length ca, .tuple #[pn, tv], pn, tv] 163) (by kernel_rfl) ?_
    refine then_n ?_
    refine wp_seq ?_
    refine wp_seq ?_
    refine wp_region_lit ?_
    refine pv tv ?_
    refine pv fv ?_
    refine wl_end (fr [iv n, .slice A l.length ca, .slice A3 ops.length c3, ud, ud, ud, fv, pn, tv, ud, ud, ud, ud, ud, ud, ud, ud, ud, ud, ud, ud, ud, .tuple #[pn, tv], iv n, .slice A l.length ca, .tuple #[pn, tv], pn, tv, tv, fv] 161) (by kernel_rfl) ?_
    refine then_n ?_
    refine wp_cond_false (by kernel_rfl) ?_
    refine wp_skip ?_
    refine then_n ?_
    refine wp_seq ?_
    refine wp_seq ?_
    refine wp_region_lit ?_
    refine pv pn ?_
    refine pv tv ?_
    refine wl_end (fr [iv n, .slice A l.length ca, .slice A3 ops.length c3, ud, ud, ud, fv, pn, tv, ud, ud, ud, ud, ud, ud, ud, ud, ud, ud, ud, ud, ud, .tuple #[pn, tv], iv n, .slice A l.length ca, .tuple #[pn, tv], pn, tv, tv, fv, pn, tv] 159) (by kernel_rfl) ?_
    refine then_n ?_
    refine wp_cond_true (by kernel_rfl) ?_
    refine wp_seq ?_
    refine wp_region_lit ?_
    refine pv tv ?_
    refine wl_end (fr [iv n, .slice A l.length ca, .slice A3 ops.length c3, ud, ud, ud, tv, pn, tv, ud, ud, ud, ud, ud, ud, ud, ud, ud, ud, ud, ud, ud, .tuple #[pn, tv], iv n, .slice A l.length ca, .tuple #[pn, tv], pn, tv, tv, fv, pn, tv] 159) (by kernel_rfl) ?_
    refine then_n ?_
    refine wp_ret ?_
    refine then_r ?_
    refine bodyPost_ret (v := .bool true) (results_t1 rfl (by kernel_rfl)) rfl ?_
    exact ⟨rfl, S2.fr.below⟩
  · refine ⟨_, rfl, ?_⟩
    obtain ⟨hn1, _⟩ := St.pd_n1 S2
    refine pv (.tuple #[pq gd, tv]) ?_
    refine pv (pq gd) ?_
    refine pv tv ?_
    refine pv (pq gd) ?_
    refine pv tv ?_
    refine wl_end (fr [iv n, .slice A l.length ca, .slice A3 ops.length c3, ud, ud, ud, fv, pq gd, tv, ud, ud, ud, ud, ud, ud, ud, ud, ud, ud, ud, ud, ud, .tuple #[pq gd, tv], iv n, .slice A l.length ca, .tuple #[pq gd, tv], pq gd, tv] 163) (by kernel_rfl) ?_
    refine then_n ?_
    refine wp_seq ?_
    refine wp_seq ?_
    refine wp_region_lit ?_
    refine pv tv ?_
    refine pv fv ?_
    refine wl_end (fr [iv n, .slice A l.length ca, .slice A3 ops.length c3, ud, ud, ud, fv, pq gd, tv, ud, ud, ud, ud, ud, ud, ud, ud, ud, ud, ud, ud, ud, .tuple #[pq gd, tv], iv n, .slice A l.length ca, .tuple #[pq gd, tv], pq gd, tv, tv, fv] 161) (by kernel_rfl) ?_
    refine then_n ?_
    refine wp_cond_false (by kernel_rfl) ?_
    refine wp_skip ?_
    refine then_n ?_
    refine wp_seq ?_
    refine wp_seq ?_
    refine wp_region_lit ?_
    refine pv (pq gd) ?_
    refine pv fv ?_
    refine wl_end (fr [iv n, .slice A l.length ca, .slice A3 ops.length c3, ud, ud, ud, fv, pq gd, tv, ud, ud, ud, ud, ud, ud, ud, ud, ud, ud, ud, ud, ud, .tuple #[pq gd, tv], iv n, .slice A l.length ca, .tuple #[pq gd, tv], pq gd, tv, tv, fv, pq gd, fv] 159) (by kernel_rfl) ?_
    refine then_n ?_
    refine wp_cond_false (by kernel_rfl) ?_
    refine wp_skip ?_
    refine then_n ?_
    refine wp_seq ?_
    refine wp_region_lit ?_
    refine pv (pq gd) ?_
    refine wl_gv rfl (gv_call (args := #[.pointer (some ⟨gd, 0, none⟩)]) rfl Try.func25 (by kernel_rfl) rfl rfl (by kernel_rfl) ?_)
    obtain ⟨h6a, h6b⟩ := St.pd_small S2
    obtain ⟨h6c, _⟩ := St.pd_n1 S2
    have h6d := flat_len h6a
    refine Calls.mono (pd_image S2) ?_
    rintro _ w3 ⟨v_, rfl, S4⟩
    obtain ⟨gi5, rfl, S4'⟩ := St.bytes_open S4 (by omega)
    refine ⟨_, rfl, ?_⟩
    refine pv (sl gi5 0 s.last.flatten.length s.last.flatten.length) ?_
    refine wl_end (fr [iv n, .slice A l.length ca, .slice A3 ops.length c3, ud, ud, ud, fv, pq gd, tv, sl gi5 0 s.last.flatten.length s.last.flatten.length, ud, ud, ud, ud, ud, ud, ud, ud, ud, ud, ud, ud, .tuple #[pq gd, tv], iv n, .slice A l.length ca, .tuple #[pq gd, tv], pq gd, tv, tv, fv, pq gd, fv, pq gd, sl gi5 0 s.last.flatten.length s.last.flatten.length] 157) (by kernel_rfl) ?_
    refine then_n ?_
    refine wp_seq ?_
    refine wp_region_lit ?_
    refine pv (sl gi5 0 s.last.flatten.length s.last.flatten.length) ?_
    refine wl_gv rfl (gv_call (args := #[.slice (some ⟨gi5, 0, none⟩) s.last.flatten.length s.last.flatten.length]) rfl Try.func34 (by kernel_rfl) rfl rfl (by kernel_rfl) ?_)
    refine Calls.mono (cut_all (M := [row gi5 (bvs s.last.flatten) 5]) (l := s.last.flatten) (m := s.last.length) S4' (RoT.item 0 rfl 0 s.last.flatten.length _ (by rw [List.drop_zero, List.take_length])) h6d (by omega) (Nat.le_refl _)) ?_
    rintro _ w7 ⟨v_, E9, rfl, hE10a, hE10b, S8⟩
    have hE10c : E9.length = s.last.length := by have := congrArg List.length hE10a; rw [List.length_map, length_secs] at this; exact this
    obtain ⟨gn11, cn12, jk13, rfl, hc14, _, _, S8'⟩ := St.vec_open S8 (by omega)
    refine ⟨_, rfl, ?_⟩
    refine pv (sl gn11 0 E9.length cn12) ?_
    refine wl_end (fr [iv n, .slice A l.length ca, .slice A3 ops.length c3, ud, ud, ud, fv, pq gd, tv, sl gi5 0 s.last.flatten.length s.last.flatten.length, sl gn11 0 E9.length cn12, ud, ud, ud, ud, ud, ud, ud, ud, ud, ud, ud, .tuple #[pq gd, tv], iv n, .slice A l.length ca, .tuple #[pq gd, tv], pq gd, tv, tv, fv, pq gd, fv, pq gd, sl gi5 0 s.last.flatten.length s.last.flatten.length, sl gi5 0 s.last.flatten.length s.last.flatten.length, sl gn11 0 E9.length cn12] 155) (by kernel_rfl) ?_
    refine then_n ?_
    refine wp_seq ?_
    refine wp_seq ?_
    refine wp_region_lit ?_
    refine pv (sl gn11 0 E9.length cn12) ?_
    refine pv (iv (E9.length : Nat)) ?_
    refine pv (pq gd) ?_
    refine wl_gv rfl (gv_call (args := #[.pointer (some ⟨gd, 0, none⟩)]) rfl Try.func21 (by kernel_rfl) rfl rfl (by kernel_rfl) ?_)
    refine Calls.mono (pd_sectors S8' 2 rfl) ?_
    rintro _ _ ⟨rfl, rfl⟩
    refine ⟨_, rfl, ?_⟩
    refine wl_gv rfl (gv_ne (x := (E9.length : Nat)) (y := (s.last.length : Int)) (by kernel_rfl) (fun hd15 => False.elim (by omega)) (fun _ => ?_))
    refine pv fv ?_
    refine wl_when (by kernel_rfl) (gv_val (v := .slice (some ⟨gn11, 0, none⟩) E9.length cn12) (w' := w7) (by kernel_rfl) ?_)
    refine wl_when (by kernel_rfl) (gv_val (v := .int .i64 (E9.length : Nat)) (w' := w7) (by kernel_rfl) ?_)
    refine wl_when (by kernel_rfl) (gv_dec (p := ((E9.length : Nat) : Int) < 1) (by kernel_rfl) (fun hd16 => False.elim (by omega)) (fun _ => ?_))
    refine pv fv ?_
    refine wl_end (fr [iv n, .slice A l.length ca, .slice A3 ops.length c3, ud, ud, ud, fv, pq gd, tv, sl gi5 0 s.last.flatten.length s.last.flatten.length, sl gn11 0 E9.length cn12, ud, ud, ud, ud, ud, ud, ud, ud, ud, ud, ud, .tuple #[pq gd, tv], iv n, .slice A l.length ca, .tuple #[pq gd, tv], pq gd, tv, tv, fv, pq gd, fv, pq gd, sl gi5 0 s.last.flatten.length s.last.flatten.length, sl gi5 0 s.last.flatten.length s.last.flatten.length, sl gn11 0 E9.length cn12, sl gn11 0 E9.length cn12, iv (E9.length : Nat), pq gd, iv (s.last.length : Int), fv, fv, sl gn11 0 E9.length cn12, iv (E9.length : Nat), fv, fv] 145) (by kernel_rfl) ?_
    refine then_n ?_
    refine wp_cond_false (by kernel_rfl) ?_
    refine wp_skip ?_
    refine then_n ?_
    refine wp_seq ?_
    refine wp_seq ?_
    refine wp_region_lit ?_
    refine pv (iv 0) ?_
    refine wl_end (fr [iv n, .slice A l.length ca, .slice A3 ops.length c3, ud, ud, ud, fv, pq gd, tv, sl gi5 0 s.last.flatten.length s.last.flatten.length, sl gn11 0 E9.length cn12, iv 0, ud, ud, ud, ud, ud, ud, ud, ud, ud, ud, .tuple #[pq gd, tv], iv n, .slice A l.length ca, .tuple #[pq gd, tv], pq gd, tv, tv, fv, pq gd, fv, pq gd, sl gi5 0 s.last.flatten.length s.last.flatten.length, sl gi5 0 s.last.flatten.length s.last.flatten.length, sl gn11 0 E9.length cn12, sl gn11 0 E9.length cn12, iv (E9.length : Nat), pq gd, iv (s.last.length : Int), fv, fv, sl gn11 0 E9.length cn12, iv (E9.length : Nat), fv, fv] 145) (by kernel_rfl) ?_
    refine then_n ?_
    refine wp_block ?_
    have S17 : St none' w w7 [PDisk gd s, row gn11 ((E9.map Hd.val ++ jk13).toArray) 31, row gi5 (bvs s.last.flatten) 5] := St.permT [row gn11 ((E9.map Hd.val ++ jk13).toArray) 31, row gi5 (bvs s.last.flatten) 5, PDisk gd s] [2, 0, 1] (by decide) rfl S8'
    have hN0 : NF w s E9 gi5 s.last.flatten := NF.of_cut hE10a h6a hsp hE10b hn1 h6b
    refine wp_loop_g (G := Nat × Dsk × List Hd × Nat × Nat × List Value × Nat × List UInt8 × Nat) (fun (g_ : Nat × Dsk × List Hd × Nat × Nat × List Value × Nat × List UInt8 × Nat) (a_ : Act) (w_ : World) => ∃ J : Nat → Value, a_ = (fr [iv n, .slice A l.length ca, .slice A3 ops.length c3, ud, ud, ud, J 6, pq gd, tv, sl gi5 0 s.last.flatten.length s.last.flatten.length, sl g_.2.2.2.1 0 g_.2.2.2.2.2.2.2.2 g_.2.2.2.2.1, iv ((g_.1 : Nat) : Int), J 12, J 13, J 14, J 15, J 16, J 17, J 18, ud, ud, ud, .tuple #[pq gd, tv], iv n, .slice A l.length ca, .tuple #[pq gd, tv], pq gd, tv, tv, fv, pq gd, fv, pq gd, sl gi5 0 s.last.flatten.length s.last.flatten.length, sl gi5 0 s.last.flatten.length s.last.flatten.length, sl gn11 0 E9.length cn12, sl gn11 0 E9.length cn12, iv (E9.length : Nat), pq gd, iv (s.last.length : Int), fv, fv, sl gn11 0 E9.length cn12, iv (E9.length : Nat), fv, fv, J 46, J 47, J 48, J 49, J 50, J 51, J 52, J 53, J 54, J 55, J 56, J 57, J 58, J 59, J 60, J 61, J 62, J 63, J 64, J 65, J 66, J 67, J 68, J 69, J 70, J 71, J 72, J 73, J 74, J 75, J 76, J 77, J 78, J 79, J 80, J 81, J 82, J 83, J 84, J 85, J 86, J 87, J 88, J 89, J 90, J 91, J 92, J 93, J 94, J 95, J 96, J 97, J 98, J 99, J 100, J 101, J 102, J 103, J 104, J 105, J 106, J 107, J 108, J 109, J 110, J 111, J 112, J 113, J 114, J 115, J 116, J 117, J 118, J 119, J 120, J 121, J 122, J 123, J 124, J 125, J 126, J 127, J 128, J 129, J 130, J 131, J 132, J 133, J 134, J 135, J 136, J 137, J 138, J 139, J 140, J 141, J 142, J 143, J 144, J 145, J 146, J 147, J 148, J 149, J 150, J 151, J 152, J 153, J 154, J 155, J 156, J 157, J 158, J 159, J 160, J 161, J 162, J 163, J 164, J 165, J 166, J 167] 23) ∧ St none' w w_ [PDisk gd g_.2.1, row g_.2.2.2.1 ((g_.2.2.1.map Hd.val ++ g_.2.2.2.2.2.1).toArray) 31, row g_.2.2.2.2.2.2.1 (bvs g_.2.2.2.2.2.2.2.1) 5] ∧ (g_.1 ≤ ops.length ∧ g_.2.1.pend.length ≤ g_.1 ∧ NF w g_.2.1 g_.2.2.1 g_.2.2.2.2.2.2.1 g_.2.2.2.2.2.2.2.1 ∧ g_.2.2.2.2.2.2.2.2 ≤ g_.2.2.2.2.1 ∧ g_.2.2.1.length = g_.2.2.2.2.2.2.2.2)) (fun g_ => ops.length - g_.1) (0, s, E9, gn11, cn12, jk13, gi5, s.last.flatten, E9.length) ⟨(jl [ud, ud, ud, ud, ud, ud, fv]), by kernel_rfl, S17, ⟨Nat.zero_le _, by show s.pend.length ≤ 0; rw [hsp]; exact Nat.le_refl _, hN0, hc14, rfl⟩⟩ ?_
    rintro ⟨i, s1, E, gn, cn, jk, gi, im, m⟩ a_ w18 ⟨J, rfl, S19, hI20⟩
    skip
    have S19 : St none' w w18 [PDisk gd s1, row gn ((E.map Hd.val ++ jk).toArray) 31, row gi (bvs im) 5] := S19
    have hI20 : (i ≤ ops.length ∧ s1.pend.length ≤ i ∧ NF w s1 E gi im ∧ m ≤ cn ∧ E.length = m) := hI20
    refine wp_seq ?_
    refine wp_seq ?_
    refine wp_region_lit ?_
    refine pv (iv ((i : Nat) : Int)) ?_
    refine pv (.slice A3 ops.length c3) ?_
    refine pv (iv (ops.length : Nat)) ?_
    refine wl_gv rfl (gv_dec (p := (((i : Nat) : Int) : Int) < (ops.length : Nat)) (by kernel_rfl) (fun hb21 => ?_) (fun hb21 => ?_))
    · skip
      have hi : i < ops.length := by omega
      obtain ⟨o, ho⟩ : ∃ o, ops[i]? = some o := ⟨_, List.getElem?_eq_getElem hi⟩
      have hk := hok o (List.mem_of_getElem? ho)
      obtain ⟨ad, hAd, hrs⟩ := (RoV.of_rd hs []).out w18 _ (show St none' w w18 ([PDisk gd s1, row gn ((E.map Hd.val ++ jk).toArray) 31, row gi (bvs im) 5] ++ []) from S19) (by rw [length_opsV]; omega)
      have hrq : RdV w18 (some ad) (opsV ops) := fun _ => ⟨ad, rfl, hrs⟩
      obtain ⟨hiI, hpI, hN, hcI, hmI⟩ := hI20
      have hNl := hN.len
      have hNn1 := hN.n1
      have hNn2 := hN.n2
      have hat9 := hk.hat
      refine wl_end (fr [iv n, .slice A l.length ca, .slice A3 ops.length c3, ud, ud, ud, J 6, pq gd, tv, sl gi5 0 s.last.flatten.length s.last.flatten.length, sl gn 0 m cn, iv ((i : Nat) : Int), J 12, J 13, J 14, J 15, J 16, J 17, J 18, ud, ud, ud, .tuple #[pq gd, tv], iv n, .slice A l.length ca, .tuple #[pq gd, tv], pq gd, tv, tv, fv, pq gd, fv, pq gd, sl gi5 0 s.last.flatten.length s.last.flatten.length, sl gi5 0 s.last.flatten.length s.last.flatten.length, sl gn11 0 E9.length cn12, sl gn11 0 E9.length cn12, iv (E9.length : Nat), pq gd, iv (s.last.length : Int), fv, fv, sl gn11 0 E9.length cn12, iv (E9.length : Nat), fv, fv, iv ((i : Nat) : Int), .slice A3 ops.length c3, iv (ops.length : Nat), tv, J 50, J 51, J 52, J 53, J 54, J 55, J 56, J 57, J 58, J 59, J 60, J 61, J 62, J 63, J 64, J 65, J 66, J 67, J 68, J 69, J 70, J 71, J 72, J 73, J 74, J 75, J 76, J 77, J 78, J 79, J 80, J 81, J 82, J 83, J 84, J 85, J 86, J 87, J 88, J 89, J 90, J 91, J 92, J 93, J 94, J 95, J 96, J 97, J 98, J 99, J 100, J 101, J 102, J 103, J 104, J 105, J 106, J 107, J 108, J 109, J 110, J 111, J 112, J 113, J 114, J 115, J 116, J 117, J 118, J 119, J 120, J 121, J 122, J 123, J 124, J 125, J 126, J 127, J 128, J 129, J 130, J 131, J 132, J 133, J 134, J 135, J 136, J 137, J 138, J 139, J 140, J 141, J 142, J 143, J 144, J 145, J 146, J 147, J 148, J 149, J 150, J 151, J 152, J 153, J 154, J 155, J 156, J 157, J 158, J 159, J 160, J 161, J 162, J 163, J 164, J 165, J 166, J 167] 23) (by kernel_rfl) ?_
      refine then_n ?_
      refine wp_cond_true (by kernel_rfl) ?_
      refine wp_skip ?_
      refine then_n ?_
      refine wp_seq ?_
      refine wp_block ?_
      refine wp_seq ?_
      refine wp_region_lit ?_
      refine pv (.slice A3 ops.length c3) ?_
      refine pv (iv ((i : Nat) : Int)) ?_
      refine wl_gv rfl (gv_ixB (e := 49) (sz := 4) (n := ops.length) (c := c3) (i := ((i : Nat) : Int)) (k := .i64) (ad := ad) (ad' := (ad.add (i * 4))) (j := i) rfl (by kernel_rfl) (by kernel_rfl) (by rw [← hAd]; kernel_rfl) (by kernel_rfl) rfl (by omega) rfl ?_)
      refine wl_gv rfl (gv_ldRA (ad := ad.add (i * 4)) (vs := [.int .i64 o.kind, .int .i64 o.at_, .slice o.A o.d.length o.cd, .slice o.A2 o.ps.length o.cp]) (n := 4) rfl (by kernel_rfl) (by kernel_rfl) rfl (RoV.cells hrq (i * 4) (fun j u hu => opsV_at ops _ _ ho j u hu) (Nat.succ_pos _)) ?_)
      refine wl_gv rfl (gv_new (z := .agg #[.int .i64 0, .int .i64 0, .slice none 0 0, .slice none 0 0]) S19 rfl (by kernel_rfl) (fun g22 w23 hg24 S25 => ?_))
      refine wl_gv rfl (gv_stA (k := 0) (vs := [.int .i64 o.kind, .int .i64 o.at_, .slice o.A o.d.length o.cd, .slice o.A2 o.ps.length o.cp]) S25 0 rfl rfl (by kernel_rfl) (by kernel_rfl) (by kernel_rfl) rfl (by simp [Value.oneCell']) (Nat.le_of_ble_eq_true (by kernel_rfl)) (L' := [row g22 #[.int .i64 o.kind, .int .i64 o.at_, .slice o.A o.d.length o.cd, .slice o.A2 o.ps.length o.cp] 49, PDisk gd s1, row gn ((E.map Hd.val ++ jk).toArray) 31, row gi (bvs im) 5]) rfl (fun w26 S27 => ?_))
      refine wl_end (fr [iv n, .slice A l.length ca, .slice A3 ops.length c3, ud, ud, ud, J 6, pq gd, tv, sl gi5 0 s.last.flatten.length s.last.flatten.length, sl gn 0 m cn, iv ((i : Nat) : Int), pq g22, J 13, J 14, J 15, J 16, J 17, J 18, ud, ud, ud, .tuple #[pq gd, tv], iv n, .slice A l.length ca, .tuple #[pq gd, tv], pq gd, tv, tv, fv, pq gd, fv, pq gd, sl gi5 0 s.last.flatten.length s.last.flatten.length, sl gi5 0 s.last.flatten.length s.last.flatten.length, sl gn11 0 E9.length cn12, sl gn11 0 E9.length cn12, iv (E9.length : Nat), pq gd, iv (s.last.length : Int), fv, fv, sl gn11 0 E9.length cn12, iv (E9.length : Nat), fv, fv, iv ((i : Nat) : Int), .slice A3 ops.length c3, iv (ops.length : Nat), tv, J 50, J 51, .slice A3 ops.length c3, iv ((i : Nat) : Int), .pointer (some (ad.add (i * 4))), .agg #[iv o.kind, iv o.at_, .slice o.A o.d.length o.cd, .slice o.A2 o.ps.length o.cp], J 56, J 57, J 58, J 59, J 60, J 61, J 62, J 63, J 64, J 65, J 66, J 67, J 68, J 69, J 70, J 71, J 72, J 73, J 74, J 75, J 76, J 77, J 78, J 79, J 80, J 81, J 82, J 83, J 84, J 85, J 86, J 87, J 88, J 89, J 90, J 91, J 92, J 93, J 94, J 95, J 96, J 97, J 98, J 99, J 100, J 101, J 102, J 103, J 104, J 105, J 106, J 107, J 108, J 109, J 110, J 111, J 112, J 113, J 114, J 115, J 116, J 117, J 118, J 119, J 120, J 121, J 122, J 123, J 124, J 125, J 126, J 127, J 128, J 129, J 130, J 131, J 132, J 133, J 134, J 135, J 136, J 137, J 138, J 139, J 140, J 141, J 142, J 143, J 144, J 145, J 146, J 147, J 148, J 149, J 150, J 151, J 152, J 153, J 154, J 155, J 156, J 157, J 158, J 159, J 160, J 161, J 162, J 163, J 164, J 165, J 166, J 167] 23) (by kernel_rfl) ?_
      refine then_n ?_
      refine wp_seq ?_
      refine wp_region_lit ?_
      refine pv (pq g22) ?_
      refine wl_gv rfl (gv_ldR (v := .int .i64 o.kind) rfl (by kernel_rfl) (by kernel_rfl) (((S27.blk 0 rfl).cell 0).trans rfl) ?_)
      refine wl_end (fr [iv n, .slice A l.length ca, .slice A3 ops.length c3, ud, ud, ud, J 6, pq gd, tv, sl gi5 0 s.last.flatten.length s.last.flatten.length, sl gn 0 m cn, iv ((i : Nat) : Int), pq g22, J 13, J 14, J 15, J 16, J 17, J 18, ud, ud, ud, .tuple #[pq gd, tv], iv n, .slice A l.length ca, .tuple #[pq gd, tv], pq gd, tv, tv, fv, pq gd, fv, pq gd, sl gi5 0 s.last.flatten.length s.last.flatten.length, sl gi5 0 s.last.flatten.length s.last.flatten.length, sl gn11 0 E9.length cn12, sl gn11 0 E9.length cn12, iv (E9.length : Nat), pq gd, iv (s.last.length : Int), fv, fv, sl gn11 0 E9.length cn12, iv (E9.length : Nat), fv, fv, iv ((i : Nat) : Int), .slice A3 ops.length c3, iv (ops.length : Nat), tv, J 50, J 51, .slice A3 ops.length c3, iv ((i : Nat) : Int), .pointer (some (ad.add (i * 4))), .agg #[iv o.kind, iv o.at_, .slice o.A o.d.length o.cd, .slice o.A2 o.ps.length o.cp], pq g22, iv o.kind, J 58, J 59, J 60, J 61, J 62, J 63, J 64, J 65, J 66, J 67, J 68, J 69, J 70, J 71, J 72, J 73, J 74, J 75, J 76, J 77, J 78, J 79, J 80, J 81, J 82, J 83, J 84, J 85, J 86, J 87, J 88, J 89, J 90, J 91, J 92, J 93, J 94, J 95, J 96, J 97, J 98, J 99, J 100, J 101, J 102, J 103, J 104, J 105, J 106, J 107, J 108, J 109, J 110, J 111, J 112, J 113, J 114, J 115, J 116, J 117, J 118, J 119, J 120, J 121, J 122, J 123, J 124, J 125, J 126, J 127, J 128, J 129, J 130, J 131, J 132, J 133, J 134, J 135, J 136, J 137, J 138, J 139, J 140, J 141, J 142, J 143, J 144, J 145, J 146, J 147, J 148, J 149, J 150, J 151, J 152, J 153, J 154, J 155, J 156, J 157, J 158, J 159, J 160, J 161, J 162, J 163, J 164, J 165, J 166, J 167] 23) (by kernel_rfl) ?_
      refine then_n ?_
      refine wp_block ?_
      refine wp_seq ?_
      refine wp_region_lit ?_
      refine wl_gv rfl (gv_eq (x := o.kind) (y := 2) (by kernel_rfl) (fun k2 => ?_) (fun k2 => ?_))
      · skip
        refine pv tv ?_
        refine wl_end (fr [iv n, .slice A l.length ca, .slice A3 ops.length c3, ud, ud, ud, J 6, pq gd, tv, sl gi5 0 s.last.flatten.length s.last.flatten.length, sl gn 0 m cn, iv ((i : Nat) : Int), pq g22, J 13, J 14, J 15, J 16, J 17, J 18, ud, ud, ud, .tuple #[pq gd, tv], iv n, .slice A l.length ca, .tuple #[pq gd, tv], pq gd, tv, tv, fv, pq gd, fv, pq gd, sl gi5 0 s.last.flatten.length s.last.flatten.length, sl gi5 0 s.last.flatten.length s.last.flatten.length, sl gn11 0 E9.length cn12, sl gn11 0 E9.length cn12, iv (E9.length : Nat), pq gd, iv (s.last.length : Int), fv, fv, sl gn11 0 E9.length cn12, iv (E9.length : Nat), fv, fv, iv ((i : Nat) : Int), .slice A3 ops.length c3, iv (ops.length : Nat), tv, J 50, J 51, .slice A3 ops.length c3, iv ((i : Nat) : Int), .pointer (some (ad.add (i * 4))), .agg #[iv o.kind, iv o.at_, .slice o.A o.d.length o.cd, .slice o.A2 o.ps.length o.cp], pq g22, iv o.kind, J 58, J 59, J 60, tv, tv, J 63, J 64, J 65, J 66, J 67, J 68, J 69, J 70, J 71, J 72, J 73, J 74, J 75, J 76, J 77, J 78, J 79, J 80, J 81, J 82, J 83, J 84, J 85, J 86, J 87, J 88, J 89, J 90, J 91, J 92, J 93, J 94, J 95, J 96, J 97, J 98, J 99, J 100, J 101, J 102, J 103, J 104, J 105, J 106, J 107, J 108, J 109, J 110, J 111, J 112, J 113, J 114, J 115, J 116, J 117, J 118, J 119, J 120, J 121, J 122, J 123, J 124, J 125, J 126, J 127, J 128, J 129, J 130, J 131, J 132, J 133, J 134, J 135, J 136, J 137, J 138, J 139, J 140, J 141, J 142, J 143, J 144, J 145, J 146, J 147, J 148, J 149, J 150, J 151, J 152, J 153, J 154, J 155, J 156, J 157, J 158, J 159, J 160, J 161, J 162, J 163, J 164, J 165, J 166, J 167] 23) (by kernel_rfl) ?_
        refine then_n ?_
        refine wp_cond_true (by kernel_rfl) ?_
        refine wp_seq ?_
        refine wp_region_phu (γ := Nat) 7 [5, 6] (fun (c_ : Nat) (i_ : Nat) => (match i_ with | 0 => .pointer (some ⟨gd, 0, none⟩) | 1 => .pointer (some ⟨g22, 1, none⟩) | 2 => .int .i64 o.at_ | 3 => .pointer (some ⟨g22, 2, none⟩) | 4 => .slice o.A o.d.length o.cd | 5 => .slice (some ⟨c_, 0, none⟩) o.d.length o.d.length | 6 => .int .i64 ((s1.writeR o.at_ o.d).2) | _ => undef : Value)) (fun (c_ : Nat) (p_ : Nat) (w_ : World) => (match p_ with | 0 => St none' w w_ [row g22 #[.int .i64 o.kind, .int .i64 o.at_, .slice o.A o.d.length o.cd, .slice o.A2 o.ps.length o.cp] 49, PDisk gd s1, row gn ((E.map Hd.val ++ jk).toArray) 31, row gi (bvs im) 5] | 1 => St none' w w_ [row c_ (bvs o.d) 5, row g22 #[.int .i64 o.kind, .int .i64 o.at_, .slice o.A o.d.length o.cd, .slice o.A2 o.ps.length o.cp] 49, PDisk gd s1, row gn ((E.map Hd.val ++ jk).toArray) 31, row gi (bvs im) 5] | _ => St none' w w_ [PDisk gd (s1.writeR o.at_ o.d).1, row c_ (bvs o.d) 5, row g22 #[.int .i64 o.kind, .int .i64 o.at_, .slice o.A o.d.length o.cd, .slice o.A2 o.ps.length o.cp] 49, row gn ((E.map Hd.val ++ jk).toArray) 31, row gi (bvs im) 5] : Prop)) (0) (by kernel_rfl) (by kernel_rfl) (by kernel_rfl) (by kernel_rfl) (S27.drew) ?_ ?_ ?_
        · intro i_ c_ p_ vals_ w1 hi_ hiE_ hp_ hk_ hu_ hPh_ hd_
          rcases i_ with _ | _ | _ | _ | _ | _ | _ | i_
          · skip
            refine told_free rfl rfl (gv_env ((⟨Array.replicate 191 undef, []⟩ : Act).put (some 7) (.pointer (some ⟨gd, 0, none⟩))) (by kernel_rfl) (xs := [.tmp 7]) (by kernel_rfl) (alike_cons (fill_past (by kernel_rfl) (by kernel_rfl)) alike_nil) (gv_val (v := .pointer (some ⟨gd, 0, none⟩)) (w' := w1) (by kernel_rfl) ?_))
            exact ⟨rfl, rfl⟩
          · skip
            refine told_free rfl rfl (gv_env ((⟨Array.replicate 191 undef, []⟩ : Act).put (some 12) (.pointer (some ⟨g22, 0, none⟩))) (by kernel_rfl) (xs := [.tmp 12]) (by kernel_rfl) (alike_cons (fill_past (by kernel_rfl) (by kernel_rfl)) alike_nil) (gv_val (v := .pointer (some ⟨g22, 1, none⟩)) (w' := w1) (by kernel_rfl) ?_))
            exact ⟨rfl, rfl⟩
          · skip
            rcases p_ with _ | _ | _ | p_
            · skip
              have S30 : St none' w w1 [row g22 #[.int .i64 o.kind, .int .i64 o.at_, .slice o.A o.d.length o.cd, .slice o.A2 o.ps.length o.cp] 49, PDisk gd s1, row gn ((E.map Hd.val ++ jk).toArray) 31, row gi (bvs im) 5] := hPh_
              refine told_free rfl rfl (gv_env ((⟨Array.replicate 191 undef, []⟩ : Act).put (some 64) (.pointer (some ⟨g22, 1, none⟩))) (by kernel_rfl) (xs := [.tmp 64]) (by kernel_rfl) (alike_cons (fill_at (k := 1) (by kernel_rfl) (by kernel_rfl) ((hd_ 1 (by kernel_rfl)).trans (by kernel_rfl))) alike_nil) (gv_ldR (v := .int .i64 o.at_) rfl (by kernel_rfl) (by kernel_rfl) (((S30.blk 0 rfl).cell 1).trans rfl) ?_))
              exact ⟨rfl, rfl⟩
            · skip
              have S31 : St none' w w1 [row c_ (bvs o.d) 5, row g22 #[.int .i64 o.kind, .int .i64 o.at_, .slice o.A o.d.length o.cd, .slice o.A2 o.ps.length o.cp] 49, PDisk gd s1, row gn ((E.map Hd.val ++ jk).toArray) 31, row gi (bvs im) 5] := hPh_
              refine told_free rfl rfl (gv_env ((⟨Array.replicate 191 undef, []⟩ : Act).put (some 64) (.pointer (some ⟨g22, 1, none⟩))) (by kernel_rfl) (xs := [.tmp 64]) (by kernel_rfl) (alike_cons (fill_at (k := 1) (by kernel_rfl) (by kernel_rfl) ((hd_ 1 (by kernel_rfl)).trans (by kernel_rfl))) alike_nil) (gv_ldR (v := .int .i64 o.at_) rfl (by kernel_rfl) (by kernel_rfl) (((S31.blk 1 rfl).cell 1).trans rfl) ?_))
              exact ⟨rfl, rfl⟩
            · skip
              exact absurd (hu_ 1 (by decide) (by kernel_rfl)) (by decide)
            · exact absurd hp_ (by simp)
          · skip
            refine told_free rfl rfl (gv_env ((⟨Array.replicate 191 undef, []⟩ : Act).put (some 12) (.pointer (some ⟨g22, 0, none⟩))) (by kernel_rfl) (xs := [.tmp 12]) (by kernel_rfl) (alike_cons (fill_past (by kernel_rfl) (by kernel_rfl)) alike_nil) (gv_val (v := .pointer (some ⟨g22, 2, none⟩)) (w' := w1) (by kernel_rfl) ?_))
            exact ⟨rfl, rfl⟩
          · skip
            rcases p_ with _ | _ | _ | p_
            · skip
              have S33 : St none' w w1 [row g22 #[.int .i64 o.kind, .int .i64 o.at_, .slice o.A o.d.length o.cd, .slice o.A2 o.ps.length o.cp] 49, PDisk gd s1, row gn ((E.map Hd.val ++ jk).toArray) 31, row gi (bvs im) 5] := hPh_
              refine told_free rfl rfl (gv_env ((⟨Array.replicate 191 undef, []⟩ : Act).put (some 66) (.pointer (some ⟨g22, 2, none⟩))) (by kernel_rfl) (xs := [.tmp 66]) (by kernel_rfl) (alike_cons (fill_at (k := 3) (by kernel_rfl) (by kernel_rfl) ((hd_ 3 (by kernel_rfl)).trans (by kernel_rfl))) alike_nil) (gv_ldR (v := .slice o.A o.d.length o.cd) rfl (by kernel_rfl) (by kernel_rfl) (((S33.blk 0 rfl).cell 2).trans rfl) ?_))
              exact ⟨rfl, rfl⟩
            · skip
              exact absurd (hu_ 0 (by decide) (by kernel_rfl)) (by decide)
            · skip
              exact absurd (hu_ 0 (by decide) (by kernel_rfl)) (by decide)
            · exact absurd hp_ (by simp)
          · skip
            exact absurd hiE_ (by decide)
          · skip
            exact absurd hiE_ (by decide)
          · exact absurd hi_ (by omega)
        · intro k_ c_ vals_ w1 hk_ hPh_ hd_
          rcases k_ with _ | _ | k_
          · skip
            have S34 : St none' w w1 [row g22 #[.int .i64 o.kind, .int .i64 o.at_, .slice o.A o.d.length o.cd, .slice o.A2 o.ps.length o.cp] 49, PDisk gd s1, row gn ((E.map Hd.val ++ jk).toArray) 31, row gi (bvs im) 5] := hPh_
            refine told_free rfl rfl (gv_env ((⟨Array.replicate 191 undef, []⟩ : Act).put (some 67) (.slice o.A o.d.length o.cd)) (by kernel_rfl) (xs := [.func 27, .tmp 67]) (by kernel_rfl) (alike_cons eval_fn (alike_cons (fill_at (k := 4) (by kernel_rfl) (by kernel_rfl) ((hd_ 4 (by kernel_rfl)).trans (by kernel_rfl))) alike_nil)) (gv_call (args := #[.slice o.A o.d.length o.cd]) rfl Try.func27 (by kernel_rfl) rfl rfl (by kernel_rfl) ?_))
            refine Calls.mono (ltwinS (l := o.d) S34 (Ro.of_C hk.d (fun _ h => h)).T hk.dm) ?_
            rintro _ w36 ⟨g35, rfl, S37⟩
            refine ⟨_, rfl, ?_⟩
            refine ⟨(g35), rfl, ?_, S37⟩
            intro i_ hi_ hne_ hdp_
            rcases i_ with _ | _ | _ | _ | _ | _ | _ | i_
            · rfl
            · rfl
            · rfl
            · rfl
            · rfl
            · exact absurd rfl hne_
            · exact (dep_no hdp_ (by kernel_rfl)).elim
            · exact absurd hi_ (by omega)
          · skip
            have S38 : St none' w w1 [row c_ (bvs o.d) 5, row g22 #[.int .i64 o.kind, .int .i64 o.at_, .slice o.A o.d.length o.cd, .slice o.A2 o.ps.length o.cp] 49, PDisk gd s1, row gn ((E.map Hd.val ++ jk).toArray) 31, row gi (bvs im) 5] := hPh_
            refine told_free rfl rfl (gv_env ((((⟨Array.replicate 191 undef, []⟩ : Act).put (some 63) (.pointer (some ⟨gd, 0, none⟩))).put (some 65) (.int .i64 o.at_)).put (some 68) (.slice (some ⟨c_, 0, none⟩) o.d.length o.d.length)) (by kernel_rfl) (xs := [.func 35, .tmp 63, .tmp 65, .tmp 68]) (by kernel_rfl) (alike_cons eval_fn (alike_cons (fill_at (k := 0) (by kernel_rfl) (by kernel_rfl) ((hd_ 0 (by kernel_rfl)).trans (by kernel_rfl))) (alike_cons (fill_at (k := 2) (by kernel_rfl) (by kernel_rfl) ((hd_ 2 (by kernel_rfl)).trans (by kernel_rfl))) (alike_cons (fill_at (k := 5) (by kernel_rfl) (by kernel_rfl) ((hd_ 5 (by kernel_rfl)).trans (by kernel_rfl))) alike_nil)))) (gv_call (args := #[.pointer (some ⟨gd, 0, none⟩), .int .i64 o.at_, .slice (some ⟨c_, 0, none⟩) o.d.length o.d.length]) rfl Try.func35 (by kernel_rfl) rfl rfl (by kernel_rfl) ?_))
            have S39 : St none' w w1 [PDisk gd s1, row c_ (bvs o.d) 5, row g22 #[.int .i64 o.kind, .int .i64 o.at_, .slice o.A o.d.length o.cd, .slice o.A2 o.ps.length o.cp] 49, row gn ((E.map Hd.val ++ jk).toArray) 31, row gi (bvs im) 5] := St.permT [row c_ (bvs o.d) 5, row g22 #[.int .i64 o.kind, .int .i64 o.at_, .slice o.A o.d.length o.cd, .slice o.A2 o.ps.length o.cp] 49, PDisk gd s1, row gn ((E.map Hd.val ++ jk).toArray) 31, row gi (bvs im) 5] [2, 0, 1, 3, 4] (by decide) rfl S38
            refine Calls.mono (pd_write S39 (RoT.item 0 rfl 0 o.d.length o.d (by rw [List.drop_zero, List.take_length])) (by have := hk.dm; omega) (by have := hpI; omega)) ?_
            rintro _ w40 ⟨rfl, S41⟩
            refine ⟨_, rfl, ?_⟩
            refine ⟨(c_), rfl, ?_, S41⟩
            intro i_ hi_ hne_ hdp_
            rcases i_ with _ | _ | _ | _ | _ | _ | _ | i_
            · rfl
            · rfl
            · rfl
            · rfl
            · rfl
            · rfl
            · exact absurd rfl hne_
            · exact absurd hi_ (by omega)
          · exact absurd hk_ (by simp)
        · intro c_ w1 hPh_
          have S42 : St none' w w1 [PDisk gd (s1.writeR o.at_ o.d).1, row c_ (bvs o.d) 5, row g22 #[.int .i64 o.kind, .int .i64 o.at_, .slice o.A o.d.length o.cd, .slice o.A2 o.ps.length o.cp] 49, row gn ((E.map Hd.val ++ jk).toArray) 31, row gi (bvs im) 5] := hPh_
          refine wl_frame (fr [iv n, .slice A l.length ca, .slice A3 ops.length c3, ud, ud, ud, J 6, pq gd, tv, sl gi5 0 s.last.flatten.length s.last.flatten.length, sl gn 0 m cn, iv ((i : Nat) : Int), pq g22, J 13, J 14, J 15, J 16, J 17, J 18, ud, ud, ud, .tuple #[pq gd, tv], iv n, .slice A l.length ca, .tuple #[pq gd, tv], pq gd, tv, tv, fv, pq gd, fv, pq gd, sl gi5 0 s.last.flatten.length s.last.flatten.length, sl gi5 0 s.last.flatten.length s.last.flatten.length, sl gn11 0 E9.length cn12, sl gn11 0 E9.length cn12, iv (E9.length : Nat), pq gd, iv (s.last.length : Int), fv, fv, sl gn11 0 E9.length cn12, iv (E9.length : Nat), fv, fv, iv ((i : Nat) : Int), .slice A3 ops.length c3, iv (ops.length : Nat), tv, J 50, J 51, .slice A3 ops.length c3, iv ((i : Nat) : Int), .pointer (some (ad.add (i * 4))), .agg #[iv o.kind, iv o.at_, .slice o.A o.d.length o.cd, .slice o.A2 o.ps.length o.cp], pq g22, iv o.kind, J 58, J 59, J 60, tv, tv, pq gd, po g22 1, iv o.at_, po g22 2, .slice o.A o.d.length o.cd, sl c_ 0 o.d.length o.d.length, iv ((s1.writeR o.at_ o.d).2), J 70, J 71, J 72, J 73, J 74, J 75, J 76, J 77, J 78, J 79, J 80, J 81, J 82, J 83, J 84, J 85, J 86, J 87, J 88, J 89, J 90, J 91, J 92, J 93, J 94, J 95, J 96, J 97, J 98, J 99, J 100, J 101, J 102, J 103, J 104, J 105, J 106, J 107, J 108, J 109, J 110, J 111, J 112, J 113, J 114, J 115, J 116, J 117, J 118, J 119, J 120, J 121, J 122, J 123, J 124, J 125, J 126, J 127, J 128, J 129, J 130, J 131, J 132, J 133, J 134, J 135, J 136, J 137, J 138, J 139, J 140, J 141, J 142, J 143, J 144, J 145, J 146, J 147, J 148, J 149, J 150, J 151, J 152, J 153, J 154, J 155, J 156, J 157, J 158, J 159, J 160, J 161, J 162, J 163, J 164, J 165, J 166, J 167] 23) (by kernel_rfl) ?_
          refine pv (iv ((s1.writeR o.at_ o.d).2)) ?_
          refine wl_end (fr [iv n, .slice A l.length ca, .slice A3 ops.length c3, ud, ud, ud, J 6, pq gd, tv, sl gi5 0 s.last.flatten.length s.last.flatten.length, sl gn 0 m cn, iv ((i : Nat) : Int), pq g22, iv ((s1.writeR o.at_ o.d).2), J 14, J 15, J 16, J 17, J 18, ud, ud, ud, .tuple #[pq gd, tv], iv n, .slice A l.length ca, .tuple #[pq gd, tv], pq gd, tv, tv, fv, pq gd, fv, pq gd, sl gi5 0 s.last.flatten.length s.last.flatten.length, sl gi5 0 s.last.flatten.length s.last.flatten.length, sl gn11 0 E9.length cn12, sl gn11 0 E9.length cn12, iv (E9.length : Nat), pq gd, iv (s.last.length : Int), fv, fv, sl gn11 0 E9.length cn12, iv (E9.length : Nat), fv, fv, iv ((i : Nat) : Int), .slice A3 ops.length c3, iv (ops.length : Nat), tv, J 50, J 51, .slice A3 ops.length c3, iv ((i : Nat) : Int), .pointer (some (ad.add (i * 4))), .agg #[iv o.kind, iv o.at_, .slice o.A o.d.length o.cd, .slice o.A2 o.ps.length o.cp], pq g22, iv o.kind, J 58, J 59, J 60, tv, tv, pq gd, po g22 1, iv o.at_, po g22 2, .slice o.A o.d.length o.cd, sl c_ 0 o.d.length o.d.length, iv ((s1.writeR o.at_ o.d).2), J 70, J 71, J 72, J 73, J 74, J 75, J 76, J 77, J 78, J 79, J 80, J 81, J 82, J 83, J 84, J 85, J 86, J 87, J 88, J 89, J 90, J 91, J 92, J 93, J 94, J 95, J 96, J 97, J 98, J 99, J 100, J 101, J 102, J 103, J 104, J 105, J 106, J 107, J 108, J 109, J 110, J 111, J 112, J 113, J 114, J 115, J 116, J 117, J 118, J 119, J 120, J 121, J 122, J 123, J 124, J 125, J 126, J 127, J 128, J 129, J 130, J 131, J 132, J 133, J 134, J 135, J 136, J 137, J 138, J 139, J 140, J 141, J 142, J 143, J 144, J 145, J 146, J 147, J 148, J 149, J 150, J 151, J 152, J 153, J 154, J 155, J 156, J 157, J 158, J 159, J 160, J 161, J 162, J 163, J 164, J 165, J 166, J 167] 23) (by kernel_rfl) ?_
          refine then_n ?_
          refine wp_seq ?_
          refine wp_region_lit ?_
          refine pv (po g22 1) ?_
          refine wl_gv rfl (gv_ldR (v := .int .i64 o.at_) rfl (by kernel_rfl) (by kernel_rfl) (((S42.blk 2 rfl).cell 1).trans rfl) ?_)
          refine wl_gv rfl (gv_dec (p := (o.at_ : Int) ≥ 0) (by kernel_rfl) (fun hb43 => ?_) (fun hb43 => ?_))
          · skip
            refine pv tv ?_
            refine wl_when (by kernel_rfl) (gv_val (v := .pointer (some ⟨g22, 1, none⟩)) (w' := w1) (by kernel_rfl) ?_)
            refine wl_when (by kernel_rfl) (gv_ldR (v := .int .i64 o.at_) rfl (by kernel_rfl) (by kernel_rfl) (((S42.blk 2 rfl).cell 1).trans rfl) ?_)
            refine wl_when (by kernel_rfl) (gv_val (v := .slice (some ⟨gn, 0, none⟩) m cn) (w' := w1) (by kernel_rfl) ?_)
            refine wl_when (by kernel_rfl) (gv_val (v := .int .i64 (m : Nat)) (w' := w1) (by kernel_rfl) ?_)
            refine wl_when (by kernel_rfl) (gv_dec (p := (o.at_ : Int) < (m : Nat)) (by kernel_rfl) (fun hb44 => ?_) (fun hb44 => ?_))
            · skip
              refine pv tv ?_
              refine pv tv ?_
              refine wl_when (by kernel_rfl) (gv_val (v := .pointer (some ⟨g22, 2, none⟩)) (w' := w1) (by kernel_rfl) ?_)
              refine wl_when (by kernel_rfl) (gv_ldR (v := .slice o.A o.d.length o.cd) rfl (by kernel_rfl) (by kernel_rfl) (((S42.blk 2 rfl).cell 2).trans rfl) ?_)
              refine wl_when (by kernel_rfl) (gv_val (v := .int .i64 (o.d.length : Nat)) (w' := w1) (by kernel_rfl) ?_)
              refine wl_when (by kernel_rfl) (gv_eq (x := (o.d.length : Nat)) (y := 512) (by kernel_rfl) (fun hb45 => ?_) (fun hb45 => ?_))
              · skip
                refine pv tv ?_
                refine pv tv ?_
                refine wl_end (fr [iv n, .slice A l.length ca, .slice A3 ops.length c3, ud, ud, ud, J 6, pq gd, tv, sl gi5 0 s.last.flatten.length s.last.flatten.length, sl gn 0 m cn, iv ((i : Nat) : Int), pq g22, iv ((s1.writeR o.at_ o.d).2), tv, J 15, J 16, J 17, J 18, ud, ud, ud, .tuple #[pq gd, tv], iv n, .slice A l.length ca, .tuple #[pq gd, tv], pq gd, tv, tv, fv, pq gd, fv, pq gd, sl gi5 0 s.last.flatten.length s.last.flatten.length, sl gi5 0 s.last.flatten.length s.last.flatten.length, sl gn11 0 E9.length cn12, sl gn11 0 E9.length cn12, iv (E9.length : Nat), pq gd, iv (s.last.length : Int), fv, fv, sl gn11 0 E9.length cn12, iv (E9.length : Nat), fv, fv, iv ((i : Nat) : Int), .slice A3 ops.length c3, iv (ops.length : Nat), tv, J 50, J 51, .slice A3 ops.length c3, iv ((i : Nat) : Int), .pointer (some (ad.add (i * 4))), .agg #[iv o.kind, iv o.at_, .slice o.A o.d.length o.cd, .slice o.A2 o.ps.length o.cp], pq g22, iv o.kind, J 58, J 59, J 60, tv, tv, pq gd, po g22 1, iv o.at_, po g22 2, .slice o.A o.d.length o.cd, sl c_ 0 o.d.length o.d.length, iv ((s1.writeR o.at_ o.d).2), po g22 1, iv o.at_, tv, tv, po g22 1, iv o.at_, sl gn 0 m cn, iv (m : Nat), tv, tv, tv, po g22 2, .slice o.A o.d.length o.cd, iv (o.d.length : Nat), tv, tv, J 86, J 87, J 88, J 89, J 90, J 91, J 92, J 93, J 94, J 95, J 96, J 97, J 98, J 99, J 100, J 101, J 102, J 103, J 104, J 105, J 106, J 107, J 108, J 109, J 110, J 111, J 112, J 113, J 114, J 115, J 116, J 117, J 118, J 119, J 120, J 121, J 122, J 123, J 124, J 125, J 126, J 127, J 128, J 129, J 130, J 131, J 132, J 133, J 134, J 135, J 136, J 137, J 138, J 139, J 140, J 141, J 142, J 143, J 144, J 145, J 146, J 147, J 148, J 149, J 150, J 151, J 152, J 153, J 154, J 155, J 156, J 157, J 158, J 159, J 160, J 161, J 162, J 163, J 164, J 165, J 166, J 167] 23) (by kernel_rfl) ?_
                refine then_n ?_
                refine wp_seq ?_
                refine wp_region_lit ?_
                refine pv (iv ((s1.writeR o.at_ o.d).2)) ?_
                refine wl_gv rfl (gv_eq (x := ((s1.writeR o.at_ o.d).2)) (y := 0) (by kernel_rfl) (fun hb46 => ?_) (fun hb46 => ?_))
                · skip
                  have hw := writeR_ok hb46
                  refine wl_end (fr [iv n, .slice A l.length ca, .slice A3 ops.length c3, ud, ud, ud, J 6, pq gd, tv, sl gi5 0 s.last.flatten.length s.last.flatten.length, sl gn 0 m cn, iv ((i : Nat) : Int), pq g22, iv ((s1.writeR o.at_ o.d).2), tv, J 15, J 16, J 17, J 18, ud, ud, ud, .tuple #[pq gd, tv], iv n, .slice A l.length ca, .tuple #[pq gd, tv], pq gd, tv, tv, fv, pq gd, fv, pq gd, sl gi5 0 s.last.flatten.length s.last.flatten.length, sl gi5 0 s.last.flatten.length s.last.flatten.length, sl gn11 0 E9.length cn12, sl gn11 0 E9.length cn12, iv (E9.length : Nat), pq gd, iv (s.last.length : Int), fv, fv, sl gn11 0 E9.length cn12, iv (E9.length : Nat), fv, fv, iv ((i : Nat) : Int), .slice A3 ops.length c3, iv (ops.length : Nat), tv, J 50, J 51, .slice A3 ops.length c3, iv ((i : Nat) : Int), .pointer (some (ad.add (i * 4))), .agg #[iv o.kind, iv o.at_, .slice o.A o.d.length o.cd, .slice o.A2 o.ps.length o.cp], pq g22, iv o.kind, J 58, J 59, J 60, tv, tv, pq gd, po g22 1, iv o.at_, po g22 2, .slice o.A o.d.length o.cd, sl c_ 0 o.d.length o.d.length, iv ((s1.writeR o.at_ o.d).2), po g22 1, iv o.at_, tv, tv, po g22 1, iv o.at_, sl gn 0 m cn, iv (m : Nat), tv, tv, tv, po g22 2, .slice o.A o.d.length o.cd, iv (o.d.length : Nat), tv, tv, iv ((s1.writeR o.at_ o.d).2), tv, J 88, J 89, J 90, J 91, J 92, J 93, J 94, J 95, J 96, J 97, J 98, J 99, J 100, J 101, J 102, J 103, J 104, J 105, J 106, J 107, J 108, J 109, J 110, J 111, J 112, J 113, J 114, J 115, J 116, J 117, J 118, J 119, J 120, J 121, J 122, J 123, J 124, J 125, J 126, J 127, J 128, J 129, J 130, J 131, J 132, J 133, J 134, J 135, J 136, J 137, J 138, J 139, J 140, J 141, J 142, J 143, J 144, J 145, J 146, J 147, J 148, J 149, J 150, J 151, J 152, J 153, J 154, J 155, J 156, J 157, J 158, J 159, J 160, J 161, J 162, J 163, J 164, J 165, J 166, J 167] 23) (by kernel_rfl) ?_
                  refine then_n ?_
                  refine wp_cond_true (by kernel_rfl) ?_
                  refine wp_seq ?_
                  refine wp_seq ?_
                  refine wp_region_lit ?_
                  refine pv tv ?_
                  refine pv fv ?_
                  refine wl_end (fr [iv n, .slice A l.length ca, .slice A3 ops.length c3, ud, ud, ud, J 6, pq gd, tv, sl gi5 0 s.last.flatten.length s.last.flatten.length, sl gn 0 m cn, iv ((i : Nat) : Int), pq g22, iv ((s1.writeR o.at_ o.d).2), tv, J 15, J 16, J 17, J 18, ud, ud, ud, .tuple #[pq gd, tv], iv n, .slice A l.length ca, .tuple #[pq gd, tv], pq gd, tv, tv, fv, pq gd, fv, pq gd, sl gi5 0 s.last.flatten.length s.last.flatten.length, sl gi5 0 s.last.flatten.length s.last.flatten.length, sl gn11 0 E9.length cn12, sl gn11 0 E9.length cn12, iv (E9.length : Nat), pq gd, iv (s.last.length : Int), fv, fv, sl gn11 0 E9.length cn12, iv (E9.length : Nat), fv, fv, iv ((i : Nat) : Int), .slice A3 ops.length c3, iv (ops.length : Nat), tv, J 50, J 51, .slice A3 ops.length c3, iv ((i : Nat) : Int), .pointer (some (ad.add (i * 4))), .agg #[iv o.kind, iv o.at_, .slice o.A o.d.length o.cd, .slice o.A2 o.ps.length o.cp], pq g22, iv o.kind, J 58, J 59, J 60, tv, tv, pq gd, po g22 1, iv o.at_, po g22 2, .slice o.A o.d.length o.cd, sl c_ 0 o.d.length o.d.length, iv ((s1.writeR o.at_ o.d).2), po g22 1, iv o.at_, tv, tv, po g22 1, iv o.at_, sl gn 0 m cn, iv (m : Nat), tv, tv, tv, po g22 2, .slice o.A o.d.length o.cd, iv (o.d.length : Nat), tv, tv, iv ((s1.writeR o.at_ o.d).2), tv, tv, fv, J 90, J 91, J 92, J 93, J 94, J 95, J 96, J 97, J 98, J 99, J 100, J 101, J 102, J 103, J 104, J 105, J 106, J 107, J 108, J 109, J 110, J 111, J 112, J 113, J 114, J 115, J 116, J 117, J 118, J 119, J 120, J 121, J 122, J 123, J 124, J 125, J 126, J 127, J 128, J 129, J 130, J 131, J 132, J 133, J 134, J 135, J 136, J 137, J 138, J 139, J 140, J 141, J 142, J 143, J 144, J 145, J 146, J 147, J 148, J 149, J 150, J 151, J 152, J 153, J 154, J 155, J 156, J 157, J 158, J 159, J 160, J 161, J 162, J 163, J 164, J 165, J 166, J 167] 23) (by kernel_rfl) ?_
                  refine then_n ?_
                  refine wp_cond_false (by kernel_rfl) ?_
                  refine wp_skip ?_
                  refine then_n ?_
                  refine wp_region_lit ?_
                  refine pv (sl gn 0 m cn) ?_
                  refine pv (po g22 1) ?_
                  refine wl_gv rfl (gv_ldR (v := .int .i64 o.at_) rfl (by kernel_rfl) (by kernel_rfl) (((S42.blk 2 rfl).cell 1).trans rfl) ?_)
                  refine pv (po g22 2) ?_
                  refine wl_gv rfl (gv_ldR (v := .slice o.A o.d.length o.cd) rfl (by kernel_rfl) (by kernel_rfl) (((S42.blk 2 rfl).cell 2).trans rfl) ?_)
                  refine wl_gv rfl (gv_ixE (e := 31) (sz := 1) (g := gn) (off := 0) (n := m) (c := cn) (i := o.at_) (k := .i64) (j := o.at_.toNat) (off' := o.at_.toNat) rfl (by kernel_rfl) (by kernel_rfl) (by kernel_rfl) (by kernel_rfl) (by omega) (by omega) (by omega) ?_)
                  refine wl_gv rfl (gv_st (k := o.at_.toNat) (v := Hd.val ⟨o.A, o.d, o.cd⟩) S42 3 rfl rfl (by kernel_rfl) (by kernel_rfl) (by kernel_rfl) rfl (hd_blt (by omega)) (L' := [PDisk gd (s1.writeR o.at_ o.d).1, row c_ (bvs o.d) 5, row g22 #[.int .i64 o.kind, .int .i64 o.at_, .slice o.A o.d.length o.cd, .slice o.A2 o.ps.length o.cp] 49, row gn (((E.set o.at_.toNat ⟨o.A, o.d, o.cd⟩).map Hd.val ++ jk).toArray) 31, row gi (bvs im) 5]) (by rw [hd_set (by omega)]; rfl) (fun w47 S48 => ?_))
                  refine wl_end (fr [iv n, .slice A l.length ca, .slice A3 ops.length c3, ud, ud, ud, J 6, pq gd, tv, sl gi5 0 s.last.flatten.length s.last.flatten.length, sl gn 0 m cn, iv ((i : Nat) : Int), pq g22, iv ((s1.writeR o.at_ o.d).2), tv, J 15, J 16, J 17, J 18, ud, ud, ud, .tuple #[pq gd, tv], iv n, .slice A l.length ca, .tuple #[pq gd, tv], pq gd, tv, tv, fv, pq gd, fv, pq gd, sl gi5 0 s.last.flatten.length s.last.flatten.length, sl gi5 0 s.last.flatten.length s.last.flatten.length, sl gn11 0 E9.length cn12, sl gn11 0 E9.length cn12, iv (E9.length : Nat), pq gd, iv (s.last.length : Int), fv, fv, sl gn11 0 E9.length cn12, iv (E9.length : Nat), fv, fv, iv ((i : Nat) : Int), .slice A3 ops.length c3, iv (ops.length : Nat), tv, J 50, J 51, .slice A3 ops.length c3, iv ((i : Nat) : Int), .pointer (some (ad.add (i * 4))), .agg #[iv o.kind, iv o.at_, .slice o.A o.d.length o.cd, .slice o.A2 o.ps.length o.cp], pq g22, iv o.kind, J 58, J 59, J 60, tv, tv, pq gd, po g22 1, iv o.at_, po g22 2, .slice o.A o.d.length o.cd, sl c_ 0 o.d.length o.d.length, iv ((s1.writeR o.at_ o.d).2), po g22 1, iv o.at_, tv, tv, po g22 1, iv o.at_, sl gn 0 m cn, iv (m : Nat), tv, tv, tv, po g22 2, .slice o.A o.d.length o.cd, iv (o.d.length : Nat), tv, tv, iv ((s1.writeR o.at_ o.d).2), tv, tv, fv, sl gn 0 m cn, po g22 1, iv o.at_, po g22 2, .slice o.A o.d.length o.cd, po gn o.at_.toNat, J 96, J 97, J 98, J 99, J 100, J 101, J 102, J 103, J 104, J 105, J 106, J 107, J 108, J 109, J 110, J 111, J 112, J 113, J 114, J 115, J 116, J 117, J 118, J 119, J 120, J 121, J 122, J 123, J 124, J 125, J 126, J 127, J 128, J 129, J 130, J 131, J 132, J 133, J 134, J 135, J 136, J 137, J 138, J 139, J 140, J 141, J 142, J 143, J 144, J 145, J 146, J 147, J 148, J 149, J 150, J 151, J 152, J 153, J 154, J 155, J 156, J 157, J 158, J 159, J 160, J 161, J 162, J 163, J 164, J 165, J 166, J 167] 23) (by kernel_rfl) ?_
                  refine inb_n ?_
                  refine inb_n ?_
                  refine then_n ?_
                  refine wp_region_lit ?_
                  refine pv (iv ((i : Nat) : Int)) ?_
                  refine wl_gv rfl (gv_int (k := .i64) (z := IntKind.i64.wrap (((i : Nat) : Int) + 1)) (z' := ((i + 1 : Nat) : Int)) (by kernel_rfl) (wr_eq (by omega) (by omega) (by omega)) ?_)
                  refine pv (iv ((i + 1 : Nat) : Int)) ?_
                  have S49 : St none' w w47 [PDisk gd (s1.writeR o.at_ o.d).1, row gn (((E.set o.at_.toNat ⟨o.A, o.d, o.cd⟩).map Hd.val ++ jk).toArray) 31, row gi (bvs im) 5] := St.permT [PDisk gd (s1.writeR o.at_ o.d).1, row c_ (bvs o.d) 5, row g22 #[.int .i64 o.kind, .int .i64 o.at_, .slice o.A o.d.length o.cd, .slice o.A2 o.ps.length o.cp] 49, row gn (((E.set o.at_.toNat ⟨o.A, o.d, o.cd⟩).map Hd.val ++ jk).toArray) 31, row gi (bvs im) 5] [0, 3, 4] (by decide) rfl S48
                  have hnf : NF w ((s1.writeR o.at_ o.d).1) (E.set o.at_.toNat ⟨o.A, o.d, o.cd⟩) gi im := hN.write (c := o.cd) (by rw [hw.2.2.2.2]) (by rw [hw.2.2.2.2]) (Ro.of_C hk.d (fun _ h => h)).T
                  have hpb : ((s1.writeR o.at_ o.d).1).pend.length ≤ i + 1 := (by have := writeR_pend s1 o.at_ o.d; exact Nat.le_trans this (by omega))
                  refine wl_end (fr [iv n, .slice A l.length ca, .slice A3 ops.length c3, ud, ud, ud, J 6, pq gd, tv, sl gi5 0 s.last.flatten.length s.last.flatten.length, sl gn 0 m cn, iv ((i + 1 : Nat) : Int), pq g22, iv ((s1.writeR o.at_ o.d).2), tv, J 15, J 16, J 17, J 18, ud, ud, ud, .tuple #[pq gd, tv], iv n, .slice A l.length ca, .tuple #[pq gd, tv], pq gd, tv, tv, fv, pq gd, fv, pq gd, sl gi5 0 s.last.flatten.length s.last.flatten.length, sl gi5 0 s.last.flatten.length s.last.flatten.length, sl gn11 0 E9.length cn12, sl gn11 0 E9.length cn12, iv (E9.length : Nat), pq gd, iv (s.last.length : Int), fv, fv, sl gn11 0 E9.length cn12, iv (E9.length : Nat), fv, fv, iv ((i : Nat) : Int), .slice A3 ops.length c3, iv (ops.length : Nat), tv, iv ((i : Nat) : Int), iv ((i + 1 : Nat) : Int), .slice A3 ops.length c3, iv ((i : Nat) : Int), .pointer (some (ad.add (i * 4))), .agg #[iv o.kind, iv o.at_, .slice o.A o.d.length o.cd, .slice o.A2 o.ps.length o.cp], pq g22, iv o.kind, J 58, J 59, J 60, tv, tv, pq gd, po g22 1, iv o.at_, po g22 2, .slice o.A o.d.length o.cd, sl c_ 0 o.d.length o.d.length, iv ((s1.writeR o.at_ o.d).2), po g22 1, iv o.at_, tv, tv, po g22 1, iv o.at_, sl gn 0 m cn, iv (m : Nat), tv, tv, tv, po g22 2, .slice o.A o.d.length o.cd, iv (o.d.length : Nat), tv, tv, iv ((s1.writeR o.at_ o.d).2), tv, tv, fv, sl gn 0 m cn, po g22 1, iv o.at_, po g22 2, .slice o.A o.d.length o.cd, po gn o.at_.toNat, J 96, J 97, J 98, J 99, J 100, J 101, J 102, J 103, J 104, J 105, J 106, J 107, J 108, J 109, J 110, J 111, J 112, J 113, J 114, J 115, J 116, J 117, J 118, J 119, J 120, J 121, J 122, J 123, J 124, J 125, J 126, J 127, J 128, J 129, J 130, J 131, J 132, J 133, J 134, J 135, J 136, J 137, J 138, J 139, J 140, J 141, J 142, J 143, J 144, J 145, J 146, J 147, J 148, J 149, J 150, J 151, J 152, J 153, J 154, J 155, J 156, J 157, J 158, J 159, J 160, J 161, J 162, J 163, J 164, J 165, J 166, J 167] 23) (by kernel_rfl) ?_
                  refine then_n ?_
                  exact ⟨(i + 1, (s1.writeR o.at_ o.d).1, E.set o.at_.toNat ⟨o.A, o.d, o.cd⟩, gn, cn, jk, gi, im, m), ⟨(jl [ud, ud, ud, ud, ud, ud, J 6, ud, ud, ud, ud, ud, pq g22, iv ((s1.writeR o.at_ o.d).2), tv, J 15, J 16, J 17, J 18, ud, ud, ud, ud, ud, ud, ud, ud, ud, ud, ud, ud, ud, ud, ud, ud, ud, ud, ud, ud, ud, ud, ud, ud, ud, ud, ud, iv ((i : Nat) : Int), .slice A3 ops.length c3, iv (ops.length : Nat), tv, iv ((i : Nat) : Int), iv ((i + 1 : Nat) : Int), .slice A3 ops.length c3, iv ((i : Nat) : Int), .pointer (some (ad.add (i * 4))), .agg #[iv o.kind, iv o.at_, .slice o.A o.d.length o.cd, .slice o.A2 o.ps.length o.cp], pq g22, iv o.kind, J 58, J 59, J 60, tv, tv, pq gd, po g22 1, iv o.at_, po g22 2, .slice o.A o.d.length o.cd, sl c_ 0 o.d.length o.d.length, iv ((s1.writeR o.at_ o.d).2), po g22 1, iv o.at_, tv, tv, po g22 1, iv o.at_, sl gn 0 m cn, iv (m : Nat), tv, tv, tv, po g22 2, .slice o.A o.d.length o.cd, iv (o.d.length : Nat), tv, tv, iv ((s1.writeR o.at_ o.d).2), tv, tv, fv, sl gn 0 m cn, po g22 1, iv o.at_, po g22 2, .slice o.A o.d.length o.cd, po gn o.at_.toNat, J 96, J 97, J 98, J 99, J 100, J 101, J 102, J 103, J 104, J 105, J 106, J 107, J 108, J 109, J 110, J 111, J 112, J 113, J 114, J 115, J 116, J 117, J 118, J 119, J 120, J 121, J 122, J 123, J 124, J 125, J 126, J 127, J 128, J 129, J 130, J 131, J 132, J 133, J 134, J 135, J 136, J 137, J 138, J 139, J 140, J 141, J 142, J 143, J 144, J 145, J 146, J 147, J 148, J 149, J 150, J 151, J 152, J 153, J 154, J 155, J 156, J 157, J 158, J 159, J 160, J 161, J 162, J 163, J 164, J 165, J 166, J 167]), by kernel_rfl, S49, ⟨by omega, hpb, hnf, hcI, (by rw [List.length_set]; exact hmI)⟩⟩, (by show ops.length - (i + 1) < ops.length - i; omega)⟩
                · skip
                  have hw := writeR_no (show _ ≠ (0 : Int) from hb46)
                  refine wl_end (fr [iv n, .slice A l.length ca, .slice A3 ops.length c3, ud, ud, ud, J 6, pq gd, tv, sl gi5 0 s.last.flatten.length s.last.flatten.length, sl gn 0 m cn, iv ((i : Nat) : Int), pq g22, iv ((s1.writeR o.at_ o.d).2), tv, J 15, J 16, J 17, J 18, ud, ud, ud, .tuple #[pq gd, tv], iv n, .slice A l.length ca, .tuple #[pq gd, tv], pq gd, tv, tv, fv, pq gd, fv, pq gd, sl gi5 0 s.last.flatten.length s.last.flatten.length, sl gi5 0 s.last.flatten.length s.last.flatten.length, sl gn11 0 E9.length cn12, sl gn11 0 E9.length cn12, iv (E9.length : Nat), pq gd, iv (s.last.length : Int), fv, fv, sl gn11 0 E9.length cn12, iv (E9.length : Nat), fv, fv, iv ((i : Nat) : Int), .slice A3 ops.length c3, iv (ops.length : Nat), tv, J 50, J 51, .slice A3 ops.length c3, iv ((i : Nat) : Int), .pointer (some (ad.add (i * 4))), .agg #[iv o.kind, iv o.at_, .slice o.A o.d.length o.cd, .slice o.A2 o.ps.length o.cp], pq g22, iv o.kind, J 58, J 59, J 60, tv, tv, pq gd, po g22 1, iv o.at_, po g22 2, .slice o.A o.d.length o.cd, sl c_ 0 o.d.length o.d.length, iv ((s1.writeR o.at_ o.d).2), po g22 1, iv o.at_, tv, tv, po g22 1, iv o.at_, sl gn 0 m cn, iv (m : Nat), tv, tv, tv, po g22 2, .slice o.A o.d.length o.cd, iv (o.d.length : Nat), tv, tv, iv ((s1.writeR o.at_ o.d).2), fv, J 88, J 89, J 90, J 91, J 92, J 93, J 94, J 95, J 96, J 97, J 98, J 99, J 100, J 101, J 102, J 103, J 104, J 105, J 106, J 107, J 108, J 109, J 110, J 111, J 112, J 113, J 114, J 115, J 116, J 117, J 118, J 119, J 120, J 121, J 122, J 123, J 124, J 125, J 126, J 127, J 128, J 129, J 130, J 131, J 132, J 133, J 134, J 135, J 136, J 137, J 138, J 139, J 140, J 141, J 142, J 143, J 144, J 145, J 146, J 147, J 148, J 149, J 150, J 151, J 152, J 153, J 154, J 155, J 156, J 157, J 158, J 159, J 160, J 161, J 162, J 163, J 164, J 165, J 166, J 167] 23) (by kernel_rfl) ?_
                  refine then_n ?_
                  refine wp_cond_false (by kernel_rfl) ?_
                  refine wp_seq ?_
                  refine wp_region_lit ?_
                  refine pv tv ?_
                  refine pv tv ?_
                  refine wl_when (by kernel_rfl) (gv_val (v := .int .i64 ((s1.writeR o.at_ o.d).2)) (w' := w1) (by kernel_rfl) ?_)
                  refine wl_when (by kernel_rfl) (gv_ne (x := ((s1.writeR o.at_ o.d).2)) (y := 3) (by kernel_rfl) (fun hd50 => False.elim (by have := hw.2.2.2.1 (by omega) (by omega) (by omega); omega)) (fun _ => ?_))
                  refine pv fv ?_
                  refine wl_end (fr [iv n, .slice A l.length ca, .slice A3 ops.length c3, ud, ud, ud, J 6, pq gd, tv, sl gi5 0 s.last.flatten.length s.last.flatten.length, sl gn 0 m cn, iv ((i : Nat) : Int), pq g22, iv ((s1.writeR o.at_ o.d).2), tv, J 15, J 16, J 17, J 18, ud, ud, ud, .tuple #[pq gd, tv], iv n, .slice A l.length ca, .tuple #[pq gd, tv], pq gd, tv, tv, fv, pq gd, fv, pq gd, sl gi5 0 s.last.flatten.length s.last.flatten.length, sl gi5 0 s.last.flatten.length s.last.flatten.length, sl gn11 0 E9.length cn12, sl gn11 0 E9.length cn12, iv (E9.length : Nat), pq gd, iv (s.last.length : Int), fv, fv, sl gn11 0 E9.length cn12, iv (E9.length : Nat), fv, fv, iv ((i : Nat) : Int), .slice A3 ops.length c3, iv (ops.length : Nat), tv, J 50, J 51, .slice A3 ops.length c3, iv ((i : Nat) : Int), .pointer (some (ad.add (i * 4))), .agg #[iv o.kind, iv o.at_, .slice o.A o.d.length o.cd, .slice o.A2 o.ps.length o.cp], pq g22, iv o.kind, J 58, J 59, J 60, tv, tv, pq gd, po g22 1, iv o.at_, po g22 2, .slice o.A o.d.length o.cd, sl c_ 0 o.d.length o.d.length, iv ((s1.writeR o.at_ o.d).2), po g22 1, iv o.at_, tv, tv, po g22 1, iv o.at_, sl gn 0 m cn, iv (m : Nat), tv, tv, tv, po g22 2, .slice o.A o.d.length o.cd, iv (o.d.length : Nat), tv, tv, iv ((s1.writeR o.at_ o.d).2), fv, J 88, J 89, J 90, J 91, J 92, J 93, J 94, J 95, tv, tv, iv ((s1.writeR o.at_ o.d).2), fv, fv, J 101, J 102, J 103, J 104, J 105, J 106, J 107, J 108, J 109, J 110, J 111, J 112, J 113, J 114, J 115, J 116, J 117, J 118, J 119, J 120, J 121, J 122, J 123, J 124, J 125, J 126, J 127, J 128, J 129, J 130, J 131, J 132, J 133, J 134, J 135, J 136, J 137, J 138, J 139, J 140, J 141, J 142, J 143, J 144, J 145, J 146, J 147, J 148, J 149, J 150, J 151, J 152, J 153, J 154, J 155, J 156, J 157, J 158, J 159, J 160, J 161, J 162, J 163, J 164, J 165, J 166, J 167] 23) (by kernel_rfl) ?_
                  refine then_n ?_
                  refine wp_cond_false (by kernel_rfl) ?_
                  refine wp_skip ?_
                  refine inb_n ?_
                  refine inb_n ?_
                  refine then_n ?_
                  refine wp_region_lit ?_
                  refine pv (iv ((i : Nat) : Int)) ?_
                  refine wl_gv rfl (gv_int (k := .i64) (z := IntKind.i64.wrap (((i : Nat) : Int) + 1)) (z' := ((i + 1 : Nat) : Int)) (by kernel_rfl) (wr_eq (by omega) (by omega) (by omega)) ?_)
                  refine pv (iv ((i + 1 : Nat) : Int)) ?_
                  have S51 : St none' w w1 [PDisk gd (s1.writeR o.at_ o.d).1, row gn ((E.map Hd.val ++ jk).toArray) 31, row gi (bvs im) 5] := St.permT [PDisk gd (s1.writeR o.at_ o.d).1, row c_ (bvs o.d) 5, row g22 #[.int .i64 o.kind, .int .i64 o.at_, .slice o.A o.d.length o.cd, .slice o.A2 o.ps.length o.cp] 49, row gn ((E.map Hd.val ++ jk).toArray) 31, row gi (bvs im) 5] [0, 3, 4] (by decide) rfl S42
                  have hnf : NF w ((s1.writeR o.at_ o.d).1) E gi im := hN.same hw.1 hw.2.1
                  have hpb : ((s1.writeR o.at_ o.d).1).pend.length ≤ i + 1 := (by have := writeR_pend s1 o.at_ o.d; exact Nat.le_trans this (by omega))
                  refine wl_end (fr [iv n, .slice A l.length ca, .slice A3 ops.length c3, ud, ud, ud, J 6, pq gd, tv, sl gi5 0 s.last.flatten.length s.last.flatten.length, sl gn 0 m cn, iv ((i + 1 : Nat) : Int), pq g22, iv ((s1.writeR o.at_ o.d).2), tv, J 15, J 16, J 17, J 18, ud, ud, ud, .tuple #[pq gd, tv], iv n, .slice A l.length ca, .tuple #[pq gd, tv], pq gd, tv, tv, fv, pq gd, fv, pq gd, sl gi5 0 s.last.flatten.length s.last.flatten.length, sl gi5 0 s.last.flatten.length s.last.flatten.length, sl gn11 0 E9.length cn12, sl gn11 0 E9.length cn12, iv (E9.length : Nat), pq gd, iv (s.last.length : Int), fv, fv, sl gn11 0 E9.length cn12, iv (E9.length : Nat), fv, fv, iv ((i : Nat) : Int), .slice A3 ops.length c3, iv (ops.length : Nat), tv, iv ((i : Nat) : Int), iv ((i + 1 : Nat) : Int), .slice A3 ops.length c3, iv ((i : Nat) : Int), .pointer (some (ad.add (i * 4))), .agg #[iv o.kind, iv o.at_, .slice o.A o.d.length o.cd, .slice o.A2 o.ps.length o.cp], pq g22, iv o.kind, J 58, J 59, J 60, tv, tv, pq gd, po g22 1, iv o.at_, po g22 2, .slice o.A o.d.length o.cd, sl c_ 0 o.d.length o.d.length, iv ((s1.writeR o.at_ o.d).2), po g22 1, iv o.at_, tv, tv, po g22 1, iv o.at_, sl gn 0 m cn, iv (m : Nat), tv, tv, tv, po g22 2, .slice o.A o.d.length o.cd, iv (o.d.length : Nat), tv, tv, iv ((s1.writeR o.at_ o.d).2), fv, J 88, J 89, J 90, J 91, J 92, J 93, J 94, J 95, tv, tv, iv ((s1.writeR o.at_ o.d).2), fv, fv, J 101, J 102, J 103, J 104, J 105, J 106, J 107, J 108, J 109, J 110, J 111, J 112, J 113, J 114, J 115, J 116, J 117, J 118, J 119, J 120, J 121, J 122, J 123, J 124, J 125, J 126, J 127, J 128, J 129, J 130, J 131, J 132, J 133, J 134, J 135, J 136, J 137, J 138, J 139, J 140, J 141, J 142, J 143, J 144, J 145, J 146, J 147, J 148, J 149, J 150, J 151, J 152, J 153, J 154, J 155, J 156, J 157, J 158, J 159, J 160, J 161, J 162, J 163, J 164, J 165, J 166, J 167] 23) (by kernel_rfl) ?_
                  refine then_n ?_
                  exact ⟨(i + 1, (s1.writeR o.at_ o.d).1, E, gn, cn, jk, gi, im, m), ⟨(jl [ud, ud, ud, ud, ud, ud, J 6, ud, ud, ud, ud, ud, pq g22, iv ((s1.writeR o.at_ o.d).2), tv, J 15, J 16, J 17, J 18, ud, ud, ud, ud, ud, ud, ud, ud, ud, ud, ud, ud, ud, ud, ud, ud, ud, ud, ud, ud, ud, ud, ud, ud, ud, ud, ud, iv ((i : Nat) : Int), .slice A3 ops.length c3, iv (ops.length : Nat), tv, iv ((i : Nat) : Int), iv ((i + 1 : Nat) : Int), .slice A3 ops.length c3, iv ((i : Nat) : Int), .pointer (some (ad.add (i * 4))), .agg #[iv o.kind, iv o.at_, .slice o.A o.d.length o.cd, .slice o.A2 o.ps.length o.cp], pq g22, iv o.kind, J 58, J 59, J 60, tv, tv, pq gd, po g22 1, iv o.at_, po g22 2, .slice o.A o.d.length o.cd, sl c_ 0 o.d.length o.d.length, iv ((s1.writeR o.at_ o.d).2), po g22 1, iv o.at_, tv, tv, po g22 1, iv o.at_, sl gn 0 m cn, iv (m : Nat), tv, tv, tv, po g22 2, .slice o.A o.d.length o.cd, iv (o.d.length : Nat), tv, tv, iv ((s1.writeR o.at_ o.d).2), fv, J 88, J 89, J 90, J 91, J 92, J 93, J 94, J 95, tv, tv, iv ((s1.writeR o.at_ o.d).2), fv, fv, J 101, J 102, J 103, J 104, J 105, J 106, J 107, J 108, J 109, J 110, J 111, J 112, J 113, J 114, J 115, J 116, J 117, J 118, J 119, J 120, J 121, J 122, J 123, J 124, J 125, J 126, J 127, J 128, J 129, J 130, J 131, J 132, J 133, J 134, J 135, J 136, J 137, J 138, J 139, J 140, J 141, J 142, J 143, J 144, J 145, J 146, J 147, J 148, J 149, J 150, J 151, J 152, J 153, J 154, J 155, J 156, J 157, J 158, J 159, J 160, J 161, J 162, J 163, J 164, J 165, J 166, J 167]), by kernel_rfl, S51, ⟨by omega, hpb, hnf, hcI, hmI⟩⟩, (by show ops.length - (i + 1) < ops.length - i; omega)⟩
              · skip
                refine pv fv ?_
                refine pv fv ?_
                refine wl_end (fr [iv n, .slice A l.length ca, .slice A3 ops.length c3, ud, ud, ud, J 6, pq gd, tv, sl gi5 0 s.last.flatten.length s.last.flatten.length, sl gn 0 m cn, iv ((i : Nat) : Int), pq g22, iv ((s1.writeR o.at_ o.d).2), fv, J 15, J 16, J 17, J 18, ud, ud, ud, .tuple #[pq gd, tv], iv n, .slice A l.length ca, .tuple #[pq gd, tv], pq gd, tv, tv, fv, pq gd, fv, pq gd, sl gi5 0 s.last.flatten.length s.last.flatten.length, sl gi5 0 s.last.flatten.length s.last.flatten.length, sl gn11 0 E9.length cn12, sl gn11 0 E9.length cn12, iv (E9.length : Nat), pq gd, iv (s.last.length : Int), fv, fv, sl gn11 0 E9.length cn12, iv (E9.length : Nat), fv, fv, iv ((i : Nat) : Int), .slice A3 ops.length c3, iv (ops.length : Nat), tv, J 50, J 51, .slice A3 ops.length c3, iv ((i : Nat) : Int), .pointer (some (ad.add (i * 4))), .agg #[iv o.kind, iv o.at_, .slice o.A o.d.length o.cd, .slice o.A2 o.ps.length o.cp], pq g22, iv o.kind, J 58, J 59, J 60, tv, tv, pq gd, po g22 1, iv o.at_, po g22 2, .slice o.A o.d.length o.cd, sl c_ 0 o.d.length o.d.length, iv ((s1.writeR o.at_ o.d).2), po g22 1, iv o.at_, tv, tv, po g22 1, iv o.at_, sl gn 0 m cn, iv (m : Nat), tv, tv, tv, po g22 2, .slice o.A o.d.length o.cd, iv (o.d.length : Nat), fv, fv, J 86, J 87, J 88, J 89, J 90, J 91, J 92, J 93, J 94, J 95, J 96, J 97, J 98, J 99, J 100, J 101, J 102, J 103, J 104, J 105, J 106, J 107, J 108, J 109, J 110, J 111, J 112, J 113, J 114, J 115, J 116, J 117, J 118, J 119, J 120, J 121, J 122, J 123, J 124, J 125, J 126, J 127, J 128, J 129, J 130, J 131, J 132, J 133, J 134, J 135, J 136, J 137, J 138, J 139, J 140, J 141, J 142, J 143, J 144, J 145, J 146, J 147, J 148, J 149, J 150, J 151, J 152, J 153, J 154, J 155, J 156, J 157, J 158, J 159, J 160, J 161, J 162, J 163, J 164, J 165, J 166, J 167] 23) (by kernel_rfl) ?_
                refine then_n ?_
                refine wp_seq ?_
                refine wp_region_lit ?_
                refine pv (iv ((s1.writeR o.at_ o.d).2)) ?_
                refine wl_gv rfl (gv_eq (x := ((s1.writeR o.at_ o.d).2)) (y := 0) (by kernel_rfl) (fun hb52 => ?_) (fun hb52 => ?_))
                · skip
                  have hw := writeR_ok hb52
                  exfalso; omega
                · skip
                  have hw := writeR_no (show _ ≠ (0 : Int) from hb52)
                  refine wl_end (fr [iv n, .slice A l.length ca, .slice A3 ops.length c3, ud, ud, ud, J 6, pq gd, tv, sl gi5 0 s.last.flatten.length s.last.flatten.length, sl gn 0 m cn, iv ((i : Nat) : Int), pq g22, iv ((s1.writeR o.at_ o.d).2), fv, J 15, J 16, J 17, J 18, ud, ud, ud, .tuple #[pq gd, tv], iv n, .slice A l.length ca, .tuple #[pq gd, tv], pq gd, tv, tv, fv, pq gd, fv, pq gd, sl gi5 0 s.last.flatten.length s.last.flatten.length, sl gi5 0 s.last.flatten.length s.last.flatten.length, sl gn11 0 E9.length cn12, sl gn11 0 E9.length cn12, iv (E9.length : Nat), pq gd, iv (s.last.length : Int), fv, fv, sl gn11 0 E9.length cn12, iv (E9.length : Nat), fv, fv, iv ((i : Nat) : Int), .slice A3 ops.length c3, iv (ops.length : Nat), tv, J 50, J 51, .slice A3 ops.length c3, iv ((i : Nat) : Int), .pointer (some (ad.add (i * 4))), .agg #[iv o.kind, iv o.at_, .slice o.A o.d.length o.cd, .slice o.A2 o.ps.length o.cp], pq g22, iv o.kind, J 58, J 59, J 60, tv, tv, pq gd, po g22 1, iv o.at_, po g22 2, .slice o.A o.d.length o.cd, sl c_ 0 o.d.length o.d.length, iv ((s1.writeR o.at_ o.d).2), po g22 1, iv o.at_, tv, tv, po g22 1, iv o.at_, sl gn 0 m cn, iv (m : Nat), tv, tv, tv, po g22 2, .slice o.A o.d.length o.cd, iv (o.d.length : Nat), fv, fv, iv ((s1.writeR o.at_ o.d).2), fv, J 88, J 89, J 90, J 91, J 92, J 93, J 94, J 95, J 96, J 97, J 98, J 99, J 100, J 101, J 102, J 103, J 104, J 105, J 106, J 107, J 108, J 109, J 110, J 111, J 112, J 113, J 114, J 115, J 116, J 117, J 118, J 119, J 120, J 121, J 122, J 123, J 124, J 125, J 126, J 127, J 128, J 129, J 130, J 131, J 132, J 133, J 134, J 135, J 136, J 137, J 138, J 139, J 140, J 141, J 142, J 143, J 144, J 145, J 146, J 147, J 148, J 149, J 150, J 151, J 152, J 153, J 154, J 155, J 156, J 157, J 158, J 159, J 160, J 161, J 162, J 163, J 164, J 165, J 166, J 167] 23) (by kernel_rfl) ?_
                  refine then_n ?_
                  refine wp_cond_false (by kernel_rfl) ?_
                  refine wp_seq ?_
                  refine wp_region_lit ?_
                  refine pv fv ?_
                  refine pv fv ?_
                  refine wl_not (by kernel_rfl) ?_
                  refine wl_not (by kernel_rfl) ?_
                  refine pv fv ?_
                  refine wl_end (fr [iv n, .slice A l.length ca, .slice A3 ops.length c3, ud, ud, ud, J 6, pq gd, tv, sl gi5 0 s.last.flatten.length s.last.flatten.length, sl gn 0 m cn, iv ((i : Nat) : Int), pq g22, iv ((s1.writeR o.at_ o.d).2), fv, J 15, J 16, J 17, J 18, ud, ud, ud, .tuple #[pq gd, tv], iv n, .slice A l.length ca, .tuple #[pq gd, tv], pq gd, tv, tv, fv, pq gd, fv, pq gd, sl gi5 0 s.last.flatten.length s.last.flatten.length, sl gi5 0 s.last.flatten.length s.last.flatten.length, sl gn11 0 E9.length cn12, sl gn11 0 E9.length cn12, iv (E9.length : Nat), pq gd, iv (s.last.length : Int), fv, fv, sl gn11 0 E9.length cn12, iv (E9.length : Nat), fv, fv, iv ((i : Nat) : Int), .slice A3 ops.length c3, iv (ops.length : Nat), tv, J 50, J 51, .slice A3 ops.length c3, iv ((i : Nat) : Int), .pointer (some (ad.add (i * 4))), .agg #[iv o.kind, iv o.at_, .slice o.A o.d.length o.cd, .slice o.A2 o.ps.length o.cp], pq g22, iv o.kind, J 58, J 59, J 60, tv, tv, pq gd, po g22 1, iv o.at_, po g22 2, .slice o.A o.d.length o.cd, sl c_ 0 o.d.length o.d.length, iv ((s1.writeR o.at_ o.d).2), po g22 1, iv o.at_, tv, tv, po g22 1, iv o.at_, sl gn 0 m cn, iv (m : Nat), tv, tv, tv, po g22 2, .slice o.A o.d.length o.cd, iv (o.d.length : Nat), fv, fv, iv ((s1.writeR o.at_ o.d).2), fv, J 88, J 89, J 90, J 91, J 92, J 93, J 94, J 95, fv, fv, ud, ud, fv, J 101, J 102, J 103, J 104, J 105, J 106, J 107, J 108, J 109, J 110, J 111, J 112, J 113, J 114, J 115, J 116, J 117, J 118, J 119, J 120, J 121, J 122, J 123, J 124, J 125, J 126, J 127, J 128, J 129, J 130, J 131, J 132, J 133, J 134, J 135, J 136, J 137, J 138, J 139, J 140, J 141, J 142, J 143, J 144, J 145, J 146, J 147, J 148, J 149, J 150, J 151, J 152, J 153, J 154, J 155, J 156, J 157, J 158, J 159, J 160, J 161, J 162, J 163, J 164, J 165, J 166, J 167] 23) (by kernel_rfl) ?_
                  refine then_n ?_
                  refine wp_cond_false (by kernel_rfl) ?_
                  refine wp_skip ?_
                  refine inb_n ?_
                  refine inb_n ?_
                  refine then_n ?_
                  refine wp_region_lit ?_
                  refine pv (iv ((i : Nat) : Int)) ?_
                  refine wl_gv rfl (gv_int (k := .i64) (z := IntKind.i64.wrap (((i : Nat) : Int) + 1)) (z' := ((i + 1 : Nat) : Int)) (by kernel_rfl) (wr_eq (by omega) (by omega) (by omega)) ?_)
                  refine pv (iv ((i + 1 : Nat) : Int)) ?_
                  have S53 : St none' w w1 [PDisk gd (s1.writeR o.at_ o.d).1, row gn ((E.map Hd.val ++ jk).toArray) 31, row gi (bvs im) 5] := St.permT [PDisk gd (s1.writeR o.at_ o.d).1, row c_ (bvs o.d) 5, row g22 #[.int .i64 o.kind, .int .i64 o.at_, .slice o.A o.d.length o.cd, .slice o.A2 o.ps.length o.cp] 49, row gn ((E.map Hd.val ++ jk).toArray) 31, row gi (bvs im) 5] [0, 3, 4] (by decide) rfl S42
                  have hnf : NF w ((s1.writeR o.at_ o.d).1) E gi im := hN.same hw.1 hw.2.1
                  have hpb : ((s1.writeR o.at_ o.d).1).pend.length ≤ i + 1 := (by have := writeR_pend s1 o.at_ o.d; exact Nat.le_trans this (by omega))
                  refine wl_end (fr [iv n, .slice A l.length ca, .slice A3 ops.length c3, ud, ud, ud, J 6, pq gd, tv, sl gi5 0 s.last.flatten.length s.last.flatten.length, sl gn 0 m cn, iv ((i + 1 : Nat) : Int), pq g22, iv ((s1.writeR o.at_ o.d).2), fv, J 15, J 16, J 17, J 18, ud, ud, ud, .tuple #[pq gd, tv], iv n, .slice A l.length ca, .tuple #[pq gd, tv], pq gd, tv, tv, fv, pq gd, fv, pq gd, sl gi5 0 s.last.flatten.length s.last.flatten.length, sl gi5 0 s.last.flatten.length s.last.flatten.length, sl gn11 0 E9.length cn12, sl gn11 0 E9.length cn12, iv (E9.length : Nat), pq gd, iv (s.last.length : Int), fv, fv, sl gn11 0 E9.length cn12, iv (E9.length : Nat), fv, fv, iv ((i : Nat) : Int), .slice A3 ops.length c3, iv (ops.length : Nat), tv, iv ((i : Nat) : Int), iv ((i + 1 : Nat) : Int), .slice A3 ops.length c3, iv ((i : Nat) : Int), .pointer (some (ad.add (i * 4))), .agg #[iv o.kind, iv o.at_, .slice o.A o.d.length o.cd, .slice o.A2 o.ps.length o.cp], pq g22, iv o.kind, J 58, J 59, J 60, tv, tv, pq gd, po g22 1, iv o.at_, po g22 2, .slice o.A o.d.length o.cd, sl c_ 0 o.d.length o.d.length, iv ((s1.writeR o.at_ o.d).2), po g22 1, iv o.at_, tv, tv, po g22 1, iv o.at_, sl gn 0 m cn, iv (m : Nat), tv, tv, tv, po g22 2, .slice o.A o.d.length o.cd, iv (o.d.length : Nat), fv, fv, iv ((s1.writeR o.at_ o.d).2), fv, J 88, J 89, J 90, J 91, J 92, J 93, J 94, J 95, fv, fv, ud, ud, fv, J 101, J 102, J 103, J 104, J 105, J 106, J 107, J 108, J 109, J 110, J 111, J 112, J 113, J 114, J 115, J 116, J 117, J 118, J 119, J 120, J 121, J 122, J 123, J 124, J 125, J 126, J 127, J 128, J 129, J 130, J 131, J 132, J 133, J 134, J 135, J 136, J 137, J 138, J 139, J 140, J 141, J 142, J 143, J 144, J 145, J 146, J 147, J 148, J 149, J 150, J 151, J 152, J 153, J 154, J 155, J 156, J 157, J 158, J 159, J 160, J 161, J 162, J 163, J 164, J 165, J 166, J 167] 23) (by kernel_rfl) ?_
                  refine then_n ?_
                  exact ⟨(i + 1, (s1.writeR o.at_ o.d).1, E, gn, cn, jk, gi, im, m), ⟨(jl [ud, ud, ud, ud, ud, ud, J 6, ud, ud, ud, ud, ud, pq g22, iv ((s1.writeR o.at_ o.d).2), fv, J 15, J 16, J 17, J 18, ud, ud, ud, ud, ud, ud, ud, ud, ud, ud, ud, ud, ud, ud, ud, ud, ud, ud, ud, ud, ud, ud, ud, ud, ud, ud, ud, iv ((i : Nat) : Int), .slice A3 ops.length c3, iv (ops.length : Nat), tv, iv ((i : Nat) : Int), iv ((i + 1 : Nat) : Int), .slice A3 ops.length c3, iv ((i : Nat) : Int), .pointer (some (ad.add (i * 4))), .agg #[iv o.kind, iv o.at_, .slice o.A o.d.length o.cd, .slice o.A2 o.ps.length o.cp], pq g22, iv o.kind, J 58, J 59, J 60, tv, tv, pq gd, po g22 1, iv o.at_, po g22 2, .slice o.A o.d.length o.cd, sl c_ 0 o.d.length o.d.length, iv ((s1.writeR o.at_ o.d).2), po g22 1, iv o.at_, tv, tv, po g22 1, iv o.at_, sl gn 0 m cn, iv (m : Nat), tv, tv, tv, po g22 2, .slice o.A o.d.length o.cd, iv (o.d.length : Nat), fv, fv, iv ((s1.writeR o.at_ o.d).2), fv, J 88, J 89, J 90, J 91, J 92, J 93, J 94, J 95, fv, fv, ud, ud, fv, J 101, J 102, J 103, J 104, J 105, J 106, J 107, J 108, J 109, J 110, J 111, J 112, J 113, J 114, J 115, J 116, J 117, J 118, J 119, J 120, J 121, J 122, J 123, J 124, J 125, J 126, J 127, J 128, J 129, J 130, J 131, J 132, J 133, J 134, J 135, J 136, J 137, J 138, J 139, J 140, J 141, J 142, J 143, J 144, J 145, J 146, J 147, J 148, J 149, J 150, J 151, J 152, J 153, J 154, J 155, J 156, J 157, J 158, J 159, J 160, J 161, J 162, J 163, J 164, J 165, J 166, J 167]), by kernel_rfl, S53, ⟨by omega, hpb, hnf, hcI, hmI⟩⟩, (by show ops.length - (i + 1) < ops.length - i; omega)⟩
            · skip
              refine pv fv ?_
              refine pv fv ?_
              refine wl_not (by kernel_rfl) ?_
              refine wl_not (by kernel_rfl) ?_
              refine wl_not (by kernel_rfl) ?_
              refine wl_not (by kernel_rfl) ?_
              refine pv fv ?_
              refine pv fv ?_
              refine wl_end (fr [iv n, .slice A l.length ca, .slice A3 ops.length c3, ud, ud, ud, J 6, pq gd, tv, sl gi5 0 s.last.flatten.length s.last.flatten.length, sl gn 0 m cn, iv ((i : Nat) : Int), pq g22, iv ((s1.writeR o.at_ o.d).2), fv, J 15, J 16, J 17, J 18, ud, ud, ud, .tuple #[pq gd, tv], iv n, .slice A l.length ca, .tuple #[pq gd, tv], pq gd, tv, tv, fv, pq gd, fv, pq gd, sl gi5 0 s.last.flatten.length s.last.flatten.length, sl gi5 0 s.last.flatten.length s.last.flatten.length, sl gn11 0 E9.length cn12, sl gn11 0 E9.length cn12, iv (E9.length : Nat), pq gd, iv (s.last.length : Int), fv, fv, sl gn11 0 E9.length cn12, iv (E9.length : Nat), fv, fv, iv ((i : Nat) : Int), .slice A3 ops.length c3, iv (ops.length : Nat), tv, J 50, J 51, .slice A3 ops.length c3, iv ((i : Nat) : Int), .pointer (some (ad.add (i * 4))), .agg #[iv o.kind, iv o.at_, .slice o.A o.d.length o.cd, .slice o.A2 o.ps.length o.cp], pq g22, iv o.kind, J 58, J 59, J 60, tv, tv, pq gd, po g22 1, iv o.at_, po g22 2, .slice o.A o.d.length o.cd, sl c_ 0 o.d.length o.d.length, iv ((s1.writeR o.at_ o.d).2), po g22 1, iv o.at_, tv, tv, po g22 1, iv o.at_, sl gn 0 m cn, iv (m : Nat), fv, fv, fv, ud, ud, ud, ud, fv, J 86, J 87, J 88, J 89, J 90, J 91, J 92, J 93, J 94, J 95, J 96, J 97, J 98, J 99, J 100, J 101, J 102, J 103, J 104, J 105, J 106, J 107, J 108, J 109, J 110, J 111, J 112, J 113, J 114, J 115, J 116, J 117, J 118, J 119, J 120, J 121, J 122, J 123, J 124, J 125, J 126, J 127, J 128, J 129, J 130, J 131, J 132, J 133, J 134, J 135, J 136, J 137, J 138, J 139, J 140, J 141, J 142, J 143, J 144, J 145, J 146, J 147, J 148, J 149, J 150, J 151, J 152, J 153, J 154, J 155, J 156, J 157, J 158, J 159, J 160, J 161, J 162, J 163, J 164, J 165, J 166, J 167] 23) (by kernel_rfl) ?_
              refine then_n ?_
              refine wp_seq ?_
              refine wp_region_lit ?_
              refine pv (iv ((s1.writeR o.at_ o.d).2)) ?_
              refine wl_gv rfl (gv_eq (x := ((s1.writeR o.at_ o.d).2)) (y := 0) (by kernel_rfl) (fun hb54 => ?_) (fun hb54 => ?_))
              · skip
                have hw := writeR_ok hb54
                exfalso; omega
              · skip
                have hw := writeR_no (show _ ≠ (0 : Int) from hb54)
                refine wl_end (fr [iv n, .slice A l.length ca, .slice A3 ops.length c3, ud, ud, ud, J 6, pq gd, tv, sl gi5 0 s.last.flatten.length s.last.flatten.length, sl gn 0 m cn, iv ((i : Nat) : Int), pq g22, iv ((s1.writeR o.at_ o.d).2), fv, J 15, J 16, J 17, J 18, ud, ud, ud, .tuple #[pq gd, tv], iv n, .slice A l.length ca, .tuple #[pq gd, tv], pq gd, tv, tv, fv, pq gd, fv, pq gd, sl gi5 0 s.last.flatten.length s.last.flatten.length, sl gi5 0 s.last.flatten.length s.last.flatten.length, sl gn11 0 E9.length cn12, sl gn11 0 E9.length cn12, iv (E9.length : Nat), pq gd, iv (s.last.length : Int), fv, fv, sl gn11 0 E9.length cn12, iv (E9.length : Nat), fv, fv, iv ((i : Nat) : Int), .slice A3 ops.length c3, iv (ops.length : Nat), tv, J 50, J 51, .slice A3 ops.length c3, iv ((i : Nat) : Int), .pointer (some (ad.add (i * 4))), .agg #[iv o.kind, iv o.at_, .slice o.A o.d.length o.cd, .slice o.A2 o.ps.length o.cp], pq g22, iv o.kind, J 58, J 59, J 60, tv, tv, pq gd, po g22 1, iv o.at_, po g22 2, .slice o.A o.d.length o.cd, sl c_ 0 o.d.length o.d.length, iv ((s1.writeR o.at_ o.d).2), po g22 1, iv o.at_, tv, tv, po g22 1, iv o.at_, sl gn 0 m cn, iv (m : Nat), fv, fv, fv, ud, ud, ud, ud, fv, iv ((s1.writeR o.at_ o.d).2), fv, J 88, J 89, J 90, J 91, J 92, J 93, J 94, J 95, J 96, J 97, J 98, J 99, J 100, J 101, J 102, J 103, J 104, J 105, J 106, J 107, J 108, J 109, J 110, J 111, J 112, J 113, J 114, J 115, J 116, J 117, J 118, J 119, J 120, J 121, J 122, J 123, J 124, J 125, J 126, J 127, J 128, J 129, J 130, J 131, J 132, J 133, J 134, J 135, J 136, J 137, J 138, J 139, J 140, J 141, J 142, J 143, J 144, J 145, J 146, J 147, J 148, J 149, J 150, J 151, J 152, J 153, J 154, J 155, J 156, J 157, J 158, J 159, J 160, J 161, J 162, J 163, J 164, J 165, J 166, J 167] 23) (by kernel_rfl) ?_
                refine then_n ?_
                refine wp_cond_false (by kernel_rfl) ?_
                refine wp_seq ?_
                refine wp_region_lit ?_
                refine pv fv ?_
                refine pv fv ?_
                refine wl_not (by kernel_rfl) ?_
                refine wl_not (by kernel_rfl) ?_
                refine pv fv ?_
                refine wl_end (fr [iv n, .slice A l.length ca, .slice A3 ops.length c3, ud, ud, ud, J 6, pq gd, tv, sl gi5 0 s.last.flatten.length s.last.flatten.length, sl gn 0 m cn, iv ((i : Nat) : Int), pq g22, iv ((s1.writeR o.at_ o.d).2), fv, J 15, J 16, J 17, J 18, ud, ud, ud, .tuple #[pq gd, tv], iv n, .slice A l.length ca, .tuple #[pq gd, tv], pq gd, tv, tv, fv, pq gd, fv, pq gd, sl gi5 0 s.last.flatten.length s.last.flatten.length, sl gi5 0 s.last.flatten.length s.last.flatten.length, sl gn11 0 E9.length cn12, sl gn11 0 E9.length cn12, iv (E9.length : Nat), pq gd, iv (s.last.length : Int), fv, fv, sl gn11 0 E9.length cn12, iv (E9.length : Nat), fv, fv, iv ((i : Nat) : Int), .slice A3 ops.length c3, iv (ops.length : Nat), tv, J 50, J 51, .slice A3 ops.length c3, iv ((i : Nat) : Int), .pointer (some (ad.add (i * 4))), .agg #[iv o.kind, iv o.at_, .slice o.A o.d.length o.cd, .slice o.A2 o.ps.length o.cp], pq g22, iv o.kind, J 58, J 59, J 60, tv, tv, pq gd, po g22 1, iv o.at_, po g22 2, .slice o.A o.d.length o.cd, sl c_ 0 o.d.length o.d.length, iv ((s1.writeR o.at_ o.d).2), po g22 1, iv o.at_, tv, tv, po g22 1, iv o.at_, sl gn 0 m cn, iv (m : Nat), fv, fv, fv, ud, ud, ud, ud, fv, iv ((s1.writeR o.at_ o.d).2), fv, J 88, J 89, J 90, J 91, J 92, J 93, J 94, J 95, fv, fv, ud, ud, fv, J 101, J 102, J 103, J 104, J 105, J 106, J 107, J 108, J 109, J 110, J 111, J 112, J 113, J 114, J 115, J 116, J 117, J 118, J 119, J 120, J 121, J 122, J 123, J 124, J 125, J 126, J 127, J 128, J 129, J 130, J 131, J 132, J 133, J 134, J 135, J 136, J 137, J 138, J 139, J 140, J 141, J 142, J 143, J 144, J 145, J 146, J 147, J 148, J 149, J 150, J 151, J 152, J 153, J 154, J 155, J 156, J 157, J 158, J 159, J 160, J 161, J 162, J 163, J 164, J 165, J 166, J 167] 23) (by kernel_rfl) ?_
                refine then_n ?_
                refine wp_cond_false (by kernel_rfl) ?_
                refine wp_skip ?_
                refine inb_n ?_
                refine inb_n ?_
                refine then_n ?_
                refine wp_region_lit ?_
                refine pv (iv ((i : Nat) : Int)) ?_
                refine wl_gv rfl (gv_int (k := .i64) (z := IntKind.i64.wrap (((i : Nat) : Int) + 1)) (z' := ((i + 1 : Nat) : Int)) (by kernel_rfl) (wr_eq (by omega) (by omega) (by omega)) ?_)
                refine pv (iv ((i + 1 : Nat) : Int)) ?_
                have S55 : St none' w w1 [PDisk gd (s1.writeR o.at_ o.d).1, row gn ((E.map Hd.val ++ jk).toArray) 31, row gi (bvs im) 5] := St.permT [PDisk gd (s1.writeR o.at_ o.d).1, row c_ (bvs o.d) 5, row g22 #[.int .i64 o.kind, .int .i64 o.at_, .slice o.A o.d.length o.cd, .slice o.A2 o.ps.length o.cp] 49, row gn ((E.map Hd.val ++ jk).toArray) 31, row gi (bvs im) 5] [0, 3, 4] (by decide) rfl S42
                have hnf : NF w ((s1.writeR o.at_ o.d).1) E gi im := hN.same hw.1 hw.2.1
                have hpb : ((s1.writeR o.at_ o.d).1).pend.length ≤ i + 1 := (by have := writeR_pend s1 o.at_ o.d; exact Nat.le_trans this (by omega))
                refine wl_end (fr [iv n, .slice A l.length ca, .slice A3 ops.length c3, ud, ud, ud, J 6, pq gd, tv, sl gi5 0 s.last.flatten.length s.last.flatten.length, sl gn 0 m cn, iv ((i + 1 : Nat) : Int), pq g22, iv ((s1.writeR o.at_ o.d).2), fv, J 15, J 16, J 17, J 18, ud, ud, ud, .tuple #[pq gd, tv], iv n, .slice A l.length ca, .tuple #[pq gd, tv], pq gd, tv, tv, fv, pq gd, fv, pq gd, sl gi5 0 s.last.flatten.length s.last.flatten.length, sl gi5 0 s.last.flatten.length s.last.flatten.length, sl gn11 0 E9.length cn12, sl gn11 0 E9.length cn12, iv (E9.length : Nat), pq gd, iv (s.last.length : Int), fv, fv, sl gn11 0 E9.length cn12, iv (E9.length : Nat), fv, fv, iv ((i : Nat) : Int), .slice A3 ops.length c3, iv (ops.length : Nat), tv, iv ((i : Nat) : Int), iv ((i + 1 : Nat) : Int), .slice A3 ops.length c3, iv ((i : Nat) : Int), .pointer (some (ad.add (i * 4))), .agg #[iv o.kind, iv o.at_, .slice o.A o.d.length o.cd, .slice o.A2 o.ps.length o.cp], pq g22, iv o.kind, J 58, J 59, J 60, tv, tv, pq gd, po g22 1, iv o.at_, po g22 2, .slice o.A o.d.length o.cd, sl c_ 0 o.d.length o.d.length, iv ((s1.writeR o.at_ o.d).2), po g22 1, iv o.at_, tv, tv, po g22 1, iv o.at_, sl gn 0 m cn, iv (m : Nat), fv, fv, fv, ud, ud, ud, ud, fv, iv ((s1.writeR o.at_ o.d).2), fv, J 88, J 89, J 90, J 91, J 92, J 93, J 94, J 95, fv, fv, ud, ud, fv, J 101, J 102, J 103, J 104, J 105, J 106, J 107, J 108, J 109, J 110, J 111, J 112, J 113, J 114, J 115, J 116, J 117, J 118, J 119, J 120, J 121, J 122, J 123, J 124, J 125, J 126, J 127, J 128, J 129, J 130, J 131, J 132, J 133, J 134, J 135, J 136, J 137, J 138, J 139, J 140, J 141, J 142, J 143, J 144, J 145, J 146, J 147, J 148, J 149, J 150, J 151, J 152, J 153, J 154, J 155, J 156, J 157, J 158, J 159, J 160, J 161, J 162, J 163, J 164, J 165, J 166, J 167] 23) (by kernel_rfl) ?_
                refine then_n ?_
                exact ⟨(i + 1, (s1.writeR o.at_ o.d).1, E, gn, cn, jk, gi, im, m), ⟨(jl [ud, ud, ud, ud, ud, ud, J 6, ud, ud, ud, ud, ud, pq g22, iv ((s1.writeR o.at_ o.d).2), fv, J 15, J 16, J 17, J 18, ud, ud, ud, ud, ud, ud, ud, ud, ud, ud, ud, ud, ud, ud, ud, ud, ud, ud, ud, ud, ud, ud, ud, ud, ud, ud, ud, iv ((i : Nat) : Int), .slice A3 ops.length c3, iv (ops.length : Nat), tv, iv ((i : Nat) : Int), iv ((i + 1 : Nat) : Int), .slice A3 ops.length c3, iv ((i : Nat) : Int), .pointer (some (ad.add (i * 4))), .agg #[iv o.kind, iv o.at_, .slice o.A o.d.length o.cd, .slice o.A2 o.ps.length o.cp], pq g22, iv o.kind, J 58, J 59, J 60, tv, tv, pq gd, po g22 1, iv o.at_, po g22 2, .slice o.A o.d.length o.cd, sl c_ 0 o.d.length o.d.length, iv ((s1.writeR o.at_ o.d).2), po g22 1, iv o.at_, tv, tv, po g22 1, iv o.at_, sl gn 0 m cn, iv (m : Nat), fv, fv, fv, ud, ud, ud, ud, fv, iv ((s1.writeR o.at_ o.d).2), fv, J 88, J 89, J 90, J 91, J 92, J 93, J 94, J 95, fv, fv, ud, ud, fv, J 101, J 102, J 103, J 104, J 105, J 106, J 107, J 108, J 109, J 110, J 111, J 112, J 113, J 114, J 115, J 116, J 117, J 118, J 119, J 120, J 121, J 122, J 123, J 124, J 125, J 126, J 127, J 128, J 129, J 130, J 131, J 132, J 133, J 134, J 135, J 136, J 137, J 138, J 139, J 140, J 141, J 142, J 143, J 144, J 145, J 146, J 147, J 148, J 149, J 150, J 151, J 152, J 153, J 154, J 155, J 156, J 157, J 158, J 159, J 160, J 161, J 162, J 163, J 164, J 165, J 166, J 167]), by kernel_rfl, S55, ⟨by omega, hpb, hnf, hcI, hmI⟩⟩, (by show ops.length - (i + 1) < ops.length - i; omega)⟩
          · skip
            refine pv fv ?_
            refine wl_not (by kernel_rfl) ?_
            refine wl_not (by kernel_rfl) ?_
            refine wl_not (by kernel_rfl) ?_
            refine wl_not (by kernel_rfl) ?_
            refine wl_not (by kernel_rfl) ?_
            refine pv fv ?_
            refine pv fv ?_
            refine wl_not (by kernel_rfl) ?_
            refine wl_not (by kernel_rfl) ?_
            refine wl_not (by kernel_rfl) ?_
            refine wl_not (by kernel_rfl) ?_
            refine pv fv ?_
            refine pv fv ?_
            refine wl_end (fr [iv n, .slice A l.length ca, .slice A3 ops.length c3, ud, ud, ud, J 6, pq gd, tv, sl gi5 0 s.last.flatten.length s.last.flatten.length, sl gn 0 m cn, iv ((i : Nat) : Int), pq g22, iv ((s1.writeR o.at_ o.d).2), fv, J 15, J 16, J 17, J 18, ud, ud, ud, .tuple #[pq gd, tv], iv n, .slice A l.length ca, .tuple #[pq gd, tv], pq gd, tv, tv, fv, pq gd, fv, pq gd, sl gi5 0 s.last.flatten.length s.last.flatten.length, sl gi5 0 s.last.flatten.length s.last.flatten.length, sl gn11 0 E9.length cn12, sl gn11 0 E9.length cn12, iv (E9.length : Nat), pq gd, iv (s.last.length : Int), fv, fv, sl gn11 0 E9.length cn12, iv (E9.length : Nat), fv, fv, iv ((i : Nat) : Int), .slice A3 ops.length c3, iv (ops.length : Nat), tv, J 50, J 51, .slice A3 ops.length c3, iv ((i : Nat) : Int), .pointer (some (ad.add (i * 4))), .agg #[iv o.kind, iv o.at_, .slice o.A o.d.length o.cd, .slice o.A2 o.ps.length o.cp], pq g22, iv o.kind, J 58, J 59, J 60, tv, tv, pq gd, po g22 1, iv o.at_, po g22 2, .slice o.A o.d.length o.cd, sl c_ 0 o.d.length o.d.length, iv ((s1.writeR o.at_ o.d).2), po g22 1, iv o.at_, fv, fv, ud, ud, ud, ud, ud, fv, fv, ud, ud, ud, ud, fv, J 86, J 87, J 88, J 89, J 90, J 91, J 92, J 93, J 94, J 95, J 96, J 97, J 98, J 99, J 100, J 101, J 102, J 103, J 104, J 105, J 106, J 107, J 108, J 109, J 110, J 111, J 112, J 113, J 114, J 115, J 116, J 117, J 118, J 119, J 120, J 121, J 122, J 123, J 124, J 125, J 126, J 127, J 128, J 129, J 130, J 131, J 132, J 133, J 134, J 135, J 136, J 137, J 138, J 139, J 140, J 141, J 142, J 143, J 144, J 145, J 146, J 147, J 148, J 149, J 150, J 151, J 152, J 153, J 154, J 155, J 156, J 157, J 158, J 159, J 160, J 161, J 162, J 163, J 164, J 165, J 166, J 167] 23) (by kernel_rfl) ?_
            refine then_n ?_
            refine wp_seq ?_
            refine wp_region_lit ?_
            refine pv (iv ((s1.writeR o.at_ o.d).2)) ?_
            refine wl_gv rfl (gv_eq (x := ((s1.writeR o.at_ o.d).2)) (y := 0) (by kernel_rfl) (fun hb56 => ?_) (fun hb56 => ?_))
            · skip
              have hw := writeR_ok hb56
              exfalso; omega
            · skip
              have hw := writeR_no (show _ ≠ (0 : Int) from hb56)
              refine wl_end (fr [iv n, .slice A l.length ca, .slice A3 ops.length c3, ud, ud, ud, J 6, pq gd, tv, sl gi5 0 s.last.flatten.length s.last.flatten.length, sl gn 0 m cn, iv ((i : Nat) : Int), pq g22, iv ((s1.writeR o.at_ o.d).2), fv, J 15, J 16, J 17, J 18, ud, ud, ud, .tuple #[pq gd, tv], iv n, .slice A l.length ca, .tuple #[pq gd, tv], pq gd, tv, tv, fv, pq gd, fv, pq gd, sl gi5 0 s.last.flatten.length s.last.flatten.length, sl gi5 0 s.last.flatten.length s.last.flatten.length, sl gn11 0 E9.length cn12, sl gn11 0 E9.length cn12, iv (E9.length : Nat), pq gd, iv (s.last.length : Int), fv, fv, sl gn11 0 E9.length cn12, iv (E9.length : Nat), fv, fv, iv ((i : Nat) : Int), .slice A3 ops.length c3, iv (ops.length : Nat), tv, J 50, J 51, .slice A3 ops.length c3, iv ((i : Nat) : Int), .pointer (some (ad.add (i * 4))), .agg #[iv o.kind, iv o.at_, .slice o.A o.d.length o.cd, .slice o.A2 o.ps.length o.cp], pq g22, iv o.kind, J 58, J 59, J 60, tv, tv, pq gd, po g22 1, iv o.at_, po g22 2, .slice o.A o.d.length o.cd, sl c_ 0 o.d.length o.d.length, iv ((s1.writeR o.at_ o.d).2), po g22 1, iv o.at_, fv, fv, ud, ud, ud, ud, ud, fv, fv, ud, ud, ud, ud, fv, iv ((s1.writeR o.at_ o.d).2), fv, J 88, J 89, J 90, J 91, J 92, J 93, J 94, J 95, J 96, J 97, J 98, J 99, J 100, J 101, J 102, J 103, J 104, J 105, J 106, J 107, J 108, J 109, J 110, J 111, J 112, J 113, J 114, J 115, J 116, J 117, J 118, J 119, J 120, J 121, J 122, J 123, J 124, J 125, J 126, J 127, J 128, J 129, J 130, J 131, J 132, J 133, J 134, J 135, J 136, J 137, J 138, J 139, J 140, J 141, J 142, J 143, J 144, J 145, J 146, J 147, J 148, J 149, J 150, J 151, J 152, J 153, J 154, J 155, J 156, J 157, J 158, J 159, J 160, J 161, J 162, J 163, J 164, J 165, J 166, J 167] 23) (by kernel_rfl) ?_
              refine then_n ?_
              refine wp_cond_false (by kernel_rfl) ?_
              refine wp_seq ?_
              refine wp_region_lit ?_
              refine pv fv ?_
              refine pv fv ?_
              refine wl_not (by kernel_rfl) ?_
              refine wl_not (by kernel_rfl) ?_
              refine pv fv ?_
              refine wl_end (fr [iv n, .slice A l.length ca, .slice A3 ops.length c3, ud, ud, ud, J 6, pq gd, tv, sl gi5 0 s.last.flatten.length s.last.flatten.length, sl gn 0 m cn, iv ((i : Nat) : Int), pq g22, iv ((s1.writeR o.at_ o.d).2), fv, J 15, J 16, J 17, J 18, ud, ud, ud, .tuple #[pq gd, tv], iv n, .slice A l.length ca, .tuple #[pq gd, tv], pq gd, tv, tv, fv, pq gd, fv, pq gd, sl gi5 0 s.last.flatten.length s.last.flatten.length, sl gi5 0 s.last.flatten.length s.last.flatten.length, sl gn11 0 E9.length cn12, sl gn11 0 E9.length cn12, iv (E9.length : Nat), pq gd, iv (s.last.length : Int), fv, fv, sl gn11 0 E9.length cn12, iv (E9.length : Nat), fv, fv, iv ((i : Nat) : Int), .slice A3 ops.length c3, iv (ops.length : Nat), tv, J 50, J 51, .slice A3 ops.length c3, iv ((i : Nat) : Int), .pointer (some (ad.add (i * 4))), .agg #[iv o.kind, iv o.at_, .slice o.A o.d.length o.cd, .slice o.A2 o.ps.length o.cp], pq g22, iv o.kind, J 58, J 59, J 60, tv, tv, pq gd, po g22 1, iv o.at_, po g22 2, .slice o.A o.d.length o.cd, sl c_ 0 o.d.length o.d.length, iv ((s1.writeR o.at_ o.d).2), po g22 1, iv o.at_, fv, fv, ud, ud, ud, ud, ud, fv, fv, ud, ud, ud, ud, fv, iv ((s1.writeR o.at_ o.d).2), fv, J 88, J 89, J 90, J 91, J 92, J 93, J 94, J 95, fv, fv, ud, ud, fv, J 101, J 102, J 103, J 104, J 105, J 106, J 107, J 108, J 109, J 110, J 111, J 112, J 113, J 114, J 115, J 116, J 117, J 118, J 119, J 120, J 121, J 122, J 123, J 124, J 125, J 126, J 127, J 128, J 129, J 130, J 131, J 132, J 133, J 134, J 135, J 136, J 137, J 138, J 139, J 140, J 141, J 142, J 143, J 144, J 145, J 146, J 147, J 148, J 149, J 150, J 151, J 152, J 153, J 154, J 155, J 156, J 157, J 158, J 159, J 160, J 161, J 162, J 163, J 164, J 165, J 166, J 167] 23) (by kernel_rfl) ?_
              refine then_n ?_
              refine wp_cond_false (by kernel_rfl) ?_
              refine wp_skip ?_
              refine inb_n ?_
              refine inb_n ?_
              refine then_n ?_
              refine wp_region_lit ?_
              refine pv (iv ((i : Nat) : Int)) ?_
              refine wl_gv rfl (gv_int (k := .i64) (z := IntKind.i64.wrap (((i : Nat) : Int) + 1)) (z' := ((i + 1 : Nat) : Int)) (by kernel_rfl) (wr_eq (by omega) (by omega) (by omega)) ?_)
              refine pv (iv ((i + 1 : Nat) : Int)) ?_
              have S57 : St none' w w1 [PDisk gd (s1.writeR o.at_ o.d).1, row gn ((E.map Hd.val ++ jk).toArray) 31, row gi (bvs im) 5] := St.permT [PDisk gd (s1.writeR o.at_ o.d).1, row c_ (bvs o.d) 5, row g22 #[.int .i64 o.kind, .int .i64 o.at_, .slice o.A o.d.length o.cd, .slice o.A2 o.ps.length o.cp] 49, row gn ((E.map Hd.val ++ jk).toArray) 31, row gi (bvs im) 5] [0, 3, 4] (by decide) rfl S42
              have hnf : NF w ((s1.writeR o.at_ o.d).1) E gi im := hN.same hw.1 hw.2.1
              have hpb : ((s1.writeR o.at_ o.d).1).pend.length ≤ i + 1 := (by have := writeR_pend s1 o.at_ o.d; exact Nat.le_trans this (by omega))
              refine wl_end (fr [iv n, .slice A l.length ca, .slice A3 ops.length c3, ud, ud, ud, J 6, pq gd, tv, sl gi5 0 s.last.flatten.length s.last.flatten.length, sl gn 0 m cn, iv ((i + 1 : Nat) : Int), pq g22, iv ((s1.writeR o.at_ o.d).2), fv, J 15, J 16, J 17, J 18, ud, ud, ud, .tuple #[pq gd, tv], iv n, .slice A l.length ca, .tuple #[pq gd, tv], pq gd, tv, tv, fv, pq gd, fv, pq gd, sl gi5 0 s.last.flatten.length s.last.flatten.length, sl gi5 0 s.last.flatten.length s.last.flatten.length, sl gn11 0 E9.length cn12, sl gn11 0 E9.length cn12, iv (E9.length : Nat), pq gd, iv (s.last.length : Int), fv, fv, sl gn11 0 E9.length cn12, iv (E9.length : Nat), fv, fv, iv ((i : Nat) : Int), .slice A3 ops.length c3, iv (ops.length : Nat), tv, iv ((i : Nat) : Int), iv ((i + 1 : Nat) : Int), .slice A3 ops.length c3, iv ((i : Nat) : Int), .pointer (some (ad.add (i * 4))), .agg #[iv o.kind, iv o.at_, .slice o.A o.d.length o.cd, .slice o.A2 o.ps.length o.cp], pq g22, iv o.kind, J 58, J 59, J 60, tv, tv, pq gd, po g22 1, iv o.at_, po g22 2, .slice o.A o.d.length o.cd, sl c_ 0 o.d.length o.d.length, iv ((s1.writeR o.at_ o.d).2), po g22 1, iv o.at_, fv, fv, ud, ud, ud, ud, ud, fv, fv, ud, ud, ud, ud, fv, iv ((s1.writeR o.at_ o.d).2), fv, J 88, J 89, J 90, J 91, J 92, J 93, J 94, J 95, fv, fv, ud, ud, fv, J 101, J 102, J 103, J 104, J 105, J 106, J 107, J 108, J 109, J 110, J 111, J 112, J 113, J 114, J 115, J 116, J 117, J 118, J 119, J 120, J 121, J 122, J 123, J 124, J 125, J 126, J 127, J 128, J 129, J 130, J 131, J 132, J 133, J 134, J 135, J 136, J 137, J 138, J 139, J 140, J 141, J 142, J 143, J 144, J 145, J 146, J 147, J 148, J 149, J 150, J 151, J 152, J 153, J 154, J 155, J 156, J 157, J 158, J 159, J 160, J 161, J 162, J 163, J 164, J 165, J 166, J 167] 23) (by kernel_rfl) ?_
              refine then_n ?_
              exact ⟨(i + 1, (s1.writeR o.at_ o.d).1, E, gn, cn, jk, gi, im, m), ⟨(jl [ud, ud, ud, ud, ud, ud, J 6, ud, ud, ud, ud, ud, pq g22, iv ((s1.writeR o.at_ o.d).2), fv, J 15, J 16, J 17, J 18, ud, ud, ud, ud, ud, ud, ud, ud, ud, ud, ud, ud, ud, ud, ud, ud, ud, ud, ud, ud, ud, ud, ud, ud, ud, ud, ud, iv ((i : Nat) : Int), .slice A3 ops.length c3, iv (ops.length : Nat), tv, iv ((i : Nat) : Int), iv ((i + 1 : Nat) : Int), .slice A3 ops.length c3, iv ((i : Nat) : Int), .pointer (some (ad.add (i * 4))), .agg #[iv o.kind, iv o.at_, .slice o.A o.d.length o.cd, .slice o.A2 o.ps.length o.cp], pq g22, iv o.kind, J 58, J 59, J 60, tv, tv, pq gd, po g22 1, iv o.at_, po g22 2, .slice o.A o.d.length o.cd, sl c_ 0 o.d.length o.d.length, iv ((s1.writeR o.at_ o.d).2), po g22 1, iv o.at_, fv, fv, ud, ud, ud, ud, ud, fv, fv, ud, ud, ud, ud, fv, iv ((s1.writeR o.at_ o.d).2), fv, J 88, J 89, J 90, J 91, J 92, J 93, J 94, J 95, fv, fv, ud, ud, fv, J 101, J 102, J 103, J 104, J 105, J 106, J 107, J 108, J 109, J 110, J 111, J 112, J 113, J 114, J 115, J 116, J 117, J 118, J 119, J 120, J 121, J 122, J 123, J 124, J 125, J 126, J 127, J 128, J 129, J 130, J 131, J 132, J 133, J 134, J 135, J 136, J 137, J 138, J 139, J 140, J 141, J 142, J 143, J 144, J 145, J 146, J 147, J 148, J 149, J 150, J 151, J 152, J 153, J 154, J 155, J 156, J 157, J 158, J 159, J 160, J 161, J 162, J 163, J 164, J 165, J 166, J 167]), by kernel_rfl, S57, ⟨by omega, hpb, hnf, hcI, hmI⟩⟩, (by show ops.length - (i + 1) < ops.length - i; omega)⟩
      · skip
        refine pv fv ?_
        refine wl_end (fr [iv n, .slice A l.length ca, .slice A3 ops.length c3, ud, ud, ud, J 6, pq gd, tv, sl gi5 0 s.last.flatten.length s.last.flatten.length, sl gn 0 m cn, iv ((i : Nat) : Int), pq g22, J 13, J 14, J 15, J 16, J 17, J 18, ud, ud, ud, .tuple #[pq gd, tv], iv n, .slice A l.length ca, .tuple #[pq gd, tv], pq gd, tv, tv, fv, pq gd, fv, pq gd, sl gi5 0 s.last.flatten.length s.last.flatten.length, sl gi5 0 s.last.flatten.length s.last.flatten.length, sl gn11 0 E9.length cn12, sl gn11 0 E9.length cn12, iv (E9.length : Nat), pq gd, iv (s.last.length : Int), fv, fv, sl gn11 0 E9.length cn12, iv (E9.length : Nat), fv, fv, iv ((i : Nat) : Int), .slice A3 ops.length c3, iv (ops.length : Nat), tv, J 50, J 51, .slice A3 ops.length c3, iv ((i : Nat) : Int), .pointer (some (ad.add (i * 4))), .agg #[iv o.kind, iv o.at_, .slice o.A o.d.length o.cd, .slice o.A2 o.ps.length o.cp], pq g22, iv o.kind, J 58, J 59, J 60, fv, fv, J 63, J 64, J 65, J 66, J 67, J 68, J 69, J 70, J 71, J 72, J 73, J 74, J 75, J 76, J 77, J 78, J 79, J 80, J 81, J 82, J 83, J 84, J 85, J 86, J 87, J 88, J 89, J 90, J 91, J 92, J 93, J 94, J 95, J 96, J 97, J 98, J 99, J 100, J 101, J 102, J 103, J 104, J 105, J 106, J 107, J 108, J 109, J 110, J 111, J 112, J 113, J 114, J 115, J 116, J 117, J 118, J 119, J 120, J 121, J 122, J 123, J 124, J 125, J 126, J 127, J 128, J 129, J 130, J 131, J 132, J 133, J 134, J 135, J 136, J 137, J 138, J 139, J 140, J 141, J 142, J 143, J 144, J 145, J 146, J 147, J 148, J 149, J 150, J 151, J 152, J 153, J 154, J 155, J 156, J 157, J 158, J 159, J 160, J 161, J 162, J 163, J 164, J 165, J 166, J 167] 23) (by kernel_rfl) ?_
        refine then_n ?_
        refine wp_cond_false (by kernel_rfl) ?_
        refine wp_seq ?_
        refine wp_region_lit ?_
        refine wl_gv rfl (gv_eq (x := o.kind) (y := 1) (by kernel_rfl) (fun k1 => ?_) (fun k1 => ?_))
        · skip
          refine pv tv ?_
          refine wl_end (fr [iv n, .slice A l.length ca, .slice A3 ops.length c3, ud, ud, ud, J 6, pq gd, tv, sl gi5 0 s.last.flatten.length s.last.flatten.length, sl gn 0 m cn, iv ((i : Nat) : Int), pq g22, J 13, J 14, J 15, J 16, J 17, J 18, ud, ud, ud, .tuple #[pq gd, tv], iv n, .slice A l.length ca, .tuple #[pq gd, tv], pq gd, tv, tv, fv, pq gd, fv, pq gd, sl gi5 0 s.last.flatten.length s.last.flatten.length, sl gi5 0 s.last.flatten.length s.last.flatten.length, sl gn11 0 E9.length cn12, sl gn11 0 E9.length cn12, iv (E9.length : Nat), pq gd, iv (s.last.length : Int), fv, fv, sl gn11 0 E9.length cn12, iv (E9.length : Nat), fv, fv, iv ((i : Nat) : Int), .slice A3 ops.length c3, iv (ops.length : Nat), tv, J 50, J 51, .slice A3 ops.length c3, iv ((i : Nat) : Int), .pointer (some (ad.add (i * 4))), .agg #[iv o.kind, iv o.at_, .slice o.A o.d.length o.cd, .slice o.A2 o.ps.length o.cp], pq g22, iv o.kind, J 58, J 59, J 60, fv, fv, J 63, J 64, J 65, J 66, J 67, J 68, J 69, J 70, J 71, J 72, J 73, J 74, J 75, J 76, J 77, J 78, J 79, J 80, J 81, J 82, J 83, J 84, J 85, J 86, J 87, J 88, J 89, J 90, J 91, J 92, J 93, J 94, J 95, J 96, J 97, J 98, J 99, J 100, tv, tv, J 103, J 104, J 105, J 106, J 107, J 108, J 109, J 110, J 111, J 112, J 113, J 114, J 115, J 116, J 117, J 118, J 119, J 120, J 121, J 122, J 123, J 124, J 125, J 126, J 127, J 128, J 129, J 130, J 131, J 132, J 133, J 134, J 135, J 136, J 137, J 138, J 139, J 140, J 141, J 142, J 143, J 144, J 145, J 146, J 147, J 148, J 149, J 150, J 151, J 152, J 153, J 154, J 155, J 156, J 157, J 158, J 159, J 160, J 161, J 162, J 163, J 164, J 165, J 166, J 167] 23) (by kernel_rfl) ?_
          refine then_n ?_
          refine wp_cond_true (by kernel_rfl) ?_
          refine wp_seq ?_
          refine wp_region_lit ?_
          refine pv (pq gd) ?_
          refine pv (po g22 1) ?_
          refine wl_gv rfl (gv_ldR (v := .int .i64 o.at_) rfl (by kernel_rfl) (by kernel_rfl) (((S27.blk 0 rfl).cell 1).trans rfl) ?_)
          refine wl_gv rfl (gv_call (args := #[.pointer (some ⟨gd, 0, none⟩), .int .i64 o.at_]) rfl Try.func29 (by kernel_rfl) rfl rfl (by kernel_rfl) ?_)
          have S58 : St none' w w26 [PDisk gd s1, row g22 #[.int .i64 o.kind, .int .i64 o.at_, .slice o.A o.d.length o.cd, .slice o.A2 o.ps.length o.cp] 49, row gn ((E.map Hd.val ++ jk).toArray) 31, row gi (bvs im) 5] := St.permT [row g22 #[.int .i64 o.kind, .int .i64 o.at_, .slice o.A o.d.length o.cd, .slice o.A2 o.ps.length o.cp] 49, PDisk gd s1, row gn ((E.map Hd.val ++ jk).toArray) 31, row gi (bvs im) 5] [1, 0, 2, 3] (by decide) rfl S27
          have hrl0 := St.readR_len S58 o.at_
          refine Calls.mono (pd_read S58) ?_
          rintro _ w59 ⟨v_, rfl, S60⟩
          obtain ⟨AP61, rfl, S60'⟩ := St.bytes_eq S60
          refine ⟨_, rfl, ?_⟩
          refine pv (.tuple #[.slice AP61 ((s1.readR o.at_).2.1.length) ((s1.readR o.at_).2.1.length), iv ((s1.readR o.at_).2.2)]) ?_
          refine pv (.slice AP61 ((s1.readR o.at_).2.1.length) ((s1.readR o.at_).2.1.length)) ?_
          refine pv (iv ((s1.readR o.at_).2.2)) ?_
          refine pv (.slice AP61 ((s1.readR o.at_).2.1.length) ((s1.readR o.at_).2.1.length)) ?_
          refine pv (iv ((s1.readR o.at_).2.2)) ?_
          refine wl_end (fr [iv n, .slice A l.length ca, .slice A3 ops.length c3, ud, ud, ud, J 6, pq gd, tv, sl gi5 0 s.last.flatten.length s.last.flatten.length, sl gn 0 m cn, iv ((i : Nat) : Int), pq g22, J 13, J 14, .slice AP61 ((s1.readR o.at_).2.1.length) ((s1.readR o.at_).2.1.length), iv ((s1.readR o.at_).2.2), J 17, J 18, ud, ud, ud, .tuple #[pq gd, tv], iv n, .slice A l.length ca, .tuple #[pq gd, tv], pq gd, tv, tv, fv, pq gd, fv, pq gd, sl gi5 0 s.last.flatten.length s.last.flatten.length, sl gi5 0 s.last.flatten.length s.last.flatten.length, sl gn11 0 E9.length cn12, sl gn11 0 E9.length cn12, iv (E9.length : Nat), pq gd, iv (s.last.length : Int), fv, fv, sl gn11 0 E9.length cn12, iv (E9.length : Nat), fv, fv, iv ((i : Nat) : Int), .slice A3 ops.length c3, iv (ops.length : Nat), tv, J 50, J 51, .slice A3 ops.length c3, iv ((i : Nat) : Int), .pointer (some (ad.add (i * 4))), .agg #[iv o.kind, iv o.at_, .slice o.A o.d.length o.cd, .slice o.A2 o.ps.length o.cp], pq g22, iv o.kind, J 58, J 59, J 60, fv, fv, J 63, J 64, J 65, J 66, J 67, J 68, J 69, J 70, J 71, J 72, J 73, J 74, J 75, J 76, J 77, J 78, J 79, J 80, J 81, J 82, J 83, J 84, J 85, J 86, J 87, J 88, J 89, J 90, J 91, J 92, J 93, J 94, J 95, J 96, J 97, J 98, J 99, J 100, tv, tv, .tuple #[.slice AP61 ((s1.readR o.at_).2.1.length) ((s1.readR o.at_).2.1.length), iv ((s1.readR o.at_).2.2)], pq gd, po g22 1, iv o.at_, .tuple #[.slice AP61 ((s1.readR o.at_).2.1.length) ((s1.readR o.at_).2.1.length), iv ((s1.readR o.at_).2.2)], .slice AP61 ((s1.readR o.at_).2.1.length) ((s1.readR o.at_).2.1.length), iv ((s1.readR o.at_).2.2), J 110, J 111, J 112, J 113, J 114, J 115, J 116, J 117, J 118, J 119, J 120, J 121, J 122, J 123, J 124, J 125, J 126, J 127, J 128, J 129, J 130, J 131, J 132, J 133, J 134, J 135, J 136, J 137, J 138, J 139, J 140, J 141, J 142, J 143, J 144, J 145, J 146, J 147, J 148, J 149, J 150, J 151, J 152, J 153, J 154, J 155, J 156, J 157, J 158, J 159, J 160, J 161, J 162, J 163, J 164, J 165, J 166, J 167] 23) (by kernel_rfl) ?_
          refine then_n ?_
          refine wp_seq ?_
          refine wp_region_lit ?_
          refine pv (po g22 1) ?_
          refine wl_gv rfl (gv_ldR (v := .int .i64 o.at_) rfl (by kernel_rfl) (by kernel_rfl) (((S60'.blk 2 rfl).cell 1).trans rfl) ?_)
          refine wl_gv rfl (gv_dec (p := (o.at_ : Int) ≥ 0) (by kernel_rfl) (fun hb62 => ?_) (fun hb62 => ?_))
          · skip
            refine pv tv ?_
            refine wl_when (by kernel_rfl) (gv_val (v := .pointer (some ⟨g22, 1, none⟩)) (w' := w59) (by kernel_rfl) ?_)
            refine wl_when (by kernel_rfl) (gv_ldR (v := .int .i64 o.at_) rfl (by kernel_rfl) (by kernel_rfl) (((S60'.blk 2 rfl).cell 1).trans rfl) ?_)
            refine wl_when (by kernel_rfl) (gv_val (v := .slice (some ⟨gn, 0, none⟩) m cn) (w' := w59) (by kernel_rfl) ?_)
            refine wl_when (by kernel_rfl) (gv_val (v := .int .i64 (m : Nat)) (w' := w59) (by kernel_rfl) ?_)
            refine wl_when (by kernel_rfl) (gv_dec (p := (o.at_ : Int) < (m : Nat)) (by kernel_rfl) (fun hb63 => ?_) (fun hb63 => ?_))
            · skip
              refine pv tv ?_
              refine pv tv ?_
              refine wl_end (fr [iv n, .slice A l.length ca, .slice A3 ops.length c3, ud, ud, ud, J 6, pq gd, tv, sl gi5 0 s.last.flatten.length s.last.flatten.length, sl gn 0 m cn, iv ((i : Nat) : Int), pq g22, J 13, J 14, .slice AP61 ((s1.readR o.at_).2.1.length) ((s1.readR o.at_).2.1.length), iv ((s1.readR o.at_).2.2), tv, J 18, ud, ud, ud, .tuple #[pq gd, tv], iv n, .slice A l.length ca, .tuple #[pq gd, tv], pq gd, tv, tv, fv, pq gd, fv, pq gd, sl gi5 0 s.last.flatten.length s.last.flatten.length, sl gi5 0 s.last.flatten.length s.last.flatten.length, sl gn11 0 E9.length cn12, sl gn11 0 E9.length cn12, iv (E9.length : Nat), pq gd, iv (s.last.length : Int), fv, fv, sl gn11 0 E9.length cn12, iv (E9.length : Nat), fv, fv, iv ((i : Nat) : Int), .slice A3 ops.length c3, iv (ops.length : Nat), tv, J 50, J 51, .slice A3 ops.length c3, iv ((i : Nat) : Int), .pointer (some (ad.add (i * 4))), .agg #[iv o.kind, iv o.at_, .slice o.A o.d.length o.cd, .slice o.A2 o.ps.length o.cp], pq g22, iv o.kind, J 58, J 59, J 60, fv, fv, J 63, J 64, J 65, J 66, J 67, J 68, J 69, J 70, J 71, J 72, J 73, J 74, J 75, J 76, J 77, J 78, J 79, J 80, J 81, J 82, J 83, J 84, J 85, J 86, J 87, J 88, J 89, J 90, J 91, J 92, J 93, J 94, J 95, J 96, J 97, J 98, J 99, J 100, tv, tv, .tuple #[.slice AP61 ((s1.readR o.at_).2.1.length) ((s1.readR o.at_).2.1.length), iv ((s1.readR o.at_).2.2)], pq gd, po g22 1, iv o.at_, .tuple #[.slice AP61 ((s1.readR o.at_).2.1.length) ((s1.readR o.at_).2.1.length), iv ((s1.readR o.at_).2.2)], .slice AP61 ((s1.readR o.at_).2.1.length) ((s1.readR o.at_).2.1.length), iv ((s1.readR o.at_).2.2), po g22 1, iv o.at_, tv, tv, po g22 1, iv o.at_, sl gn 0 m cn, iv (m : Nat), tv, tv, J 120, J 121, J 122, J 123, J 124, J 125, J 126, J 127, J 128, J 129, J 130, J 131, J 132, J 133, J 134, J 135, J 136, J 137, J 138, J 139, J 140, J 141, J 142, J 143, J 144, J 145, J 146, J 147, J 148, J 149, J 150, J 151, J 152, J 153, J 154, J 155, J 156, J 157, J 158, J 159, J 160, J 161, J 162, J 163, J 164, J 165, J 166, J 167] 23) (by kernel_rfl) ?_
              refine then_n ?_
              refine wp_seq ?_
              refine wp_region_lit ?_
              refine pv (iv ((s1.readR o.at_).2.2)) ?_
              refine wl_gv rfl (gv_eq (x := ((s1.readR o.at_).2.2)) (y := 0) (by kernel_rfl) (fun hb64 => ?_) (fun hb64 => ?_))
              · skip
                have hq := readR_ok hb64
                obtain ⟨x, hx⟩ : ∃ x, E[o.at_.toNat]? = some x := ⟨_, List.getElem?_eq_getElem (by omega)⟩
                have hxl := hN.eq _ _ hx
                have hxe : (s1.readR o.at_).2.1 = x.l := hq.2.2.2.trans hxl.symm
                refine pv tv ?_
                refine wl_when (by kernel_rfl) (gv_val (v := .bool true) (w' := w59) (by kernel_rfl) ?_)
                refine wl_when (by kernel_rfl) (gv_val (v := .bool false) (w' := w59) (by kernel_rfl) ?_)
                refine wl_when (by kernel_rfl) (gv_val (v := .bool false) (w' := w59) (by kernel_rfl) ?_)
                refine wl_when (by kernel_rfl) (gv_val (v := .slice AP61 ((s1.readR o.at_).2.1.length) ((s1.readR o.at_).2.1.length)) (w' := w59) (by kernel_rfl) ?_)
                refine wl_when (by kernel_rfl) (gv_val (v := .slice (some ⟨gn, 0, none⟩) m cn) (w' := w59) (by kernel_rfl) ?_)
                refine wl_when (by kernel_rfl) (gv_val (v := .pointer (some ⟨g22, 1, none⟩)) (w' := w59) (by kernel_rfl) ?_)
                refine wl_when (by kernel_rfl) (gv_ldR (v := .int .i64 o.at_) rfl (by kernel_rfl) (by kernel_rfl) (((S60'.blk 2 rfl).cell 1).trans rfl) ?_)
                refine wl_when (by kernel_rfl) (gv_ixE (e := 31) (sz := 1) (g := gn) (off := 0) (n := m) (c := cn) (i := o.at_) (k := .i64) (j := o.at_.toNat) (off' := o.at_.toNat) rfl (by kernel_rfl) (by kernel_rfl) (by kernel_rfl) (by kernel_rfl) (by omega) (by omega) (by omega) ?_)
                refine wl_when (by kernel_rfl) (gv_ldR (v := Hd.val x) rfl (by kernel_rfl) (by kernel_rfl) (((S60'.blk 3 rfl).cell o.at_.toNat).trans (hd_at hx)) ?_)
                refine wl_when (by kernel_rfl) (gv_call (args := #[.slice AP61 ((s1.readR o.at_).2.1.length) ((s1.readR o.at_).2.1.length), .slice x.A x.l.length x.c]) rfl Try.func28 (by kernel_rfl) rfl rfl (by kernel_rfl) ?_)
                have S65 : St none' w w59 [bytesA (.slice AP61 ((s1.readR o.at_).2.1.length) ((s1.readR o.at_).2.1.length)) (s1.readR o.at_).2.1, PDisk gd (s1.readR o.at_).1, row g22 #[.int .i64 o.kind, .int .i64 o.at_, .slice o.A o.d.length o.cd, .slice o.A2 o.ps.length o.cp] 49, row gn ((E.map Hd.val ++ jk).toArray) 31, row gi (bvs im) 5] := St.permT [bytesA (.slice AP61 ((s1.readR o.at_).2.1.length) ((s1.readR o.at_).2.1.length)) (s1.readR o.at_).2.1, PDisk gd (s1.readR o.at_).1, row g22 #[.int .i64 o.kind, .int .i64 o.at_, .slice o.A o.d.length o.cd, .slice o.A2 o.ps.length o.cp] 49, row gn ((E.map Hd.val ++ jk).toArray) 31, row gi (bvs im) 5] [0, 1, 2, 3, 4] (by decide) rfl S60'
                have hrl : x.l.length ≤ 9223372036854775807 := by rw [← hxe]; exact hrl0
                refine Calls.mono (same_b (decide_eq_true hxe) S65 (RoT.bytes 0 rfl rfl) (RoT.more (RoT.more (RoT.more (RoT.more (hN.ro x (List.mem_of_getElem? hx)))))) hrl0 hrl) ?_
                rintro _ w66 ⟨rfl, S67⟩
                refine ⟨_, rfl, ?_⟩
                refine wl_when (by kernel_rfl) (gv_val (v := .bool false) (w' := w66) (by kernel_rfl) ?_)
                refine wl_when (by kernel_rfl) (gv_val (v := .bool false) (w' := w66) (by kernel_rfl) ?_)
                refine pv fv ?_
                refine pv fv ?_
                refine wl_when (by kernel_rfl) (gv_val (v := .bool true) (w' := w66) (by kernel_rfl) ?_)
                refine wl_when (by kernel_rfl) (gv_val (v := .bool true) (w' := w66) (by kernel_rfl) ?_)
                refine wl_when (by kernel_rfl) (gv_val (v := .int .i64 ((s1.readR o.at_).2.2)) (w' := w66) (by kernel_rfl) ?_)
                refine wl_when (by kernel_rfl) (gv_ne (x := ((s1.readR o.at_).2.2)) (y := 0) (by kernel_rfl) (fun hb68 => ?_) (fun hb68 => ?_))
                · skip
                  exfalso; omega
                · skip
                  refine wl_when (by kernel_rfl) (gv_val (v := .bool false) (w' := w66) (by kernel_rfl) ?_)
                  refine wl_when (by kernel_rfl) (gv_val (v := .bool false) (w' := w66) (by kernel_rfl) ?_)
                  refine wl_not (by kernel_rfl) ?_
                  refine wl_not (by kernel_rfl) ?_
                  refine wl_when (by kernel_rfl) (gv_val (v := .bool false) (w' := w66) (by kernel_rfl) ?_)
                  refine pv fv ?_
                  refine wl_end (fr [iv n, .slice A l.length ca, .slice A3 ops.length c3, ud, ud, ud, J 6, pq gd, tv, sl gi5 0 s.last.flatten.length s.last.flatten.length, sl gn 0 m cn, iv ((i : Nat) : Int), pq g22, J 13, J 14, .slice AP61 ((s1.readR o.at_).2.1.length) ((s1.readR o.at_).2.1.length), iv ((s1.readR o.at_).2.2), tv, J 18, ud, ud, ud, .tuple #[pq gd, tv], iv n, .slice A l.length ca, .tuple #[pq gd, tv], pq gd, tv, tv, fv, pq gd, fv, pq gd, sl gi5 0 s.last.flatten.length s.last.flatten.length, sl gi5 0 s.last.flatten.length s.last.flatten.length, sl gn11 0 E9.length cn12, sl gn11 0 E9.length cn12, iv (E9.length : Nat), pq gd, iv (s.last.length : Int), fv, fv, sl gn11 0 E9.length cn12, iv (E9.length : Nat), fv, fv, iv ((i : Nat) : Int), .slice A3 ops.length c3, iv (ops.length : Nat), tv, J 50, J 51, .slice A3 ops.length c3, iv ((i : Nat) : Int), .pointer (some (ad.add (i * 4))), .agg #[iv o.kind, iv o.at_, .slice o.A o.d.length o.cd, .slice o.A2 o.ps.length o.cp], pq g22, iv o.kind, J 58, J 59, J 60, fv, fv, J 63, J 64, J 65, J 66, J 67, J 68, J 69, J 70, J 71, J 72, J 73, J 74, J 75, J 76, J 77, J 78, J 79, J 80, J 81, J 82, J 83, J 84, J 85, J 86, J 87, J 88, J 89, J 90, J 91, J 92, J 93, J 94, J 95, J 96, J 97, J 98, J 99, J 100, tv, tv, .tuple #[.slice AP61 ((s1.readR o.at_).2.1.length) ((s1.readR o.at_).2.1.length), iv ((s1.readR o.at_).2.2)], pq gd, po g22 1, iv o.at_, .tuple #[.slice AP61 ((s1.readR o.at_).2.1.length) ((s1.readR o.at_).2.1.length), iv ((s1.readR o.at_).2.2)], .slice AP61 ((s1.readR o.at_).2.1.length) ((s1.readR o.at_).2.1.length), iv ((s1.readR o.at_).2.2), po g22 1, iv o.at_, tv, tv, po g22 1, iv o.at_, sl gn 0 m cn, iv (m : Nat), tv, tv, iv ((s1.readR o.at_).2.2), tv, tv, tv, fv, fv, .slice AP61 ((s1.readR o.at_).2.1.length) ((s1.readR o.at_).2.1.length), sl gn 0 m cn, po g22 1, iv o.at_, po gn o.at_.toNat, .slice x.A x.l.length x.c, tv, fv, fv, fv, fv, tv, tv, iv ((s1.readR o.at_).2.2), fv, fv, fv, ud, ud, fv, fv, J 147, J 148, J 149, J 150, J 151, J 152, J 153, J 154, J 155, J 156, J 157, J 158, J 159, J 160, J 161, J 162, J 163, J 164, J 165, J 166, J 167] 23) (by kernel_rfl) ?_
                  refine then_n ?_
                  refine wp_cond_false (by kernel_rfl) ?_
                  refine wp_skip ?_
                  refine inb_n ?_
                  refine inb_n ?_
                  refine then_n ?_
                  refine wp_region_lit ?_
                  refine pv (iv ((i : Nat) : Int)) ?_
                  refine wl_gv rfl (gv_int (k := .i64) (z := IntKind.i64.wrap (((i : Nat) : Int) + 1)) (z' := ((i + 1 : Nat) : Int)) (by kernel_rfl) (wr_eq (by omega) (by omega) (by omega)) ?_)
                  refine pv (iv ((i + 1 : Nat) : Int)) ?_
                  have S69 : St none' w w66 [PDisk gd (s1.readR o.at_).1, row gn ((E.map Hd.val ++ jk).toArray) 31, row gi (bvs im) 5] := St.permT [bytesA (.slice AP61 ((s1.readR o.at_).2.1.length) ((s1.readR o.at_).2.1.length)) (s1.readR o.at_).2.1, PDisk gd (s1.readR o.at_).1, row g22 #[.int .i64 o.kind, .int .i64 o.at_, .slice o.A o.d.length o.cd, .slice o.A2 o.ps.length o.cp] 49, row gn ((E.map Hd.val ++ jk).toArray) 31, row gi (bvs im) 5] [1, 3, 4] (by decide) rfl S67
                  have hnf : NF w ((s1.readR o.at_).1) E gi im := hN.same (readR_same s1 o.at_).1 (readR_same s1 o.at_).2.1
                  have hpb : ((s1.readR o.at_).1).pend.length ≤ i + 1 := (by rw [(readR_same s1 o.at_).2.1]; omega)
                  refine wl_end (fr [iv n, .slice A l.length ca, .slice A3 ops.length c3, ud, ud, ud, J 6, pq gd, tv, sl gi5 0 s.last.flatten.length s.last.flatten.length, sl gn 0 m cn, iv ((i + 1 : Nat) : Int), pq g22, J 13, J 14, .slice AP61 ((s1.readR o.at_).2.1.length) ((s1.readR o.at_).2.1.length), iv ((s1.readR o.at_).2.2), tv, J 18, ud, ud, ud, .tuple #[pq gd, tv], iv n, .slice A l.length ca, .tuple #[pq gd, tv], pq gd, tv, tv, fv, pq gd, fv, pq gd, sl gi5 0 s.last.flatten.length s.last.flatten.length, sl gi5 0 s.last.flatten.length s.last.flatten.length, sl gn11 0 E9.length cn12, sl gn11 0 E9.length cn12, iv (E9.length : Nat), pq gd, iv (s.last.length : Int), fv, fv, sl gn11 0 E9.length cn12, iv (E9.length : Nat), fv, fv, iv ((i : Nat) : Int), .slice A3 ops.length c3, iv (ops.length : Nat), tv, iv ((i : Nat) : Int), iv ((i + 1 : Nat) : Int), .slice A3 ops.length c3, iv ((i : Nat) : Int), .pointer (some (ad.add (i * 4))), .agg #[iv o.kind, iv o.at_, .slice o.A o.d.length o.cd, .slice o.A2 o.ps.length o.cp], pq g22, iv o.kind, J 58, J 59, J 60, fv, fv, J 63, J 64, J 65, J 66, J 67, J 68, J 69, J 70, J 71, J 72, J 73, J 74, J 75, J 76, J 77, J 78, J 79, J 80, J 81, J 82, J 83, J 84, J 85, J 86, J 87, J 88, J 89, J 90, J 91, J 92, J 93, J 94, J 95, J 96, J 97, J 98, J 99, J 100, tv, tv, .tuple #[.slice AP61 ((s1.readR o.at_).2.1.length) ((s1.readR o.at_).2.1.length), iv ((s1.readR o.at_).2.2)], pq gd, po g22 1, iv o.at_, .tuple #[.slice AP61 ((s1.readR o.at_).2.1.length) ((s1.readR o.at_).2.1.length), iv ((s1.readR o.at_).2.2)], .slice AP61 ((s1.readR o.at_).2.1.length) ((s1.readR o.at_).2.1.length), iv ((s1.readR o.at_).2.2), po g22 1, iv o.at_, tv, tv, po g22 1, iv o.at_, sl gn 0 m cn, iv (m : Nat), tv, tv, iv ((s1.readR o.at_).2.2), tv, tv, tv, fv, fv, .slice AP61 ((s1.readR o.at_).2.1.length) ((s1.readR o.at_).2.1.length), sl gn 0 m cn, po g22 1, iv o.at_, po gn o.at_.toNat, .slice x.A x.l.length x.c, tv, fv, fv, fv, fv, tv, tv, iv ((s1.readR o.at_).2.2), fv, fv, fv, ud, ud, fv, fv, J 147, J 148, J 149, J 150, J 151, J 152, J 153, J 154, J 155, J 156, J 157, J 158, J 159, J 160, J 161, J 162, J 163, J 164, J 165, J 166, J 167] 23) (by kernel_rfl) ?_
                  refine then_n ?_
                  exact ⟨(i + 1, (s1.readR o.at_).1, E, gn, cn, jk, gi, im, m), ⟨(jl [ud, ud, ud, ud, ud, ud, J 6, ud, ud, ud, ud, ud, pq g22, J 13, J 14, .slice AP61 ((s1.readR o.at_).2.1.length) ((s1.readR o.at_).2.1.length), iv ((s1.readR o.at_).2.2), tv, J 18, ud, ud, ud, ud, ud, ud, ud, ud, ud, ud, ud, ud, ud, ud, ud, ud, ud, ud, ud, ud, ud, ud, ud, ud, ud, ud, ud, iv ((i : Nat) : Int), .slice A3 ops.length c3, iv (ops.length : Nat), tv, iv ((i : Nat) : Int), iv ((i + 1 : Nat) : Int), .slice A3 ops.length c3, iv ((i : Nat) : Int), .pointer (some (ad.add (i * 4))), .agg #[iv o.kind, iv o.at_, .slice o.A o.d.length o.cd, .slice o.A2 o.ps.length o.cp], pq g22, iv o.kind, J 58, J 59, J 60, fv, fv, J 63, J 64, J 65, J 66, J 67, J 68, J 69, J 70, J 71, J 72, J 73, J 74, J 75, J 76, J 77, J 78, J 79, J 80, J 81, J 82, J 83, J 84, J 85, J 86, J 87, J 88, J 89, J 90, J 91, J 92, J 93, J 94, J 95, J 96, J 97, J 98, J 99, J 100, tv, tv, .tuple #[.slice AP61 ((s1.readR o.at_).2.1.length) ((s1.readR o.at_).2.1.length), iv ((s1.readR o.at_).2.2)], pq gd, po g22 1, iv o.at_, .tuple #[.slice AP61 ((s1.readR o.at_).2.1.length) ((s1.readR o.at_).2.1.length), iv ((s1.readR o.at_).2.2)], .slice AP61 ((s1.readR o.at_).2.1.length) ((s1.readR o.at_).2.1.length), iv ((s1.readR o.at_).2.2), po g22 1, iv o.at_, tv, tv, po g22 1, iv o.at_, sl gn 0 m cn, iv (m : Nat), tv, tv, iv ((s1.readR o.at_).2.2), tv, tv, tv, fv, fv, .slice AP61 ((s1.readR o.at_).2.1.length) ((s1.readR o.at_).2.1.length), sl gn 0 m cn, po g22 1, iv o.at_, po gn o.at_.toNat, .slice x.A x.l.length x.c, tv, fv, fv, fv, fv, tv, tv, iv ((s1.readR o.at_).2.2), fv, fv, fv, ud, ud, fv, fv, J 147, J 148, J 149, J 150, J 151, J 152, J 153, J 154, J 155, J 156, J 157, J 158, J 159, J 160, J 161, J 162, J 163, J 164, J 165, J 166, J 167]), by kernel_rfl, S69, ⟨by omega, hpb, hnf, hcI, hmI⟩⟩, (by show ops.length - (i + 1) < ops.length - i; omega)⟩
              · skip
                have hq := readR_no (show _ ≠ (0 : Int) from hb64)
                refine pv fv ?_
                refine wl_not (by kernel_rfl) ?_
                refine wl_not (by kernel_rfl) ?_
                refine wl_not (by kernel_rfl) ?_
                refine wl_not (by kernel_rfl) ?_
                refine wl_not (by kernel_rfl) ?_
                refine wl_not (by kernel_rfl) ?_
                refine wl_not (by kernel_rfl) ?_
                refine wl_not (by kernel_rfl) ?_
                refine wl_not (by kernel_rfl) ?_
                refine wl_not (by kernel_rfl) ?_
                refine wl_not (by kernel_rfl) ?_
                refine wl_not (by kernel_rfl) ?_
                refine pv fv ?_
                refine pv fv ?_
                refine wl_when (by kernel_rfl) (gv_val (v := .bool true) (w' := w59) (by kernel_rfl) ?_)
                refine wl_when (by kernel_rfl) (gv_val (v := .bool true) (w' := w59) (by kernel_rfl) ?_)
                refine wl_when (by kernel_rfl) (gv_val (v := .int .i64 ((s1.readR o.at_).2.2)) (w' := w59) (by kernel_rfl) ?_)
                refine wl_when (by kernel_rfl) (gv_ne (x := ((s1.readR o.at_).2.2)) (y := 0) (by kernel_rfl) (fun hb70 => ?_) (fun hb70 => ?_))
                · skip
                  refine wl_when (by kernel_rfl) (gv_val (v := .bool true) (w' := w59) (by kernel_rfl) ?_)
                  refine wl_when (by kernel_rfl) (gv_val (v := .bool true) (w' := w59) (by kernel_rfl) ?_)
                  refine wl_when (by kernel_rfl) (gv_val (v := .int .i64 ((s1.readR o.at_).2.2)) (w' := w59) (by kernel_rfl) ?_)
                  refine wl_when (by kernel_rfl) (gv_ne (x := ((s1.readR o.at_).2.2)) (y := 3) (by kernel_rfl) (fun hd71 => False.elim (by have := hq.2.1 (by omega) (by omega); omega)) (fun _ => ?_))
                  refine wl_when (by kernel_rfl) (gv_val (v := .bool false) (w' := w59) (by kernel_rfl) ?_)
                  refine pv fv ?_
                  refine wl_end (fr [iv n, .slice A l.length ca, .slice A3 ops.length c3, ud, ud, ud, J 6, pq gd, tv, sl gi5 0 s.last.flatten.length s.last.flatten.length, sl gn 0 m cn, iv ((i : Nat) : Int), pq g22, J 13, J 14, .slice AP61 ((s1.readR o.at_).2.1.length) ((s1.readR o.at_).2.1.length), iv ((s1.readR o.at_).2.2), tv, J 18, ud, ud, ud, .tuple #[pq gd, tv], iv n, .slice A l.length ca, .tuple #[pq gd, tv], pq gd, tv, tv, fv, pq gd, fv, pq gd, sl gi5 0 s.last.flatten.length s.last.flatten.length, sl gi5 0 s.last.flatten.length s.last.flatten.length, sl gn11 0 E9.length cn12, sl gn11 0 E9.length cn12, iv (E9.length : Nat), pq gd, iv (s.last.length : Int), fv, fv, sl gn11 0 E9.length cn12, iv (E9.length : Nat), fv, fv, iv ((i : Nat) : Int), .slice A3 ops.length c3, iv (ops.length : Nat), tv, J 50, J 51, .slice A3 ops.length c3, iv ((i : Nat) : Int), .pointer (some (ad.add (i * 4))), .agg #[iv o.kind, iv o.at_, .slice o.A o.d.length o.cd, .slice o.A2 o.ps.length o.cp], pq g22, iv o.kind, J 58, J 59, J 60, fv, fv, J 63, J 64, J 65, J 66, J 67, J 68, J 69, J 70, J 71, J 72, J 73, J 74, J 75, J 76, J 77, J 78, J 79, J 80, J 81, J 82, J 83, J 84, J 85, J 86, J 87, J 88, J 89, J 90, J 91, J 92, J 93, J 94, J 95, J 96, J 97, J 98, J 99, J 100, tv, tv, .tuple #[.slice AP61 ((s1.readR o.at_).2.1.length) ((s1.readR o.at_).2.1.length), iv ((s1.readR o.at_).2.2)], pq gd, po g22 1, iv o.at_, .tuple #[.slice AP61 ((s1.readR o.at_).2.1.length) ((s1.readR o.at_).2.1.length), iv ((s1.readR o.at_).2.2)], .slice AP61 ((s1.readR o.at_).2.1.length) ((s1.readR o.at_).2.1.length), iv ((s1.readR o.at_).2.2), po g22 1, iv o.at_, tv, tv, po g22 1, iv o.at_, sl gn 0 m cn, iv (m : Nat), tv, tv, iv ((s1.readR o.at_).2.2), fv, fv, ud, ud, ud, ud, ud, ud, ud, ud, ud, ud, ud, ud, fv, fv, tv, tv, iv ((s1.readR o.at_).2.2), tv, tv, tv, iv ((s1.readR o.at_).2.2), fv, fv, fv, J 147, J 148, J 149, J 150, J 151, J 152, J 153, J 154, J 155, J 156, J 157, J 158, J 159, J 160, J 161, J 162, J 163, J 164, J 165, J 166, J 167] 23) (by kernel_rfl) ?_
                  refine then_n ?_
                  refine wp_cond_false (by kernel_rfl) ?_
                  refine wp_skip ?_
                  refine inb_n ?_
                  refine inb_n ?_
                  refine then_n ?_
                  refine wp_region_lit ?_
                  refine pv (iv ((i : Nat) : Int)) ?_
                  refine wl_gv rfl (gv_int (k := .i64) (z := IntKind.i64.wrap (((i : Nat) : Int) + 1)) (z' := ((i + 1 : Nat) : Int)) (by kernel_rfl) (wr_eq (by omega) (by omega) (by omega)) ?_)
                  refine pv (iv ((i + 1 : Nat) : Int)) ?_
                  have S72 : St none' w w59 [PDisk gd (s1.readR o.at_).1, row gn ((E.map Hd.val ++ jk).toArray) 31, row gi (bvs im) 5] := St.permT [bytesA (.slice AP61 ((s1.readR o.at_).2.1.length) ((s1.readR o.at_).2.1.length)) (s1.readR o.at_).2.1, PDisk gd (s1.readR o.at_).1, row g22 #[.int .i64 o.kind, .int .i64 o.at_, .slice o.A o.d.length o.cd, .slice o.A2 o.ps.length o.cp] 49, row gn ((E.map Hd.val ++ jk).toArray) 31, row gi (bvs im) 5] [1, 3, 4] (by decide) rfl S60'
                  have hnf : NF w ((s1.readR o.at_).1) E gi im := hN.same (readR_same s1 o.at_).1 (readR_same s1 o.at_).2.1
                  have hpb : ((s1.readR o.at_).1).pend.length ≤ i + 1 := (by rw [(readR_same s1 o.at_).2.1]; omega)
                  refine wl_end (fr [iv n, .slice A l.length ca, .slice A3 ops.length c3, ud, ud, ud, J 6, pq gd, tv, sl gi5 0 s.last.flatten.length s.last.flatten.length, sl gn 0 m cn, iv ((i + 1 : Nat) : Int), pq g22, J 13, J 14, .slice AP61 ((s1.readR o.at_).2.1.length) ((s1.readR o.at_).2.1.length), iv ((s1.readR o.at_).2.2), tv, J 18, ud, ud, ud, .tuple #[pq gd, tv], iv n, .slice A l.length ca, .tuple #[pq gd, tv], pq gd, tv, tv, fv, pq gd, fv, pq gd, sl gi5 0 s.last.flatten.length s.last.flatten.length, sl gi5 0 s.last.flatten.length s.last.flatten.length, sl gn11 0 E9.length cn12, sl gn11 0 E9.length cn12, iv (E9.length : Nat), pq gd, iv (s.last.length : Int), fv, fv, sl gn11 0 E9.length cn12, iv (E9.length : Nat), fv, fv, iv ((i : Nat) : Int), .slice A3 ops.length c3, iv (ops.length : Nat), tv, iv ((i : Nat) : Int), iv ((i + 1 : Nat) : Int), .slice A3 ops.length c3, iv ((i : Nat) : Int), .pointer (some (ad.add (i * 4))), .agg #[iv o.kind, iv o.at_, .slice o.A o.d.length o.cd, .slice o.A2 o.ps.length o.cp], pq g22, iv o.kind, J 58, J 59, J 60, fv, fv, J 63, J 64, J 65, J 66, J 67, J 68, J 69, J 70, J 71, J 72, J 73, J 74, J 75, J 76, J 77, J 78, J 79, J 80, J 81, J 82, J 83, J 84, J 85, J 86, J 87, J 88, J 89, J 90, J 91, J 92, J 93, J 94, J 95, J 96, J 97, J 98, J 99, J 100, tv, tv, .tuple #[.slice AP61 ((s1.readR o.at_).2.1.length) ((s1.readR o.at_).2.1.length), iv ((s1.readR o.at_).2.2)], pq gd, po g22 1, iv o.at_, .tuple #[.slice AP61 ((s1.readR o.at_).2.1.length) ((s1.readR o.at_).2.1.length), iv ((s1.readR o.at_).2.2)], .slice AP61 ((s1.readR o.at_).2.1.length) ((s1.readR o.at_).2.1.length), iv ((s1.readR o.at_).2.2), po g22 1, iv o.at_, tv, tv, po g22 1, iv o.at_, sl gn 0 m cn, iv (m : Nat), tv, tv, iv ((s1.readR o.at_).2.2), fv, fv, ud, ud, ud, ud, ud, ud, ud, ud, ud, ud, ud, ud, fv, fv, tv, tv, iv ((s1.readR o.at_).2.2), tv, tv, tv, iv ((s1.readR o.at_).2.2), fv, fv, fv, J 147, J 148, J 149, J 150, J 151, J 152, J 153, J 154, J 155, J 156, J 157, J 158, J 159, J 160, J 161, J 162, J 163, J 164, J 165, J 166, J 167] 23) (by kernel_rfl) ?_
                  refine then_n ?_
                  exact ⟨(i + 1, (s1.readR o.at_).1, E, gn, cn, jk, gi, im, m), ⟨(jl [ud, ud, ud, ud, ud, ud, J 6, ud, ud, ud, ud, ud, pq g22, J 13, J 14, .slice AP61 ((s1.readR o.at_).2.1.length) ((s1.readR o.at_).2.1.length), iv ((s1.readR o.at_).2.2), tv, J 18, ud, ud, ud, ud, ud, ud, ud, ud, ud, ud, ud, ud, ud, ud, ud, ud, ud, ud, ud, ud, ud, ud, ud, ud, ud, ud, ud, iv ((i : Nat) : Int), .slice A3 ops.length c3, iv (ops.length : Nat), tv, iv ((i : Nat) : Int), iv ((i + 1 : Nat) : Int), .slice A3 ops.length c3, iv ((i : Nat) : Int), .pointer (some (ad.add (i * 4))), .agg #[iv o.kind, iv o.at_, .slice o.A o.d.length o.cd, .slice o.A2 o.ps.length o.cp], pq g22, iv o.kind, J 58, J 59, J 60, fv, fv, J 63, J 64, J 65, J 66, J 67, J 68, J 69, J 70, J 71, J 72, J 73, J 74, J 75, J 76, J 77, J 78, J 79, J 80, J 81, J 82, J 83, J 84, J 85, J 86, J 87, J 88, J 89, J 90, J 91, J 92, J 93, J 94, J 95, J 96, J 97, J 98, J 99, J 100, tv, tv, .tuple #[.slice AP61 ((s1.readR o.at_).2.1.length) ((s1.readR o.at_).2.1.length), iv ((s1.readR o.at_).2.2)], pq gd, po g22 1, iv o.at_, .tuple #[.slice AP61 ((s1.readR o.at_).2.1.length) ((s1.readR o.at_).2.1.length), iv ((s1.readR o.at_).2.2)], .slice AP61 ((s1.readR o.at_).2.1.length) ((s1.readR o.at_).2.1.length), iv ((s1.readR o.at_).2.2), po g22 1, iv o.at_, tv, tv, po g22 1, iv o.at_, sl gn 0 m cn, iv (m : Nat), tv, tv, iv ((s1.readR o.at_).2.2), fv, fv, ud, ud, ud, ud, ud, ud, ud, ud, ud, ud, ud, ud, fv, fv, tv, tv, iv ((s1.readR o.at_).2.2), tv, tv, tv, iv ((s1.readR o.at_).2.2), fv, fv, fv, J 147, J 148, J 149, J 150, J 151, J 152, J 153, J 154, J 155, J 156, J 157, J 158, J 159, J 160, J 161, J 162, J 163, J 164, J 165, J 166, J 167]), by kernel_rfl, S72, ⟨by omega, hpb, hnf, hcI, hmI⟩⟩, (by show ops.length - (i + 1) < ops.length - i; omega)⟩
                · skip
                  exfalso; omega
            · skip
              refine pv fv ?_
              refine pv fv ?_
              refine wl_end (fr [iv n, .slice A l.length ca, .slice A3 ops.length c3, ud, ud, ud, J 6, pq gd, tv, sl gi5 0 s.last.flatten.length s.last.flatten.length, sl gn 0 m cn, iv ((i : Nat) : Int), pq g22, J 13, J 14, .slice AP61 ((s1.readR o.at_).2.1.length) ((s1.readR o.at_).2.1.length), iv ((s1.readR o.at_).2.2), fv, J 18, ud, ud, ud, .tuple #[pq gd, tv], iv n, .slice A l.length ca, .tuple #[pq gd, tv], pq gd, tv, tv, fv, pq gd, fv, pq gd, sl gi5 0 s.last.flatten.length s.last.flatten.length, sl gi5 0 s.last.flatten.length s.last.flatten.length, sl gn11 0 E9.length cn12, sl gn11 0 E9.length cn12, iv (E9.length : Nat), pq gd, iv (s.last.length : Int), fv, fv, sl gn11 0 E9.length cn12, iv (E9.length : Nat), fv, fv, iv ((i : Nat) : Int), .slice A3 ops.length c3, iv (ops.length : Nat), tv, J 50, J 51, .slice A3 ops.length c3, iv ((i : Nat) : Int), .pointer (some (ad.add (i * 4))), .agg #[iv o.kind, iv o.at_, .slice o.A o.d.length o.cd, .slice o.A2 o.ps.length o.cp], pq g22, iv o.kind, J 58, J 59, J 60, fv, fv, J 63, J 64, J 65, J 66, J 67, J 68, J 69, J 70, J 71, J 72, J 73, J 74, J 75, J 76, J 77, J 78, J 79, J 80, J 81, J 82, J 83, J 84, J 85, J 86, J 87, J 88, J 89, J 90, J 91, J 92, J 93, J 94, J 95, J 96, J 97, J 98, J 99, J 100, tv, tv, .tuple #[.slice AP61 ((s1.readR o.at_).2.1.length) ((s1.readR o.at_).2.1.length), iv ((s1.readR o.at_).2.2)], pq gd, po g22 1, iv o.at_, .tuple #[.slice AP61 ((s1.readR o.at_).2.1.length) ((s1.readR o.at_).2.1.length), iv ((s1.readR o.at_).2.2)], .slice AP61 ((s1.readR o.at_).2.1.length) ((s1.readR o.at_).2.1.length), iv ((s1.readR o.at_).2.2), po g22 1, iv o.at_, tv, tv, po g22 1, iv o.at_, sl gn 0 m cn, iv (m : Nat), fv, fv, J 120, J 121, J 122, J 123, J 124, J 125, J 126, J 127, J 128, J 129, J 130, J 131, J 132, J 133, J 134, J 135, J 136, J 137, J 138, J 139, J 140, J 141, J 142, J 143, J 144, J 145, J 146, J 147, J 148, J 149, J 150, J 151, J 152, J 153, J 154, J 155, J 156, J 157, J 158, J 159, J 160, J 161, J 162, J 163, J 164, J 165, J 166, J 167] 23) (by kernel_rfl) ?_
              refine then_n ?_
              refine wp_seq ?_
              refine wp_region_lit ?_
              refine pv (iv ((s1.readR o.at_).2.2)) ?_
              refine wl_gv rfl (gv_eq (x := ((s1.readR o.at_).2.2)) (y := 0) (by kernel_rfl) (fun hb73 => ?_) (fun hb73 => ?_))
              · skip
                have hq := readR_ok hb73
                exfalso; omega
              · skip
                have hq := readR_no (show _ ≠ (0 : Int) from hb73)
                refine pv fv ?_
                refine wl_not (by kernel_rfl) ?_
                refine wl_not (by kernel_rfl) ?_
                refine wl_not (by kernel_rfl) ?_
                refine wl_not (by kernel_rfl) ?_
                refine wl_not (by kernel_rfl) ?_
                refine wl_not (by kernel_rfl) ?_
                refine wl_not (by kernel_rfl) ?_
                refine wl_not (by kernel_rfl) ?_
                refine wl_not (by kernel_rfl) ?_
                refine wl_not (by kernel_rfl) ?_
                refine wl_not (by kernel_rfl) ?_
                refine wl_not (by kernel_rfl) ?_
                refine pv fv ?_
                refine pv fv ?_
                refine wl_when (by kernel_rfl) (gv_val (v := .bool false) (w' := w59) (by kernel_rfl) ?_)
                refine wl_when (by kernel_rfl) (gv_val (v := .bool false) (w' := w59) (by kernel_rfl) ?_)
                refine wl_not (by kernel_rfl) ?_
                refine wl_not (by kernel_rfl) ?_
                refine wl_when (by kernel_rfl) (gv_val (v := .bool false) (w' := w59) (by kernel_rfl) ?_)
                refine wl_when (by kernel_rfl) (gv_val (v := .bool false) (w' := w59) (by kernel_rfl) ?_)
                refine wl_not (by kernel_rfl) ?_
                refine wl_not (by kernel_rfl) ?_
                refine wl_when (by kernel_rfl) (gv_val (v := .bool false) (w' := w59) (by kernel_rfl) ?_)
                refine pv fv ?_
                refine wl_end (fr [iv n, .slice A l.length ca, .slice A3 ops.length c3, ud, ud, ud, J 6, pq gd, tv, sl gi5 0 s.last.flatten.length s.last.flatten.length, sl gn 0 m cn, iv ((i : Nat) : Int), pq g22, J 13, J 14, .slice AP61 ((s1.readR o.at_).2.1.length) ((s1.readR o.at_).2.1.length), iv ((s1.readR o.at_).2.2), fv, J 18, ud, ud, ud, .tuple #[pq gd, tv], iv n, .slice A l.length ca, .tuple #[pq gd, tv], pq gd, tv, tv, fv, pq gd, fv, pq gd, sl gi5 0 s.last.flatten.length s.last.flatten.length, sl gi5 0 s.last.flatten.length s.last.flatten.length, sl gn11 0 E9.length cn12, sl gn11 0 E9.length cn12, iv (E9.length : Nat), pq gd, iv (s.last.length : Int), fv, fv, sl gn11 0 E9.length cn12, iv (E9.length : Nat), fv, fv, iv ((i : Nat) : Int), .slice A3 ops.length c3, iv (ops.length : Nat), tv, J 50, J 51, .slice A3 ops.length c3, iv ((i : Nat) : Int), .pointer (some (ad.add (i * 4))), .agg #[iv o.kind, iv o.at_, .slice o.A o.d.length o.cd, .slice o.A2 o.ps.length o.cp], pq g22, iv o.kind, J 58, J 59, J 60, fv, fv, J 63, J 64, J 65, J 66, J 67, J 68, J 69, J 70, J 71, J 72, J 73, J 74, J 75, J 76, J 77, J 78, J 79, J 80, J 81, J 82, J 83, J 84, J 85, J 86, J 87, J 88, J 89, J 90, J 91, J 92, J 93, J 94, J 95, J 96, J 97, J 98, J 99, J 100, tv, tv, .tuple #[.slice AP61 ((s1.readR o.at_).2.1.length) ((s1.readR o.at_).2.1.length), iv ((s1.readR o.at_).2.2)], pq gd, po g22 1, iv o.at_, .tuple #[.slice AP61 ((s1.readR o.at_).2.1.length) ((s1.readR o.at_).2.1.length), iv ((s1.readR o.at_).2.2)], .slice AP61 ((s1.readR o.at_).2.1.length) ((s1.readR o.at_).2.1.length), iv ((s1.readR o.at_).2.2), po g22 1, iv o.at_, tv, tv, po g22 1, iv o.at_, sl gn 0 m cn, iv (m : Nat), fv, fv, iv ((s1.readR o.at_).2.2), fv, fv, ud, ud, ud, ud, ud, ud, ud, ud, ud, ud, ud, ud, fv, fv, fv, fv, ud, ud, fv, fv, ud, ud, fv, fv, J 147, J 148, J 149, J 150, J 151, J 152, J 153, J 154, J 155, J 156, J 157, J 158, J 159, J 160, J 161, J 162, J 163, J 164, J 165, J 166, J 167] 23) (by kernel_rfl) ?_
                refine then_n ?_
                refine wp_cond_false (by kernel_rfl) ?_
                refine wp_skip ?_
                refine inb_n ?_
                refine inb_n ?_
                refine then_n ?_
                refine wp_region_lit ?_
                refine pv (iv ((i : Nat) : Int)) ?_
                refine wl_gv rfl (gv_int (k := .i64) (z := IntKind.i64.wrap (((i : Nat) : Int) + 1)) (z' := ((i + 1 : Nat) : Int)) (by kernel_rfl) (wr_eq (by omega) (by omega) (by omega)) ?_)
                refine pv (iv ((i + 1 : Nat) : Int)) ?_
                have S74 : St none' w w59 [PDisk gd (s1.readR o.at_).1, row gn ((E.map Hd.val ++ jk).toArray) 31, row gi (bvs im) 5] := St.permT [bytesA (.slice AP61 ((s1.readR o.at_).2.1.length) ((s1.readR o.at_).2.1.length)) (s1.readR o.at_).2.1, PDisk gd (s1.readR o.at_).1, row g22 #[.int .i64 o.kind, .int .i64 o.at_, .slice o.A o.d.length o.cd, .slice o.A2 o.ps.length o.cp] 49, row gn ((E.map Hd.val ++ jk).toArray) 31, row gi (bvs im) 5] [1, 3, 4] (by decide) rfl S60'
                have hnf : NF w ((s1.readR o.at_).1) E gi im := hN.same (readR_same s1 o.at_).1 (readR_same s1 o.at_).2.1
                have hpb : ((s1.readR o.at_).1).pend.length ≤ i + 1 := (by rw [(readR_same s1 o.at_).2.1]; omega)
                refine wl_end (fr [iv n, .slice A l.length ca, .slice A3 ops.length c3, ud, ud, ud, J 6, pq gd, tv, sl gi5 0 s.last.flatten.length s.last.flatten.length, sl gn 0 m cn, iv ((i + 1 : Nat) : Int), pq g22, J 13, J 14, .slice AP61 ((s1.readR o.at_).2.1.length) ((s1.readR o.at_).2.1.length), iv ((s1.readR o.at_).2.2), fv, J 18, ud, ud, ud, .tuple #[pq gd, tv], iv n, .slice A l.length ca, .tuple #[pq gd, tv], pq gd, tv, tv, fv, pq gd, fv, pq gd, sl gi5 0 s.last.flatten.length s.last.flatten.length, sl gi5 0 s.last.flatten.length s.last.flatten.length, sl gn11 0 E9.length cn12, sl gn11 0 E9.length cn12, iv (E9.length : Nat), pq gd, iv (s.last.length : Int), fv, fv, sl gn11 0 E9.length cn12, iv (E9.length : Nat), fv, fv, iv ((i : Nat) : Int), .slice A3 ops.length c3, iv (ops.length : Nat), tv, iv ((i : Nat) : Int), iv ((i + 1 : Nat) : Int), .slice A3 ops.length c3, iv ((i : Nat) : Int), .pointer (some (ad.add (i * 4))), .agg #[iv o.kind, iv o.at_, .slice o.A o.d.length o.cd, .slice o.A2 o.ps.length o.cp], pq g22, iv o.kind, J 58, J 59, J 60, fv, fv, J 63, J 64, J 65, J 66, J 67, J 68, J 69, J 70, J 71, J 72, J 73, J 74, J 75, J 76, J 77, J 78, J 79, J 80, J 81, J 82, J 83, J 84, J 85, J 86, J 87, J 88, J 89, J 90, J 91, J 92, J 93, J 94, J 95, J 96, J 97, J 98, J 99, J 100, tv, tv, .tuple #[.slice AP61 ((s1.readR o.at_).2.1.length) ((s1.readR o.at_).2.1.length), iv ((s1.readR o.at_).2.2)], pq gd, po g22 1, iv o.at_, .tuple #[.slice AP61 ((s1.readR o.at_).2.1.length) ((s1.readR o.at_).2.1.length), iv ((s1.readR o.at_).2.2)], .slice AP61 ((s1.readR o.at_).2.1.length) ((s1.readR o.at_).2.1.length), iv ((s1.readR o.at_).2.2), po g22 1, iv o.at_, tv, tv, po g22 1, iv o.at_, sl gn 0 m cn, iv (m : Nat), fv, fv, iv ((s1.readR o.at_).2.2), fv, fv, ud, ud, ud, ud, ud, ud, ud, ud, ud, ud, ud, ud, fv, fv, fv, fv, ud, ud, fv, fv, ud, ud, fv, fv, J 147, J 148, J 149, J 150, J 151, J 152, J 153, J 154, J 155, J 156, J 157, J 158, J 159, J 160, J 161, J 162, J 163, J 164, J 165, J 166, J 167] 23) (by kernel_rfl) ?_
                refine then_n ?_
                exact ⟨(i + 1, (s1.readR o.at_).1, E, gn, cn, jk, gi, im, m), ⟨(jl [ud, ud, ud, ud, ud, ud, J 6, ud, ud, ud, ud, ud, pq g22, J 13, J 14, .slice AP61 ((s1.readR o.at_).2.1.length) ((s1.readR o.at_).2.1.length), iv ((s1.readR o.at_).2.2), fv, J 18, ud, ud, ud, ud, ud, ud, ud, ud, ud, ud, ud, ud, ud, ud, ud, ud, ud, ud, ud, ud, ud, ud, ud, ud, ud, ud, ud, iv ((i : Nat) : Int), .slice A3 ops.length c3, iv (ops.length : Nat), tv, iv ((i : Nat) : Int), iv ((i + 1 : Nat) : Int), .slice A3 ops.length c3, iv ((i : Nat) : Int), .pointer (some (ad.add (i * 4))), .agg #[iv o.kind, iv o.at_, .slice o.A o.d.length o.cd, .slice o.A2 o.ps.length o.cp], pq g22, iv o.kind, J 58, J 59, J 60, fv, fv, J 63, J 64, J 65, J 66, J 67, J 68, J 69, J 70, J 71, J 72, J 73, J 74, J 75, J 76, J 77, J 78, J 79, J 80, J 81, J 82, J 83, J 84, J 85, J 86, J 87, J 88, J 89, J 90, J 91, J 92, J 93, J 94, J 95, J 96, J 97, J 98, J 99, J 100, tv, tv, .tuple #[.slice AP61 ((s1.readR o.at_).2.1.length) ((s1.readR o.at_).2.1.length), iv ((s1.readR o.at_).2.2)], pq gd, po g22 1, iv o.at_, .tuple #[.slice AP61 ((s1.readR o.at_).2.1.length) ((s1.readR o.at_).2.1.length), iv ((s1.readR o.at_).2.2)], .slice AP61 ((s1.readR o.at_).2.1.length) ((s1.readR o.at_).2.1.length), iv ((s1.readR o.at_).2.2), po g22 1, iv o.at_, tv, tv, po g22 1, iv o.at_, sl gn 0 m cn, iv (m : Nat), fv, fv, iv ((s1.readR o.at_).2.2), fv, fv, ud, ud, ud, ud, ud, ud, ud, ud, ud, ud, ud, ud, fv, fv, fv, fv, ud, ud, fv, fv, ud, ud, fv, fv, J 147, J 148, J 149, J 150, J 151, J 152, J 153, J 154, J 155, J 156, J 157, J 158, J 159, J 160, J 161, J 162, J 163, J 164, J 165, J 166, J 167]), by kernel_rfl, S74, ⟨by omega, hpb, hnf, hcI, hmI⟩⟩, (by show ops.length - (i + 1) < ops.length - i; omega)⟩
          · skip
            refine pv fv ?_
            refine wl_not (by kernel_rfl) ?_
            refine wl_not (by kernel_rfl) ?_
            refine wl_not (by kernel_rfl) ?_
            refine wl_not (by kernel_rfl) ?_
            refine wl_not (by kernel_rfl) ?_
            refine pv fv ?_
            refine pv fv ?_
            refine wl_end (fr [iv n, .slice A l.length ca, .slice A3 ops.length c3, ud, ud, ud, J 6, pq gd, tv, sl gi5 0 s.last.flatten.length s.last.flatten.length, sl gn 0 m cn, iv ((i : Nat) : Int), pq g22, J 13, J 14, .slice AP61 ((s1.readR o.at_).2.1.length) ((s1.readR o.at_).2.1.length), iv ((s1.readR o.at_).2.2), fv, J 18, ud, ud, ud, .tuple #[pq gd, tv], iv n, .slice A l.length ca, .tuple #[pq gd, tv], pq gd, tv, tv, fv, pq gd, fv, pq gd, sl gi5 0 s.last.flatten.length s.last.flatten.length, sl gi5 0 s.last.flatten.length s.last.flatten.length, sl gn11 0 E9.length cn12, sl gn11 0 E9.length cn12, iv (E9.length : Nat), pq gd, iv (s.last.length : Int), fv, fv, sl gn11 0 E9.length cn12, iv (E9.length : Nat), fv, fv, iv ((i : Nat) : Int), .slice A3 ops.length c3, iv (ops.length : Nat), tv, J 50, J 51, .slice A3 ops.length c3, iv ((i : Nat) : Int), .pointer (some (ad.add (i * 4))), .agg #[iv o.kind, iv o.at_, .slice o.A o.d.length o.cd, .slice o.A2 o.ps.length o.cp], pq g22, iv o.kind, J 58, J 59, J 60, fv, fv, J 63, J 64, J 65, J 66, J 67, J 68, J 69, J 70, J 71, J 72, J 73, J 74, J 75, J 76, J 77, J 78, J 79, J 80, J 81, J 82, J 83, J 84, J 85, J 86, J 87, J 88, J 89, J 90, J 91, J 92, J 93, J 94, J 95, J 96, J 97, J 98, J 99, J 100, tv, tv, .tuple #[.slice AP61 ((s1.readR o.at_).2.1.length) ((s1.readR o.at_).2.1.length), iv ((s1.readR o.at_).2.2)], pq gd, po g22 1, iv o.at_, .tuple #[.slice AP61 ((s1.readR o.at_).2.1.length) ((s1.readR o.at_).2.1.length), iv ((s1.readR o.at_).2.2)], .slice AP61 ((s1.readR o.at_).2.1.length) ((s1.readR o.at_).2.1.length), iv ((s1.readR o.at_).2.2), po g22 1, iv o.at_, fv, fv, ud, ud, ud, ud, ud, fv, J 120, J 121, J 122, J 123, J 124, J 125, J 126, J 127, J 128, J 129, J 130, J 131, J 132, J 133, J 134, J 135, J 136, J 137, J 138, J 139, J 140, J 141, J 142, J 143, J 144, J 145, J 146, J 147, J 148, J 149, J 150, J 151, J 152, J 153, J 154, J 155, J 156, J 157, J 158, J 159, J 160, J 161, J 162, J 163, J 164, J 165, J 166, J 167] 23) (by kernel_rfl) ?_
            refine then_n ?_
            refine wp_seq ?_
            refine wp_region_lit ?_
            refine pv (iv ((s1.readR o.at_).2.2)) ?_
            refine wl_gv rfl (gv_eq (x := ((s1.readR o.at_).2.2)) (y := 0) (by kernel_rfl) (fun hb75 => ?_) (fun hb75 => ?_))
            · skip
              have hq := readR_ok hb75
              exfalso; omega
            · skip
              have hq := readR_no (show _ ≠ (0 : Int) from hb75)
              refine pv fv ?_
              refine wl_not (by kernel_rfl) ?_
              refine wl_not (by kernel_rfl) ?_
              refine wl_not (by kernel_rfl) ?_
              refine wl_not (by kernel_rfl) ?_
              refine wl_not (by kernel_rfl) ?_
              refine wl_not (by kernel_rfl) ?_
              refine wl_not (by kernel_rfl) ?_
              refine wl_not (by kernel_rfl) ?_
              refine wl_not (by kernel_rfl) ?_
              refine wl_not (by kernel_rfl) ?_
              refine wl_not (by kernel_rfl) ?_
              refine wl_not (by kernel_rfl) ?_
              refine pv fv ?_
              refine pv fv ?_
              refine wl_when (by kernel_rfl) (gv_val (v := .bool false) (w' := w59) (by kernel_rfl) ?_)
              refine wl_when (by kernel_rfl) (gv_val (v := .bool false) (w' := w59) (by kernel_rfl) ?_)
              refine wl_not (by kernel_rfl) ?_
              refine wl_not (by kernel_rfl) ?_
              refine wl_when (by kernel_rfl) (gv_val (v := .bool false) (w' := w59) (by kernel_rfl) ?_)
              refine wl_when (by kernel_rfl) (gv_val (v := .bool false) (w' := w59) (by kernel_rfl) ?_)
              refine wl_not (by kernel_rfl) ?_
              refine wl_not (by kernel_rfl) ?_
              refine wl_when (by kernel_rfl) (gv_val (v := .bool false) (w' := w59) (by kernel_rfl) ?_)
              refine pv fv ?_
              refine wl_end (fr [iv n, .slice A l.length ca, .slice A3 ops.length c3, ud, ud, ud, J 6, pq gd, tv, sl gi5 0 s.last.flatten.length s.last.flatten.length, sl gn 0 m cn, iv ((i : Nat) : Int), pq g22, J 13, J 14, .slice AP61 ((s1.readR o.at_).2.1.length) ((s1.readR o.at_).2.1.length), iv ((s1.readR o.at_).2.2), fv, J 18, ud, ud, ud, .tuple #[pq gd, tv], iv n, .slice A l.length ca, .tuple #[pq gd, tv], pq gd, tv, tv, fv, pq gd, fv, pq gd, sl gi5 0 s.last.flatten.length s.last.flatten.length, sl gi5 0 s.last.flatten.length s.last.flatten.length, sl gn11 0 E9.length cn12, sl gn11 0 E9.length cn12, iv (E9.length : Nat), pq gd, iv (s.last.length : Int), fv, fv, sl gn11 0 E9.length cn12, iv (E9.length : Nat), fv, fv, iv ((i : Nat) : Int), .slice A3 ops.length c3, iv (ops.length : Nat), tv, J 50, J 51, .slice A3 ops.length c3, iv ((i : Nat) : Int), .pointer (some (ad.add (i * 4))), .agg #[iv o.kind, iv o.at_, .slice o.A o.d.length o.cd, .slice o.A2 o.ps.length o.cp], pq g22, iv o.kind, J 58, J 59, J 60, fv, fv, J 63, J 64, J 65, J 66, J 67, J 68, J 69, J 70, J 71, J 72, J 73, J 74, J 75, J 76, J 77, J 78, J 79, J 80, J 81, J 82, J 83, J 84, J 85, J 86, J 87, J 88, J 89, J 90, J 91, J 92, J 93, J 94, J 95, J 96, J 97, J 98, J 99, J 100, tv, tv, .tuple #[.slice AP61 ((s1.readR o.at_).2.1.length) ((s1.readR o.at_).2.1.length), iv ((s1.readR o.at_).2.2)], pq gd, po g22 1, iv o.at_, .tuple #[.slice AP61 ((s1.readR o.at_).2.1.length) ((s1.readR o.at_).2.1.length), iv ((s1.readR o.at_).2.2)], .slice AP61 ((s1.readR o.at_).2.1.length) ((s1.readR o.at_).2.1.length), iv ((s1.readR o.at_).2.2), po g22 1, iv o.at_, fv, fv, ud, ud, ud, ud, ud, fv, iv ((s1.readR o.at_).2.2), fv, fv, ud, ud, ud, ud, ud, ud, ud, ud, ud, ud, ud, ud, fv, fv, fv, fv, ud, ud, fv, fv, ud, ud, fv, fv, J 147, J 148, J 149, J 150, J 151, J 152, J 153, J 154, J 155, J 156, J 157, J 158, J 159, J 160, J 161, J 162, J 163, J 164, J 165, J 166, J 167] 23) (by kernel_rfl) ?_
              refine then_n ?_
              refine wp_cond_false (by kernel_rfl) ?_
              refine wp_skip ?_
              refine inb_n ?_
              refine inb_n ?_
              refine then_n ?_
              refine wp_region_lit ?_
              refine pv (iv ((i : Nat) : Int)) ?_
              refine wl_gv rfl (gv_int (k := .i64) (z := IntKind.i64.wrap (((i : Nat) : Int) + 1)) (z' := ((i + 1 : Nat) : Int)) (by kernel_rfl) (wr_eq (by omega) (by omega) (by omega)) ?_)
              refine pv (iv ((i + 1 : Nat) : Int)) ?_
              have S76 : St none' w w59 [PDisk gd (s1.readR o.at_).1, row gn ((E.map Hd.val ++ jk).toArray) 31, row gi (bvs im) 5] := St.permT [bytesA (.slice AP61 ((s1.readR o.at_).2.1.length) ((s1.readR o.at_).2.1.length)) (s1.readR o.at_).2.1, PDisk gd (s1.readR o.at_).1, row g22 #[.int .i64 o.kind, .int .i64 o.at_, .slice o.A o.d.length o.cd, .slice o.A2 o.ps.length o.cp] 49, row gn ((E.map Hd.val ++ jk).toArray) 31, row gi (bvs im) 5] [1, 3, 4] (by decide) rfl S60'
              have hnf : NF w ((s1.readR o.at_).1) E gi im := hN.same (readR_same s1 o.at_).1 (readR_same s1 o.at_).2.1
              have hpb : ((s1.readR o.at_).1).pend.length ≤ i + 1 := (by rw [(readR_same s1 o.at_).2.1]; omega)
              refine wl_end (fr [iv n, .slice A l.length ca, .slice A3 ops.length c3, ud, ud, ud, J 6, pq gd, tv, sl gi5 0 s.last.flatten.length s.last.flatten.length, sl gn 0 m cn, iv ((i + 1 : Nat) : Int), pq g22, J 13, J 14, .slice AP61 ((s1.readR o.at_).2.1.length) ((s1.readR o.at_).2.1.length), iv ((s1.readR o.at_).2.2), fv, J 18, ud, ud, ud, .tuple #[pq gd, tv], iv n, .slice A l.length ca, .tuple #[pq gd, tv], pq gd, tv, tv, fv, pq gd, fv, pq gd, sl gi5 0 s.last.flatten.length s.last.flatten.length, sl gi5 0 s.last.flatten.length s.last.flatten.length, sl gn11 0 E9.length cn12, sl gn11 0 E9.length cn12, iv (E9.length : Nat), pq gd, iv (s.last.length : Int), fv, fv, sl gn11 0 E9.length cn12, iv (E9.length : Nat), fv, fv, iv ((i : Nat) : Int), .slice A3 ops.length c3, iv (ops.length : Nat), tv, iv ((i : Nat) : Int), iv ((i + 1 : Nat) : Int), .slice A3 ops.length c3, iv ((i : Nat) : Int), .pointer (some (ad.add (i * 4))), .agg #[iv o.kind, iv o.at_, .slice o.A o.d.length o.cd, .slice o.A2 o.ps.length o.cp], pq g22, iv o.kind, J 58, J 59, J 60, fv, fv, J 63, J 64, J 65, J 66, J 67, J 68, J 69, J 70, J 71, J 72, J 73, J 74, J 75, J 76, J 77, J 78, J 79, J 80, J 81, J 82, J 83, J 84, J 85, J 86, J 87, J 88, J 89, J 90, J 91, J 92, J 93, J 94, J 95, J 96, J 97, J 98, J 99, J 100, tv, tv, .tuple #[.slice AP61 ((s1.readR o.at_).2.1.length) ((s1.readR o.at_).2.1.length), iv ((s1.readR o.at_).2.2)], pq gd, po g22 1, iv o.at_, .tuple #[.slice AP61 ((s1.readR o.at_).2.1.length) ((s1.readR o.at_).2.1.length), iv ((s1.readR o.at_).2.2)], .slice AP61 ((s1.readR o.at_).2.1.length) ((s1.readR o.at_).2.1.length), iv ((s1.readR o.at_).2.2), po g22 1, iv o.at_, fv, fv, ud, ud, ud, ud, ud, fv, iv ((s1.readR o.at_).2.2), fv, fv, ud, ud, ud, ud, ud, ud, ud, ud, ud, ud, ud, ud, fv, fv, fv, fv, ud, ud, fv, fv, ud, ud, fv, fv, J 147, J 148, J 149, J 150, J 151, J 152, J 153, J 154, J 155, J 156, J 157, J 158, J 159, J 160, J 161, J 162, J 163, J 164, J 165, J 166, J 167] 23) (by kernel_rfl) ?_
              refine then_n ?_
              exact ⟨(i + 1, (s1.readR o.at_).1, E, gn, cn, jk, gi, im, m), ⟨(jl [ud, ud, ud, ud, ud, ud, J 6, ud, ud, ud, ud, ud, pq g22, J 13, J 14, .slice AP61 ((s1.readR o.at_).2.1.length) ((s1.readR o.at_).2.1.length), iv ((s1.readR o.at_).2.2), fv, J 18, ud, ud, ud, ud, ud, ud, ud, ud, ud, ud, ud, ud, ud, ud, ud, ud, ud, ud, ud, ud, ud, ud, ud, ud, ud, ud, ud, iv ((i : Nat) : Int), .slice A3 ops.length c3, iv (ops.length : Nat), tv, iv ((i : Nat) : Int), iv ((i + 1 : Nat) : Int), .slice A3 ops.length c3, iv ((i : Nat) : Int), .pointer (some (ad.add (i * 4))), .agg #[iv o.kind, iv o.at_, .slice o.A o.d.length o.cd, .slice o.A2 o.ps.length o.cp], pq g22, iv o.kind, J 58, J 59, J 60, fv, fv, J 63, J 64, J 65, J 66, J 67, J 68, J 69, J 70, J 71, J 72, J 73, J 74, J 75, J 76, J 77, J 78, J 79, J 80, J 81, J 82, J 83, J 84, J 85, J 86, J 87, J 88, J 89, J 90, J 91, J 92, J 93, J 94, J 95, J 96, J 97, J 98, J 99, J 100, tv, tv, .tuple #[.slice AP61 ((s1.readR o.at_).2.1.length) ((s1.readR o.at_).2.1.length), iv ((s1.readR o.at_).2.2)], pq gd, po g22 1, iv o.at_, .tuple #[.slice AP61 ((s1.readR o.at_).2.1.length) ((s1.readR o.at_).2.1.length), iv ((s1.readR o.at_).2.2)], .slice AP61 ((s1.readR o.at_).2.1.length) ((s1.readR o.at_).2.1.length), iv ((s1.readR o.at_).2.2), po g22 1, iv o.at_, fv, fv, ud, ud, ud, ud, ud, fv, iv ((s1.readR o.at_).2.2), fv, fv, ud, ud, ud, ud, ud, ud, ud, ud, ud, ud, ud, ud, fv, fv, fv, fv, ud, ud, fv, fv, ud, ud, fv, fv, J 147, J 148, J 149, J 150, J 151, J 152, J 153, J 154, J 155, J 156, J 157, J 158, J 159, J 160, J 161, J 162, J 163, J 164, J 165, J 166, J 167]), by kernel_rfl, S76, ⟨by omega, hpb, hnf, hcI, hmI⟩⟩, (by show ops.length - (i + 1) < ops.length - i; omega)⟩
        · skip
          refine pv fv ?_
          refine wl_end (fr [iv n, .slice A l.length ca, .slice A3 ops.length c3, ud, ud, ud, J 6, pq gd, tv, sl gi5 0 s.last.flatten.length s.last.flatten.length, sl gn 0 m cn, iv ((i : Nat) : Int), pq g22, J 13, J 14, J 15, J 16, J 17, J 18, ud, ud, ud, .tuple #[pq gd, tv], iv n, .slice A l.length ca, .tuple #[pq gd, tv], pq gd, tv, tv, fv, pq gd, fv, pq gd, sl gi5 0 s.last.flatten.length s.last.flatten.length, sl gi5 0 s.last.flatten.length s.last.flatten.length, sl gn11 0 E9.length cn12, sl gn11 0 E9.length cn12, iv (E9.length : Nat), pq gd, iv (s.last.length : Int), fv, fv, sl gn11 0 E9.length cn12, iv (E9.length : Nat), fv, fv, iv ((i : Nat) : Int), .slice A3 ops.length c3, iv (ops.length : Nat), tv, J 50, J 51, .slice A3 ops.length c3, iv ((i : Nat) : Int), .pointer (some (ad.add (i * 4))), .agg #[iv o.kind, iv o.at_, .slice o.A o.d.length o.cd, .slice o.A2 o.ps.length o.cp], pq g22, iv o.kind, J 58, J 59, J 60, fv, fv, J 63, J 64, J 65, J 66, J 67, J 68, J 69, J 70, J 71, J 72, J 73, J 74, J 75, J 76, J 77, J 78, J 79, J 80, J 81, J 82, J 83, J 84, J 85, J 86, J 87, J 88, J 89, J 90, J 91, J 92, J 93, J 94, J 95, J 96, J 97, J 98, J 99, J 100, fv, fv, J 103, J 104, J 105, J 106, J 107, J 108, J 109, J 110, J 111, J 112, J 113, J 114, J 115, J 116, J 117, J 118, J 119, J 120, J 121, J 122, J 123, J 124, J 125, J 126, J 127, J 128, J 129, J 130, J 131, J 132, J 133, J 134, J 135, J 136, J 137, J 138, J 139, J 140, J 141, J 142, J 143, J 144, J 145, J 146, J 147, J 148, J 149, J 150, J 151, J 152, J 153, J 154, J 155, J 156, J 157, J 158, J 159, J 160, J 161, J 162, J 163, J 164, J 165, J 166, J 167] 23) (by kernel_rfl) ?_
          refine then_n ?_
          refine wp_cond_false (by kernel_rfl) ?_
          refine wp_seq ?_
          refine wp_region_lit ?_
          refine wl_gv rfl (gv_eq (x := o.kind) (y := 6) (by kernel_rfl) (fun k6 => ?_) (fun k6 => ?_))
          · skip
            refine pv tv ?_
            refine wl_end (fr [iv n, .slice A l.length ca, .slice A3 ops.length c3, ud, ud, ud, J 6, pq gd, tv, sl gi5 0 s.last.flatten.length s.last.flatten.length, sl gn 0 m cn, iv ((i : Nat) : Int), pq g22, J 13, J 14, J 15, J 16, J 17, J 18, ud, ud, ud, .tuple #[pq gd, tv], iv n, .slice A l.length ca, .tuple #[pq gd, tv], pq gd, tv, tv, fv, pq gd, fv, pq gd, sl gi5 0 s.last.flatten.length s.last.flatten.length, sl gi5 0 s.last.flatten.length s.last.flatten.length, sl gn11 0 E9.length cn12, sl gn11 0 E9.length cn12, iv (E9.length : Nat), pq gd, iv (s.last.length : Int), fv, fv, sl gn11 0 E9.length cn12, iv (E9.length : Nat), fv, fv, iv ((i : Nat) : Int), .slice A3 ops.length c3, iv (ops.length : Nat), tv, J 50, J 51, .slice A3 ops.length c3, iv ((i : Nat) : Int), .pointer (some (ad.add (i * 4))), .agg #[iv o.kind, iv o.at_, .slice o.A o.d.length o.cd, .slice o.A2 o.ps.length o.cp], pq g22, iv o.kind, J 58, J 59, J 60, fv, fv, J 63, J 64, J 65, J 66, J 67, J 68, J 69, J 70, J 71, J 72, J 73, J 74, J 75, J 76, J 77, J 78, J 79, J 80, J 81, J 82, J 83, J 84, J 85, J 86, J 87, J 88, J 89, J 90, J 91, J 92, J 93, J 94, J 95, J 96, J 97, J 98, J 99, J 100, fv, fv, J 103, J 104, J 105, J 106, J 107, J 108, J 109, J 110, J 111, J 112, J 113, J 114, J 115, J 116, J 117, J 118, J 119, J 120, J 121, J 122, J 123, J 124, J 125, J 126, J 127, J 128, J 129, J 130, J 131, J 132, J 133, J 134, J 135, J 136, J 137, J 138, J 139, J 140, J 141, J 142, J 143, J 144, J 145, J 146, tv, tv, J 149, J 150, J 151, J 152, J 153, J 154, J 155, J 156, J 157, J 158, J 159, J 160, J 161, J 162, J 163, J 164, J 165, J 166, J 167] 23) (by kernel_rfl) ?_
            refine then_n ?_
            refine wp_cond_true (by kernel_rfl) ?_
            refine wp_seq ?_
            refine wp_region_lit ?_
            refine pv (pq gd) ?_
            refine pv (po g22 3) ?_
            refine wl_gv rfl (gv_ldR (v := .slice o.A2 o.ps.length o.cp) rfl (by kernel_rfl) (by kernel_rfl) (((S27.blk 0 rfl).cell 3).trans rfl) ?_)
            refine wl_gv rfl (gv_call (args := #[.slice o.A2 o.ps.length o.cp]) rfl Try.func37 (by kernel_rfl) rfl rfl (by kernel_rfl) ?_)
            refine Calls.mono (tpicks (ps := o.ps) S27 (RoV.of_rd hk.p _) hk.pm) ?_
            rintro _ w78 ⟨g77, rfl, S79⟩
            refine ⟨_, rfl, ?_⟩
            refine wl_gv rfl (gv_call (args := #[.pointer (some ⟨gd, 0, none⟩), .slice (some ⟨g77, 0, none⟩) o.ps.length o.ps.length]) rfl Try.func36 (by kernel_rfl) rfl rfl (by kernel_rfl) ?_)
            have S80 : St none' w w78 [PDisk gd s1, row g77 ((picksV o.ps).toArray) 66, row g22 #[.int .i64 o.kind, .int .i64 o.at_, .slice o.A o.d.length o.cd, .slice o.A2 o.ps.length o.cp] 49, row gn ((E.map Hd.val ++ jk).toArray) 31, row gi (bvs im) 5] := St.permT [row g77 ((picksV o.ps).toArray) 66, row g22 #[.int .i64 o.kind, .int .i64 o.at_, .slice o.A o.d.length o.cd, .slice o.A2 o.ps.length o.cp] 49, PDisk gd s1, row gn ((E.map Hd.val ++ jk).toArray) 31, row gi (bvs im) 5] [2, 0, 1, 3, 4] (by decide) rfl S79
            refine Calls.mono (pd_crash S80 (RoV.item 0 rfl) rfl (by have := hk.pm; omega)) ?_
            rintro _ w81 ⟨rfl, S82⟩
            refine ⟨_, rfl, ?_⟩
            refine wl_end (fr [iv n, .slice A l.length ca, .slice A3 ops.length c3, ud, ud, ud, J 6, pq gd, tv, sl gi5 0 s.last.flatten.length s.last.flatten.length, sl gn 0 m cn, iv ((i : Nat) : Int), pq g22, J 13, J 14, J 15, J 16, J 17, J 18, ud, ud, ud, .tuple #[pq gd, tv], iv n, .slice A l.length ca, .tuple #[pq gd, tv], pq gd, tv, tv, fv, pq gd, fv, pq gd, sl gi5 0 s.last.flatten.length s.last.flatten.length, sl gi5 0 s.last.flatten.length s.last.flatten.length, sl gn11 0 E9.length cn12, sl gn11 0 E9.length cn12, iv (E9.length : Nat), pq gd, iv (s.last.length : Int), fv, fv, sl gn11 0 E9.length cn12, iv (E9.length : Nat), fv, fv, iv ((i : Nat) : Int), .slice A3 ops.length c3, iv (ops.length : Nat), tv, J 50, J 51, .slice A3 ops.length c3, iv ((i : Nat) : Int), .pointer (some (ad.add (i * 4))), .agg #[iv o.kind, iv o.at_, .slice o.A o.d.length o.cd, .slice o.A2 o.ps.length o.cp], pq g22, iv o.kind, J 58, J 59, J 60, fv, fv, J 63, J 64, J 65, J 66, J 67, J 68, J 69, J 70, J 71, J 72, J 73, J 74, J 75, J 76, J 77, J 78, J 79, J 80, J 81, J 82, J 83, J 84, J 85, J 86, J 87, J 88, J 89, J 90, J 91, J 92, J 93, J 94, J 95, J 96, J 97, J 98, J 99, J 100, fv, fv, J 103, J 104, J 105, J 106, J 107, J 108, J 109, J 110, J 111, J 112, J 113, J 114, J 115, J 116, J 117, J 118, J 119, J 120, J 121, J 122, J 123, J 124, J 125, J 126, J 127, J 128, J 129, J 130, J 131, J 132, J 133, J 134, J 135, J 136, J 137, J 138, J 139, J 140, J 141, J 142, J 143, J 144, J 145, J 146, tv, tv, pq gd, po g22 3, .slice o.A2 o.ps.length o.cp, sl g77 0 o.ps.length o.ps.length, .tuple #[], J 154, J 155, J 156, J 157, J 158, J 159, J 160, J 161, J 162, J 163, J 164, J 165, J 166, J 167] 23) (by kernel_rfl) ?_
            refine then_n ?_
            refine wp_seq ?_
            refine wp_region_lit ?_
            refine pv (pq gd) ?_
            refine wl_gv rfl (gv_call (args := #[.pointer (some ⟨gd, 0, none⟩)]) rfl Try.func25 (by kernel_rfl) rfl rfl (by kernel_rfl) ?_)
            obtain ⟨h86a, h86b⟩ := St.pd_small S82
            obtain ⟨h86c, _⟩ := St.pd_n1 S82
            have h86d := flat_len h86a
            refine Calls.mono (pd_image S82) ?_
            rintro _ w83 ⟨v_, rfl, S84⟩
            obtain ⟨gi85, rfl, S84'⟩ := St.bytes_open S84 (by omega)
            refine ⟨_, rfl, ?_⟩
            refine pv (sl gi85 0 ((s1.crashR o.ps).last.flatten.length) ((s1.crashR o.ps).last.flatten.length)) ?_
            refine wl_end (fr [iv n, .slice A l.length ca, .slice A3 ops.length c3, ud, ud, ud, J 6, pq gd, tv, sl gi5 0 s.last.flatten.length s.last.flatten.length, sl gn 0 m cn, iv ((i : Nat) : Int), pq g22, J 13, J 14, J 15, J 16, J 17, sl gi85 0 ((s1.crashR o.ps).last.flatten.length) ((s1.crashR o.ps).last.flatten.length), ud, ud, ud, .tuple #[pq gd, tv], iv n, .slice A l.length ca, .tuple #[pq gd, tv], pq gd, tv, tv, fv, pq gd, fv, pq gd, sl gi5 0 s.last.flatten.length s.last.flatten.length, sl gi5 0 s.last.flatten.length s.last.flatten.length, sl gn11 0 E9.length cn12, sl gn11 0 E9.length cn12, iv (E9.length : Nat), pq gd, iv (s.last.length : Int), fv, fv, sl gn11 0 E9.length cn12, iv (E9.length : Nat), fv, fv, iv ((i : Nat) : Int), .slice A3 ops.length c3, iv (ops.length : Nat), tv, J 50, J 51, .slice A3 ops.length c3, iv ((i : Nat) : Int), .pointer (some (ad.add (i * 4))), .agg #[iv o.kind, iv o.at_, .slice o.A o.d.length o.cd, .slice o.A2 o.ps.length o.cp], pq g22, iv o.kind, J 58, J 59, J 60, fv, fv, J 63, J 64, J 65, J 66, J 67, J 68, J 69, J 70, J 71, J 72, J 73, J 74, J 75, J 76, J 77, J 78, J 79, J 80, J 81, J 82, J 83, J 84, J 85, J 86, J 87, J 88, J 89, J 90, J 91, J 92, J 93, J 94, J 95, J 96, J 97, J 98, J 99, J 100, fv, fv, J 103, J 104, J 105, J 106, J 107, J 108, J 109, J 110, J 111, J 112, J 113, J 114, J 115, J 116, J 117, J 118, J 119, J 120, J 121, J 122, J 123, J 124, J 125, J 126, J 127, J 128, J 129, J 130, J 131, J 132, J 133, J 134, J 135, J 136, J 137, J 138, J 139, J 140, J 141, J 142, J 143, J 144, J 145, J 146, tv, tv, pq gd, po g22 3, .slice o.A2 o.ps.length o.cp, sl g77 0 o.ps.length o.ps.length, .tuple #[], pq gd, sl gi85 0 ((s1.crashR o.ps).last.flatten.length) ((s1.crashR o.ps).last.flatten.length), J 156, J 157, J 158, J 159, J 160, J 161, J 162, J 163, J 164, J 165, J 166, J 167] 23) (by kernel_rfl) ?_
            refine then_n ?_
            refine wp_seq ?_
            refine wp_region_lit ?_
            refine pv (sl gi85 0 ((s1.crashR o.ps).last.flatten.length) ((s1.crashR o.ps).last.flatten.length)) ?_
            refine wl_gv rfl (gv_call (args := #[.slice (some ⟨gi85, 0, none⟩) ((s1.crashR o.ps).last.flatten.length) ((s1.crashR o.ps).last.flatten.length)]) rfl Try.func34 (by kernel_rfl) rfl rfl (by kernel_rfl) ?_)
            refine Calls.mono (cut_all (M := [row gi85 (bvs (s1.crashR o.ps).last.flatten) 5]) (l := (s1.crashR o.ps).last.flatten) (m := (s1.crashR o.ps).last.length) S84' (RoT.item 0 rfl 0 (s1.crashR o.ps).last.flatten.length _ (by rw [List.drop_zero, List.take_length])) h86d (by omega) (Nat.le_refl _)) ?_
            rintro _ w87 ⟨v_, E89, rfl, hE90a, hE90b, S88⟩
            have hE90c : E89.length = (s1.crashR o.ps).last.length := by have := congrArg List.length hE90a; rw [List.length_map, length_secs] at this; exact this
            obtain ⟨gn91, cn92, jk93, rfl, hc94, _, _, S88'⟩ := St.vec_open S88 (by omega)
            refine ⟨_, rfl, ?_⟩
            refine pv (sl gn91 0 E89.length cn92) ?_
            refine wl_end (fr [iv n, .slice A l.length ca, .slice A3 ops.length c3, ud, ud, ud, J 6, pq gd, tv, sl gi5 0 s.last.flatten.length s.last.flatten.length, sl gn91 0 E89.length cn92, iv ((i : Nat) : Int), pq g22, J 13, J 14, J 15, J 16, J 17, sl gi85 0 ((s1.crashR o.ps).last.flatten.length) ((s1.crashR o.ps).last.flatten.length), ud, ud, ud, .tuple #[pq gd, tv], iv n, .slice A l.length ca, .tuple #[pq gd, tv], pq gd, tv, tv, fv, pq gd, fv, pq gd, sl gi5 0 s.last.flatten.length s.last.flatten.length, sl gi5 0 s.last.flatten.length s.last.flatten.length, sl gn11 0 E9.length cn12, sl gn11 0 E9.length cn12, iv (E9.length : Nat), pq gd, iv (s.last.length : Int), fv, fv, sl gn11 0 E9.length cn12, iv (E9.length : Nat), fv, fv, iv ((i : Nat) : Int), .slice A3 ops.length c3, iv (ops.length : Nat), tv, J 50, J 51, .slice A3 ops.length c3, iv ((i : Nat) : Int), .pointer (some (ad.add (i * 4))), .agg #[iv o.kind, iv o.at_, .slice o.A o.d.length o.cd, .slice o.A2 o.ps.length o.cp], pq g22, iv o.kind, J 58, J 59, J 60, fv, fv, J 63, J 64, J 65, J 66, J 67, J 68, J 69, J 70, J 71, J 72, J 73, J 74, J 75, J 76, J 77, J 78, J 79, J 80, J 81, J 82, J 83, J 84, J 85, J 86, J 87, J 88, J 89, J 90, J 91, J 92, J 93, J 94, J 95, J 96, J 97, J 98, J 99, J 100, fv, fv, J 103, J 104, J 105, J 106, J 107, J 108, J 109, J 110, J 111, J 112, J 113, J 114, J 115, J 116, J 117, J 118, J 119, J 120, J 121, J 122, J 123, J 124, J 125, J 126, J 127, J 128, J 129, J 130, J 131, J 132, J 133, J 134, J 135, J 136, J 137, J 138, J 139, J 140, J 141, J 142, J 143, J 144, J 145, J 146, tv, tv, pq gd, po g22 3, .slice o.A2 o.ps.length o.cp, sl g77 0 o.ps.length o.ps.length, .tuple #[], pq gd, sl gi85 0 ((s1.crashR o.ps).last.flatten.length) ((s1.crashR o.ps).last.flatten.length), sl gi85 0 ((s1.crashR o.ps).last.flatten.length) ((s1.crashR o.ps).last.flatten.length), sl gn91 0 E89.length cn92, J 158, J 159, J 160, J 161, J 162, J 163, J 164, J 165, J 166, J 167] 23) (by kernel_rfl) ?_
            refine then_n ?_
            refine wp_seq ?_
            refine wp_region_lit ?_
            refine pv (sl gn91 0 E89.length cn92) ?_
            refine pv (iv (E89.length : Nat)) ?_
            refine pv (pq gd) ?_
            refine wl_gv rfl (gv_call (args := #[.pointer (some ⟨gd, 0, none⟩)]) rfl Try.func21 (by kernel_rfl) rfl rfl (by kernel_rfl) ?_)
            refine Calls.mono (pd_sectors S88' 2 rfl) ?_
            rintro _ _ ⟨rfl, rfl⟩
            refine ⟨_, rfl, ?_⟩
            refine wl_gv rfl (gv_ne (x := (E89.length : Nat)) (y := ((s1.crashR o.ps).last.length : Int)) (by kernel_rfl) (fun hd95 => False.elim (by omega)) (fun _ => ?_))
            refine pv fv ?_
            refine wl_when (by kernel_rfl) (gv_val (v := .slice (some ⟨gn91, 0, none⟩) E89.length cn92) (w' := w87) (by kernel_rfl) ?_)
            refine wl_when (by kernel_rfl) (gv_val (v := .int .i64 (E89.length : Nat)) (w' := w87) (by kernel_rfl) ?_)
            refine wl_when (by kernel_rfl) (gv_dec (p := ((E89.length : Nat) : Int) < 1) (by kernel_rfl) (fun hd96 => False.elim (by omega)) (fun _ => ?_))
            refine pv fv ?_
            refine wl_end (fr [iv n, .slice A l.length ca, .slice A3 ops.length c3, ud, ud, ud, J 6, pq gd, tv, sl gi5 0 s.last.flatten.length s.last.flatten.length, sl gn91 0 E89.length cn92, iv ((i : Nat) : Int), pq g22, J 13, J 14, J 15, J 16, J 17, sl gi85 0 ((s1.crashR o.ps).last.flatten.length) ((s1.crashR o.ps).last.flatten.length), ud, ud, ud, .tuple #[pq gd, tv], iv n, .slice A l.length ca, .tuple #[pq gd, tv], pq gd, tv, tv, fv, pq gd, fv, pq gd, sl gi5 0 s.last.flatten.length s.last.flatten.length, sl gi5 0 s.last.flatten.length s.last.flatten.length, sl gn11 0 E9.length cn12, sl gn11 0 E9.length cn12, iv (E9.length : Nat), pq gd, iv (s.last.length : Int), fv, fv, sl gn11 0 E9.length cn12, iv (E9.length : Nat), fv, fv, iv ((i : Nat) : Int), .slice A3 ops.length c3, iv (ops.length : Nat), tv, J 50, J 51, .slice A3 ops.length c3, iv ((i : Nat) : Int), .pointer (some (ad.add (i * 4))), .agg #[iv o.kind, iv o.at_, .slice o.A o.d.length o.cd, .slice o.A2 o.ps.length o.cp], pq g22, iv o.kind, J 58, J 59, J 60, fv, fv, J 63, J 64, J 65, J 66, J 67, J 68, J 69, J 70, J 71, J 72, J 73, J 74, J 75, J 76, J 77, J 78, J 79, J 80, J 81, J 82, J 83, J 84, J 85, J 86, J 87, J 88, J 89, J 90, J 91, J 92, J 93, J 94, J 95, J 96, J 97, J 98, J 99, J 100, fv, fv, J 103, J 104, J 105, J 106, J 107, J 108, J 109, J 110, J 111, J 112, J 113, J 114, J 115, J 116, J 117, J 118, J 119, J 120, J 121, J 122, J 123, J 124, J 125, J 126, J 127, J 128, J 129, J 130, J 131, J 132, J 133, J 134, J 135, J 136, J 137, J 138, J 139, J 140, J 141, J 142, J 143, J 144, J 145, J 146, tv, tv, pq gd, po g22 3, .slice o.A2 o.ps.length o.cp, sl g77 0 o.ps.length o.ps.length, .tuple #[], pq gd, sl gi85 0 ((s1.crashR o.ps).last.flatten.length) ((s1.crashR o.ps).last.flatten.length), sl gi85 0 ((s1.crashR o.ps).last.flatten.length) ((s1.crashR o.ps).last.flatten.length), sl gn91 0 E89.length cn92, sl gn91 0 E89.length cn92, iv (E89.length : Nat), pq gd, iv ((s1.crashR o.ps).last.length : Int), fv, fv, sl gn91 0 E89.length cn92, iv (E89.length : Nat), fv, fv] 23) (by kernel_rfl) ?_
            refine then_n ?_
            refine wp_cond_false (by kernel_rfl) ?_
            refine wp_skip ?_
            refine inb_n ?_
            refine inb_n ?_
            refine then_n ?_
            refine wp_region_lit ?_
            refine pv (iv ((i : Nat) : Int)) ?_
            refine wl_gv rfl (gv_int (k := .i64) (z := IntKind.i64.wrap (((i : Nat) : Int) + 1)) (z' := ((i + 1 : Nat) : Int)) (by kernel_rfl) (wr_eq (by omega) (by omega) (by omega)) ?_)
            refine pv (iv ((i + 1 : Nat) : Int)) ?_
            have S97 : St none' w w87 [PDisk gd (s1.crashR o.ps), row gn91 ((E89.map Hd.val ++ jk93).toArray) 31, row gi85 (bvs (s1.crashR o.ps).last.flatten) 5] := St.permT [row gn91 ((E89.map Hd.val ++ jk93).toArray) 31, row gi85 (bvs (s1.crashR o.ps).last.flatten) 5, PDisk gd (s1.crashR o.ps), row g77 ((picksV o.ps).toArray) 66, row g22 #[.int .i64 o.kind, .int .i64 o.at_, .slice o.A o.d.length o.cd, .slice o.A2 o.ps.length o.cp] 49, row gn ((E.map Hd.val ++ jk).toArray) 31, row gi (bvs im) 5] [2, 0, 1] (by decide) rfl S88'
            have hnf : NF w (s1.crashR o.ps) E89 gi85 ((s1.crashR o.ps).last.flatten) := NF.of_cut hE90a h86a rfl hE90b h86c h86b
            have hpb : (s1.crashR o.ps).pend.length ≤ i + 1 := (Nat.zero_le _)
            refine wl_end (fr [iv n, .slice A l.length ca, .slice A3 ops.length c3, ud, ud, ud, J 6, pq gd, tv, sl gi5 0 s.last.flatten.length s.last.flatten.length, sl gn91 0 E89.length cn92, iv ((i + 1 : Nat) : Int), pq g22, J 13, J 14, J 15, J 16, J 17, sl gi85 0 ((s1.crashR o.ps).last.flatten.length) ((s1.crashR o.ps).last.flatten.length), ud, ud, ud, .tuple #[pq gd, tv], iv n, .slice A l.length ca, .tuple #[pq gd, tv], pq gd, tv, tv, fv, pq gd, fv, pq gd, sl gi5 0 s.last.flatten.length s.last.flatten.length, sl gi5 0 s.last.flatten.length s.last.flatten.length, sl gn11 0 E9.length cn12, sl gn11 0 E9.length cn12, iv (E9.length : Nat), pq gd, iv (s.last.length : Int), fv, fv, sl gn11 0 E9.length cn12, iv (E9.length : Nat), fv, fv, iv ((i : Nat) : Int), .slice A3 ops.length c3, iv (ops.length : Nat), tv, iv ((i : Nat) : Int), iv ((i + 1 : Nat) : Int), .slice A3 ops.length c3, iv ((i : Nat) : Int), .pointer (some (ad.add (i * 4))), .agg #[iv o.kind, iv o.at_, .slice o.A o.d.length o.cd, .slice o.A2 o.ps.length o.cp], pq g22, iv o.kind, J 58, J 59, J 60, fv, fv, J 63, J 64, J 65, J 66, J 67, J 68, J 69, J 70, J 71, J 72, J 73, J 74, J 75, J 76, J 77, J 78, J 79, J 80, J 81, J 82, J 83, J 84, J 85, J 86, J 87, J 88, J 89, J 90, J 91, J 92, J 93, J 94, J 95, J 96, J 97, J 98, J 99, J 100, fv, fv, J 103, J 104, J 105, J 106, J 107, J 108, J 109, J 110, J 111, J 112, J 113, J 114, J 115, J 116, J 117, J 118, J 119, J 120, J 121, J 122, J 123, J 124, J 125, J 126, J 127, J 128, J 129, J 130, J 131, J 132, J 133, J 134, J 135, J 136, J 137, J 138, J 139, J 140, J 141, J 142, J 143, J 144, J 145, J 146, tv, tv, pq gd, po g22 3, .slice o.A2 o.ps.length o.cp, sl g77 0 o.ps.length o.ps.length, .tuple #[], pq gd, sl gi85 0 ((s1.crashR o.ps).last.flatten.length) ((s1.crashR o.ps).last.flatten.length), sl gi85 0 ((s1.crashR o.ps).last.flatten.length) ((s1.crashR o.ps).last.flatten.length), sl gn91 0 E89.length cn92, sl gn91 0 E89.length cn92, iv (E89.length : Nat), pq gd, iv ((s1.crashR o.ps).last.length : Int), fv, fv, sl gn91 0 E89.length cn92, iv (E89.length : Nat), fv, fv] 23) (by kernel_rfl) ?_
            refine then_n ?_
            exact ⟨(i + 1, (s1.crashR o.ps), E89, gn91, cn92, jk93, gi85, (s1.crashR o.ps).last.flatten, E89.length), ⟨(jl [ud, ud, ud, ud, ud, ud, J 6, ud, ud, ud, ud, ud, pq g22, J 13, J 14, J 15, J 16, J 17, sl gi85 0 ((s1.crashR o.ps).last.flatten.length) ((s1.crashR o.ps).last.flatten.length), ud, ud, ud, ud, ud, ud, ud, ud, ud, ud, ud, ud, ud, ud, ud, ud, ud, ud, ud, ud, ud, ud, ud, ud, ud, ud, ud, iv ((i : Nat) : Int), .slice A3 ops.length c3, iv (ops.length : Nat), tv, iv ((i : Nat) : Int), iv ((i + 1 : Nat) : Int), .slice A3 ops.length c3, iv ((i : Nat) : Int), .pointer (some (ad.add (i * 4))), .agg #[iv o.kind, iv o.at_, .slice o.A o.d.length o.cd, .slice o.A2 o.ps.length o.cp], pq g22, iv o.kind, J 58, J 59, J 60, fv, fv, J 63, J 64, J 65, J 66, J 67, J 68, J 69, J 70, J 71, J 72, J 73, J 74, J 75, J 76, J 77, J 78, J 79, J 80, J 81, J 82, J 83, J 84, J 85, J 86, J 87, J 88, J 89, J 90, J 91, J 92, J 93, J 94, J 95, J 96, J 97, J 98, J 99, J 100, fv, fv, J 103, J 104, J 105, J 106, J 107, J 108, J 109, J 110, J 111, J 112, J 113, J 114, J 115, J 116, J 117, J 118, J 119, J 120, J 121, J 122, J 123, J 124, J 125, J 126, J 127, J 128, J 129, J 130, J 131, J 132, J 133, J 134, J 135, J 136, J 137, J 138, J 139, J 140, J 141, J 142, J 143, J 144, J 145, J 146, tv, tv, pq gd, po g22 3, .slice o.A2 o.ps.length o.cp, sl g77 0 o.ps.length o.ps.length, .tuple #[], pq gd, sl gi85 0 ((s1.crashR o.ps).last.flatten.length) ((s1.crashR o.ps).last.flatten.length), sl gi85 0 ((s1.crashR o.ps).last.flatten.length) ((s1.crashR o.ps).last.flatten.length), sl gn91 0 E89.length cn92, sl gn91 0 E89.length cn92, iv (E89.length : Nat), pq gd, iv ((s1.crashR o.ps).last.length : Int), fv, fv, sl gn91 0 E89.length cn92, iv (E89.length : Nat), fv, fv]), by kernel_rfl, S97, ⟨by omega, hpb, hnf, hc94, rfl⟩⟩, (by show ops.length - (i + 1) < ops.length - i; omega)⟩
          · skip
            refine pv fv ?_
            refine wl_end (fr [iv n, .slice A l.length ca, .slice A3 ops.length c3, ud, ud, ud, J 6, pq gd, tv, sl gi5 0 s.last.flatten.length s.last.flatten.length, sl gn 0 m cn, iv ((i : Nat) : Int), pq g22, J 13, J 14, J 15, J 16, J 17, J 18, ud, ud, ud, .tuple #[pq gd, tv], iv n, .slice A l.length ca, .tuple #[pq gd, tv], pq gd, tv, tv, fv, pq gd, fv, pq gd, sl gi5 0 s.last.flatten.length s.last.flatten.length, sl gi5 0 s.last.flatten.length s.last.flatten.length, sl gn11 0 E9.length cn12, sl gn11 0 E9.length cn12, iv (E9.length : Nat), pq gd, iv (s.last.length : Int), fv, fv, sl gn11 0 E9.length cn12, iv (E9.length : Nat), fv, fv, iv ((i : Nat) : Int), .slice A3 ops.length c3, iv (ops.length : Nat), tv, J 50, J 51, .slice A3 ops.length c3, iv ((i : Nat) : Int), .pointer (some (ad.add (i * 4))), .agg #[iv o.kind, iv o.at_, .slice o.A o.d.length o.cd, .slice o.A2 o.ps.length o.cp], pq g22, iv o.kind, J 58, J 59, J 60, fv, fv, J 63, J 64, J 65, J 66, J 67, J 68, J 69, J 70, J 71, J 72, J 73, J 74, J 75, J 76, J 77, J 78, J 79, J 80, J 81, J 82, J 83, J 84, J 85, J 86, J 87, J 88, J 89, J 90, J 91, J 92, J 93, J 94, J 95, J 96, J 97, J 98, J 99, J 100, fv, fv, J 103, J 104, J 105, J 106, J 107, J 108, J 109, J 110, J 111, J 112, J 113, J 114, J 115, J 116, J 117, J 118, J 119, J 120, J 121, J 122, J 123, J 124, J 125, J 126, J 127, J 128, J 129, J 130, J 131, J 132, J 133, J 134, J 135, J 136, J 137, J 138, J 139, J 140, J 141, J 142, J 143, J 144, J 145, J 146, fv, fv, J 149, J 150, J 151, J 152, J 153, J 154, J 155, J 156, J 157, J 158, J 159, J 160, J 161, J 162, J 163, J 164, J 165, J 166, J 167] 23) (by kernel_rfl) ?_
            refine then_n ?_
            refine wp_cond_false (by kernel_rfl) ?_
            refine wp_region_lit ?_
            refine pv (pq gd) ?_
            refine wl_gv rfl (gv_ldA (k := 0) (n := 4) (vs := [.int .i64 o.kind, .int .i64 o.at_, .slice o.A o.d.length o.cd, .slice o.A2 o.ps.length o.cp]) S27 0 rfl rfl (by kernel_rfl) (by kernel_rfl) rfl rfl ?_)
            refine wl_gv rfl (gv_call (args := #[.pointer (some ⟨gd, 0, none⟩), .agg #[.int .i64 o.kind, .int .i64 o.at_, .slice o.A o.d.length o.cd, .slice o.A2 o.ps.length o.cp]]) rfl Try.func38 (by kernel_rfl) rfl rfl (by kernel_rfl) ?_)
            have S98 : St none' w w26 [PDisk gd s1, row g22 #[.int .i64 o.kind, .int .i64 o.at_, .slice o.A o.d.length o.cd, .slice o.A2 o.ps.length o.cp] 49, row gn ((E.map Hd.val ++ jk).toArray) 31, row gi (bvs im) 5] := St.permT [row g22 #[.int .i64 o.kind, .int .i64 o.at_, .slice o.A o.d.length o.cd, .slice o.A2 o.ps.length o.cp] 49, PDisk gd s1, row gn ((E.map Hd.val ++ jk).toArray) 31, row gi (bvs im) 5] [1, 0, 2, 3] (by decide) rfl S27
            refine Calls.mono (act_all S98 (Ro.of_C hk.d (fun _ h => h)).T (RoV.of_rd hk.p _) hk.hat hk.dm hk.pm (by have := hpI; omega)) ?_
            rintro _ w99 ⟨rfl, S100⟩
            refine ⟨_, rfl, ?_⟩
            refine wl_end (fr [iv n, .slice A l.length ca, .slice A3 ops.length c3, ud, ud, ud, J 6, pq gd, tv, sl gi5 0 s.last.flatten.length s.last.flatten.length, sl gn 0 m cn, iv ((i : Nat) : Int), pq g22, J 13, J 14, J 15, J 16, J 17, J 18, ud, ud, ud, .tuple #[pq gd, tv], iv n, .slice A l.length ca, .tuple #[pq gd, tv], pq gd, tv, tv, fv, pq gd, fv, pq gd, sl gi5 0 s.last.flatten.length s.last.flatten.length, sl gi5 0 s.last.flatten.length s.last.flatten.length, sl gn11 0 E9.length cn12, sl gn11 0 E9.length cn12, iv (E9.length : Nat), pq gd, iv (s.last.length : Int), fv, fv, sl gn11 0 E9.length cn12, iv (E9.length : Nat), fv, fv, iv ((i : Nat) : Int), .slice A3 ops.length c3, iv (ops.length : Nat), tv, J 50, J 51, .slice A3 ops.length c3, iv ((i : Nat) : Int), .pointer (some (ad.add (i * 4))), .agg #[iv o.kind, iv o.at_, .slice o.A o.d.length o.cd, .slice o.A2 o.ps.length o.cp], pq g22, iv o.kind, pq gd, .agg #[iv o.kind, iv o.at_, .slice o.A o.d.length o.cd, .slice o.A2 o.ps.length o.cp], .tuple #[], fv, fv, J 63, J 64, J 65, J 66, J 67, J 68, J 69, J 70, J 71, J 72, J 73, J 74, J 75, J 76, J 77, J 78, J 79, J 80, J 81, J 82, J 83, J 84, J 85, J 86, J 87, J 88, J 89, J 90, J 91, J 92, J 93, J 94, J 95, J 96, J 97, J 98, J 99, J 100, fv, fv, J 103, J 104, J 105, J 106, J 107, J 108, J 109, J 110, J 111, J 112, J 113, J 114, J 115, J 116, J 117, J 118, J 119, J 120, J 121, J 122, J 123, J 124, J 125, J 126, J 127, J 128, J 129, J 130, J 131, J 132, J 133, J 134, J 135, J 136, J 137, J 138, J 139, J 140, J 141, J 142, J 143, J 144, J 145, J 146, fv, fv, J 149, J 150, J 151, J 152, J 153, J 154, J 155, J 156, J 157, J 158, J 159, J 160, J 161, J 162, J 163, J 164, J 165, J 166, J 167] 23) (by kernel_rfl) ?_
            refine inb_n ?_
            refine inb_n ?_
            refine then_n ?_
            refine wp_region_lit ?_
            refine pv (iv ((i : Nat) : Int)) ?_
            refine wl_gv rfl (gv_int (k := .i64) (z := IntKind.i64.wrap (((i : Nat) : Int) + 1)) (z' := ((i + 1 : Nat) : Int)) (by kernel_rfl) (wr_eq (by omega) (by omega) (by omega)) ?_)
            refine pv (iv ((i + 1 : Nat) : Int)) ?_
            have S101 : St none' w w99 [PDisk gd (s1.actR o.kind o.at_ o.d o.ps), row gn ((E.map Hd.val ++ jk).toArray) 31, row gi (bvs im) 5] := St.permT [PDisk gd (s1.actR o.kind o.at_ o.d o.ps), row g22 #[.int .i64 o.kind, .int .i64 o.at_, .slice o.A o.d.length o.cd, .slice o.A2 o.ps.length o.cp] 49, row gn ((E.map Hd.val ++ jk).toArray) 31, row gi (bvs im) 5] [0, 2, 3] (by decide) rfl S100
            have hnf : NF w (s1.actR o.kind o.at_ o.d o.ps) E gi im := hN.keep (act_now k2 k6).1 (act_now k2 k6).2
            have hpb : (s1.actR o.kind o.at_ o.d o.ps).pend.length ≤ i + 1 := (by have := actR_pend s1 o.kind o.at_ o.d o.ps; exact Nat.le_trans this (by omega))
            refine wl_end (fr [iv n, .slice A l.length ca, .slice A3 ops.length c3, ud, ud, ud, J 6, pq gd, tv, sl gi5 0 s.last.flatten.length s.last.flatten.length, sl gn 0 m cn, iv ((i + 1 : Nat) : Int), pq g22, J 13, J 14, J 15, J 16, J 17, J 18, ud, ud, ud, .tuple #[pq gd, tv], iv n, .slice A l.length ca, .tuple #[pq gd, tv], pq gd, tv, tv, fv, pq gd, fv, pq gd, sl gi5 0 s.last.flatten.length s.last.flatten.length, sl gi5 0 s.last.flatten.length s.last.flatten.length, sl gn11 0 E9.length cn12, sl gn11 0 E9.length cn12, iv (E9.length : Nat), pq gd, iv (s.last.length : Int), fv, fv, sl gn11 0 E9.length cn12, iv (E9.length : Nat), fv, fv, iv ((i : Nat) : Int), .slice A3 ops.length c3, iv (ops.length : Nat), tv, iv ((i : Nat) : Int), iv ((i + 1 : Nat) : Int), .slice A3 ops.length c3, iv ((i : Nat) : Int), .pointer (some (ad.add (i * 4))), .agg #[iv o.kind, iv o.at_, .slice o.A o.d.length o.cd, .slice o.A2 o.ps.length o.cp], pq g22, iv o.kind, pq gd, .agg #[iv o.kind, iv o.at_, .slice o.A o.d.length o.cd, .slice o.A2 o.ps.length o.cp], .tuple #[], fv, fv, J 63, J 64, J 65, J 66, J 67, J 68, J 69, J 70, J 71, J 72, J 73, J 74, J 75, J 76, J 77, J 78, J 79, J 80, J 81, J 82, J 83, J 84, J 85, J 86, J 87, J 88, J 89, J 90, J 91, J 92, J 93, J 94, J 95, J 96, J 97, J 98, J 99, J 100, fv, fv, J 103, J 104, J 105, J 106, J 107, J 108, J 109, J 110, J 111, J 112, J 113, J 114, J 115, J 116, J 117, J 118, J 119, J 120, J 121, J 122, J 123, J 124, J 125, J 126, J 127, J 128, J 129, J 130, J 131, J 132, J 133, J 134, J 135, J 136, J 137, J 138, J 139, J 140, J 141, J 142, J 143, J 144, J 145, J 146, fv, fv, J 149, J 150, J 151, J 152, J 153, J 154, J 155, J 156, J 157, J 158, J 159, J 160, J 161, J 162, J 163, J 164, J 165, J 166, J 167] 23) (by kernel_rfl) ?_
            refine then_n ?_
            exact ⟨(i + 1, (s1.actR o.kind o.at_ o.d o.ps), E, gn, cn, jk, gi, im, m), ⟨(jl [ud, ud, ud, ud, ud, ud, J 6, ud, ud, ud, ud, ud, pq g22, J 13, J 14, J 15, J 16, J 17, J 18, ud, ud, ud, ud, ud, ud, ud, ud, ud, ud, ud, ud, ud, ud, ud, ud, ud, ud, ud, ud, ud, ud, ud, ud, ud, ud, ud, iv ((i : Nat) : Int), .slice A3 ops.length c3, iv (ops.length : Nat), tv, iv ((i : Nat) : Int), iv ((i + 1 : Nat) : Int), .slice A3 ops.length c3, iv ((i : Nat) : Int), .pointer (some (ad.add (i * 4))), .agg #[iv o.kind, iv o.at_, .slice o.A o.d.length o.cd, .slice o.A2 o.ps.length o.cp], pq g22, iv o.kind, pq gd, .agg #[iv o.kind, iv o.at_, .slice o.A o.d.length o.cd, .slice o.A2 o.ps.length o.cp], .tuple #[], fv, fv, J 63, J 64, J 65, J 66, J 67, J 68, J 69, J 70, J 71, J 72, J 73, J 74, J 75, J 76, J 77, J 78, J 79, J 80, J 81, J 82, J 83, J 84, J 85, J 86, J 87, J 88, J 89, J 90, J 91, J 92, J 93, J 94, J 95, J 96, J 97, J 98, J 99, J 100, fv, fv, J 103, J 104, J 105, J 106, J 107, J 108, J 109, J 110, J 111, J 112, J 113, J 114, J 115, J 116, J 117, J 118, J 119, J 120, J 121, J 122, J 123, J 124, J 125, J 126, J 127, J 128, J 129, J 130, J 131, J 132, J 133, J 134, J 135, J 136, J 137, J 138, J 139, J 140, J 141, J 142, J 143, J 144, J 145, J 146, fv, fv, J 149, J 150, J 151, J 152, J 153, J 154, J 155, J 156, J 157, J 158, J 159, J 160, J 161, J 162, J 163, J 164, J 165, J 166, J 167]), by kernel_rfl, S101, ⟨by omega, hpb, hnf, hcI, hmI⟩⟩, (by show ops.length - (i + 1) < ops.length - i; omega)⟩
    · skip
      refine wl_end (fr [iv n, .slice A l.length ca, .slice A3 ops.length c3, ud, ud, ud, J 6, pq gd, tv, sl gi5 0 s.last.flatten.length s.last.flatten.length, sl gn 0 m cn, iv ((i : Nat) : Int), J 12, J 13, J 14, J 15, J 16, J 17, J 18, ud, ud, ud, .tuple #[pq gd, tv], iv n, .slice A l.length ca, .tuple #[pq gd, tv], pq gd, tv, tv, fv, pq gd, fv, pq gd, sl gi5 0 s.last.flatten.length s.last.flatten.length, sl gi5 0 s.last.flatten.length s.last.flatten.length, sl gn11 0 E9.length cn12, sl gn11 0 E9.length cn12, iv (E9.length : Nat), pq gd, iv (s.last.length : Int), fv, fv, sl gn11 0 E9.length cn12, iv (E9.length : Nat), fv, fv, iv ((i : Nat) : Int), .slice A3 ops.length c3, iv (ops.length : Nat), fv, J 50, J 51, J 52, J 53, J 54, J 55, J 56, J 57, J 58, J 59, J 60, J 61, J 62, J 63, J 64, J 65, J 66, J 67, J 68, J 69, J 70, J 71, J 72, J 73, J 74, J 75, J 76, J 77, J 78, J 79, J 80, J 81, J 82, J 83, J 84, J 85, J 86, J 87, J 88, J 89, J 90, J 91, J 92, J 93, J 94, J 95, J 96, J 97, J 98, J 99, J 100, J 101, J 102, J 103, J 104, J 105, J 106, J 107, J 108, J 109, J 110, J 111, J 112, J 113, J 114, J 115, J 116, J 117, J 118, J 119, J 120, J 121, J 122, J 123, J 124, J 125, J 126, J 127, J 128, J 129, J 130, J 131, J 132, J 133, J 134, J 135, J 136, J 137, J 138, J 139, J 140, J 141, J 142, J 143, J 144, J 145, J 146, J 147, J 148, J 149, J 150, J 151, J 152, J 153, J 154, J 155, J 156, J 157, J 158, J 159, J 160, J 161, J 162, J 163, J 164, J 165, J 166, J 167] 23) (by kernel_rfl) ?_
      refine then_n ?_
      refine wp_cond_false (by kernel_rfl) ?_
      refine wp_exit ?_
      refine then_x ?_
      refine then_x ?_
      refine inb_x ?_
      refine then_n ?_
      refine wp_seq ?_
      refine wp_region_lit ?_
      refine pv (pq gd) ?_
      refine wl_gv rfl (gv_call (args := #[.pointer (some ⟨gd, 0, none⟩), .slice none 0 0]) rfl Try.func36 (by kernel_rfl) rfl rfl (by kernel_rfl) ?_)
      have S102 : St none' w w18 [PDisk gd s1] := St.permT [PDisk gd s1, row gn ((E.map Hd.val ++ jk).toArray) 31, row gi (bvs im) 5] [0] (by decide) rfl S19
      have hN1 := hI20.2.2.1.n1
      obtain ⟨e1, e2, e3⟩ := end_ok (s := s1) (d := sectorB [7]) [] (sectorB_len _) hN1
      refine Calls.mono (pd_crash (ps := []) S102 RoV.nil rfl (by decide)) ?_
      rintro _ w103 ⟨rfl, S104⟩
      refine ⟨_, rfl, ?_⟩
      refine wl_end (fr [iv n, .slice A l.length ca, .slice A3 ops.length c3, ud, ud, ud, J 6, pq gd, tv, sl gi5 0 s.last.flatten.length s.last.flatten.length, sl gn 0 m cn, iv ((i : Nat) : Int), J 12, J 13, J 14, J 15, J 16, J 17, J 18, ud, ud, ud, .tuple #[pq gd, tv], iv n, .slice A l.length ca, .tuple #[pq gd, tv], pq gd, tv, tv, fv, pq gd, fv, pq gd, sl gi5 0 s.last.flatten.length s.last.flatten.length, sl gi5 0 s.last.flatten.length s.last.flatten.length, sl gn11 0 E9.length cn12, sl gn11 0 E9.length cn12, iv (E9.length : Nat), pq gd, iv (s.last.length : Int), fv, fv, sl gn11 0 E9.length cn12, iv (E9.length : Nat), fv, fv, iv ((i : Nat) : Int), .slice A3 ops.length c3, iv (ops.length : Nat), fv, J 50, J 51, J 52, J 53, J 54, J 55, J 56, J 57, J 58, J 59, J 60, J 61, J 62, J 63, J 64, J 65, J 66, J 67, J 68, J 69, J 70, J 71, J 72, J 73, J 74, J 75, J 76, J 77, J 78, J 79, J 80, J 81, J 82, J 83, J 84, J 85, J 86, J 87, J 88, J 89, J 90, J 91, J 92, J 93, J 94, J 95, J 96, J 97, J 98, J 99, J 100, J 101, J 102, J 103, J 104, J 105, J 106, J 107, J 108, J 109, J 110, J 111, J 112, J 113, J 114, J 115, J 116, J 117, J 118, J 119, J 120, J 121, J 122, J 123, J 124, J 125, J 126, J 127, J 128, J 129, J 130, J 131, J 132, J 133, J 134, J 135, J 136, J 137, J 138, J 139, J 140, J 141, J 142, J 143, J 144, J 145, J 146, J 147, J 148, J 149, J 150, J 151, J 152, J 153, J 154, J 155, J 156, J 157, J 158, J 159, J 160, J 161, J 162, J 163, J 164, J 165, J 166, J 167, pq gd, .tuple #[]] 21) (by kernel_rfl) ?_
      refine then_n ?_
      refine wp_seq ?_
      refine wp_region_lit ?_
      refine pv (pq gd) ?_
      refine wl_gv rfl (gv_slit (e := 5) (sz := 1) (z := .int .u8 0) (by_ := 1) (vs := #[(0, .int .u8 7)]) (cells := #[.int .u8 7]) S104 rfl (by kernel_rfl) ⟨by kernel_rfl⟩ (by kernel_rfl) (by kernel_rfl) (by kernel_rfl) (by kernel_rfl) (fun g105 w106 hg107 S108 => ?_))
      refine wl_gv rfl (gv_call (args := #[.slice (some ⟨g105, 0, none⟩) 1 1]) rfl Try.func39 (by kernel_rfl) rfl rfl (by kernel_rfl) ?_)
      refine Calls.mono (sector_all (l := [7]) S108 (RoT.item (B := [7]) 0 rfl 0 1 _ rfl)) ?_
      rintro _ w110 ⟨g109, rfl, S111⟩
      refine ⟨_, rfl, ?_⟩
      refine wl_gv rfl (gv_call (args := #[.pointer (some ⟨gd, 0, none⟩), .int .i64 0, .slice (some ⟨g109, 0, none⟩) 512 512]) rfl Try.func35 (by kernel_rfl) rfl rfl (by kernel_rfl) ?_)
      have S112 : St none' w w110 [PDisk gd (s1.crashR []), row g109 (bvs (sectorB [7])) 5, row g105 #[.int .u8 7] 5] := St.permT [row g109 (bvs (sectorB [7])) 5, row g105 #[.int .u8 7] 5, PDisk gd (s1.crashR [])] [2, 0, 1] (by decide) rfl S111
      refine Calls.mono (pd_write (at_ := 0) (d := sectorB [7]) S112 (RoT.item 0 rfl 0 512 (sectorB [7]) (by rw [List.drop_zero, List.take_of_length_le (Nat.le_of_eq (sectorB_len _))])) (by rw [sectorB_len]; decide) (by show 0 < _; decide)) ?_
      rintro _ w113 ⟨rfl, S114⟩
      refine ⟨_, rfl, ?_⟩
      refine pv (iv (((s1.crashR []).writeR 0 (sectorB [7])).2)) ?_
      refine wl_end (fr [iv n, .slice A l.length ca, .slice A3 ops.length c3, ud, ud, ud, J 6, pq gd, tv, sl gi5 0 s.last.flatten.length s.last.flatten.length, sl gn 0 m cn, iv ((i : Nat) : Int), J 12, J 13, J 14, J 15, J 16, J 17, J 18, iv (((s1.crashR []).writeR 0 (sectorB [7])).2), ud, ud, .tuple #[pq gd, tv], iv n, .slice A l.length ca, .tuple #[pq gd, tv], pq gd, tv, tv, fv, pq gd, fv, pq gd, sl gi5 0 s.last.flatten.length s.last.flatten.length, sl gi5 0 s.last.flatten.length s.last.flatten.length, sl gn11 0 E9.length cn12, sl gn11 0 E9.length cn12, iv (E9.length : Nat), pq gd, iv (s.last.length : Int), fv, fv, sl gn11 0 E9.length cn12, iv (E9.length : Nat), fv, fv, iv ((i : Nat) : Int), .slice A3 ops.length c3, iv (ops.length : Nat), fv, J 50, J 51, J 52, J 53, J 54, J 55, J 56, J 57, J 58, J 59, J 60, J 61, J 62, J 63, J 64, J 65, J 66, J 67, J 68, J 69, J 70, J 71, J 72, J 73, J 74, J 75, J 76, J 77, J 78, J 79, J 80, J 81, J 82, J 83, J 84, J 85, J 86, J 87, J 88, J 89, J 90, J 91, J 92, J 93, J 94, J 95, J 96, J 97, J 98, J 99, J 100, J 101, J 102, J 103, J 104, J 105, J 106, J 107, J 108, J 109, J 110, J 111, J 112, J 113, J 114, J 115, J 116, J 117, J 118, J 119, J 120, J 121, J 122, J 123, J 124, J 125, J 126, J 127, J 128, J 129, J 130, J 131, J 132, J 133, J 134, J 135, J 136, J 137, J 138, J 139, J 140, J 141, J 142, J 143, J 144, J 145, J 146, J 147, J 148, J 149, J 150, J 151, J 152, J 153, J 154, J 155, J 156, J 157, J 158, J 159, J 160, J 161, J 162, J 163, J 164, J 165, J 166, J 167, pq gd, .tuple #[], pq gd, sl g105 0 1 1, sl g109 0 512 512, iv (((s1.crashR []).writeR 0 (sectorB [7])).2)] 17) (by kernel_rfl) ?_
      refine then_n ?_
      refine wp_seq ?_
      refine wp_region_lit ?_
      refine pv (pq gd) ?_
      refine wl_gv rfl (gv_call (args := #[.pointer (some ⟨gd, 0, none⟩), .int .i64 0]) rfl Try.func29 (by kernel_rfl) rfl rfl (by kernel_rfl) ?_)
      refine Calls.mono (pd_read S114) ?_
      rintro _ w115 ⟨v_, rfl, S116⟩
      obtain ⟨AP117, rfl, S116'⟩ := St.bytes_eq S116
      refine ⟨_, rfl, ?_⟩
      refine pv (.tuple #[.slice AP117 ((((s1.crashR []).writeR 0 (sectorB [7])).1.readR 0).2.1.length) ((((s1.crashR []).writeR 0 (sectorB [7])).1.readR 0).2.1.length), iv ((((s1.crashR []).writeR 0 (sectorB [7])).1.readR 0).2.2)]) ?_
      refine pv (.slice AP117 ((((s1.crashR []).writeR 0 (sectorB [7])).1.readR 0).2.1.length) ((((s1.crashR []).writeR 0 (sectorB [7])).1.readR 0).2.1.length)) ?_
      refine pv (iv ((((s1.crashR []).writeR 0 (sectorB [7])).1.readR 0).2.2)) ?_
      refine pv (.slice AP117 ((((s1.crashR []).writeR 0 (sectorB [7])).1.readR 0).2.1.length) ((((s1.crashR []).writeR 0 (sectorB [7])).1.readR 0).2.1.length)) ?_
      refine pv (iv ((((s1.crashR []).writeR 0 (sectorB [7])).1.readR 0).2.2)) ?_
      refine wl_end (fr [iv n, .slice A l.length ca, .slice A3 ops.length c3, ud, ud, ud, J 6, pq gd, tv, sl gi5 0 s.last.flatten.length s.last.flatten.length, sl gn 0 m cn, iv ((i : Nat) : Int), J 12, J 13, J 14, J 15, J 16, J 17, J 18, iv (((s1.crashR []).writeR 0 (sectorB [7])).2), .slice AP117 ((((s1.crashR []).writeR 0 (sectorB [7])).1.readR 0).2.1.length) ((((s1.crashR []).writeR 0 (sectorB [7])).1.readR 0).2.1.length), iv ((((s1.crashR []).writeR 0 (sectorB [7])).1.readR 0).2.2), .tuple #[pq gd, tv], iv n, .slice A l.length ca, .tuple #[pq gd, tv], pq gd, tv, tv, fv, pq gd, fv, pq gd, sl gi5 0 s.last.flatten.length s.last.flatten.length, sl gi5 0 s.last.flatten.length s.last.flatten.length, sl gn11 0 E9.length cn12, sl gn11 0 E9.length cn12, iv (E9.length : Nat), pq gd, iv (s.last.length : Int), fv, fv, sl gn11 0 E9.length cn12, iv (E9.length : Nat), fv, fv, iv ((i : Nat) : Int), .slice A3 ops.length c3, iv (ops.length : Nat), fv, J 50, J 51, J 52, J 53, J 54, J 55, J 56, J 57, J 58, J 59, J 60, J 61, J 62, J 63, J 64, J 65, J 66, J 67, J 68, J 69, J 70, J 71, J 72, J 73, J 74, J 75, J 76, J 77, J 78, J 79, J 80, J 81, J 82, J 83, J 84, J 85, J 86, J 87, J 88, J 89, J 90, J 91, J 92, J 93, J 94, J 95, J 96, J 97, J 98, J 99, J 100, J 101, J 102, J 103, J 104, J 105, J 106, J 107, J 108, J 109, J 110, J 111, J 112, J 113, J 114, J 115, J 116, J 117, J 118, J 119, J 120, J 121, J 122, J 123, J 124, J 125, J 126, J 127, J 128, J 129, J 130, J 131, J 132, J 133, J 134, J 135, J 136, J 137, J 138, J 139, J 140, J 141, J 142, J 143, J 144, J 145, J 146, J 147, J 148, J 149, J 150, J 151, J 152, J 153, J 154, J 155, J 156, J 157, J 158, J 159, J 160, J 161, J 162, J 163, J 164, J 165, J 166, J 167, pq gd, .tuple #[], pq gd, sl g105 0 1 1, sl g109 0 512 512, iv (((s1.crashR []).writeR 0 (sectorB [7])).2), .tuple #[.slice AP117 ((((s1.crashR []).writeR 0 (sectorB [7])).1.readR 0).2.1.length) ((((s1.crashR []).writeR 0 (sectorB [7])).1.readR 0).2.1.length), iv ((((s1.crashR []).writeR 0 (sectorB [7])).1.readR 0).2.2)], pq gd, .tuple #[.slice AP117 ((((s1.crashR []).writeR 0 (sectorB [7])).1.readR 0).2.1.length) ((((s1.crashR []).writeR 0 (sectorB [7])).1.readR 0).2.1.length), iv ((((s1.crashR []).writeR 0 (sectorB [7])).1.readR 0).2.2)], .slice AP117 ((((s1.crashR []).writeR 0 (sectorB [7])).1.readR 0).2.1.length) ((((s1.crashR []).writeR 0 (sectorB [7])).1.readR 0).2.1.length), iv ((((s1.crashR []).writeR 0 (sectorB [7])).1.readR 0).2.2)] 12) (by kernel_rfl) ?_
      refine then_n ?_
      refine wp_seq ?_
      refine wp_region_lit ?_
      refine pv (iv (((s1.crashR []).writeR 0 (sectorB [7])).2)) ?_
      refine wl_gv rfl (gv_eq (x := (((s1.crashR []).writeR 0 (sectorB [7])).2)) (y := 0) (by kernel_rfl) (fun _ => ?_) (fun hd118 => False.elim (absurd e1 hd118)))
      refine pv tv ?_
      refine wl_when (by kernel_rfl) (gv_val (v := .int .i64 ((((s1.crashR []).writeR 0 (sectorB [7])).1.readR 0).2.2)) (w' := w115) (by kernel_rfl) ?_)
      refine wl_when (by kernel_rfl) (gv_eq (x := ((((s1.crashR []).writeR 0 (sectorB [7])).1.readR 0).2.2)) (y := 0) (by kernel_rfl) (fun _ => ?_) (fun hd119 => False.elim (absurd e2 hd119)))
      refine pv tv ?_
      refine pv tv ?_
      refine wl_when (by kernel_rfl) (gv_val (v := .slice AP117 ((((s1.crashR []).writeR 0 (sectorB [7])).1.readR 0).2.1.length) ((((s1.crashR []).writeR 0 (sectorB [7])).1.readR 0).2.1.length)) (w' := w115) (by kernel_rfl) ?_)
      refine wl_when (by kernel_rfl) (gv_slit (e := 5) (sz := 1) (z := .int .u8 0) (by_ := 1) (vs := #[(0, .int .u8 7)]) (cells := #[.int .u8 7]) S116' rfl (by kernel_rfl) ⟨by kernel_rfl⟩ (by kernel_rfl) (by kernel_rfl) (by kernel_rfl) (by kernel_rfl) (fun g120 w121 hg122 S123 => ?_))
      refine wl_when (by kernel_rfl) (gv_call (args := #[.slice (some ⟨g120, 0, none⟩) 1 1]) rfl Try.func39 (by kernel_rfl) rfl rfl (by kernel_rfl) ?_)
      refine Calls.mono (sector_all (l := [7]) S123 (RoT.item (B := [7]) 0 rfl 0 1 _ rfl)) ?_
      rintro _ w125 ⟨g124, rfl, S126⟩
      refine ⟨_, rfl, ?_⟩
      refine wl_when (by kernel_rfl) (gv_call (args := #[.slice AP117 ((((s1.crashR []).writeR 0 (sectorB [7])).1.readR 0).2.1.length) ((((s1.crashR []).writeR 0 (sectorB [7])).1.readR 0).2.1.length), .slice (some ⟨g124, 0, none⟩) 512 512]) rfl Try.func28 (by kernel_rfl) rfl rfl (by kernel_rfl) ?_)
      have hrl1 : (sectorB [7]).length ≤ 9223372036854775807 := by rw [sectorB_len]; decide
      refine Calls.mono (same_b (b := sectorB [7]) (decide_eq_true e3) S126 (RoT.bytes 2 rfl rfl) (RoT.item 0 rfl 0 512 (sectorB [7]) (by rw [List.drop_zero, List.take_of_length_le (Nat.le_of_eq (sectorB_len _))])) (by rw [e3]; exact hrl1) hrl1) ?_
      rintro _ w127 ⟨rfl, S128⟩
      refine ⟨_, rfl, ?_⟩
      refine pv tv ?_
      refine pv tv ?_
      refine wl_end (fr [iv n, .slice A l.length ca, .slice A3 ops.length c3, ud, ud, ud, tv, pq gd, tv, sl gi5 0 s.last.flatten.length s.last.flatten.length, sl gn 0 m cn, iv ((i : Nat) : Int), J 12, J 13, J 14, J 15, J 16, J 17, J 18, iv (((s1.crashR []).writeR 0 (sectorB [7])).2), .slice AP117 ((((s1.crashR []).writeR 0 (sectorB [7])).1.readR 0).2.1.length) ((((s1.crashR []).writeR 0 (sectorB [7])).1.readR 0).2.1.length), iv ((((s1.crashR []).writeR 0 (sectorB [7])).1.readR 0).2.2), .tuple #[pq gd, tv], iv n, .slice A l.length ca, .tuple #[pq gd, tv], pq gd, tv, tv, fv, pq gd, fv, pq gd, sl gi5 0 s.last.flatten.length s.last.flatten.length, sl gi5 0 s.last.flatten.length s.last.flatten.length, sl gn11 0 E9.length cn12, sl gn11 0 E9.length cn12, iv (E9.length : Nat), pq gd, iv (s.last.length : Int), fv, fv, sl gn11 0 E9.length cn12, iv (E9.length : Nat), fv, fv, iv ((i : Nat) : Int), .slice A3 ops.length c3, iv (ops.length : Nat), fv, J 50, J 51, J 52, J 53, J 54, J 55, J 56, J 57, J 58, J 59, J 60, J 61, J 62, J 63, J 64, J 65, J 66, J 67, J 68, J 69, J 70, J 71, J 72, J 73, J 74, J 75, J 76, J 77, J 78, J 79, J 80, J 81, J 82, J 83, J 84, J 85, J 86, J 87, J 88, J 89, J 90, J 91, J 92, J 93, J 94, J 95, J 96, J 97, J 98, J 99, J 100, J 101, J 102, J 103, J 104, J 105, J 106, J 107, J 108, J 109, J 110, J 111, J 112, J 113, J 114, J 115, J 116, J 117, J 118, J 119, J 120, J 121, J 122, J 123, J 124, J 125, J 126, J 127, J 128, J 129, J 130, J 131, J 132, J 133, J 134, J 135, J 136, J 137, J 138, J 139, J 140, J 141, J 142, J 143, J 144, J 145, J 146, J 147, J 148, J 149, J 150, J 151, J 152, J 153, J 154, J 155, J 156, J 157, J 158, J 159, J 160, J 161, J 162, J 163, J 164, J 165, J 166, J 167, pq gd, .tuple #[], pq gd, sl g105 0 1 1, sl g109 0 512 512, iv (((s1.crashR []).writeR 0 (sectorB [7])).2), .tuple #[.slice AP117 ((((s1.crashR []).writeR 0 (sectorB [7])).1.readR 0).2.1.length) ((((s1.crashR []).writeR 0 (sectorB [7])).1.readR 0).2.1.length), iv ((((s1.crashR []).writeR 0 (sectorB [7])).1.readR 0).2.2)], pq gd, .tuple #[.slice AP117 ((((s1.crashR []).writeR 0 (sectorB [7])).1.readR 0).2.1.length) ((((s1.crashR []).writeR 0 (sectorB [7])).1.readR 0).2.1.length), iv ((((s1.crashR []).writeR 0 (sectorB [7])).1.readR 0).2.2)], .slice AP117 ((((s1.crashR []).writeR 0 (sectorB [7])).1.readR 0).2.1.length) ((((s1.crashR []).writeR 0 (sectorB [7])).1.readR 0).2.1.length), iv ((((s1.crashR []).writeR 0 (sectorB [7])).1.readR 0).2.2), iv (((s1.crashR []).writeR 0 (sectorB [7])).2), tv, tv, iv ((((s1.crashR []).writeR 0 (sectorB [7])).1.readR 0).2.2), tv, tv, tv, .slice AP117 ((((s1.crashR []).writeR 0 (sectorB [7])).1.readR 0).2.1.length) ((((s1.crashR []).writeR 0 (sectorB [7])).1.readR 0).2.1.length), sl g120 0 1 1, sl g124 0 512 512, tv, tv] 0) (by kernel_rfl) ?_
      refine then_n ?_
      refine wp_ret ?_
      refine bodyPost_ret (v := .bool true) (results_t1 rfl (by kernel_rfl)) rfl ?_
      exact ⟨rfl, S128.fr.below⟩
end Go.Proofs
