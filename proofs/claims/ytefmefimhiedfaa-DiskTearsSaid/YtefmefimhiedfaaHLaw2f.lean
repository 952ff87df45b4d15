/- The law DiskTears answers true. -/
import Derived.Test.YtefmefimhiedfaaHLaw2e
open Go Go.RowKit Go.Proofs.YtefmefimhiedfaaW.PrintWords Go.Proofs.YtefmefimhiedfaaW.PrintMore
namespace Go.Proofs
open Go.Vel
set_option linter.unusedVariables false
set_option maxRecDepth 100000
set_option maxHeartbeats 4000000
attribute [local irreducible] gives wpList Code.wp

theorem diskTears_all (w : World) {A A3 : Option Addr} {l : List UInt8} {ca c3 : Nat} {ops : List OpD} (n : Int) (hr : RdB w A l) (hlm : l.length ≤ 140737488351232) (hs : RdV w A3 (opsV ops)) (hsm : ops.length ≤ 2199023255552) (hok : ∀ o ∈ ops, o.Ok w) : Calls Try.prog 15 #[.int .i64 n, .slice A l.length ca, .slice A3 ops.length c3] w fun e w' => e = .returned (.bool true) ∧ Below w.heap.size w w' := by
  have S0 : St none' w w [] := St.init none' w
  have hR : ∀ L, RoT none' w L A l := fun L => (Ro.of_C hr (fun _ h => h)).T
  refine wp_enter (fr [iv n, .slice A l.length ca, .slice A3 ops.length c3] 162) Try.func15 rfl (by kernel_rfl) ?_
  refine wp_seq ?_
  refine wp_region_lit ?_
  refine pv fv ?_
  refine wl_end _ rfl ?_
  refine then_n ?_
  refine wp_seq ?_
  refine wp_region_lit ?_
  refine pv (iv n) ?_
  refine pv (.slice A l.length ca) ?_
  refine wl_gv rfl (gv_call (args := #[.int .i64 n, .slice A l.length ca]) rfl Try.func33 (by kernel_rfl) rfl rfl (by kernel_rfl) ?_)
  refine Calls.mono (open_all S0 (hR _) hlm n) ?_
  rintro _ w1 (⟨rfl, S2⟩ | ⟨gd, s, rfl, hsp, S2⟩)
  · refine ⟨_, rfl, ?_⟩
    refine pv (.tuple #[pn, tv]) ?_
    refine pv pn ?_
    refine pv tv ?_
    refine pv pn ?_
    refine pv tv ?_
    refine wl_end _ rfl ?_
    refine then_n ?_
    refine wp_seq ?_
    refine wp_seq ?_
    refine wp_region_lit ?_
    refine pv tv ?_
    refine pv fv ?_
    refine wl_end _ rfl ?_
    refine then_n ?_
    refine wp_cond_false (by kernel_rfl) ?_
    refine wp_skip ?_
    refine then_n ?_
    refine wp_seq ?_
    refine wp_seq ?_
    refine wp_region_lit ?_
    refine pv pn ?_
    refine pv tv ?_
    refine wl_end _ rfl ?_
    refine then_n ?_
    refine wp_cond_true (by kernel_rfl) ?_
    refine wp_seq ?_
    refine wp_region_lit ?_
    refine pv tv ?_
    refine wl_end _ rfl ?_
    refine then_n ?_
    refine wp_ret ?_
    refine then_r ?_
    refine bodyPost_ret (v := .bool true) (results_t1 rfl (by kernel_rfl)) rfl ?_
    exact ⟨rfl, S2.fr.below⟩
  · refine ⟨_, rfl, ?_⟩
    obtain ⟨hn1, _⟩ := St.pd_n1 S2
    refine pv (.tuple #[pq gd, tv]) ?_
    refine pv (pq gd) ?_
    refine pv tv ?_
    refine pv (pq gd) ?_
    refine pv tv ?_
    refine wl_end _ rfl ?_
    refine then_n ?_
    refine wp_seq ?_
    refine wp_seq ?_
    refine wp_region_lit ?_
    refine pv tv ?_
    refine pv fv ?_
    refine wl_end _ rfl ?_
    refine then_n ?_
    refine wp_cond_false (by kernel_rfl) ?_
    refine wp_skip ?_
    refine then_n ?_
    refine wp_seq ?_
    refine wp_seq ?_
    refine wp_region_lit ?_
    refine pv (pq gd) ?_
    refine pv fv ?_
    refine wl_end _ rfl ?_
    refine then_n ?_
    refine wp_cond_false (by kernel_rfl) ?_
    refine wp_skip ?_
    refine then_n ?_
    refine wp_seq ?_
    refine wp_region_lit ?_
    refine pv (pq gd) ?_
    refine wl_gv rfl (gv_call (args := #[.pointer (some ⟨gd, 0, none⟩)]) rfl Try.func25 (by kernel_rfl) rfl rfl (by kernel_rfl) ?_)
    obtain ⟨h6a, h6b⟩ := St.pd_small S2
    obtain ⟨h6c, _⟩ := St.pd_n1 S2
    have h6d := flat_len h6a
    refine Calls.mono (pd_image S2) ?_
    rintro _ w3 ⟨v_, rfl, S4⟩
    obtain ⟨gi5, rfl, S4'⟩ := St.bytes_open S4 (by omega)
    refine ⟨_, rfl, ?_⟩
    refine pv (sl gi5 0 s.last.flatten.length s.last.flatten.length) ?_
    refine wl_end _ rfl ?_
    refine then_n ?_
    refine wp_seq ?_
    refine wp_region_lit ?_
    refine pv (sl gi5 0 s.last.flatten.length s.last.flatten.length) ?_
    refine wl_gv rfl (gv_call (args := #[.slice (some ⟨gi5, 0, none⟩) s.last.flatten.length s.last.flatten.length]) rfl Try.func42 (by kernel_rfl) rfl rfl (by kernel_rfl) ?_)
    refine Calls.mono (begin_may (M0 := [row gi5 (bvs s.last.flatten) 5]) (l := s.last.flatten) (m := s.last.length) S4' (RoT.item 0 rfl 0 s.last.flatten.length _ (by rw [List.drop_zero, List.take_length])) h6d h6c (by omega) (Nat.le_refl _)) ?_
    rintro _ w7 ⟨v_, M9, rfl, hM10a, hM10b, S8⟩
    have hM10c : M9.length = s.last.length := by have := congrArg List.length hM10a; rw [List.length_map, List.length_map, length_secs] at this; exact this
    obtain ⟨gm11, cm12, jk13, rfl, hc14, _, _, S8'⟩ := St.vec_open S8 (by omega)
    refine ⟨_, rfl, ?_⟩
    refine pv (sl gm11 0 M9.length cm12) ?_
    refine wl_end _ rfl ?_
    refine then_n ?_
    refine wp_seq ?_
    refine wp_seq ?_
    refine wp_region_lit ?_
    refine pv (iv 0) ?_
    refine wl_end _ rfl ?_
    refine then_n ?_
    refine wp_block ?_
    have S15 : St none' w w7 [PDisk gd s, row gm11 ((M9.map ME.v ++ jk13).toArray) 52, stars (M9.map ME.ast), row gi5 (bvs s.last.flatten) 5] := St.permT [row gm11 ((M9.map ME.v ++ jk13).toArray) 52, stars (M9.map ME.ast), row gi5 (bvs s.last.flatten) 5, PDisk gd s] [3, 0, 1, 2] (by decide) rfl S8'
    have hN0 : TF w s M9 gi5 s.last.flatten := TF.of_begin hM10a h6a hsp hM10b hn1 h6b
    refine wp_loop_g (G := Nat × Dsk × List ME × Nat × Nat × List Value × Nat × List UInt8 × Nat) (fun (g_ : Nat × Dsk × List ME × Nat × Nat × List Value × Nat × List UInt8 × Nat) (a_ : Act) (w_ : World) => ∃ J : Nat → Value, a_ = (fr ([iv n, .slice A l.length ca, .slice A3 ops.length c3, ud, ud, ud, J 6, pq gd, tv, sl gi5 0 s.last.flatten.length s.last.flatten.length, sl g_.2.2.2.1 0 g_.2.2.2.2.2.2.2.2 g_.2.2.2.2.1, iv ((g_.1 : Nat) : Int)] ++ jr J 12 7 ++ [ud, ud, ud, .tuple #[pq gd, tv], iv n, .slice A l.length ca, .tuple #[pq gd, tv], pq gd, tv, tv, fv, pq gd, fv, pq gd, sl gi5 0 s.last.flatten.length s.last.flatten.length, sl gi5 0 s.last.flatten.length s.last.flatten.length, sl gm11 0 M9.length cm12] ++ jr J 36 100) 29) ∧ St none' w w_ [PDisk gd g_.2.1, row g_.2.2.2.1 ((g_.2.2.1.map ME.v ++ g_.2.2.2.2.2.1).toArray) 52, stars (g_.2.2.1.map ME.ast), row g_.2.2.2.2.2.2.1 (bvs g_.2.2.2.2.2.2.2.1) 5] ∧ (g_.1 ≤ ops.length ∧ g_.2.1.pend.length ≤ g_.1 ∧ TF w g_.2.1 g_.2.2.1 g_.2.2.2.2.2.2.1 g_.2.2.2.2.2.2.2.1 ∧ g_.2.2.2.2.2.2.2.2 ≤ g_.2.2.2.2.1 ∧ g_.2.2.1.length = g_.2.2.2.2.2.2.2.2)) (fun g_ => ops.length - g_.1) (0, s, M9, gm11, cm12, jk13, gi5, s.last.flatten, M9.length) ⟨(jl [ud, ud, ud, ud, ud, ud, fv]), by kernel_rfl, S15, ⟨Nat.zero_le _, by show s.pend.length ≤ 0; rw [hsp]; exact Nat.le_refl _, hN0, hc14, rfl⟩⟩ ?_
    rintro ⟨i, s1, M, gm, cm, jk, gi, im, mm⟩ a_ w16 ⟨J, rfl, S17, hI18⟩
    skip
    have S17 : St none' w w16 [PDisk gd s1, row gm ((M.map ME.v ++ jk).toArray) 52, stars (M.map ME.ast), row gi (bvs im) 5] := S17
    have hI18 : (i ≤ ops.length ∧ s1.pend.length ≤ i ∧ TF w s1 M gi im ∧ mm ≤ cm ∧ M.length = mm) := hI18
    refine wp_seq ?_
    refine wp_seq ?_
    refine wp_region_lit ?_
    refine pv (iv ((i : Nat) : Int)) ?_
    refine pv (.slice A3 ops.length c3) ?_
    refine pv (iv (ops.length : Nat)) ?_
    refine wl_gv rfl (gv_dec (p := (((i : Nat) : Int) : Int) < (ops.length : Nat)) (by kernel_rfl) (fun hb19 => ?_) (fun hb19 => ?_))
    · skip
      have hi : i < ops.length := by omega
      obtain ⟨o, ho⟩ : ∃ o, ops[i]? = some o := ⟨_, List.getElem?_eq_getElem hi⟩
      have hk := hok o (List.mem_of_getElem? ho)
      obtain ⟨ad, hAd, hrs⟩ := (RoV.of_rd hs []).out w16 _ (show St none' w w16 ([PDisk gd s1, row gm ((M.map ME.v ++ jk).toArray) 52, stars (M.map ME.ast), row gi (bvs im) 5] ++ []) from S17) (by rw [length_opsV]; omega)
      have hrq : RdV w16 (some ad) (opsV ops) := fun _ => ⟨ad, rfl, hrs⟩
      obtain ⟨hiI, hpI, hN, hcI, hmI⟩ := hI18
      have hNl := hN.len
      have hNn1 := hN.n1
      have hNn2 := hN.n2
      have hat9 := hk.hat
      have hdm9 := hk.dm
      refine wl_end (fr ([iv n, .slice A l.length ca, .slice A3 ops.length c3, ud, ud, ud, J 6, pq gd, tv, sl gi5 0 s.last.flatten.length s.last.flatten.length, sl gm 0 mm cm, iv ((i : Nat) : Int)] ++ jr J 12 7 ++ [ud, ud, ud, .tuple #[pq gd, tv], iv n, .slice A l.length ca, .tuple #[pq gd, tv], pq gd, tv, tv, fv, pq gd, fv, pq gd, sl gi5 0 s.last.flatten.length s.last.flatten.length, sl gi5 0 s.last.flatten.length s.last.flatten.length, sl gm11 0 M9.length cm12, iv ((i : Nat) : Int), .slice A3 ops.length c3, iv (ops.length : Nat), tv] ++ jr J 40 96) 29) (by kernel_rfl) ?_
      refine then_n ?_
      refine wp_cond_true (by kernel_rfl) ?_
      refine wp_skip ?_
      refine then_n ?_
      refine wp_seq ?_
      refine wp_block ?_
      refine wp_seq ?_
      refine wp_region_lit ?_
      refine pv (.slice A3 ops.length c3) ?_
      refine pv (iv ((i : Nat) : Int)) ?_
      refine wl_gv rfl (gv_ixB (e := 49) (sz := 4) (n := ops.length) (c := c3) (i := ((i : Nat) : Int)) (k := .i64) (ad := ad) (ad' := (ad.add (i * 4))) (j := i) rfl (by kernel_rfl) (by kernel_rfl) (by rw [← hAd]; kernel_rfl) (by kernel_rfl) rfl (by omega) rfl ?_)
      refine wl_gv rfl (gv_ldRA (ad := ad.add (i * 4)) (vs := [.int .i64 o.kind, .int .i64 o.at_, .slice o.A o.d.length o.cd, .slice o.A2 o.ps.length o.cp]) (n := 4) rfl (by kernel_rfl) (by kernel_rfl) rfl (RoV.cells hrq (i * 4) (fun j u hu => opsV_at ops _ _ ho j u hu) (Nat.succ_pos _)) ?_)
      refine wl_gv rfl (gv_new (z := .agg #[.int .i64 0, .int .i64 0, .slice none 0 0, .slice none 0 0]) S17 rfl (by kernel_rfl) (fun g20 w21 hg22 S23 => ?_))
      refine wl_gv rfl (gv_stA (k := 0) (vs := [.int .i64 o.kind, .int .i64 o.at_, .slice o.A o.d.length o.cd, .slice o.A2 o.ps.length o.cp]) S23 0 rfl rfl (by kernel_rfl) (by kernel_rfl) (by kernel_rfl) rfl (by simp [Value.oneCell']) (Nat.le_of_ble_eq_true (by kernel_rfl)) (L' := [row g20 #[.int .i64 o.kind, .int .i64 o.at_, .slice o.A o.d.length o.cd, .slice o.A2 o.ps.length o.cp] 49, PDisk gd s1, row gm ((M.map ME.v ++ jk).toArray) 52, stars (M.map ME.ast), row gi (bvs im) 5]) rfl (fun w24 S25 => ?_))
      refine wl_end _ rfl ?_
      refine then_n ?_
      refine wp_seq ?_
      refine wp_region_lit ?_
      refine pv (pq g20) ?_
      refine wl_gv rfl (gv_ldR (v := .int .i64 o.kind) rfl (by kernel_rfl) (by kernel_rfl) (((S25.blk 0 rfl).cell 0).trans rfl) ?_)
      refine wl_end _ rfl ?_
      refine then_n ?_
      refine wp_block ?_
      refine wp_seq ?_
      refine wp_region_lit ?_
      refine wl_gv rfl (gv_eq (x := o.kind) (y := 2) (by kernel_rfl) (fun k2 => ?_) (fun k2 => ?_))
      · skip
        refine pv tv ?_
        refine wl_end _ rfl ?_
        refine then_n ?_
        refine wp_cond_true (by kernel_rfl) ?_
        refine wp_seq ?_
        refine wp_region_phu (γ := Nat) 7 [5, 6] (fun (c_ : Nat) (i_ : Nat) => (match i_ with | 0 => .pointer (some ⟨gd, 0, none⟩) | 1 => .pointer (some ⟨g20, 1, none⟩) | 2 => .int .i64 o.at_ | 3 => .pointer (some ⟨g20, 2, none⟩) | 4 => .slice o.A o.d.length o.cd | 5 => .slice (some ⟨c_, 0, none⟩) o.d.length o.d.length | 6 => .int .i64 ((s1.writeR o.at_ o.d).2) | _ => undef : Value)) (fun (c_ : Nat) (p_ : Nat) (w_ : World) => (match p_ with | 0 => St none' w w_ [row g20 #[.int .i64 o.kind, .int .i64 o.at_, .slice o.A o.d.length o.cd, .slice o.A2 o.ps.length o.cp] 49, PDisk gd s1, row gm ((M.map ME.v ++ jk).toArray) 52, stars (M.map ME.ast), row gi (bvs im) 5] | 1 => St none' w w_ [row c_ (bvs o.d) 5, row g20 #[.int .i64 o.kind, .int .i64 o.at_, .slice o.A o.d.length o.cd, .slice o.A2 o.ps.length o.cp] 49, PDisk gd s1, row gm ((M.map ME.v ++ jk).toArray) 52, stars (M.map ME.ast), row gi (bvs im) 5] | _ => St none' w w_ [PDisk gd (s1.writeR o.at_ o.d).1, row c_ (bvs o.d) 5, row g20 #[.int .i64 o.kind, .int .i64 o.at_, .slice o.A o.d.length o.cd, .slice o.A2 o.ps.length o.cp] 49, row gm ((M.map ME.v ++ jk).toArray) 52, stars (M.map ME.ast), row gi (bvs im) 5] : Prop)) (0) (by kernel_rfl) (by kernel_rfl) (by kernel_rfl) (by kernel_rfl) (S25.drew) ?_ ?_ ?_
        · intro i_ c_ p_ vals_ w1 hi_ hiE_ hp_ hk_ hu_ hPh_ hd_
          rcases i_ with _ | _ | _ | _ | _ | _ | _ | i_
          · skip
            refine told_free rfl rfl (gv_env ((⟨Array.replicate 165 undef, []⟩ : Act).put (some 7) (.pointer (some ⟨gd, 0, none⟩))) (by kernel_rfl) (xs := [.tmp 7]) (by kernel_rfl) (alike_cons (fill_past (by kernel_rfl) (by kernel_rfl)) alike_nil) (gv_val (v := .pointer (some ⟨gd, 0, none⟩)) (w' := w1) (by kernel_rfl) ?_))
            exact ⟨rfl, rfl⟩
          · skip
            refine told_free rfl rfl (gv_env ((⟨Array.replicate 165 undef, []⟩ : Act).put (some 12) (.pointer (some ⟨g20, 0, none⟩))) (by kernel_rfl) (xs := [.tmp 12]) (by kernel_rfl) (alike_cons (fill_past (by kernel_rfl) (by kernel_rfl)) alike_nil) (gv_val (v := .pointer (some ⟨g20, 1, none⟩)) (w' := w1) (by kernel_rfl) ?_))
            exact ⟨rfl, rfl⟩
          · skip
            rcases p_ with _ | _ | _ | p_
            · skip
              have S28 : St none' w w1 [row g20 #[.int .i64 o.kind, .int .i64 o.at_, .slice o.A o.d.length o.cd, .slice o.A2 o.ps.length o.cp] 49, PDisk gd s1, row gm ((M.map ME.v ++ jk).toArray) 52, stars (M.map ME.ast), row gi (bvs im) 5] := hPh_
              refine told_free rfl rfl (gv_env ((⟨Array.replicate 165 undef, []⟩ : Act).put (some 54) (.pointer (some ⟨g20, 1, none⟩))) (by kernel_rfl) (xs := [.tmp 54]) (by kernel_rfl) (alike_cons (fill_at (k := 1) (by kernel_rfl) (by kernel_rfl) ((hd_ 1 (by kernel_rfl)).trans (by kernel_rfl))) alike_nil) (gv_ldR (v := .int .i64 o.at_) rfl (by kernel_rfl) (by kernel_rfl) (((S28.blk 0 rfl).cell 1).trans rfl) ?_))
              exact ⟨rfl, rfl⟩
            · skip
              have S29 : St none' w w1 [row c_ (bvs o.d) 5, row g20 #[.int .i64 o.kind, .int .i64 o.at_, .slice o.A o.d.length o.cd, .slice o.A2 o.ps.length o.cp] 49, PDisk gd s1, row gm ((M.map ME.v ++ jk).toArray) 52, stars (M.map ME.ast), row gi (bvs im) 5] := hPh_
              refine told_free rfl rfl (gv_env ((⟨Array.replicate 165 undef, []⟩ : Act).put (some 54) (.pointer (some ⟨g20, 1, none⟩))) (by kernel_rfl) (xs := [.tmp 54]) (by kernel_rfl) (alike_cons (fill_at (k := 1) (by kernel_rfl) (by kernel_rfl) ((hd_ 1 (by kernel_rfl)).trans (by kernel_rfl))) alike_nil) (gv_ldR (v := .int .i64 o.at_) rfl (by kernel_rfl) (by kernel_rfl) (((S29.blk 1 rfl).cell 1).trans rfl) ?_))
              exact ⟨rfl, rfl⟩
            · skip
              exact absurd (hu_ 1 (by decide) (by kernel_rfl)) (by decide)
            · exact absurd hp_ (by simp)
          · skip
            refine told_free rfl rfl (gv_env ((⟨Array.replicate 165 undef, []⟩ : Act).put (some 12) (.pointer (some ⟨g20, 0, none⟩))) (by kernel_rfl) (xs := [.tmp 12]) (by kernel_rfl) (alike_cons (fill_past (by kernel_rfl) (by kernel_rfl)) alike_nil) (gv_val (v := .pointer (some ⟨g20, 2, none⟩)) (w' := w1) (by kernel_rfl) ?_))
            exact ⟨rfl, rfl⟩
          · skip
            rcases p_ with _ | _ | _ | p_
            · skip
              have S31 : St none' w w1 [row g20 #[.int .i64 o.kind, .int .i64 o.at_, .slice o.A o.d.length o.cd, .slice o.A2 o.ps.length o.cp] 49, PDisk gd s1, row gm ((M.map ME.v ++ jk).toArray) 52, stars (M.map ME.ast), row gi (bvs im) 5] := hPh_
              refine told_free rfl rfl (gv_env ((⟨Array.replicate 165 undef, []⟩ : Act).put (some 56) (.pointer (some ⟨g20, 2, none⟩))) (by kernel_rfl) (xs := [.tmp 56]) (by kernel_rfl) (alike_cons (fill_at (k := 3) (by kernel_rfl) (by kernel_rfl) ((hd_ 3 (by kernel_rfl)).trans (by kernel_rfl))) alike_nil) (gv_ldR (v := .slice o.A o.d.length o.cd) rfl (by kernel_rfl) (by kernel_rfl) (((S31.blk 0 rfl).cell 2).trans rfl) ?_))
              exact ⟨rfl, rfl⟩
            · skip
              exact absurd (hu_ 0 (by decide) (by kernel_rfl)) (by decide)
            · skip
              exact absurd (hu_ 0 (by decide) (by kernel_rfl)) (by decide)
            · exact absurd hp_ (by simp)
          · skip
            exact absurd hiE_ (by decide)
          · skip
            exact absurd hiE_ (by decide)
          · exact absurd hi_ (by omega)
        · intro k_ c_ vals_ w1 hk_ hPh_ hd_
          rcases k_ with _ | _ | k_
          · skip
            have S32 : St none' w w1 [row g20 #[.int .i64 o.kind, .int .i64 o.at_, .slice o.A o.d.length o.cd, .slice o.A2 o.ps.length o.cp] 49, PDisk gd s1, row gm ((M.map ME.v ++ jk).toArray) 52, stars (M.map ME.ast), row gi (bvs im) 5] := hPh_
            refine told_free rfl rfl (gv_env ((⟨Array.replicate 165 undef, []⟩ : Act).put (some 57) (.slice o.A o.d.length o.cd)) (by kernel_rfl) (xs := [.func 27, .tmp 57]) (by kernel_rfl) (alike_cons eval_fn (alike_cons (fill_at (k := 4) (by kernel_rfl) (by kernel_rfl) ((hd_ 4 (by kernel_rfl)).trans (by kernel_rfl))) alike_nil)) (gv_call (args := #[.slice o.A o.d.length o.cd]) rfl Try.func27 (by kernel_rfl) rfl rfl (by kernel_rfl) ?_))
            refine Calls.mono (ltwinS (l := o.d) S32 (Ro.of_C hk.d (fun _ h => h)).T hk.dm) ?_
            rintro _ w34 ⟨g33, rfl, S35⟩
            refine ⟨_, rfl, ?_⟩
            refine ⟨(g33), rfl, ?_, S35⟩
            intro i_ hi_ hne_ hdp_
            rcases i_ with _ | _ | _ | _ | _ | _ | _ | i_
            · rfl
            · rfl
            · rfl
            · rfl
            · rfl
            · exact absurd rfl hne_
            · exact (dep_no hdp_ (by kernel_rfl)).elim
            · exact absurd hi_ (by omega)
          · skip
            have S36 : St none' w w1 [row c_ (bvs o.d) 5, row g20 #[.int .i64 o.kind, .int .i64 o.at_, .slice o.A o.d.length o.cd, .slice o.A2 o.ps.length o.cp] 49, PDisk gd s1, row gm ((M.map ME.v ++ jk).toArray) 52, stars (M.map ME.ast), row gi (bvs im) 5] := hPh_
            refine told_free rfl rfl (gv_env ((((⟨Array.replicate 165 undef, []⟩ : Act).put (some 53) (.pointer (some ⟨gd, 0, none⟩))).put (some 55) (.int .i64 o.at_)).put (some 58) (.slice (some ⟨c_, 0, none⟩) o.d.length o.d.length)) (by kernel_rfl) (xs := [.func 35, .tmp 53, .tmp 55, .tmp 58]) (by kernel_rfl) (alike_cons eval_fn (alike_cons (fill_at (k := 0) (by kernel_rfl) (by kernel_rfl) ((hd_ 0 (by kernel_rfl)).trans (by kernel_rfl))) (alike_cons (fill_at (k := 2) (by kernel_rfl) (by kernel_rfl) ((hd_ 2 (by kernel_rfl)).trans (by kernel_rfl))) (alike_cons (fill_at (k := 5) (by kernel_rfl) (by kernel_rfl) ((hd_ 5 (by kernel_rfl)).trans (by kernel_rfl))) alike_nil)))) (gv_call (args := #[.pointer (some ⟨gd, 0, none⟩), .int .i64 o.at_, .slice (some ⟨c_, 0, none⟩) o.d.length o.d.length]) rfl Try.func35 (by kernel_rfl) rfl rfl (by kernel_rfl) ?_))
            have S37 : St none' w w1 [PDisk gd s1, row c_ (bvs o.d) 5, row g20 #[.int .i64 o.kind, .int .i64 o.at_, .slice o.A o.d.length o.cd, .slice o.A2 o.ps.length o.cp] 49, row gm ((M.map ME.v ++ jk).toArray) 52, stars (M.map ME.ast), row gi (bvs im) 5] := St.permT [row c_ (bvs o.d) 5, row g20 #[.int .i64 o.kind, .int .i64 o.at_, .slice o.A o.d.length o.cd, .slice o.A2 o.ps.length o.cp] 49, PDisk gd s1, row gm ((M.map ME.v ++ jk).toArray) 52, stars (M.map ME.ast), row gi (bvs im) 5] [2, 0, 1, 3, 4, 5] (by decide) rfl S36
            refine Calls.mono (pd_write S37 (RoT.item 0 rfl 0 o.d.length o.d (by rw [List.drop_zero, List.take_length])) (by have := hk.dm; omega) (by have := hpI; omega)) ?_
            rintro _ w38 ⟨rfl, S39⟩
            refine ⟨_, rfl, ?_⟩
            refine ⟨(c_), rfl, ?_, S39⟩
            intro i_ hi_ hne_ hdp_
            rcases i_ with _ | _ | _ | _ | _ | _ | _ | i_
            · rfl
            · rfl
            · rfl
            · rfl
            · rfl
            · rfl
            · exact absurd rfl hne_
            · exact absurd hi_ (by omega)
          · exact absurd hk_ (by simp)
        · intro c_ w1 hPh_
          have S40 : St none' w w1 [PDisk gd (s1.writeR o.at_ o.d).1, row c_ (bvs o.d) 5, row g20 #[.int .i64 o.kind, .int .i64 o.at_, .slice o.A o.d.length o.cd, .slice o.A2 o.ps.length o.cp] 49, row gm ((M.map ME.v ++ jk).toArray) 52, stars (M.map ME.ast), row gi (bvs im) 5] := hPh_
          refine wl_frame (fr ([iv n, .slice A l.length ca, .slice A3 ops.length c3, ud, ud, ud, J 6, pq gd, tv, sl gi5 0 s.last.flatten.length s.last.flatten.length, sl gm 0 mm cm, iv ((i : Nat) : Int), pq g20] ++ jr J 13 6 ++ [ud, ud, ud, .tuple #[pq gd, tv], iv n, .slice A l.length ca, .tuple #[pq gd, tv], pq gd, tv, tv, fv, pq gd, fv, pq gd, sl gi5 0 s.last.flatten.length s.last.flatten.length, sl gi5 0 s.last.flatten.length s.last.flatten.length, sl gm11 0 M9.length cm12, iv ((i : Nat) : Int), .slice A3 ops.length c3, iv (ops.length : Nat), tv, J 40, J 41, .slice A3 ops.length c3, iv ((i : Nat) : Int), .pointer (some (ad.add (i * 4))), .agg #[iv o.kind, iv o.at_, .slice o.A o.d.length o.cd, .slice o.A2 o.ps.length o.cp], pq g20, iv o.kind, J 48, J 49, J 50, tv, tv, pq gd, po g20 1, iv o.at_, po g20 2, .slice o.A o.d.length o.cd, sl c_ 0 o.d.length o.d.length, iv ((s1.writeR o.at_ o.d).2)] ++ jr J 60 76) 29) (by kernel_rfl) ?_
          refine pv (iv ((s1.writeR o.at_ o.d).2)) ?_
          refine wl_end (fr ([iv n, .slice A l.length ca, .slice A3 ops.length c3, ud, ud, ud, J 6, pq gd, tv, sl gi5 0 s.last.flatten.length s.last.flatten.length, sl gm 0 mm cm, iv ((i : Nat) : Int), pq g20, iv ((s1.writeR o.at_ o.d).2)] ++ jr J 14 5 ++ [ud, ud, ud, .tuple #[pq gd, tv], iv n, .slice A l.length ca, .tuple #[pq gd, tv], pq gd, tv, tv, fv, pq gd, fv, pq gd, sl gi5 0 s.last.flatten.length s.last.flatten.length, sl gi5 0 s.last.flatten.length s.last.flatten.length, sl gm11 0 M9.length cm12, iv ((i : Nat) : Int), .slice A3 ops.length c3, iv (ops.length : Nat), tv, J 40, J 41, .slice A3 ops.length c3, iv ((i : Nat) : Int), .pointer (some (ad.add (i * 4))), .agg #[iv o.kind, iv o.at_, .slice o.A o.d.length o.cd, .slice o.A2 o.ps.length o.cp], pq g20, iv o.kind, J 48, J 49, J 50, tv, tv, pq gd, po g20 1, iv o.at_, po g20 2, .slice o.A o.d.length o.cd, sl c_ 0 o.d.length o.d.length, iv ((s1.writeR o.at_ o.d).2)] ++ jr J 60 76) 29) (by kernel_rfl) ?_
          refine then_n ?_
          refine wp_seq ?_
          refine wp_region_lit ?_
          refine pv (iv ((s1.writeR o.at_ o.d).2)) ?_
          refine wl_gv rfl (gv_eq (x := ((s1.writeR o.at_ o.d).2)) (y := 0) (by kernel_rfl) (fun hb41 => ?_) (fun hb41 => ?_))
          · skip
            have hw := writeR_ok hb41
            refine wl_end _ rfl ?_
            refine then_n ?_
            refine wp_cond_true (by kernel_rfl) ?_
            refine wp_seq ?_
            refine wp_seq ?_
            refine wp_region_lit ?_
            refine pv (po g20 1) ?_
            refine wl_gv rfl (gv_ldR (v := .int .i64 o.at_) rfl (by kernel_rfl) (by kernel_rfl) (((S40.blk 2 rfl).cell 1).trans rfl) ?_)
            refine wl_gv rfl (gv_dec (p := (o.at_ : Int) < 0) (by kernel_rfl) (fun hd42 => False.elim (by omega)) (fun _ => ?_))
            refine pv fv ?_
            refine wl_when (by kernel_rfl) (gv_val (v := .pointer (some ⟨g20, 1, none⟩)) (w' := w1) (by kernel_rfl) ?_)
            refine wl_when (by kernel_rfl) (gv_ldR (v := .int .i64 o.at_) rfl (by kernel_rfl) (by kernel_rfl) (((S40.blk 2 rfl).cell 1).trans rfl) ?_)
            refine wl_when (by kernel_rfl) (gv_val (v := .slice (some ⟨gm, 0, none⟩) mm cm) (w' := w1) (by kernel_rfl) ?_)
            refine wl_when (by kernel_rfl) (gv_val (v := .int .i64 (mm : Nat)) (w' := w1) (by kernel_rfl) ?_)
            refine wl_when (by kernel_rfl) (gv_dec (p := (o.at_ : Int) ≥ (mm : Nat)) (by kernel_rfl) (fun hd43 => False.elim (by omega)) (fun _ => ?_))
            refine pv fv ?_
            refine wl_end _ rfl ?_
            refine then_n ?_
            refine wp_cond_false (by kernel_rfl) ?_
            refine wp_skip ?_
            refine then_n ?_
            have hkM : o.at_.toNat < M.length := by omega
            obtain ⟨m, hm⟩ : ∃ m, M[o.at_.toNat]? = some m := ⟨_, List.getElem?_eq_getElem hkM⟩
            have hms := hN.small hm
            have S44 : St none' w w1 [stars (M.map ME.ast), PDisk gd (s1.writeR o.at_ o.d).1, row c_ (bvs o.d) 5, row g20 #[.int .i64 o.kind, .int .i64 o.at_, .slice o.A o.d.length o.cd, .slice o.A2 o.ps.length o.cp] 49, row gm ((M.map ME.v ++ jk).toArray) 52, row gi (bvs im) 5] := St.permT [PDisk gd (s1.writeR o.at_ o.d).1, row c_ (bvs o.d) 5, row g20 #[.int .i64 o.kind, .int .i64 o.at_, .slice o.A o.d.length o.cd, .slice o.A2 o.ps.length o.cp] 49, row gm ((M.map ME.v ++ jk).toArray) 52, stars (M.map ME.ast), row gi (bvs im) 5] [4, 0, 1, 2, 3, 5] (by decide) rfl S40
            have S45 : St none' w w1 [vec 31 1 m.v m.C.length (m.C.map Hd.val), stars ((M.take (o.at_.toNat)).map ME.ast), stars ((M.drop (o.at_.toNat + 1)).map ME.ast), PDisk gd (s1.writeR o.at_ o.d).1, row c_ (bvs o.d) 5, row g20 #[.int .i64 o.kind, .int .i64 o.at_, .slice o.A o.d.length o.cd, .slice o.A2 o.ps.length o.cp] 49, row gm ((M.map ME.v ++ jk).toArray) 52, row gi (bvs im) 5] := St.nth (f := ME.ast) S44 (o.at_.toNat) hm
            refine wp_region_phu (γ := Nat × Value) 12 [10, 11] (fun (c2_ : Nat × Value) (i_ : Nat) => (match i_ with | 0 => .slice (some ⟨gm, 0, none⟩) mm cm | 1 => .pointer (some ⟨g20, 1, none⟩) | 2 => .int .i64 o.at_ | 3 => .slice (some ⟨gm, 0, none⟩) mm cm | 4 => .pointer (some ⟨g20, 1, none⟩) | 5 => .int .i64 o.at_ | 6 => .pointer (some ⟨gm, o.at_.toNat, none⟩) | 7 => m.v | 8 => .pointer (some ⟨g20, 2, none⟩) | 9 => .slice o.A o.d.length o.cd | 10 => .slice (some ⟨c2_.1, 0, none⟩) 1 1 | 11 => c2_.2 | _ => undef : Value)) (fun (c2_ : Nat × Value) (p_ : Nat) (w_ : World) => (match p_ with | 0 => St none' w w_ [vec 31 1 m.v m.C.length (m.C.map Hd.val), stars ((M.take (o.at_.toNat)).map ME.ast), stars ((M.drop (o.at_.toNat + 1)).map ME.ast), PDisk gd (s1.writeR o.at_ o.d).1, row c_ (bvs o.d) 5, row g20 #[.int .i64 o.kind, .int .i64 o.at_, .slice o.A o.d.length o.cd, .slice o.A2 o.ps.length o.cp] 49, row gm ((M.map ME.v ++ jk).toArray) 52, row gi (bvs im) 5] | 1 => St none' w w_ [row c2_.1 #[.slice o.A o.d.length o.cd] 31, vec 31 1 m.v m.C.length (m.C.map Hd.val), stars ((M.take (o.at_.toNat)).map ME.ast), stars ((M.drop (o.at_.toNat + 1)).map ME.ast), PDisk gd (s1.writeR o.at_ o.d).1, row c_ (bvs o.d) 5, row g20 #[.int .i64 o.kind, .int .i64 o.at_, .slice o.A o.d.length o.cd, .slice o.A2 o.ps.length o.cp] 49, row gm ((M.map ME.v ++ jk).toArray) 52, row gi (bvs im) 5] | _ => St none' w w_ [vec 31 1 c2_.2 (m.C.length + 1) (m.C.map Hd.val ++ [.slice o.A o.d.length o.cd]), row c2_.1 #[.slice o.A o.d.length o.cd] 31, stars ((M.take (o.at_.toNat)).map ME.ast), stars ((M.drop (o.at_.toNat + 1)).map ME.ast), PDisk gd (s1.writeR o.at_ o.d).1, row c_ (bvs o.d) 5, row g20 #[.int .i64 o.kind, .int .i64 o.at_, .slice o.A o.d.length o.cd, .slice o.A2 o.ps.length o.cp] 49, row gm ((M.map ME.v ++ jk).toArray) 52, row gi (bvs im) 5] : Prop)) (0, undef) (by kernel_rfl) (by kernel_rfl) (by kernel_rfl) (by kernel_rfl) (S45.drew) ?_ ?_ ?_
            · intro i_ c2_ p_ vals_ w1 hi_ hiE_ hp_ hk_ hu_ hPh_ hd_
              rcases i_ with _ | _ | _ | _ | _ | _ | _ | _ | _ | _ | _ | _ | i_
              · skip
                refine told_free rfl rfl (gv_env ((⟨Array.replicate 165 undef, []⟩ : Act).put (some 10) (.slice (some ⟨gm, 0, none⟩) mm cm)) (by kernel_rfl) (xs := [.tmp 10]) (by kernel_rfl) (alike_cons (fill_past (by kernel_rfl) (by kernel_rfl)) alike_nil) (gv_val (v := .slice (some ⟨gm, 0, none⟩) mm cm) (w' := w1) (by kernel_rfl) ?_))
                exact ⟨rfl, rfl⟩
              · skip
                refine told_free rfl rfl (gv_env ((⟨Array.replicate 165 undef, []⟩ : Act).put (some 12) (.pointer (some ⟨g20, 0, none⟩))) (by kernel_rfl) (xs := [.tmp 12]) (by kernel_rfl) (alike_cons (fill_past (by kernel_rfl) (by kernel_rfl)) alike_nil) (gv_val (v := .pointer (some ⟨g20, 1, none⟩)) (w' := w1) (by kernel_rfl) ?_))
                exact ⟨rfl, rfl⟩
              · skip
                rcases p_ with _ | _ | _ | p_
                · skip
                  have S48 : St none' w w1 [vec 31 1 m.v m.C.length (m.C.map Hd.val), stars ((M.take (o.at_.toNat)).map ME.ast), stars ((M.drop (o.at_.toNat + 1)).map ME.ast), PDisk gd (s1.writeR o.at_ o.d).1, row c_ (bvs o.d) 5, row g20 #[.int .i64 o.kind, .int .i64 o.at_, .slice o.A o.d.length o.cd, .slice o.A2 o.ps.length o.cp] 49, row gm ((M.map ME.v ++ jk).toArray) 52, row gi (bvs im) 5] := hPh_
                  refine told_free rfl rfl (gv_env ((⟨Array.replicate 165 undef, []⟩ : Act).put (some 73) (.pointer (some ⟨g20, 1, none⟩))) (by kernel_rfl) (xs := [.tmp 73]) (by kernel_rfl) (alike_cons (fill_at (k := 1) (by kernel_rfl) (by kernel_rfl) ((hd_ 1 (by kernel_rfl)).trans (by kernel_rfl))) alike_nil) (gv_ldR (v := .int .i64 o.at_) rfl (by kernel_rfl) (by kernel_rfl) (((S48.blk 5 rfl).cell 1).trans rfl) ?_))
                  exact ⟨rfl, rfl⟩
                · skip
                  have S49 : St none' w w1 [row c2_.1 #[.slice o.A o.d.length o.cd] 31, vec 31 1 m.v m.C.length (m.C.map Hd.val), stars ((M.take (o.at_.toNat)).map ME.ast), stars ((M.drop (o.at_.toNat + 1)).map ME.ast), PDisk gd (s1.writeR o.at_ o.d).1, row c_ (bvs o.d) 5, row g20 #[.int .i64 o.kind, .int .i64 o.at_, .slice o.A o.d.length o.cd, .slice o.A2 o.ps.length o.cp] 49, row gm ((M.map ME.v ++ jk).toArray) 52, row gi (bvs im) 5] := hPh_
                  refine told_free rfl rfl (gv_env ((⟨Array.replicate 165 undef, []⟩ : Act).put (some 73) (.pointer (some ⟨g20, 1, none⟩))) (by kernel_rfl) (xs := [.tmp 73]) (by kernel_rfl) (alike_cons (fill_at (k := 1) (by kernel_rfl) (by kernel_rfl) ((hd_ 1 (by kernel_rfl)).trans (by kernel_rfl))) alike_nil) (gv_ldR (v := .int .i64 o.at_) rfl (by kernel_rfl) (by kernel_rfl) (((S49.blk 6 rfl).cell 1).trans rfl) ?_))
                  exact ⟨rfl, rfl⟩
                · skip
                  have S50 : St none' w w1 [vec 31 1 c2_.2 (m.C.length + 1) (m.C.map Hd.val ++ [.slice o.A o.d.length o.cd]), row c2_.1 #[.slice o.A o.d.length o.cd] 31, stars ((M.take (o.at_.toNat)).map ME.ast), stars ((M.drop (o.at_.toNat + 1)).map ME.ast), PDisk gd (s1.writeR o.at_ o.d).1, row c_ (bvs o.d) 5, row g20 #[.int .i64 o.kind, .int .i64 o.at_, .slice o.A o.d.length o.cd, .slice o.A2 o.ps.length o.cp] 49, row gm ((M.map ME.v ++ jk).toArray) 52, row gi (bvs im) 5] := hPh_
                  refine told_free rfl rfl (gv_env ((⟨Array.replicate 165 undef, []⟩ : Act).put (some 73) (.pointer (some ⟨g20, 1, none⟩))) (by kernel_rfl) (xs := [.tmp 73]) (by kernel_rfl) (alike_cons (fill_at (k := 1) (by kernel_rfl) (by kernel_rfl) ((hd_ 1 (by kernel_rfl)).trans (by kernel_rfl))) alike_nil) (gv_ldR (v := .int .i64 o.at_) rfl (by kernel_rfl) (by kernel_rfl) (((S50.blk 6 rfl).cell 1).trans rfl) ?_))
                  exact ⟨rfl, rfl⟩
                · exact absurd hp_ (by simp)
              · skip
                refine told_free rfl rfl (gv_env ((⟨Array.replicate 165 undef, []⟩ : Act).put (some 10) (.slice (some ⟨gm, 0, none⟩) mm cm)) (by kernel_rfl) (xs := [.tmp 10]) (by kernel_rfl) (alike_cons (fill_past (by kernel_rfl) (by kernel_rfl)) alike_nil) (gv_val (v := .slice (some ⟨gm, 0, none⟩) mm cm) (w' := w1) (by kernel_rfl) ?_))
                exact ⟨rfl, rfl⟩
              · skip
                refine told_free rfl rfl (gv_env ((⟨Array.replicate 165 undef, []⟩ : Act).put (some 12) (.pointer (some ⟨g20, 0, none⟩))) (by kernel_rfl) (xs := [.tmp 12]) (by kernel_rfl) (alike_cons (fill_past (by kernel_rfl) (by kernel_rfl)) alike_nil) (gv_val (v := .pointer (some ⟨g20, 1, none⟩)) (w' := w1) (by kernel_rfl) ?_))
                exact ⟨rfl, rfl⟩
              · skip
                rcases p_ with _ | _ | _ | p_
                · skip
                  have S53 : St none' w w1 [vec 31 1 m.v m.C.length (m.C.map Hd.val), stars ((M.take (o.at_.toNat)).map ME.ast), stars ((M.drop (o.at_.toNat + 1)).map ME.ast), PDisk gd (s1.writeR o.at_ o.d).1, row c_ (bvs o.d) 5, row g20 #[.int .i64 o.kind, .int .i64 o.at_, .slice o.A o.d.length o.cd, .slice o.A2 o.ps.length o.cp] 49, row gm ((M.map ME.v ++ jk).toArray) 52, row gi (bvs im) 5] := hPh_
                  refine told_free rfl rfl (gv_env ((⟨Array.replicate 165 undef, []⟩ : Act).put (some 76) (.pointer (some ⟨g20, 1, none⟩))) (by kernel_rfl) (xs := [.tmp 76]) (by kernel_rfl) (alike_cons (fill_at (k := 4) (by kernel_rfl) (by kernel_rfl) ((hd_ 4 (by kernel_rfl)).trans (by kernel_rfl))) alike_nil) (gv_ldR (v := .int .i64 o.at_) rfl (by kernel_rfl) (by kernel_rfl) (((S53.blk 5 rfl).cell 1).trans rfl) ?_))
                  exact ⟨rfl, rfl⟩
                · skip
                  have S54 : St none' w w1 [row c2_.1 #[.slice o.A o.d.length o.cd] 31, vec 31 1 m.v m.C.length (m.C.map Hd.val), stars ((M.take (o.at_.toNat)).map ME.ast), stars ((M.drop (o.at_.toNat + 1)).map ME.ast), PDisk gd (s1.writeR o.at_ o.d).1, row c_ (bvs o.d) 5, row g20 #[.int .i64 o.kind, .int .i64 o.at_, .slice o.A o.d.length o.cd, .slice o.A2 o.ps.length o.cp] 49, row gm ((M.map ME.v ++ jk).toArray) 52, row gi (bvs im) 5] := hPh_
                  refine told_free rfl rfl (gv_env ((⟨Array.replicate 165 undef, []⟩ : Act).put (some 76) (.pointer (some ⟨g20, 1, none⟩))) (by kernel_rfl) (xs := [.tmp 76]) (by kernel_rfl) (alike_cons (fill_at (k := 4) (by kernel_rfl) (by kernel_rfl) ((hd_ 4 (by kernel_rfl)).trans (by kernel_rfl))) alike_nil) (gv_ldR (v := .int .i64 o.at_) rfl (by kernel_rfl) (by kernel_rfl) (((S54.blk 6 rfl).cell 1).trans rfl) ?_))
                  exact ⟨rfl, rfl⟩
                · skip
                  exact absurd (hu_ 1 (by decide) (by kernel_rfl)) (by decide)
                · exact absurd hp_ (by simp)
              · skip
                refine told_free rfl rfl (gv_env (((⟨Array.replicate 165 undef, []⟩ : Act).put (some 75) (.slice (some ⟨gm, 0, none⟩) mm cm)).put (some 77) (.int .i64 o.at_)) (by kernel_rfl) (xs := [.tmp 75, .tmp 77]) (by kernel_rfl) (alike_cons (fill_at (k := 3) (by kernel_rfl) (by kernel_rfl) ((hd_ 3 (by kernel_rfl)).trans (by kernel_rfl))) (alike_cons (fill_at (k := 5) (by kernel_rfl) (by kernel_rfl) ((hd_ 5 (by kernel_rfl)).trans (by kernel_rfl))) alike_nil)) (gv_ixE (e := 52) (sz := 1) (g := gm) (off := 0) (n := mm) (c := cm) (i := o.at_) (k := .i64) (j := o.at_.toNat) (off' := o.at_.toNat) rfl (by kernel_rfl) (by kernel_rfl) (by kernel_rfl) (by kernel_rfl) (by omega) (by omega) (by omega) ?_))
                exact ⟨rfl, rfl⟩
              · skip
                rcases p_ with _ | _ | _ | p_
                · skip
                  have S56 : St none' w w1 [vec 31 1 m.v m.C.length (m.C.map Hd.val), stars ((M.take (o.at_.toNat)).map ME.ast), stars ((M.drop (o.at_.toNat + 1)).map ME.ast), PDisk gd (s1.writeR o.at_ o.d).1, row c_ (bvs o.d) 5, row g20 #[.int .i64 o.kind, .int .i64 o.at_, .slice o.A o.d.length o.cd, .slice o.A2 o.ps.length o.cp] 49, row gm ((M.map ME.v ++ jk).toArray) 52, row gi (bvs im) 5] := hPh_
                  refine told_free rfl rfl (gv_env ((⟨Array.replicate 165 undef, []⟩ : Act).put (some 78) (.pointer (some ⟨gm, o.at_.toNat, none⟩))) (by kernel_rfl) (xs := [.tmp 78]) (by kernel_rfl) (alike_cons (fill_at (k := 6) (by kernel_rfl) (by kernel_rfl) ((hd_ 6 (by kernel_rfl)).trans (by kernel_rfl))) alike_nil) (gv_ldR (v := m.v) rfl (by kernel_rfl) (by kernel_rfl) (((S56.blk 6 rfl).cell (o.at_.toNat)).trans (me_at hm)) ?_))
                  exact ⟨rfl, rfl⟩
                · skip
                  have S57 : St none' w w1 [row c2_.1 #[.slice o.A o.d.length o.cd] 31, vec 31 1 m.v m.C.length (m.C.map Hd.val), stars ((M.take (o.at_.toNat)).map ME.ast), stars ((M.drop (o.at_.toNat + 1)).map ME.ast), PDisk gd (s1.writeR o.at_ o.d).1, row c_ (bvs o.d) 5, row g20 #[.int .i64 o.kind, .int .i64 o.at_, .slice o.A o.d.length o.cd, .slice o.A2 o.ps.length o.cp] 49, row gm ((M.map ME.v ++ jk).toArray) 52, row gi (bvs im) 5] := hPh_
                  refine told_free rfl rfl (gv_env ((⟨Array.replicate 165 undef, []⟩ : Act).put (some 78) (.pointer (some ⟨gm, o.at_.toNat, none⟩))) (by kernel_rfl) (xs := [.tmp 78]) (by kernel_rfl) (alike_cons (fill_at (k := 6) (by kernel_rfl) (by kernel_rfl) ((hd_ 6 (by kernel_rfl)).trans (by kernel_rfl))) alike_nil) (gv_ldR (v := m.v) rfl (by kernel_rfl) (by kernel_rfl) (((S57.blk 7 rfl).cell (o.at_.toNat)).trans (me_at hm)) ?_))
                  exact ⟨rfl, rfl⟩
                · skip
                  exact absurd (hu_ 1 (by decide) (by kernel_rfl)) (by decide)
                · exact absurd hp_ (by simp)
              · skip
                refine told_free rfl rfl (gv_env ((⟨Array.replicate 165 undef, []⟩ : Act).put (some 12) (.pointer (some ⟨g20, 0, none⟩))) (by kernel_rfl) (xs := [.tmp 12]) (by kernel_rfl) (alike_cons (fill_past (by kernel_rfl) (by kernel_rfl)) alike_nil) (gv_val (v := .pointer (some ⟨g20, 2, none⟩)) (w' := w1) (by kernel_rfl) ?_))
                exact ⟨rfl, rfl⟩
              · skip
                rcases p_ with _ | _ | _ | p_
                · skip
                  have S59 : St none' w w1 [vec 31 1 m.v m.C.length (m.C.map Hd.val), stars ((M.take (o.at_.toNat)).map ME.ast), stars ((M.drop (o.at_.toNat + 1)).map ME.ast), PDisk gd (s1.writeR o.at_ o.d).1, row c_ (bvs o.d) 5, row g20 #[.int .i64 o.kind, .int .i64 o.at_, .slice o.A o.d.length o.cd, .slice o.A2 o.ps.length o.cp] 49, row gm ((M.map ME.v ++ jk).toArray) 52, row gi (bvs im) 5] := hPh_
                  refine told_free rfl rfl (gv_env ((⟨Array.replicate 165 undef, []⟩ : Act).put (some 80) (.pointer (some ⟨g20, 2, none⟩))) (by kernel_rfl) (xs := [.tmp 80]) (by kernel_rfl) (alike_cons (fill_at (k := 8) (by kernel_rfl) (by kernel_rfl) ((hd_ 8 (by kernel_rfl)).trans (by kernel_rfl))) alike_nil) (gv_ldR (v := .slice o.A o.d.length o.cd) rfl (by kernel_rfl) (by kernel_rfl) (((S59.blk 5 rfl).cell 2).trans rfl) ?_))
                  exact ⟨rfl, rfl⟩
                · skip
                  exact absurd (hu_ 0 (by decide) (by kernel_rfl)) (by decide)
                · skip
                  exact absurd (hu_ 0 (by decide) (by kernel_rfl)) (by decide)
                · exact absurd hp_ (by simp)
              · skip
                exact absurd hiE_ (by decide)
              · skip
                exact absurd hiE_ (by decide)
              · exact absurd hi_ (by omega)
            · intro k_ c2_ vals_ w1 hk_ hPh_ hd_
              rcases k_ with _ | _ | k_
              · skip
                have S60 : St none' w w1 [vec 31 1 m.v m.C.length (m.C.map Hd.val), stars ((M.take (o.at_.toNat)).map ME.ast), stars ((M.drop (o.at_.toNat + 1)).map ME.ast), PDisk gd (s1.writeR o.at_ o.d).1, row c_ (bvs o.d) 5, row g20 #[.int .i64 o.kind, .int .i64 o.at_, .slice o.A o.d.length o.cd, .slice o.A2 o.ps.length o.cp] 49, row gm ((M.map ME.v ++ jk).toArray) 52, row gi (bvs im) 5] := hPh_
                refine told_free rfl rfl (gv_env ((⟨Array.replicate 165 undef, []⟩ : Act).put (some 81) (.slice o.A o.d.length o.cd)) (by kernel_rfl) (xs := [.tmp 81]) (by kernel_rfl) (alike_cons (fill_at (k := 9) (by kernel_rfl) (by kernel_rfl) ((hd_ 9 (by kernel_rfl)).trans (by kernel_rfl))) alike_nil) (gv_slit (e := 31) (sz := 1) (z := .slice none 0 0) (by_ := 24) (vs := #[(0, .slice o.A o.d.length o.cd)]) (cells := #[.slice o.A o.d.length o.cd]) S60 rfl (by kernel_rfl) ⟨by kernel_rfl⟩ (by kernel_rfl) (by kernel_rfl) (by kernel_rfl) (by kernel_rfl) (fun g61 w62 hg63 S64 => ?_)))
                refine ⟨(g61, c2_.2), rfl, ?_, S64⟩
                intro i_ hi_ hne_ hdp_
                rcases i_ with _ | _ | _ | _ | _ | _ | _ | _ | _ | _ | _ | _ | i_
                · rfl
                · rfl
                · rfl
                · rfl
                · rfl
                · rfl
                · rfl
                · rfl
                · rfl
                · rfl
                · exact absurd rfl hne_
                · exact (dep_no hdp_ (by kernel_rfl)).elim
                · exact absurd hi_ (by omega)
              · skip
                have S65 : St none' w w1 [row c2_.1 #[.slice o.A o.d.length o.cd] 31, vec 31 1 m.v m.C.length (m.C.map Hd.val), stars ((M.take (o.at_.toNat)).map ME.ast), stars ((M.drop (o.at_.toNat + 1)).map ME.ast), PDisk gd (s1.writeR o.at_ o.d).1, row c_ (bvs o.d) 5, row g20 #[.int .i64 o.kind, .int .i64 o.at_, .slice o.A o.d.length o.cd, .slice o.A2 o.ps.length o.cp] 49, row gm ((M.map ME.v ++ jk).toArray) 52, row gi (bvs im) 5] := hPh_
                refine told_free rfl rfl (gv_env (((⟨Array.replicate 165 undef, []⟩ : Act).put (some 79) (m.v)).put (some 82) (.slice (some ⟨c2_.1, 0, none⟩) 1 1)) (by kernel_rfl) (xs := [.tmp 79, .tmp 82]) (by kernel_rfl) (alike_cons (fill_at (k := 7) (by kernel_rfl) (by kernel_rfl) ((hd_ 7 (by kernel_rfl)).trans (by kernel_rfl))) (alike_cons (fill_at (k := 10) (by kernel_rfl) (by kernel_rfl) ((hd_ 10 (by kernel_rfl)).trans (by kernel_rfl))) alike_nil)) (gv_append (e := 31) (sz := 1) (n := m.C.length) (v := m.v) (vals := (m.C.map Hd.val)) (z := .slice none 0 0) (by_ := 24) (m := 1) (c' := 1) (ad := ⟨c2_.1, 0, none⟩) (news := [.slice o.A o.d.length o.cd]) (St.swap S65) rfl (by kernel_rfl) ⟨by kernel_rfl⟩ rfl (by kernel_rfl) (by kernel_rfl) (by decide) rfl (row_news (S65.blk 0 rfl)) (by intro u hu; simp at hu; subst hu; rfl) (by omega) (by omega) (fun v67 w66 S68 => ?_)))
                refine ⟨(c2_.1, v67), rfl, ?_, S68⟩
                intro i_ hi_ hne_ hdp_
                rcases i_ with _ | _ | _ | _ | _ | _ | _ | _ | _ | _ | _ | _ | i_
                · rfl
                · rfl
                · rfl
                · rfl
                · rfl
                · rfl
                · rfl
                · rfl
                · rfl
                · rfl
                · rfl
                · exact absurd rfl hne_
                · exact absurd hi_ (by omega)
              · exact absurd hk_ (by simp)
            · intro c2_ w1 hPh_
              have S69 : St none' w w1 [vec 31 1 c2_.2 (m.C.length + 1) (m.C.map Hd.val ++ [.slice o.A o.d.length o.cd]), row c2_.1 #[.slice o.A o.d.length o.cd] 31, stars ((M.take (o.at_.toNat)).map ME.ast), stars ((M.drop (o.at_.toNat + 1)).map ME.ast), PDisk gd (s1.writeR o.at_ o.d).1, row c_ (bvs o.d) 5, row g20 #[.int .i64 o.kind, .int .i64 o.at_, .slice o.A o.d.length o.cd, .slice o.A2 o.ps.length o.cp] 49, row gm ((M.map ME.v ++ jk).toArray) 52, row gi (bvs im) 5] := hPh_
              refine wl_frame (fr ([iv n, .slice A l.length ca, .slice A3 ops.length c3, ud, ud, ud, J 6, pq gd, tv, sl gi5 0 s.last.flatten.length s.last.flatten.length, sl gm 0 mm cm, iv ((i : Nat) : Int), pq g20, iv ((s1.writeR o.at_ o.d).2)] ++ jr J 14 5 ++ [ud, ud, ud, .tuple #[pq gd, tv], iv n, .slice A l.length ca, .tuple #[pq gd, tv], pq gd, tv, tv, fv, pq gd, fv, pq gd, sl gi5 0 s.last.flatten.length s.last.flatten.length, sl gi5 0 s.last.flatten.length s.last.flatten.length, sl gm11 0 M9.length cm12, iv ((i : Nat) : Int), .slice A3 ops.length c3, iv (ops.length : Nat), tv, J 40, J 41, .slice A3 ops.length c3, iv ((i : Nat) : Int), .pointer (some (ad.add (i * 4))), .agg #[iv o.kind, iv o.at_, .slice o.A o.d.length o.cd, .slice o.A2 o.ps.length o.cp], pq g20, iv o.kind, J 48, J 49, J 50, tv, tv, pq gd, po g20 1, iv o.at_, po g20 2, .slice o.A o.d.length o.cd, sl c_ 0 o.d.length o.d.length, iv ((s1.writeR o.at_ o.d).2), iv ((s1.writeR o.at_ o.d).2), tv, po g20 1, iv o.at_, fv, fv, po g20 1, iv o.at_, sl gm 0 mm cm, iv (mm : Nat), fv, fv, sl gm 0 mm cm, po g20 1, iv o.at_, sl gm 0 mm cm, po g20 1, iv o.at_, po gm o.at_.toNat, m.v, po g20 2, .slice o.A o.d.length o.cd, sl c2_.1 0 1 1, c2_.2] ++ jr J 84 52) 29) (by kernel_rfl) ?_
              refine wl_gv rfl (gv_ixE (e := 52) (sz := 1) (g := gm) (off := 0) (n := mm) (c := cm) (i := o.at_) (k := .i64) (j := o.at_.toNat) (off' := o.at_.toNat) rfl (by kernel_rfl) (by kernel_rfl) (by kernel_rfl) (by kernel_rfl) (by omega) (by omega) (by omega) ?_)
              refine wl_gv rfl (gv_st (k := o.at_.toNat) (v := c2_.2) S69 7 rfl rfl (by kernel_rfl) (by kernel_rfl) (by kernel_rfl) (St.vec_one S69 0 rfl) (me_blt (by omega)) (L' := [vec 31 1 c2_.2 (m.C.length + 1) (m.C.map Hd.val ++ [.slice o.A o.d.length o.cd]), row c2_.1 #[.slice o.A o.d.length o.cd] 31, stars ((M.take (o.at_.toNat)).map ME.ast), stars ((M.drop (o.at_.toNat + 1)).map ME.ast), PDisk gd (s1.writeR o.at_ o.d).1, row c_ (bvs o.d) 5, row g20 #[.int .i64 o.kind, .int .i64 o.at_, .slice o.A o.d.length o.cd, .slice o.A2 o.ps.length o.cp] 49, row gm (((M.set (o.at_.toNat) ⟨c2_.2, m.C ++ [⟨o.A, o.d, o.cd⟩]⟩).map ME.v ++ jk).toArray) 52, row gi (bvs im) 5]) (by rw [me_set (m := ⟨c2_.2, m.C ++ [⟨o.A, o.d, o.cd⟩]⟩) (by omega)]; rfl) (fun w70 S71 => ?_))
              refine wl_end (fr ([iv n, .slice A l.length ca, .slice A3 ops.length c3, ud, ud, ud, J 6, pq gd, tv, sl gi5 0 s.last.flatten.length s.last.flatten.length, sl gm 0 mm cm, iv ((i : Nat) : Int), pq g20, iv ((s1.writeR o.at_ o.d).2)] ++ jr J 14 5 ++ [ud, ud, ud, .tuple #[pq gd, tv], iv n, .slice A l.length ca, .tuple #[pq gd, tv], pq gd, tv, tv, fv, pq gd, fv, pq gd, sl gi5 0 s.last.flatten.length s.last.flatten.length, sl gi5 0 s.last.flatten.length s.last.flatten.length, sl gm11 0 M9.length cm12, iv ((i : Nat) : Int), .slice A3 ops.length c3, iv (ops.length : Nat), tv, J 40, J 41, .slice A3 ops.length c3, iv ((i : Nat) : Int), .pointer (some (ad.add (i * 4))), .agg #[iv o.kind, iv o.at_, .slice o.A o.d.length o.cd, .slice o.A2 o.ps.length o.cp], pq g20, iv o.kind, J 48, J 49, J 50, tv, tv, pq gd, po g20 1, iv o.at_, po g20 2, .slice o.A o.d.length o.cd, sl c_ 0 o.d.length o.d.length, iv ((s1.writeR o.at_ o.d).2), iv ((s1.writeR o.at_ o.d).2), tv, po g20 1, iv o.at_, fv, fv, po g20 1, iv o.at_, sl gm 0 mm cm, iv (mm : Nat), fv, fv, sl gm 0 mm cm, po g20 1, iv o.at_, sl gm 0 mm cm, po g20 1, iv o.at_, po gm o.at_.toNat, m.v, po g20 2, .slice o.A o.d.length o.cd, sl c2_.1 0 1 1, c2_.2, po gm o.at_.toNat] ++ jr J 85 51) 29) (by kernel_rfl) ?_
              have S72 : St none' w w70 [vec 31 1 c2_.2 (m.C.length + 1) (m.C.map Hd.val ++ [.slice o.A o.d.length o.cd]), stars ((M.take (o.at_.toNat)).map ME.ast), stars ((M.drop (o.at_.toNat + 1)).map ME.ast), PDisk gd (s1.writeR o.at_ o.d).1, row gm (((M.set (o.at_.toNat) ⟨c2_.2, m.C ++ [⟨o.A, o.d, o.cd⟩]⟩).map ME.v ++ jk).toArray) 52, row gi (bvs im) 5] := St.permT [vec 31 1 c2_.2 (m.C.length + 1) (m.C.map Hd.val ++ [.slice o.A o.d.length o.cd]), row c2_.1 #[.slice o.A o.d.length o.cd] 31, stars ((M.take (o.at_.toNat)).map ME.ast), stars ((M.drop (o.at_.toNat + 1)).map ME.ast), PDisk gd (s1.writeR o.at_ o.d).1, row c_ (bvs o.d) 5, row g20 #[.int .i64 o.kind, .int .i64 o.at_, .slice o.A o.d.length o.cd, .slice o.A2 o.ps.length o.cp] 49, row gm (((M.set (o.at_.toNat) ⟨c2_.2, m.C ++ [⟨o.A, o.d, o.cd⟩]⟩).map ME.v ++ jk).toArray) 52, row gi (bvs im) 5] [0, 2, 3, 4, 7, 8] (by decide) rfl S71
              have hv9 : m.C.map Hd.val ++ [.slice o.A o.d.length o.cd] = (m.C ++ [(⟨o.A, o.d, o.cd⟩ : Hd)]).map Hd.val := by rw [List.map_append]; rfl
              have hn9 : m.C.length + 1 = (m.C ++ [(⟨o.A, o.d, o.cd⟩ : Hd)]).length := by rw [List.length_append]; rfl
              rw [hv9, hn9] at S72
              have S73 : St none' w w70 [stars ((M.set (o.at_.toNat) ⟨c2_.2, m.C ++ [⟨o.A, o.d, o.cd⟩]⟩).map ME.ast), PDisk gd (s1.writeR o.at_ o.d).1, row gm (((M.set (o.at_.toNat) ⟨c2_.2, m.C ++ [⟨o.A, o.d, o.cd⟩]⟩).map ME.v ++ jk).toArray) 52, row gi (bvs im) 5] := St.fill (f := ME.ast) (x := ⟨c2_.2, m.C ++ [⟨o.A, o.d, o.cd⟩]⟩) (o.at_.toNat) hkM S72
              refine inb_n ?_
              refine inb_n ?_
              refine then_n ?_
              refine wp_region_lit ?_
              refine pv (iv ((i : Nat) : Int)) ?_
              refine wl_gv rfl (gv_int (k := .i64) (z := IntKind.i64.wrap (((i : Nat) : Int) + 1)) (z' := ((i + 1 : Nat) : Int)) (by kernel_rfl) (wr_eq (by omega) (by omega) (by omega)) ?_)
              refine pv (iv ((i + 1 : Nat) : Int)) ?_
              have S74 : St none' w w70 [PDisk gd (s1.writeR o.at_ o.d).1, row gm (((M.set (o.at_.toNat) ⟨c2_.2, m.C ++ [⟨o.A, o.d, o.cd⟩]⟩).map ME.v ++ jk).toArray) 52, stars ((M.set (o.at_.toNat) ⟨c2_.2, m.C ++ [⟨o.A, o.d, o.cd⟩]⟩).map ME.ast), row gi (bvs im) 5] := St.permT [stars ((M.set (o.at_.toNat) ⟨c2_.2, m.C ++ [⟨o.A, o.d, o.cd⟩]⟩).map ME.ast), PDisk gd (s1.writeR o.at_ o.d).1, row gm (((M.set (o.at_.toNat) ⟨c2_.2, m.C ++ [⟨o.A, o.d, o.cd⟩]⟩).map ME.v ++ jk).toArray) 52, row gi (bvs im) 5] [1, 2, 0, 3] (by decide) rfl S73
              have hnf : TF w ((s1.writeR o.at_ o.d).1) (M.set (o.at_.toNat) ⟨c2_.2, m.C ++ [⟨o.A, o.d, o.cd⟩]⟩) gi im := hN.write (x := ⟨o.A, o.d, o.cd⟩) (by rw [hw.2.2.2.2]) (by rw [hw.2.2.2.2]) hm (Ro.of_C hk.d (fun _ h => h)).T
              have hpb : ((s1.writeR o.at_ o.d).1).pend.length ≤ i + 1 := Nat.le_trans (writeR_pend s1 o.at_ o.d) (by omega)
              have hcap : mm ≤ cm := hcI
              refine wl_end _ rfl ?_
              refine then_n ?_
              exact ⟨(i + 1, (s1.writeR o.at_ o.d).1, M.set (o.at_.toNat) ⟨c2_.2, m.C ++ [⟨o.A, o.d, o.cd⟩]⟩, gm, cm, jk, gi, im, mm), ⟨(jl [ud, ud, ud, ud, ud, ud, J 6, ud, ud, ud, ud, ud, pq g20, iv ((s1.writeR o.at_ o.d).2), J 14, J 15, J 16, J 17, J 18, ud, ud, ud, ud, ud, ud, ud, ud, ud, ud, ud, ud, ud, ud, ud, ud, ud, iv ((i : Nat) : Int), .slice A3 ops.length c3, iv (ops.length : Nat), tv, iv ((i : Nat) : Int), iv ((i + 1 : Nat) : Int), .slice A3 ops.length c3, iv ((i : Nat) : Int), .pointer (some (ad.add (i * 4))), .agg #[iv o.kind, iv o.at_, .slice o.A o.d.length o.cd, .slice o.A2 o.ps.length o.cp], pq g20, iv o.kind, J 48, J 49, J 50, tv, tv, pq gd, po g20 1, iv o.at_, po g20 2, .slice o.A o.d.length o.cd, sl c_ 0 o.d.length o.d.length, iv ((s1.writeR o.at_ o.d).2), iv ((s1.writeR o.at_ o.d).2), tv, po g20 1, iv o.at_, fv, fv, po g20 1, iv o.at_, sl gm 0 mm cm, iv (mm : Nat), fv, fv, sl gm 0 mm cm, po g20 1, iv o.at_, sl gm 0 mm cm, po g20 1, iv o.at_, po gm o.at_.toNat, m.v, po g20 2, .slice o.A o.d.length o.cd, sl c2_.1 0 1 1, c2_.2, po gm o.at_.toNat, J 85, J 86, J 87, J 88, J 89, J 90, J 91, J 92, J 93, J 94, J 95, J 96, J 97, J 98, J 99, J 100, J 101, J 102, J 103, J 104, J 105, J 106, J 107, J 108, J 109, J 110, J 111, J 112, J 113, J 114, J 115, J 116, J 117, J 118, J 119, J 120, J 121, J 122, J 123, J 124, J 125, J 126, J 127, J 128, J 129, J 130, J 131, J 132, J 133, J 134, J 135]), by kernel_rfl, S74, ⟨by omega, hpb, hnf, hcap, (by rw [List.length_set]; exact hmI)⟩⟩, (by show ops.length - (i + 1) < ops.length - i; omega)⟩
          · skip
            have hw := writeR_no (show _ ≠ (0 : Int) from hb41)
            refine wl_end _ rfl ?_
            refine then_n ?_
            refine wp_cond_false (by kernel_rfl) ?_
            refine wp_skip ?_
            refine inb_n ?_
            refine inb_n ?_
            refine then_n ?_
            refine wp_region_lit ?_
            refine pv (iv ((i : Nat) : Int)) ?_
            refine wl_gv rfl (gv_int (k := .i64) (z := IntKind.i64.wrap (((i : Nat) : Int) + 1)) (z' := ((i + 1 : Nat) : Int)) (by kernel_rfl) (wr_eq (by omega) (by omega) (by omega)) ?_)
            refine pv (iv ((i + 1 : Nat) : Int)) ?_
            have S75 : St none' w w1 [PDisk gd (s1.writeR o.at_ o.d).1, row gm ((M.map ME.v ++ jk).toArray) 52, stars (M.map ME.ast), row gi (bvs im) 5] := St.permT [PDisk gd (s1.writeR o.at_ o.d).1, row c_ (bvs o.d) 5, row g20 #[.int .i64 o.kind, .int .i64 o.at_, .slice o.A o.d.length o.cd, .slice o.A2 o.ps.length o.cp] 49, row gm ((M.map ME.v ++ jk).toArray) 52, stars (M.map ME.ast), row gi (bvs im) 5] [0, 3, 4, 5] (by decide) rfl S40
            have hnf : TF w ((s1.writeR o.at_ o.d).1) M gi im := hN.congr hw.1 hw.2.1
            have hpb : ((s1.writeR o.at_ o.d).1).pend.length ≤ i + 1 := Nat.le_trans (writeR_pend s1 o.at_ o.d) (by omega)
            have hcap : mm ≤ cm := hcI
            refine wl_end _ rfl ?_
            refine then_n ?_
            exact ⟨(i + 1, (s1.writeR o.at_ o.d).1, M, gm, cm, jk, gi, im, mm), ⟨(jl [ud, ud, ud, ud, ud, ud, J 6, ud, ud, ud, ud, ud, pq g20, iv ((s1.writeR o.at_ o.d).2), J 14, J 15, J 16, J 17, J 18, ud, ud, ud, ud, ud, ud, ud, ud, ud, ud, ud, ud, ud, ud, ud, ud, ud, iv ((i : Nat) : Int), .slice A3 ops.length c3, iv (ops.length : Nat), tv, iv ((i : Nat) : Int), iv ((i + 1 : Nat) : Int), .slice A3 ops.length c3, iv ((i : Nat) : Int), .pointer (some (ad.add (i * 4))), .agg #[iv o.kind, iv o.at_, .slice o.A o.d.length o.cd, .slice o.A2 o.ps.length o.cp], pq g20, iv o.kind, J 48, J 49, J 50, tv, tv, pq gd, po g20 1, iv o.at_, po g20 2, .slice o.A o.d.length o.cd, sl c_ 0 o.d.length o.d.length, iv ((s1.writeR o.at_ o.d).2), iv ((s1.writeR o.at_ o.d).2), fv, J 62, J 63, J 64, J 65, J 66, J 67, J 68, J 69, J 70, J 71, J 72, J 73, J 74, J 75, J 76, J 77, J 78, J 79, J 80, J 81, J 82, J 83, J 84, J 85, J 86, J 87, J 88, J 89, J 90, J 91, J 92, J 93, J 94, J 95, J 96, J 97, J 98, J 99, J 100, J 101, J 102, J 103, J 104, J 105, J 106, J 107, J 108, J 109, J 110, J 111, J 112, J 113, J 114, J 115, J 116, J 117, J 118, J 119, J 120, J 121, J 122, J 123, J 124, J 125, J 126, J 127, J 128, J 129, J 130, J 131, J 132, J 133, J 134, J 135]), by kernel_rfl, S75, ⟨by omega, hpb, hnf, hcap, hmI⟩⟩, (by show ops.length - (i + 1) < ops.length - i; omega)⟩
      · skip
        refine pv fv ?_
        refine wl_end _ rfl ?_
        refine then_n ?_
        refine wp_cond_false (by kernel_rfl) ?_
        refine wp_seq ?_
        refine wp_region_lit ?_
        refine wl_gv rfl (gv_eq (x := o.kind) (y := 3) (by kernel_rfl) (fun k3 => ?_) (fun k3 => ?_))
        · skip
          refine pv tv ?_
          refine wl_end _ rfl ?_
          refine then_n ?_
          refine wp_cond_true (by kernel_rfl) ?_
          refine wp_seq ?_
          refine wp_region_lit ?_
          refine pv (pq gd) ?_
          refine wl_gv rfl (gv_call (args := #[.pointer (some ⟨gd, 0, none⟩)]) rfl Try.func41 (by kernel_rfl) rfl rfl (by kernel_rfl) ?_)
          have S76 : St none' w w24 [PDisk gd s1, row g20 #[.int .i64 o.kind, .int .i64 o.at_, .slice o.A o.d.length o.cd, .slice o.A2 o.ps.length o.cp] 49, row gm ((M.map ME.v ++ jk).toArray) 52, stars (M.map ME.ast), row gi (bvs im) 5] := St.permT [row g20 #[.int .i64 o.kind, .int .i64 o.at_, .slice o.A o.d.length o.cd, .slice o.A2 o.ps.length o.cp] 49, PDisk gd s1, row gm ((M.map ME.v ++ jk).toArray) 52, stars (M.map ME.ast), row gi (bvs im) 5] [1, 0, 2, 3, 4] (by decide) rfl S25
          refine Calls.mono (pd_flush S76) ?_
          rintro _ w77 ⟨rfl, S78⟩
          refine ⟨_, rfl, ?_⟩
          refine pv (iv s1.flushR.2) ?_
          refine wl_end _ rfl ?_
          refine then_n ?_
          refine wp_seq ?_
          refine wp_region_lit ?_
          refine pv (iv s1.flushR.2) ?_
          refine wl_gv rfl (gv_eq (x := s1.flushR.2) (y := 0) (by kernel_rfl) (fun hb79 => ?_) (fun hb79 => ?_))
          · skip
            have hw : s1.flushR = ({ s1 with last := applyP s1.last s1.pend, pend := [], fl := inc s1.fl, left := spent s1.left }, 0) := (flushR_cases s1).elim (fun q => absurd (show (3 : Int) = 0 by have := hb79; rw [q.2] at this; exact this) (by decide)) (fun q => q.2)
            refine wl_end _ rfl ?_
            refine then_n ?_
            refine wp_cond_true (by kernel_rfl) ?_
            refine wp_seq ?_
            refine wp_seq ?_
            refine wp_region_lit ?_
            refine pv (iv 0) ?_
            refine wl_end _ rfl ?_
            refine then_n ?_
            refine wp_block ?_
            have S80 : St none' w w77 [row gm ((M.map ME.v ++ jk).toArray) 52, stars (M.map ME.ast), PDisk gd s1.flushR.1, row gi (bvs im) 5] := St.permT [PDisk gd s1.flushR.1, row g20 #[.int .i64 o.kind, .int .i64 o.at_, .slice o.A o.d.length o.cd, .slice o.A2 o.ps.length o.cp] 49, row gm ((M.map ME.v ++ jk).toArray) 52, stars (M.map ME.ast), row gi (bvs im) 5] [2, 3, 0, 4] (by decide) rfl S78
            refine wp_loop_g (G := Nat × List ME) (fun (g_ : Nat × List ME) (a_ : Act) (w_ : World) => ∃ J : Nat → Value, a_ = (fr ([iv n, .slice A l.length ca, .slice A3 ops.length c3, ud, ud, ud, J 6, pq gd, tv, sl gi5 0 s.last.flatten.length s.last.flatten.length, sl gm 0 mm cm, iv ((i : Nat) : Int), pq g20, J 13, iv s1.flushR.2, iv ((g_.1 : Nat) : Int), J 16, J 17, J 18, ud, ud, ud, .tuple #[pq gd, tv], iv n, .slice A l.length ca, .tuple #[pq gd, tv], pq gd, tv, tv, fv, pq gd, fv, pq gd, sl gi5 0 s.last.flatten.length s.last.flatten.length, sl gi5 0 s.last.flatten.length s.last.flatten.length, sl gm11 0 M9.length cm12, iv ((i : Nat) : Int), .slice A3 ops.length c3, iv (ops.length : Nat), tv, J 40, J 41, .slice A3 ops.length c3, iv ((i : Nat) : Int), .pointer (some (ad.add (i * 4))), .agg #[iv o.kind, iv o.at_, .slice o.A o.d.length o.cd, .slice o.A2 o.ps.length o.cp], pq g20, iv o.kind, J 48, J 49, J 50, fv, fv] ++ jr J 53 32 ++ [tv, tv, pq gd, iv s1.flushR.2, iv s1.flushR.2, tv] ++ jr J 91 45) 29) ∧ St none' w w_ [row gm ((g_.2.map ME.v ++ jk).toArray) 52, stars (g_.2.map ME.ast), PDisk gd s1.flushR.1, row gi (bvs im) 5] ∧ (g_.1 ≤ M.length ∧ g_.2.length = M.length ∧ LF s1 M g_.2 g_.1)) (fun g_ => M.length - g_.1) (0, M) ⟨(jl [ud, ud, ud, ud, ud, ud, J 6, ud, ud, ud, ud, ud, ud, J 13, ud, ud, J 16, J 17, J 18, ud, ud, ud, ud, ud, ud, ud, ud, ud, ud, ud, ud, ud, ud, ud, ud, ud, ud, ud, ud, ud, J 40, J 41, ud, ud, ud, ud, ud, ud, J 48, J 49, J 50, ud, ud, J 53, J 54, J 55, J 56, J 57, J 58, J 59, J 60, J 61, J 62, J 63, J 64, J 65, J 66, J 67, J 68, J 69, J 70, J 71, J 72, J 73, J 74, J 75, J 76, J 77, J 78, J 79, J 80, J 81, J 82, J 83, J 84, ud, ud, ud, ud, ud, ud, J 91, J 92, J 93, J 94, J 95, J 96, J 97, J 98, J 99, J 100, J 101, J 102, J 103, J 104, J 105, J 106, J 107, J 108, J 109, J 110, J 111, J 112, J 113, J 114, J 115, J 116, J 117, J 118, J 119, J 120, J 121, J 122, J 123, J 124, J 125, J 126, J 127, J 128, J 129, J 130, J 131, J 132, J 133, J 134, J 135]), by kernel_rfl, S80, ⟨Nat.zero_le _, rfl, LF.zero s1 M⟩⟩ ?_
            rintro ⟨j, M1⟩ a_ w81 ⟨J, rfl, S82, hI83⟩
            skip
            have S82 : St none' w w81 [row gm ((M1.map ME.v ++ jk).toArray) 52, stars (M1.map ME.ast), PDisk gd s1.flushR.1, row gi (bvs im) 5] := S82
            have hI83 : (j ≤ M.length ∧ M1.length = M.length ∧ LF s1 M M1 j) := hI83
            refine wp_seq ?_
            refine wp_seq ?_
            refine wp_region_lit ?_
            refine pv (iv ((j : Nat) : Int)) ?_
            refine pv (sl gm 0 mm cm) ?_
            refine pv (iv (mm : Nat)) ?_
            refine wl_gv rfl (gv_dec (p := (((j : Nat) : Int) : Int) < (mm : Nat)) (by kernel_rfl) (fun hb84 => ?_) (fun hb84 => ?_))
            · skip
              obtain ⟨hjI, hF0, hF⟩ := hI83
              have hjM : j < M.length := by omega
              obtain ⟨m, hm⟩ : ∃ m, M[j]? = some m := ⟨_, List.getElem?_eq_getElem hjM⟩
              have hm1 := hF.old j m (Nat.le_refl _) hm
              have hne := hN.ne hm
              have hms := hN.small hm
              have hnl := List.length_pos_iff.2 hne
              obtain ⟨x, hx⟩ : ∃ x, m.C[m.C.length - 1]? = some x := ⟨_, List.getElem?_eq_getElem (by omega)⟩
              have hxg : m.C.getLast? = some x := by rw [List.getLast?_eq_getElem?]; exact hx
              have S85 : St none' w w81 [stars (M1.map ME.ast), row gm ((M1.map ME.v ++ jk).toArray) 52, PDisk gd s1.flushR.1, row gi (bvs im) 5] := St.permT [row gm ((M1.map ME.v ++ jk).toArray) 52, stars (M1.map ME.ast), PDisk gd s1.flushR.1, row gi (bvs im) 5] [1, 0, 2, 3] (by decide) rfl S82
              have S86 : St none' w w81 [vec 31 1 m.v m.C.length (m.C.map Hd.val), stars ((M1.take j).map ME.ast), stars ((M1.drop (j + 1)).map ME.ast), row gm ((M1.map ME.v ++ jk).toArray) 52, PDisk gd s1.flushR.1, row gi (bvs im) 5] := St.nth (f := ME.ast) S85 j hm1
              obtain ⟨gb, cb, jb, hmv, hcb, _, _, S87⟩ := St.vec_open S86 hnl
              refine wl_end (fr ([iv n, .slice A l.length ca, .slice A3 ops.length c3, ud, ud, ud, J 6, pq gd, tv, sl gi5 0 s.last.flatten.length s.last.flatten.length, sl gm 0 mm cm, iv ((i : Nat) : Int), pq g20, J 13, iv s1.flushR.2, iv ((j : Nat) : Int), J 16, J 17, J 18, ud, ud, ud, .tuple #[pq gd, tv], iv n, .slice A l.length ca, .tuple #[pq gd, tv], pq gd, tv, tv, fv, pq gd, fv, pq gd, sl gi5 0 s.last.flatten.length s.last.flatten.length, sl gi5 0 s.last.flatten.length s.last.flatten.length, sl gm11 0 M9.length cm12, iv ((i : Nat) : Int), .slice A3 ops.length c3, iv (ops.length : Nat), tv, J 40, J 41, .slice A3 ops.length c3, iv ((i : Nat) : Int), .pointer (some (ad.add (i * 4))), .agg #[iv o.kind, iv o.at_, .slice o.A o.d.length o.cd, .slice o.A2 o.ps.length o.cp], pq g20, iv o.kind, J 48, J 49, J 50, fv, fv] ++ jr J 53 32 ++ [tv, tv, pq gd, iv s1.flushR.2, iv s1.flushR.2, tv, iv ((j : Nat) : Int), sl gm 0 mm cm, iv (mm : Nat), tv] ++ jr J 95 41) 29) (by kernel_rfl) ?_
              refine then_n ?_
              refine wp_cond_true (by kernel_rfl) ?_
              refine wp_skip ?_
              refine then_n ?_
              refine wp_seq ?_
              refine wp_block ?_
              refine wp_region_phu (γ := Nat) 15 [14] (fun (c3_ : Nat) (i_ : Nat) => (match i_ with | 0 => .slice (some ⟨gm, 0, none⟩) mm cm | 1 => .int .i64 ((j : Nat) : Int) | 2 => .slice (some ⟨gm, 0, none⟩) mm cm | 3 => .int .i64 ((j : Nat) : Int) | 4 => .pointer (some ⟨gm, j, none⟩) | 5 => .slice (some ⟨gb, 0, none⟩) m.C.length cb | 6 => .slice (some ⟨gm, 0, none⟩) mm cm | 7 => .int .i64 ((j : Nat) : Int) | 8 => .pointer (some ⟨gm, j, none⟩) | 9 => .slice (some ⟨gb, 0, none⟩) m.C.length cb | 10 => .int .i64 (m.C.length : Nat) | 11 => .int .i64 ((m.C.length - 1 : Nat) : Int) | 12 => .pointer (some ⟨gb, m.C.length - 1, none⟩) | 13 => .slice x.A x.l.length x.c | 14 => .slice (some ⟨c3_, 0, none⟩) 1 1 | _ => undef : Value)) (fun (c3_ : Nat) (p_ : Nat) (w_ : World) => (match p_ with | 0 => St none' w w_ [row gb ((m.C.map Hd.val ++ jb).toArray) 31, stars ((M1.take j).map ME.ast), stars ((M1.drop (j + 1)).map ME.ast), row gm ((M1.map ME.v ++ jk).toArray) 52, PDisk gd s1.flushR.1, row gi (bvs im) 5] | _ => St none' w w_ [row c3_ #[.slice x.A x.l.length x.c] 31, row gb ((m.C.map Hd.val ++ jb).toArray) 31, stars ((M1.take j).map ME.ast), stars ((M1.drop (j + 1)).map ME.ast), row gm ((M1.map ME.v ++ jk).toArray) 52, PDisk gd s1.flushR.1, row gi (bvs im) 5] : Prop)) (0) (by kernel_rfl) (by kernel_rfl) (by kernel_rfl) (by kernel_rfl) (S87.drew) ?_ ?_ ?_
              · intro i_ c3_ p_ vals_ w1 hi_ hiE_ hp_ hk_ hu_ hPh_ hd_
                rcases i_ with _ | _ | _ | _ | _ | _ | _ | _ | _ | _ | _ | _ | _ | _ | _ | i_
                · skip
                  refine told_free rfl rfl (gv_env ((⟨Array.replicate 165 undef, []⟩ : Act).put (some 10) (.slice (some ⟨gm, 0, none⟩) mm cm)) (by kernel_rfl) (xs := [.tmp 10]) (by kernel_rfl) (alike_cons (fill_past (by kernel_rfl) (by kernel_rfl)) alike_nil) (gv_val (v := .slice (some ⟨gm, 0, none⟩) mm cm) (w' := w1) (by kernel_rfl) ?_))
                  exact ⟨rfl, rfl⟩
                · skip
                  refine told_free rfl rfl (gv_env ((⟨Array.replicate 165 undef, []⟩ : Act).put (some 15) (.int .i64 ((j : Nat) : Int))) (by kernel_rfl) (xs := [.tmp 15]) (by kernel_rfl) (alike_cons (fill_past (by kernel_rfl) (by kernel_rfl)) alike_nil) (gv_val (v := .int .i64 ((j : Nat) : Int)) (w' := w1) (by kernel_rfl) ?_))
                  exact ⟨rfl, rfl⟩
                · skip
                  refine told_free rfl rfl (gv_env ((⟨Array.replicate 165 undef, []⟩ : Act).put (some 10) (.slice (some ⟨gm, 0, none⟩) mm cm)) (by kernel_rfl) (xs := [.tmp 10]) (by kernel_rfl) (alike_cons (fill_past (by kernel_rfl) (by kernel_rfl)) alike_nil) (gv_val (v := .slice (some ⟨gm, 0, none⟩) mm cm) (w' := w1) (by kernel_rfl) ?_))
                  exact ⟨rfl, rfl⟩
                · skip
                  refine told_free rfl rfl (gv_env ((⟨Array.replicate 165 undef, []⟩ : Act).put (some 15) (.int .i64 ((j : Nat) : Int))) (by kernel_rfl) (xs := [.tmp 15]) (by kernel_rfl) (alike_cons (fill_past (by kernel_rfl) (by kernel_rfl)) alike_nil) (gv_val (v := .int .i64 ((j : Nat) : Int)) (w' := w1) (by kernel_rfl) ?_))
                  exact ⟨rfl, rfl⟩
                · skip
                  refine told_free rfl rfl (gv_env (((⟨Array.replicate 165 undef, []⟩ : Act).put (some 99) (.slice (some ⟨gm, 0, none⟩) mm cm)).put (some 100) (.int .i64 ((j : Nat) : Int))) (by kernel_rfl) (xs := [.tmp 99, .tmp 100]) (by kernel_rfl) (alike_cons (fill_at (k := 2) (by kernel_rfl) (by kernel_rfl) ((hd_ 2 (by kernel_rfl)).trans (by kernel_rfl))) (alike_cons (fill_at (k := 3) (by kernel_rfl) (by kernel_rfl) ((hd_ 3 (by kernel_rfl)).trans (by kernel_rfl))) alike_nil)) (gv_ixE (e := 52) (sz := 1) (g := gm) (off := 0) (n := mm) (c := cm) (i := ((j : Nat) : Int)) (k := .i64) (j := j) (off' := j) rfl (by kernel_rfl) (by kernel_rfl) (by kernel_rfl) (by kernel_rfl) rfl (by omega) (by omega) ?_))
                  exact ⟨rfl, rfl⟩
                · skip
                  rcases p_ with _ | _ | p_
                  · skip
                    have S93 : St none' w w1 [row gb ((m.C.map Hd.val ++ jb).toArray) 31, stars ((M1.take j).map ME.ast), stars ((M1.drop (j + 1)).map ME.ast), row gm ((M1.map ME.v ++ jk).toArray) 52, PDisk gd s1.flushR.1, row gi (bvs im) 5] := hPh_
                    refine told_free rfl rfl (gv_env ((⟨Array.replicate 165 undef, []⟩ : Act).put (some 101) (.pointer (some ⟨gm, j, none⟩))) (by kernel_rfl) (xs := [.tmp 101]) (by kernel_rfl) (alike_cons (fill_at (k := 4) (by kernel_rfl) (by kernel_rfl) ((hd_ 4 (by kernel_rfl)).trans (by kernel_rfl))) alike_nil) (gv_ldR (v := .slice (some ⟨gb, 0, none⟩) m.C.length cb) rfl (by kernel_rfl) (by kernel_rfl) (((S93.blk 3 rfl).cell j).trans ((me_at hm1).trans (congrArg some hmv))) ?_))
                    exact ⟨rfl, rfl⟩
                  · skip
                    exact absurd (hu_ 0 (by decide) (by kernel_rfl)) (by decide)
                  · exact absurd hp_ (by simp)
                · skip
                  refine told_free rfl rfl (gv_env ((⟨Array.replicate 165 undef, []⟩ : Act).put (some 10) (.slice (some ⟨gm, 0, none⟩) mm cm)) (by kernel_rfl) (xs := [.tmp 10]) (by kernel_rfl) (alike_cons (fill_past (by kernel_rfl) (by kernel_rfl)) alike_nil) (gv_val (v := .slice (some ⟨gm, 0, none⟩) mm cm) (w' := w1) (by kernel_rfl) ?_))
                  exact ⟨rfl, rfl⟩
                · skip
                  refine told_free rfl rfl (gv_env ((⟨Array.replicate 165 undef, []⟩ : Act).put (some 15) (.int .i64 ((j : Nat) : Int))) (by kernel_rfl) (xs := [.tmp 15]) (by kernel_rfl) (alike_cons (fill_past (by kernel_rfl) (by kernel_rfl)) alike_nil) (gv_val (v := .int .i64 ((j : Nat) : Int)) (w' := w1) (by kernel_rfl) ?_))
                  exact ⟨rfl, rfl⟩
                · skip
                  refine told_free rfl rfl (gv_env (((⟨Array.replicate 165 undef, []⟩ : Act).put (some 103) (.slice (some ⟨gm, 0, none⟩) mm cm)).put (some 104) (.int .i64 ((j : Nat) : Int))) (by kernel_rfl) (xs := [.tmp 103, .tmp 104]) (by kernel_rfl) (alike_cons (fill_at (k := 6) (by kernel_rfl) (by kernel_rfl) ((hd_ 6 (by kernel_rfl)).trans (by kernel_rfl))) (alike_cons (fill_at (k := 7) (by kernel_rfl) (by kernel_rfl) ((hd_ 7 (by kernel_rfl)).trans (by kernel_rfl))) alike_nil)) (gv_ixE (e := 52) (sz := 1) (g := gm) (off := 0) (n := mm) (c := cm) (i := ((j : Nat) : Int)) (k := .i64) (j := j) (off' := j) rfl (by kernel_rfl) (by kernel_rfl) (by kernel_rfl) (by kernel_rfl) rfl (by omega) (by omega) ?_))
                  exact ⟨rfl, rfl⟩
                · skip
                  rcases p_ with _ | _ | p_
                  · skip
                    have S97 : St none' w w1 [row gb ((m.C.map Hd.val ++ jb).toArray) 31, stars ((M1.take j).map ME.ast), stars ((M1.drop (j + 1)).map ME.ast), row gm ((M1.map ME.v ++ jk).toArray) 52, PDisk gd s1.flushR.1, row gi (bvs im) 5] := hPh_
                    refine told_free rfl rfl (gv_env ((⟨Array.replicate 165 undef, []⟩ : Act).put (some 105) (.pointer (some ⟨gm, j, none⟩))) (by kernel_rfl) (xs := [.tmp 105]) (by kernel_rfl) (alike_cons (fill_at (k := 8) (by kernel_rfl) (by kernel_rfl) ((hd_ 8 (by kernel_rfl)).trans (by kernel_rfl))) alike_nil) (gv_ldR (v := .slice (some ⟨gb, 0, none⟩) m.C.length cb) rfl (by kernel_rfl) (by kernel_rfl) (((S97.blk 3 rfl).cell j).trans ((me_at hm1).trans (congrArg some hmv))) ?_))
                    exact ⟨rfl, rfl⟩
                  · skip
                    exact absurd (hu_ 0 (by decide) (by kernel_rfl)) (by decide)
                  · exact absurd hp_ (by simp)
                · skip
                  refine told_free rfl rfl (gv_env ((⟨Array.replicate 165 undef, []⟩ : Act).put (some 106) (.slice (some ⟨gb, 0, none⟩) m.C.length cb)) (by kernel_rfl) (xs := [.tmp 106]) (by kernel_rfl) (alike_cons (fill_at (k := 9) (by kernel_rfl) (by kernel_rfl) ((hd_ 9 (by kernel_rfl)).trans (by kernel_rfl))) alike_nil) (gv_val (v := .int .i64 (m.C.length : Nat)) (w' := w1) (by kernel_rfl) ?_))
                  exact ⟨rfl, rfl⟩
                · skip
                  refine told_free rfl rfl (gv_env ((⟨Array.replicate 165 undef, []⟩ : Act).put (some 107) (.int .i64 (m.C.length : Nat))) (by kernel_rfl) (xs := [.tmp 107, .const (.int .i64 1)]) (by kernel_rfl) (alike_cons (fill_at (k := 10) (by kernel_rfl) (by kernel_rfl) ((hd_ 10 (by kernel_rfl)).trans (by kernel_rfl))) (alike_cons eval_c alike_nil)) (gv_int (k := .i64) (z := IntKind.i64.wrap ((m.C.length : Nat) - 1)) (z' := ((m.C.length - 1 : Nat) : Int)) (by kernel_rfl) (wr_eq (by omega) (by omega) (by omega)) ?_))
                  exact ⟨rfl, rfl⟩
                · skip
                  refine told_free rfl rfl (gv_env (((⟨Array.replicate 165 undef, []⟩ : Act).put (some 102) (.slice (some ⟨gb, 0, none⟩) m.C.length cb)).put (some 108) (.int .i64 ((m.C.length - 1 : Nat) : Int))) (by kernel_rfl) (xs := [.tmp 102, .tmp 108]) (by kernel_rfl) (alike_cons (fill_at (k := 5) (by kernel_rfl) (by kernel_rfl) ((hd_ 5 (by kernel_rfl)).trans (by kernel_rfl))) (alike_cons (fill_at (k := 11) (by kernel_rfl) (by kernel_rfl) ((hd_ 11 (by kernel_rfl)).trans (by kernel_rfl))) alike_nil)) (gv_ixE (e := 31) (sz := 1) (g := gb) (off := 0) (n := m.C.length) (c := cb) (i := ((m.C.length - 1 : Nat) : Int)) (k := .i64) (j := (m.C.length - 1)) (off' := (m.C.length - 1)) rfl (by kernel_rfl) (by kernel_rfl) (by kernel_rfl) (by kernel_rfl) rfl (by omega) (by omega) ?_))
                  exact ⟨rfl, rfl⟩
                · skip
                  rcases p_ with _ | _ | p_
                  · skip
                    have S101 : St none' w w1 [row gb ((m.C.map Hd.val ++ jb).toArray) 31, stars ((M1.take j).map ME.ast), stars ((M1.drop (j + 1)).map ME.ast), row gm ((M1.map ME.v ++ jk).toArray) 52, PDisk gd s1.flushR.1, row gi (bvs im) 5] := hPh_
                    refine told_free rfl rfl (gv_env ((⟨Array.replicate 165 undef, []⟩ : Act).put (some 109) (.pointer (some ⟨gb, m.C.length - 1, none⟩))) (by kernel_rfl) (xs := [.tmp 109]) (by kernel_rfl) (alike_cons (fill_at (k := 12) (by kernel_rfl) (by kernel_rfl) ((hd_ 12 (by kernel_rfl)).trans (by kernel_rfl))) alike_nil) (gv_ldR (v := Hd.val x) rfl (by kernel_rfl) (by kernel_rfl) (((S101.blk 0 rfl).cell (m.C.length - 1)).trans (hd_at hx)) ?_))
                    exact ⟨rfl, rfl⟩
                  · skip
                    exact absurd (hu_ 0 (by decide) (by kernel_rfl)) (by decide)
                  · exact absurd hp_ (by simp)
                · skip
                  exact absurd hiE_ (by decide)
                · exact absurd hi_ (by omega)
              · intro k_ c3_ vals_ w1 hk_ hPh_ hd_
                rcases k_ with _ | k_
                · skip
                  have S102 : St none' w w1 [row gb ((m.C.map Hd.val ++ jb).toArray) 31, stars ((M1.take j).map ME.ast), stars ((M1.drop (j + 1)).map ME.ast), row gm ((M1.map ME.v ++ jk).toArray) 52, PDisk gd s1.flushR.1, row gi (bvs im) 5] := hPh_
                  refine told_free rfl rfl (gv_env ((⟨Array.replicate 165 undef, []⟩ : Act).put (some 110) (.slice x.A x.l.length x.c)) (by kernel_rfl) (xs := [.tmp 110]) (by kernel_rfl) (alike_cons (fill_at (k := 13) (by kernel_rfl) (by kernel_rfl) ((hd_ 13 (by kernel_rfl)).trans (by kernel_rfl))) alike_nil) (gv_slit (e := 31) (sz := 1) (z := .slice none 0 0) (by_ := 24) (vs := #[(0, .slice x.A x.l.length x.c)]) (cells := #[.slice x.A x.l.length x.c]) S102 rfl (by kernel_rfl) ⟨by kernel_rfl⟩ (by kernel_rfl) (by kernel_rfl) (by kernel_rfl) (by kernel_rfl) (fun g103 w104 hg105 S106 => ?_)))
                  refine ⟨(g103), rfl, ?_, S106⟩
                  intro i_ hi_ hne_ hdp_
                  rcases i_ with _ | _ | _ | _ | _ | _ | _ | _ | _ | _ | _ | _ | _ | _ | _ | i_
                  · rfl
                  · rfl
                  · rfl
                  · rfl
                  · rfl
                  · rfl
                  · rfl
                  · rfl
                  · rfl
                  · rfl
                  · rfl
                  · rfl
                  · rfl
                  · rfl
                  · exact absurd rfl hne_
                  · exact absurd hi_ (by omega)
                · exact absurd hk_ (by simp)
              · intro c3_ w1 hPh_
                have S107 : St none' w w1 [row c3_ #[.slice x.A x.l.length x.c] 31, row gb ((m.C.map Hd.val ++ jb).toArray) 31, stars ((M1.take j).map ME.ast), stars ((M1.drop (j + 1)).map ME.ast), row gm ((M1.map ME.v ++ jk).toArray) 52, PDisk gd s1.flushR.1, row gi (bvs im) 5] := hPh_
                refine wl_frame (fr ([iv n, .slice A l.length ca, .slice A3 ops.length c3, ud, ud, ud, J 6, pq gd, tv, sl gi5 0 s.last.flatten.length s.last.flatten.length, sl gm 0 mm cm, iv ((i : Nat) : Int), pq g20, J 13, iv s1.flushR.2, iv ((j : Nat) : Int), J 16, J 17, J 18, ud, ud, ud, .tuple #[pq gd, tv], iv n, .slice A l.length ca, .tuple #[pq gd, tv], pq gd, tv, tv, fv, pq gd, fv, pq gd, sl gi5 0 s.last.flatten.length s.last.flatten.length, sl gi5 0 s.last.flatten.length s.last.flatten.length, sl gm11 0 M9.length cm12, iv ((i : Nat) : Int), .slice A3 ops.length c3, iv (ops.length : Nat), tv, J 40, J 41, .slice A3 ops.length c3, iv ((i : Nat) : Int), .pointer (some (ad.add (i * 4))), .agg #[iv o.kind, iv o.at_, .slice o.A o.d.length o.cd, .slice o.A2 o.ps.length o.cp], pq g20, iv o.kind, J 48, J 49, J 50, fv, fv] ++ jr J 53 32 ++ [tv, tv, pq gd, iv s1.flushR.2, iv s1.flushR.2, tv, iv ((j : Nat) : Int), sl gm 0 mm cm, iv (mm : Nat), tv, J 95, J 96, sl gm 0 mm cm, iv ((j : Nat) : Int), sl gm 0 mm cm, iv ((j : Nat) : Int), po gm j, sl gb 0 m.C.length cb, sl gm 0 mm cm, iv ((j : Nat) : Int), po gm j, sl gb 0 m.C.length cb, iv (m.C.length : Nat), iv ((m.C.length - 1 : Nat) : Int), po gb (m.C.length - 1), .slice x.A x.l.length x.c, sl c3_ 0 1 1] ++ jr J 112 24) 29) (by kernel_rfl) ?_
                refine wl_gv rfl (gv_ixE (e := 52) (sz := 1) (g := gm) (off := 0) (n := mm) (c := cm) (i := ((j : Nat) : Int)) (k := .i64) (j := j) (off' := j) rfl (by kernel_rfl) (by kernel_rfl) (by kernel_rfl) (by kernel_rfl) rfl (by omega) (by omega) ?_)
                refine wl_gv rfl (gv_st (k := j) (v := .slice (some ⟨c3_, 0, none⟩) 1 1) S107 4 rfl rfl (by kernel_rfl) (by kernel_rfl) (by kernel_rfl) rfl (me_blt (by omega)) (L' := [row c3_ #[.slice x.A x.l.length x.c] 31, row gb ((m.C.map Hd.val ++ jb).toArray) 31, stars ((M1.take j).map ME.ast), stars ((M1.drop (j + 1)).map ME.ast), row gm (((M1.set j ⟨.slice (some ⟨c3_, 0, none⟩) 1 1, [x]⟩).map ME.v ++ jk).toArray) 52, PDisk gd s1.flushR.1, row gi (bvs im) 5]) (by rw [me_set (m := ⟨.slice (some ⟨c3_, 0, none⟩) 1 1, [x]⟩) (by omega)]; rfl) (fun w108 S109 => ?_))
                refine wl_end (fr ([iv n, .slice A l.length ca, .slice A3 ops.length c3, ud, ud, ud, J 6, pq gd, tv, sl gi5 0 s.last.flatten.length s.last.flatten.length, sl gm 0 mm cm, iv ((i : Nat) : Int), pq g20, J 13, iv s1.flushR.2, iv ((j : Nat) : Int), J 16, J 17, J 18, ud, ud, ud, .tuple #[pq gd, tv], iv n, .slice A l.length ca, .tuple #[pq gd, tv], pq gd, tv, tv, fv, pq gd, fv, pq gd, sl gi5 0 s.last.flatten.length s.last.flatten.length, sl gi5 0 s.last.flatten.length s.last.flatten.length, sl gm11 0 M9.length cm12, iv ((i : Nat) : Int), .slice A3 ops.length c3, iv (ops.length : Nat), tv, J 40, J 41, .slice A3 ops.length c3, iv ((i : Nat) : Int), .pointer (some (ad.add (i * 4))), .agg #[iv o.kind, iv o.at_, .slice o.A o.d.length o.cd, .slice o.A2 o.ps.length o.cp], pq g20, iv o.kind, J 48, J 49, J 50, fv, fv] ++ jr J 53 32 ++ [tv, tv, pq gd, iv s1.flushR.2, iv s1.flushR.2, tv, iv ((j : Nat) : Int), sl gm 0 mm cm, iv (mm : Nat), tv, J 95, J 96, sl gm 0 mm cm, iv ((j : Nat) : Int), sl gm 0 mm cm, iv ((j : Nat) : Int), po gm j, sl gb 0 m.C.length cb, sl gm 0 mm cm, iv ((j : Nat) : Int), po gm j, sl gb 0 m.C.length cb, iv (m.C.length : Nat), iv ((m.C.length - 1 : Nat) : Int), po gb (m.C.length - 1), .slice x.A x.l.length x.c, sl c3_ 0 1 1, po gm j] ++ jr J 113 23) 29) (by kernel_rfl) ?_
                have S110 : St none' w w108 [row c3_ #[.slice x.A x.l.length x.c] 31, stars ((M1.take j).map ME.ast), stars ((M1.drop (j + 1)).map ME.ast), row gm (((M1.set j ⟨.slice (some ⟨c3_, 0, none⟩) 1 1, [x]⟩).map ME.v ++ jk).toArray) 52, PDisk gd s1.flushR.1, row gi (bvs im) 5] := St.permT [row c3_ #[.slice x.A x.l.length x.c] 31, row gb ((m.C.map Hd.val ++ jb).toArray) 31, stars ((M1.take j).map ME.ast), stars ((M1.drop (j + 1)).map ME.ast), row gm (((M1.set j ⟨.slice (some ⟨c3_, 0, none⟩) 1 1, [x]⟩).map ME.v ++ jk).toArray) 52, PDisk gd s1.flushR.1, row gi (bvs im) 5] [0, 2, 3, 4, 5, 6] (by decide) rfl S109
                have S111 : St none' w w108 [ME.ast (⟨.slice (some ⟨c3_, 0, none⟩) 1 1, [x]⟩ : ME), stars ((M1.take j).map ME.ast), stars ((M1.drop (j + 1)).map ME.ast), row gm (((M1.set j ⟨.slice (some ⟨c3_, 0, none⟩) 1 1, [x]⟩).map ME.v ++ jk).toArray) 52, PDisk gd s1.flushR.1, row gi (bvs im) 5] := St.vec_mk (vals := [Hd.val x]) (junk := []) S110 (Nat.le_refl _) rfl rfl
                have S112 : St none' w w108 [stars ((M1.set j ⟨.slice (some ⟨c3_, 0, none⟩) 1 1, [x]⟩).map ME.ast), row gm (((M1.set j ⟨.slice (some ⟨c3_, 0, none⟩) 1 1, [x]⟩).map ME.v ++ jk).toArray) 52, PDisk gd s1.flushR.1, row gi (bvs im) 5] := St.fill (f := ME.ast) (x := ⟨.slice (some ⟨c3_, 0, none⟩) 1 1, [x]⟩) j (by omega) S111
                have S113 : St none' w w108 [row gm (((M1.set j ⟨.slice (some ⟨c3_, 0, none⟩) 1 1, [x]⟩).map ME.v ++ jk).toArray) 52, stars ((M1.set j ⟨.slice (some ⟨c3_, 0, none⟩) 1 1, [x]⟩).map ME.ast), PDisk gd s1.flushR.1, row gi (bvs im) 5] := St.permT [stars ((M1.set j ⟨.slice (some ⟨c3_, 0, none⟩) 1 1, [x]⟩).map ME.ast), row gm (((M1.set j ⟨.slice (some ⟨c3_, 0, none⟩) 1 1, [x]⟩).map ME.v ++ jk).toArray) 52, PDisk gd s1.flushR.1, row gi (bvs im) 5] [1, 0, 2, 3] (by decide) rfl S112
                refine inb_n ?_
                refine then_n ?_
                refine wp_region_lit ?_
                refine pv (iv ((j : Nat) : Int)) ?_
                refine wl_gv rfl (gv_int (k := .i64) (z := IntKind.i64.wrap (((j : Nat) : Int) + 1)) (z' := ((j + 1 : Nat) : Int)) (by kernel_rfl) (wr_eq (by omega) (by omega) (by omega)) ?_)
                refine pv (iv ((j + 1 : Nat) : Int)) ?_
                refine wl_end _ rfl ?_
                refine then_n ?_
                exact ⟨(j + 1, M1.set j ⟨.slice (some ⟨c3_, 0, none⟩) 1 1, [x]⟩), ⟨(jl [ud, ud, ud, ud, ud, ud, J 6, ud, ud, ud, ud, ud, ud, J 13, ud, ud, J 16, J 17, J 18, ud, ud, ud, ud, ud, ud, ud, ud, ud, ud, ud, ud, ud, ud, ud, ud, ud, ud, ud, ud, ud, J 40, J 41, ud, ud, ud, ud, ud, ud, J 48, J 49, J 50, ud, ud, J 53, J 54, J 55, J 56, J 57, J 58, J 59, J 60, J 61, J 62, J 63, J 64, J 65, J 66, J 67, J 68, J 69, J 70, J 71, J 72, J 73, J 74, J 75, J 76, J 77, J 78, J 79, J 80, J 81, J 82, J 83, J 84, ud, ud, ud, ud, ud, ud, iv ((j : Nat) : Int), sl gm 0 mm cm, iv (mm : Nat), tv, iv ((j : Nat) : Int), iv ((j + 1 : Nat) : Int), sl gm 0 mm cm, iv ((j : Nat) : Int), sl gm 0 mm cm, iv ((j : Nat) : Int), po gm j, sl gb 0 m.C.length cb, sl gm 0 mm cm, iv ((j : Nat) : Int), po gm j, sl gb 0 m.C.length cb, iv (m.C.length : Nat), iv ((m.C.length - 1 : Nat) : Int), po gb (m.C.length - 1), .slice x.A x.l.length x.c, sl c3_ 0 1 1, po gm j, J 113, J 114, J 115, J 116, J 117, J 118, J 119, J 120, J 121, J 122, J 123, J 124, J 125, J 126, J 127, J 128, J 129, J 130, J 131, J 132, J 133, J 134, J 135]), by kernel_rfl, S113, ⟨by omega, by rw [List.length_set]; exact hF0, hF.step hm hxg⟩⟩, (by show M.length - (j + 1) < M.length - j; omega)⟩
            · skip
              obtain ⟨hjI, hF0, hF⟩ := hI83
              have hje : j = s1.last.length := by omega
              rw [hje] at hF
              have hN2 : TF w s1.flushR.1 M1 gi im := hN.flush (by rw [hw]) (by rw [hw]) hF
              have hhd : heads M1 = s1.flushR.1.last.flatten := hN2.heads (by rw [hw])
              refine wl_end (fr ([iv n, .slice A l.length ca, .slice A3 ops.length c3, ud, ud, ud, J 6, pq gd, tv, sl gi5 0 s.last.flatten.length s.last.flatten.length, sl gm 0 mm cm, iv ((i : Nat) : Int), pq g20, J 13, iv s1.flushR.2, iv ((j : Nat) : Int), J 16, J 17, J 18, ud, ud, ud, .tuple #[pq gd, tv], iv n, .slice A l.length ca, .tuple #[pq gd, tv], pq gd, tv, tv, fv, pq gd, fv, pq gd, sl gi5 0 s.last.flatten.length s.last.flatten.length, sl gi5 0 s.last.flatten.length s.last.flatten.length, sl gm11 0 M9.length cm12, iv ((i : Nat) : Int), .slice A3 ops.length c3, iv (ops.length : Nat), tv, J 40, J 41, .slice A3 ops.length c3, iv ((i : Nat) : Int), .pointer (some (ad.add (i * 4))), .agg #[iv o.kind, iv o.at_, .slice o.A o.d.length o.cd, .slice o.A2 o.ps.length o.cp], pq g20, iv o.kind, J 48, J 49, J 50, fv, fv] ++ jr J 53 32 ++ [tv, tv, pq gd, iv s1.flushR.2, iv s1.flushR.2, tv, iv ((j : Nat) : Int), sl gm 0 mm cm, iv (mm : Nat), fv] ++ jr J 95 41) 29) (by kernel_rfl) ?_
              refine then_n ?_
              refine wp_cond_false (by kernel_rfl) ?_
              refine wp_exit ?_
              refine then_x ?_
              refine then_x ?_
              refine inb_x ?_
              refine then_n ?_
              refine wp_seq ?_
              refine wp_region_lit ?_
              refine pv (pq gd) ?_
              refine wl_gv rfl (gv_call (args := #[.pointer (some ⟨gd, 0, none⟩)]) rfl Try.func25 (by kernel_rfl) rfl rfl (by kernel_rfl) ?_)
              have S114 : St none' w w81 [PDisk gd s1.flushR.1, row gm ((M1.map ME.v ++ jk).toArray) 52, stars (M1.map ME.ast), row gi (bvs im) 5] := St.permT [row gm ((M1.map ME.v ++ jk).toArray) 52, stars (M1.map ME.ast), PDisk gd s1.flushR.1, row gi (bvs im) 5] [2, 0, 1, 3] (by decide) rfl S82
              obtain ⟨h118a, h118b⟩ := St.pd_small S114
              obtain ⟨h118c, _⟩ := St.pd_n1 S114
              have h118d := flat_len h118a
              refine Calls.mono (pd_image S114) ?_
              rintro _ w115 ⟨v_, rfl, S116⟩
              obtain ⟨gi117, rfl, S116'⟩ := St.bytes_open S116 (by omega)
              refine ⟨_, rfl, ?_⟩
              refine pv (sl gi117 0 s1.flushR.1.last.flatten.length s1.flushR.1.last.flatten.length) ?_
              refine wl_end _ rfl ?_
              refine then_n ?_
              refine wp_seq ?_
              refine wp_region_lit ?_
              refine pv (sl gi117 0 s1.flushR.1.last.flatten.length s1.flushR.1.last.flatten.length) ?_
              refine pv (sl gm 0 mm cm) ?_
              refine wl_gv rfl (gv_call (args := #[.slice (some ⟨gm, 0, none⟩) mm cm]) rfl Try.func43 (by kernel_rfl) rfl rfl (by kernel_rfl) ?_)
              have S119 : St none' w w115 [row gm ((M1.map ME.v ++ jk).toArray) 52, stars (M1.map ME.ast), PDisk gd s1.flushR.1, row gi117 (bvs s1.flushR.1.last.flatten) 5, row gi (bvs im) 5] := St.permT [row gi117 (bvs s1.flushR.1.last.flatten) 5, PDisk gd s1.flushR.1, row gm ((M1.map ME.v ++ jk).toArray) 52, stars (M1.map ME.ast), row gi (bvs im) 5] [2, 3, 1, 0, 4] (by decide) rfl S116'
              have hNl2 := hN2.len
              have hNn2' := hN2.n2
              refine Calls.mono (joined_all S119 (fun m hm x hx => RoT.more (RoT.more (hN2.ro m hm x hx))) (fun m hm => by obtain ⟨k, hk'⟩ := List.getElem?_of_mem hm; have he := hN2.eq k m hk'; rw [candS_nil (by rw [hw])] at he; cases hC : m.C with
                                                                                                                              | nil => rw [hC] at he; cases he
                                                                                                                              | cons y r => refine ⟨y, r, rfl, ?_⟩; rw [hC] at he; have hy : y.l = _ := (List.cons.inj he).1; rw [hy]; exact h118a _ (List.mem_of_getElem? (mem_getD (by have := (List.getElem?_eq_some_iff.1 hk').1; omega)))) (by omega) (hF0.trans hmI).symm) ?_
              rintro _ w120 ⟨v_, rfl, hhl, S121⟩
              obtain ⟨AJ, cJ, rfl⟩ := St.vec_v S121 0 rfl
              refine ⟨_, rfl, ?_⟩
              refine wl_gv rfl (gv_call (args := #[.slice (some ⟨gi117, 0, none⟩) s1.flushR.1.last.flatten.length s1.flushR.1.last.flatten.length, .slice AJ ((heads M1).length) cJ]) rfl Try.func28 (by kernel_rfl) rfl rfl (by kernel_rfl) ?_)
              refine Calls.mono (same_b (a := s1.flushR.1.last.flatten) (b := heads M1) (decide_eq_true hhd.symm) S121 (RoT.item 4 rfl 0 s1.flushR.1.last.flatten.length _ (by rw [List.drop_zero, List.take_length])) (rot_vec 0 rfl) (by omega) (by omega)) ?_
              rintro _ w122 ⟨rfl, S123⟩
              refine ⟨_, rfl, ?_⟩
              refine pv fv ?_
              refine wl_end _ rfl ?_
              refine then_n ?_
              refine wp_cond_false (by kernel_rfl) ?_
              refine wp_skip ?_
              refine inb_n ?_
              refine inb_n ?_
              refine then_n ?_
              refine wp_region_lit ?_
              refine pv (iv ((i : Nat) : Int)) ?_
              refine wl_gv rfl (gv_int (k := .i64) (z := IntKind.i64.wrap (((i : Nat) : Int) + 1)) (z' := ((i + 1 : Nat) : Int)) (by kernel_rfl) (wr_eq (by omega) (by omega) (by omega)) ?_)
              refine pv (iv ((i + 1 : Nat) : Int)) ?_
              have S124 : St none' w w122 [PDisk gd s1.flushR.1, row gm ((M1.map ME.v ++ jk).toArray) 52, stars (M1.map ME.ast), row gi (bvs im) 5] := St.permT [vec 5 1 (.slice AJ (heads M1).length cJ) (heads M1).length ((heads M1).map bv), row gm ((M1.map ME.v ++ jk).toArray) 52, stars (M1.map ME.ast), PDisk gd s1.flushR.1, row gi117 (bvs s1.flushR.1.last.flatten) 5, row gi (bvs im) 5] [3, 1, 2, 5] (by decide) rfl S123
              have hnf : TF w s1.flushR.1 M1 gi im := hN2
              have hpb : s1.flushR.1.pend.length ≤ i + 1 := Nat.le_trans (flushR_pend s1) (by omega)
              have hcap : mm ≤ cm := hcI
              refine wl_end _ rfl ?_
              refine then_n ?_
              exact ⟨(i + 1, s1.flushR.1, M1, gm, cm, jk, gi, im, mm), ⟨(jl [ud, ud, ud, ud, ud, ud, J 6, ud, ud, ud, ud, ud, pq g20, J 13, iv s1.flushR.2, iv ((j : Nat) : Int), sl gi117 0 s1.flushR.1.last.flatten.length s1.flushR.1.last.flatten.length, J 17, J 18, ud, ud, ud, ud, ud, ud, ud, ud, ud, ud, ud, ud, ud, ud, ud, ud, ud, iv ((i : Nat) : Int), .slice A3 ops.length c3, iv (ops.length : Nat), tv, iv ((i : Nat) : Int), iv ((i + 1 : Nat) : Int), .slice A3 ops.length c3, iv ((i : Nat) : Int), .pointer (some (ad.add (i * 4))), .agg #[iv o.kind, iv o.at_, .slice o.A o.d.length o.cd, .slice o.A2 o.ps.length o.cp], pq g20, iv o.kind, J 48, J 49, J 50, fv, fv, J 53, J 54, J 55, J 56, J 57, J 58, J 59, J 60, J 61, J 62, J 63, J 64, J 65, J 66, J 67, J 68, J 69, J 70, J 71, J 72, J 73, J 74, J 75, J 76, J 77, J 78, J 79, J 80, J 81, J 82, J 83, J 84, tv, tv, pq gd, iv s1.flushR.2, iv s1.flushR.2, tv, iv ((j : Nat) : Int), sl gm 0 mm cm, iv (mm : Nat), fv, J 95, J 96, J 97, J 98, J 99, J 100, J 101, J 102, J 103, J 104, J 105, J 106, J 107, J 108, J 109, J 110, J 111, J 112, pq gd, sl gi117 0 s1.flushR.1.last.flatten.length s1.flushR.1.last.flatten.length, sl gi117 0 s1.flushR.1.last.flatten.length s1.flushR.1.last.flatten.length, sl gm 0 mm cm, .slice AJ ((heads M1).length) cJ, tv, fv, J 120, J 121, J 122, J 123, J 124, J 125, J 126, J 127, J 128, J 129, J 130, J 131, J 132, J 133, J 134, J 135]), by kernel_rfl, S124, ⟨by omega, hpb, hnf, hcap, (hF0.trans hmI)⟩⟩, (by show ops.length - (i + 1) < ops.length - i; omega)⟩
          · skip
            have hw : s1.flushR = (s1, 3) := (flushR_cases s1).elim (fun q => q.2) (fun q => absurd (show s1.flushR.2 = 0 by rw [q.2]) hb79)
            refine wl_end _ rfl ?_
            refine then_n ?_
            refine wp_cond_false (by kernel_rfl) ?_
            refine wp_skip ?_
            refine inb_n ?_
            refine inb_n ?_
            refine then_n ?_
            refine wp_region_lit ?_
            refine pv (iv ((i : Nat) : Int)) ?_
            refine wl_gv rfl (gv_int (k := .i64) (z := IntKind.i64.wrap (((i : Nat) : Int) + 1)) (z' := ((i + 1 : Nat) : Int)) (by kernel_rfl) (wr_eq (by omega) (by omega) (by omega)) ?_)
            refine pv (iv ((i + 1 : Nat) : Int)) ?_
            have S125 : St none' w w77 [PDisk gd s1.flushR.1, row gm ((M.map ME.v ++ jk).toArray) 52, stars (M.map ME.ast), row gi (bvs im) 5] := St.permT [PDisk gd s1.flushR.1, row g20 #[.int .i64 o.kind, .int .i64 o.at_, .slice o.A o.d.length o.cd, .slice o.A2 o.ps.length o.cp] 49, row gm ((M.map ME.v ++ jk).toArray) 52, stars (M.map ME.ast), row gi (bvs im) 5] [0, 2, 3, 4] (by decide) rfl S78
            have hnf : TF w s1.flushR.1 M gi im := hN.congr (by rw [hw]) (by rw [hw])
            have hpb : s1.flushR.1.pend.length ≤ i + 1 := Nat.le_trans (flushR_pend s1) (by omega)
            have hcap : mm ≤ cm := hcI
            refine wl_end _ rfl ?_
            refine then_n ?_
            exact ⟨(i + 1, s1.flushR.1, M, gm, cm, jk, gi, im, mm), ⟨(jl [ud, ud, ud, ud, ud, ud, J 6, ud, ud, ud, ud, ud, pq g20, J 13, iv s1.flushR.2, J 15, J 16, J 17, J 18, ud, ud, ud, ud, ud, ud, ud, ud, ud, ud, ud, ud, ud, ud, ud, ud, ud, iv ((i : Nat) : Int), .slice A3 ops.length c3, iv (ops.length : Nat), tv, iv ((i : Nat) : Int), iv ((i + 1 : Nat) : Int), .slice A3 ops.length c3, iv ((i : Nat) : Int), .pointer (some (ad.add (i * 4))), .agg #[iv o.kind, iv o.at_, .slice o.A o.d.length o.cd, .slice o.A2 o.ps.length o.cp], pq g20, iv o.kind, J 48, J 49, J 50, fv, fv, J 53, J 54, J 55, J 56, J 57, J 58, J 59, J 60, J 61, J 62, J 63, J 64, J 65, J 66, J 67, J 68, J 69, J 70, J 71, J 72, J 73, J 74, J 75, J 76, J 77, J 78, J 79, J 80, J 81, J 82, J 83, J 84, tv, tv, pq gd, iv s1.flushR.2, iv s1.flushR.2, fv, J 91, J 92, J 93, J 94, J 95, J 96, J 97, J 98, J 99, J 100, J 101, J 102, J 103, J 104, J 105, J 106, J 107, J 108, J 109, J 110, J 111, J 112, J 113, J 114, J 115, J 116, J 117, J 118, J 119, J 120, J 121, J 122, J 123, J 124, J 125, J 126, J 127, J 128, J 129, J 130, J 131, J 132, J 133, J 134, J 135]), by kernel_rfl, S125, ⟨by omega, hpb, hnf, hcap, hmI⟩⟩, (by show ops.length - (i + 1) < ops.length - i; omega)⟩
        · skip
          refine pv fv ?_
          refine wl_end _ rfl ?_
          refine then_n ?_
          refine wp_cond_false (by kernel_rfl) ?_
          refine wp_seq ?_
          refine wp_region_lit ?_
          refine wl_gv rfl (gv_eq (x := o.kind) (y := 6) (by kernel_rfl) (fun k6 => ?_) (fun k6 => ?_))
          · skip
            refine pv tv ?_
            refine wl_end _ rfl ?_
            refine then_n ?_
            refine wp_cond_true (by kernel_rfl) ?_
            refine wp_seq ?_
            refine wp_region_lit ?_
            refine pv (pq gd) ?_
            refine pv (po g20 3) ?_
            refine wl_gv rfl (gv_ldR (v := .slice o.A2 o.ps.length o.cp) rfl (by kernel_rfl) (by kernel_rfl) (((S25.blk 0 rfl).cell 3).trans rfl) ?_)
            refine wl_gv rfl (gv_call (args := #[.slice o.A2 o.ps.length o.cp]) rfl Try.func37 (by kernel_rfl) rfl rfl (by kernel_rfl) ?_)
            have S126 : St none' w w24 [PDisk gd s1, row g20 #[.int .i64 o.kind, .int .i64 o.at_, .slice o.A o.d.length o.cd, .slice o.A2 o.ps.length o.cp] 49, row gm ((M.map ME.v ++ jk).toArray) 52, stars (M.map ME.ast), row gi (bvs im) 5] := St.permT [row g20 #[.int .i64 o.kind, .int .i64 o.at_, .slice o.A o.d.length o.cd, .slice o.A2 o.ps.length o.cp] 49, PDisk gd s1, row gm ((M.map ME.v ++ jk).toArray) 52, stars (M.map ME.ast), row gi (bvs im) 5] [1, 0, 2, 3, 4] (by decide) rfl S25
            have hSb := S126
            refine Calls.mono (tpicks (ps := o.ps) S126 (RoV.of_rd hk.p _) hk.pm) ?_
            rintro _ w128 ⟨g127, rfl, S129⟩
            refine ⟨_, rfl, ?_⟩
            refine wl_gv rfl (gv_call (args := #[.pointer (some ⟨gd, 0, none⟩), .slice (some ⟨g127, 0, none⟩) o.ps.length o.ps.length]) rfl Try.func36 (by kernel_rfl) rfl rfl (by kernel_rfl) ?_)
            have S130 : St none' w w128 [PDisk gd s1, row g127 ((picksV o.ps).toArray) 66, row g20 #[.int .i64 o.kind, .int .i64 o.at_, .slice o.A o.d.length o.cd, .slice o.A2 o.ps.length o.cp] 49, row gm ((M.map ME.v ++ jk).toArray) 52, stars (M.map ME.ast), row gi (bvs im) 5] := St.permT [row g127 ((picksV o.ps).toArray) 66, PDisk gd s1, row g20 #[.int .i64 o.kind, .int .i64 o.at_, .slice o.A o.d.length o.cd, .slice o.A2 o.ps.length o.cp] 49, row gm ((M.map ME.v ++ jk).toArray) 52, stars (M.map ME.ast), row gi (bvs im) 5] [1, 0, 2, 3, 4, 5] (by decide) rfl S129
            refine Calls.mono (pd_crash S130 (RoV.item 0 rfl) rfl (by have := hk.pm; omega)) ?_
            rintro _ w131 ⟨rfl, S132⟩
            refine ⟨_, rfl, ?_⟩
            refine wl_end _ rfl ?_
            refine then_n ?_
            refine wp_seq ?_
            refine wp_region_lit ?_
            refine pv (pq gd) ?_
            refine pv (sl gm 0 mm cm) ?_
            refine wl_gv rfl (gv_call (args := #[.pointer (some ⟨gd, 0, none⟩), .slice (some ⟨gm, 0, none⟩) mm cm]) rfl Try.func44 (by kernel_rfl) rfl rfl (by kernel_rfl) ?_)
            have S133 : St none' w w131 [PDisk gd (s1.crashR o.ps), row gm ((M.map ME.v ++ jk).toArray) 52, stars (M.map ME.ast), row gi (bvs im) 5] := St.permT [PDisk gd (s1.crashR o.ps), row g127 ((picksV o.ps).toArray) 66, row g20 #[.int .i64 o.kind, .int .i64 o.at_, .slice o.A o.d.length o.cd, .slice o.A2 o.ps.length o.cp] 49, row gm ((M.map ME.v ++ jk).toArray) 52, stars (M.map ME.ast), row gi (bvs im) 5] [0, 3, 4, 5] (by decide) rfl S132
            obtain ⟨hc5a, _⟩ := St.pd_small S133
            have hcl := crashR_len s1 o.ps
            obtain ⟨hp51, hp52⟩ := St.pd_small hSb
            obtain ⟨_, hp53⟩ := St.pd_n1 hSb
            have hc512 : ∀ k < s1.last.length, ∀ c ∈ candS s1 k, c.length = 512 := fun k hk c hc => (List.mem_cons.1 hc).elim (fun e => by rw [e]; exact hp51 _ (List.mem_of_getElem? (mem_getD hk))) (fun e => by unfold pendOf at e; obtain ⟨y, hy, rfl⟩ := List.mem_map.1 e; exact (hp53 y (List.mem_filter.1 hy).1).2)
            refine Calls.mono (torn_all S133 (fun m hm x hx => hN.ro m hm x hx) (by omega) (fun k m hm => by rw [hN.eq k m hm]; exact crash_spl (by have := (List.getElem?_eq_some_iff.1 hm).1; omega) o.ps) (fun m hm x hx => by obtain ⟨k, hk'⟩ := List.getElem?_of_mem hm; have hkl := (List.getElem?_eq_some_iff.1 hk').1; exact hc512 k (by omega) x.l (by rw [← hN.eq k m hk']; exact List.mem_map.2 ⟨x, hx, rfl⟩)) (fun m hm => by obtain ⟨k, hk'⟩ := List.getElem?_of_mem hm; have := hN.small hk'; omega) hmI.symm) ?_
            rintro _ w134 ⟨rfl, S135⟩
            refine ⟨_, rfl, ?_⟩
            refine pv tv ?_
            refine wl_end (fr ([iv n, .slice A l.length ca, .slice A3 ops.length c3, ud, ud, ud, J 6, pq gd, tv, sl gi5 0 s.last.flatten.length s.last.flatten.length, sl gm 0 mm cm, iv ((i : Nat) : Int), pq g20] ++ jr J 13 4 ++ [tv, J 18, ud, ud, ud, .tuple #[pq gd, tv], iv n, .slice A l.length ca, .tuple #[pq gd, tv], pq gd, tv, tv, fv, pq gd, fv, pq gd, sl gi5 0 s.last.flatten.length s.last.flatten.length, sl gi5 0 s.last.flatten.length s.last.flatten.length, sl gm11 0 M9.length cm12, iv ((i : Nat) : Int), .slice A3 ops.length c3, iv (ops.length : Nat), tv, J 40, J 41, .slice A3 ops.length c3, iv ((i : Nat) : Int), .pointer (some (ad.add (i * 4))), .agg #[iv o.kind, iv o.at_, .slice o.A o.d.length o.cd, .slice o.A2 o.ps.length o.cp], pq g20, iv o.kind, J 48, J 49, J 50, fv, fv] ++ jr J 53 32 ++ [fv, fv] ++ jr J 87 33 ++ [tv, tv, pq gd, po g20 3, .slice o.A2 o.ps.length o.cp, sl g127 0 o.ps.length o.ps.length, .tuple #[], pq gd, sl gm 0 mm cm, tv] ++ jr J 130 6) 29) (by kernel_rfl) ?_
            refine then_n ?_
            refine wp_seq ?_
            refine wp_seq ?_
            refine wp_region_lit ?_
            refine pv tv ?_
            refine pv fv ?_
            refine wl_end _ rfl ?_
            refine then_n ?_
            refine wp_cond_false (by kernel_rfl) ?_
            refine wp_skip ?_
            refine then_n ?_
            refine wp_seq ?_
            refine wp_region_lit ?_
            refine pv (pq gd) ?_
            refine wl_gv rfl (gv_call (args := #[.pointer (some ⟨gd, 0, none⟩)]) rfl Try.func25 (by kernel_rfl) rfl rfl (by kernel_rfl) ?_)
            obtain ⟨h139a, h139b⟩ := St.pd_small S135
            obtain ⟨h139c, _⟩ := St.pd_n1 S135
            have h139d := flat_len h139a
            refine Calls.mono (pd_image S135) ?_
            rintro _ w136 ⟨v_, rfl, S137⟩
            obtain ⟨gi138, rfl, S137'⟩ := St.bytes_open S137 (by omega)
            refine ⟨_, rfl, ?_⟩
            refine pv (sl gi138 0 ((s1.crashR o.ps).last.flatten.length) ((s1.crashR o.ps).last.flatten.length)) ?_
            refine wl_end _ rfl ?_
            refine then_n ?_
            refine wp_region_lit ?_
            refine pv (sl gi138 0 ((s1.crashR o.ps).last.flatten.length) ((s1.crashR o.ps).last.flatten.length)) ?_
            refine wl_gv rfl (gv_call (args := #[.slice (some ⟨gi138, 0, none⟩) ((s1.crashR o.ps).last.flatten.length) ((s1.crashR o.ps).last.flatten.length)]) rfl Try.func42 (by kernel_rfl) rfl rfl (by kernel_rfl) ?_)
            refine Calls.mono (begin_may (M0 := [row gi138 (bvs (s1.crashR o.ps).last.flatten) 5]) (l := (s1.crashR o.ps).last.flatten) (m := (s1.crashR o.ps).last.length) S137' (RoT.item 0 rfl 0 (s1.crashR o.ps).last.flatten.length _ (by rw [List.drop_zero, List.take_length])) h139d h139c (by omega) (Nat.le_refl _)) ?_
            rintro _ w140 ⟨v_, M142, rfl, hM143a, hM143b, S141⟩
            have hM143c : M142.length = (s1.crashR o.ps).last.length := by have := congrArg List.length hM143a; rw [List.length_map, List.length_map, length_secs] at this; exact this
            obtain ⟨gm144, cm145, jk146, rfl, hc147, _, _, S141'⟩ := St.vec_open S141 (by omega)
            refine ⟨_, rfl, ?_⟩
            refine pv (sl gm144 0 M142.length cm145) ?_
            refine wl_end _ rfl ?_
            refine inb_n ?_
            refine inb_n ?_
            refine then_n ?_
            refine wp_region_lit ?_
            refine pv (iv ((i : Nat) : Int)) ?_
            refine wl_gv rfl (gv_int (k := .i64) (z := IntKind.i64.wrap (((i : Nat) : Int) + 1)) (z' := ((i + 1 : Nat) : Int)) (by kernel_rfl) (wr_eq (by omega) (by omega) (by omega)) ?_)
            refine pv (iv ((i + 1 : Nat) : Int)) ?_
            have S148 : St none' w w140 [PDisk gd (s1.crashR o.ps), row gm144 ((M142.map ME.v ++ jk146).toArray) 52, stars (M142.map ME.ast), row gi138 (bvs (s1.crashR o.ps).last.flatten) 5] := St.permT [row gm144 ((M142.map ME.v ++ jk146).toArray) 52, stars (M142.map ME.ast), row gi138 (bvs (s1.crashR o.ps).last.flatten) 5, PDisk gd (s1.crashR o.ps), row gm ((M.map ME.v ++ jk).toArray) 52, stars (M.map ME.ast), row gi (bvs im) 5] [3, 0, 1, 2] (by decide) rfl S141'
            have hnf : TF w (s1.crashR o.ps) M142 gi138 ((s1.crashR o.ps).last.flatten) := TF.of_begin hM143a h139a rfl hM143b h139c h139b
            have hpb : (s1.crashR o.ps).pend.length ≤ i + 1 := Nat.zero_le _
            have hcap : M142.length ≤ cm145 := hc147
            refine wl_end _ rfl ?_
            refine then_n ?_
            exact ⟨(i + 1, (s1.crashR o.ps), M142, gm144, cm145, jk146, gi138, (s1.crashR o.ps).last.flatten, M142.length), ⟨(jl [ud, ud, ud, ud, ud, ud, J 6, ud, ud, ud, ud, ud, pq g20, J 13, J 14, J 15, J 16, tv, sl gi138 0 ((s1.crashR o.ps).last.flatten.length) ((s1.crashR o.ps).last.flatten.length), ud, ud, ud, ud, ud, ud, ud, ud, ud, ud, ud, ud, ud, ud, ud, ud, ud, iv ((i : Nat) : Int), .slice A3 ops.length c3, iv (ops.length : Nat), tv, iv ((i : Nat) : Int), iv ((i + 1 : Nat) : Int), .slice A3 ops.length c3, iv ((i : Nat) : Int), .pointer (some (ad.add (i * 4))), .agg #[iv o.kind, iv o.at_, .slice o.A o.d.length o.cd, .slice o.A2 o.ps.length o.cp], pq g20, iv o.kind, J 48, J 49, J 50, fv, fv, J 53, J 54, J 55, J 56, J 57, J 58, J 59, J 60, J 61, J 62, J 63, J 64, J 65, J 66, J 67, J 68, J 69, J 70, J 71, J 72, J 73, J 74, J 75, J 76, J 77, J 78, J 79, J 80, J 81, J 82, J 83, J 84, fv, fv, J 87, J 88, J 89, J 90, J 91, J 92, J 93, J 94, J 95, J 96, J 97, J 98, J 99, J 100, J 101, J 102, J 103, J 104, J 105, J 106, J 107, J 108, J 109, J 110, J 111, J 112, J 113, J 114, J 115, J 116, J 117, J 118, J 119, tv, tv, pq gd, po g20 3, .slice o.A2 o.ps.length o.cp, sl g127 0 o.ps.length o.ps.length, .tuple #[], pq gd, sl gm 0 mm cm, tv, tv, fv, pq gd, sl gi138 0 ((s1.crashR o.ps).last.flatten.length) ((s1.crashR o.ps).last.flatten.length), sl gi138 0 ((s1.crashR o.ps).last.flatten.length) ((s1.crashR o.ps).last.flatten.length), sl gm144 0 M142.length cm145]), by kernel_rfl, S148, ⟨by omega, hpb, hnf, hcap, rfl⟩⟩, (by show ops.length - (i + 1) < ops.length - i; omega)⟩
          · skip
            refine pv fv ?_
            refine wl_end _ rfl ?_
            refine then_n ?_
            refine wp_cond_false (by kernel_rfl) ?_
            refine wp_region_lit ?_
            refine pv (pq gd) ?_
            refine wl_gv rfl (gv_ldA (k := 0) (n := 4) (vs := [.int .i64 o.kind, .int .i64 o.at_, .slice o.A o.d.length o.cd, .slice o.A2 o.ps.length o.cp]) S25 0 rfl rfl (by kernel_rfl) (by kernel_rfl) rfl rfl ?_)
            refine wl_gv rfl (gv_call (args := #[.pointer (some ⟨gd, 0, none⟩), .agg #[.int .i64 o.kind, .int .i64 o.at_, .slice o.A o.d.length o.cd, .slice o.A2 o.ps.length o.cp]]) rfl Try.func38 (by kernel_rfl) rfl rfl (by kernel_rfl) ?_)
            have S149 : St none' w w24 [PDisk gd s1, row g20 #[.int .i64 o.kind, .int .i64 o.at_, .slice o.A o.d.length o.cd, .slice o.A2 o.ps.length o.cp] 49, row gm ((M.map ME.v ++ jk).toArray) 52, stars (M.map ME.ast), row gi (bvs im) 5] := St.permT [row g20 #[.int .i64 o.kind, .int .i64 o.at_, .slice o.A o.d.length o.cd, .slice o.A2 o.ps.length o.cp] 49, PDisk gd s1, row gm ((M.map ME.v ++ jk).toArray) 52, stars (M.map ME.ast), row gi (bvs im) 5] [1, 0, 2, 3, 4] (by decide) rfl S25
            refine Calls.mono (act_all S149 (Ro.of_C hk.d (fun _ h => h)).T (RoV.of_rd hk.p _) hk.hat hk.dm hk.pm (by have := hpI; omega)) ?_
            rintro _ w150 ⟨rfl, S151⟩
            refine ⟨_, rfl, ?_⟩
            refine wl_end _ rfl ?_
            refine inb_n ?_
            refine inb_n ?_
            refine then_n ?_
            refine wp_region_lit ?_
            refine pv (iv ((i : Nat) : Int)) ?_
            refine wl_gv rfl (gv_int (k := .i64) (z := IntKind.i64.wrap (((i : Nat) : Int) + 1)) (z' := ((i + 1 : Nat) : Int)) (by kernel_rfl) (wr_eq (by omega) (by omega) (by omega)) ?_)
            refine pv (iv ((i + 1 : Nat) : Int)) ?_
            have S152 : St none' w w150 [PDisk gd (s1.actR o.kind o.at_ o.d o.ps), row gm ((M.map ME.v ++ jk).toArray) 52, stars (M.map ME.ast), row gi (bvs im) 5] := St.permT [PDisk gd (s1.actR o.kind o.at_ o.d o.ps), row g20 #[.int .i64 o.kind, .int .i64 o.at_, .slice o.A o.d.length o.cd, .slice o.A2 o.ps.length o.cp] 49, row gm ((M.map ME.v ++ jk).toArray) 52, stars (M.map ME.ast), row gi (bvs im) 5] [0, 2, 3, 4] (by decide) rfl S151
            have hnf : TF w (s1.actR o.kind o.at_ o.d o.ps) M gi im := hN.congr (act_same k2 k3 k6).1 (act_same k2 k3 k6).2
            have hpb : (s1.actR o.kind o.at_ o.d o.ps).pend.length ≤ i + 1 := Nat.le_trans (actR_pend s1 o.kind o.at_ o.d o.ps) (by omega)
            have hcap : mm ≤ cm := hcI
            refine wl_end _ rfl ?_
            refine then_n ?_
            exact ⟨(i + 1, (s1.actR o.kind o.at_ o.d o.ps), M, gm, cm, jk, gi, im, mm), ⟨(jl [ud, ud, ud, ud, ud, ud, J 6, ud, ud, ud, ud, ud, pq g20, J 13, J 14, J 15, J 16, J 17, J 18, ud, ud, ud, ud, ud, ud, ud, ud, ud, ud, ud, ud, ud, ud, ud, ud, ud, iv ((i : Nat) : Int), .slice A3 ops.length c3, iv (ops.length : Nat), tv, iv ((i : Nat) : Int), iv ((i + 1 : Nat) : Int), .slice A3 ops.length c3, iv ((i : Nat) : Int), .pointer (some (ad.add (i * 4))), .agg #[iv o.kind, iv o.at_, .slice o.A o.d.length o.cd, .slice o.A2 o.ps.length o.cp], pq g20, iv o.kind, pq gd, .agg #[iv o.kind, iv o.at_, .slice o.A o.d.length o.cd, .slice o.A2 o.ps.length o.cp], .tuple #[], fv, fv, J 53, J 54, J 55, J 56, J 57, J 58, J 59, J 60, J 61, J 62, J 63, J 64, J 65, J 66, J 67, J 68, J 69, J 70, J 71, J 72, J 73, J 74, J 75, J 76, J 77, J 78, J 79, J 80, J 81, J 82, J 83, J 84, fv, fv, J 87, J 88, J 89, J 90, J 91, J 92, J 93, J 94, J 95, J 96, J 97, J 98, J 99, J 100, J 101, J 102, J 103, J 104, J 105, J 106, J 107, J 108, J 109, J 110, J 111, J 112, J 113, J 114, J 115, J 116, J 117, J 118, J 119, fv, fv, J 122, J 123, J 124, J 125, J 126, J 127, J 128, J 129, J 130, J 131, J 132, J 133, J 134, J 135]), by kernel_rfl, S152, ⟨by omega, hpb, hnf, hcap, hmI⟩⟩, (by show ops.length - (i + 1) < ops.length - i; omega)⟩
    · skip
      have hN1 := hI18.2.2.1.n1
      obtain ⟨e1, e2, e3⟩ := end_tears (s := s1) (d := sectorB [9]) [(1, 1, 0)] (sectorB_len _) hN1
      refine wl_end (fr ([iv n, .slice A l.length ca, .slice A3 ops.length c3, ud, ud, ud, J 6, pq gd, tv, sl gi5 0 s.last.flatten.length s.last.flatten.length, sl gm 0 mm cm, iv ((i : Nat) : Int)] ++ jr J 12 7 ++ [ud, ud, ud, .tuple #[pq gd, tv], iv n, .slice A l.length ca, .tuple #[pq gd, tv], pq gd, tv, tv, fv, pq gd, fv, pq gd, sl gi5 0 s.last.flatten.length s.last.flatten.length, sl gi5 0 s.last.flatten.length s.last.flatten.length, sl gm11 0 M9.length cm12, iv ((i : Nat) : Int), .slice A3 ops.length c3, iv (ops.length : Nat), fv] ++ jr J 40 96) 29) (by kernel_rfl) ?_
      refine then_n ?_
      refine wp_cond_false (by kernel_rfl) ?_
      refine wp_exit ?_
      refine then_x ?_
      refine then_x ?_
      refine inb_x ?_
      refine then_n ?_
      refine wp_seq ?_
      refine wp_region_lit ?_
      have S153 : St none' w w16 [PDisk gd s1] := St.permT [PDisk gd s1, row gm ((M.map ME.v ++ jk).toArray) 52, stars (M.map ME.ast), row gi (bvs im) 5] [0] (by decide) rfl S17
      refine pv (pq gd) ?_
      refine pv (.agg #[iv 1, iv 1, iv 0]) ?_
      refine wl_gv rfl (gv_slit (e := 66) (sz := 3) (z := .agg #[.int .i64 0, .int .i64 0, .int .i64 0]) (by_ := 24) (vs := #[(0, .agg #[.int .i64 1, .int .i64 1, .int .i64 0])]) (cells := #[.int .i64 1, .int .i64 1, .int .i64 0]) S153 rfl (by kernel_rfl) ⟨by kernel_rfl⟩ (by kernel_rfl) (by kernel_rfl) (by kernel_rfl) (by kernel_rfl) (fun g154 w155 hg156 S157 => ?_))
      refine wl_gv rfl (gv_call (args := #[.pointer (some ⟨gd, 0, none⟩), .slice (some ⟨g154, 0, none⟩) 1 1]) rfl Try.func36 (by kernel_rfl) rfl rfl (by kernel_rfl) ?_)
      have S158 : St none' w w155 [PDisk gd s1, row g154 #[.int .i64 1, .int .i64 1, .int .i64 0] 66] := St.permT [row g154 #[.int .i64 1, .int .i64 1, .int .i64 0] 66, PDisk gd s1] [1, 0] (by decide) rfl S157
      refine Calls.mono (pd_crash (ps := [(1, 1, 0)]) S158 (RoV.item 0 rfl) rfl (by decide)) ?_
      rintro _ w159 ⟨rfl, S160⟩
      refine ⟨_, rfl, ?_⟩
      have S161 : St none' w w159 [PDisk gd (s1.crashR [(1, 1, 0)])] := St.permT [PDisk gd (s1.crashR [(1, 1, 0)]), row g154 #[.int .i64 1, .int .i64 1, .int .i64 0] 66] [0] (by decide) rfl S160
      refine wl_end _ rfl ?_
      refine then_n ?_
      refine wp_seq ?_
      refine wp_region_lit ?_
      refine pv (pq gd) ?_
      refine wl_gv rfl (gv_slit (e := 5) (sz := 1) (z := .int .u8 0) (by_ := 1) (vs := #[(0, .int .u8 9)]) (cells := #[.int .u8 9]) S161 rfl (by kernel_rfl) ⟨by kernel_rfl⟩ (by kernel_rfl) (by kernel_rfl) (by kernel_rfl) (by kernel_rfl) (fun g162 w163 hg164 S165 => ?_))
      refine wl_gv rfl (gv_call (args := #[.slice (some ⟨g162, 0, none⟩) 1 1]) rfl Try.func39 (by kernel_rfl) rfl rfl (by kernel_rfl) ?_)
      refine Calls.mono (sector_all (l := [9]) S165 (RoT.item (B := [9]) 0 rfl 0 1 _ rfl)) ?_
      rintro _ w167 ⟨g166, rfl, S168⟩
      refine ⟨_, rfl, ?_⟩
      refine wl_gv rfl (gv_call (args := #[.pointer (some ⟨gd, 0, none⟩), .int .i64 0, .slice (some ⟨g166, 0, none⟩) 512 512]) rfl Try.func35 (by kernel_rfl) rfl rfl (by kernel_rfl) ?_)
      have S169 : St none' w w167 [PDisk gd (s1.crashR [(1, 1, 0)]), row g166 (bvs (sectorB [9])) 5, row g162 #[.int .u8 9] 5] := St.permT [row g166 (bvs (sectorB [9])) 5, row g162 #[.int .u8 9] 5, PDisk gd (s1.crashR [(1, 1, 0)])] [2, 0, 1] (by decide) rfl S168
      refine Calls.mono (pd_write (at_ := 0) (d := sectorB [9]) S169 (RoT.item 0 rfl 0 512 (sectorB [9]) (by rw [List.drop_zero, List.take_of_length_le (Nat.le_of_eq (sectorB_len _))])) (by rw [sectorB_len]; decide) (by show 0 < _; decide)) ?_
      rintro _ w170 ⟨rfl, S171⟩
      refine ⟨_, rfl, ?_⟩
      refine pv (iv (((s1.crashR [(1, 1, 0)]).writeR 0 (sectorB [9])).2)) ?_
      refine wl_end _ rfl ?_
      refine then_n ?_
      refine wp_seq ?_
      refine wp_region_lit ?_
      refine pv (pq gd) ?_
      refine pv (.agg #[iv 1, iv 1, iv 0]) ?_
      refine wl_gv rfl (gv_slit (e := 66) (sz := 3) (z := .agg #[.int .i64 0, .int .i64 0, .int .i64 0]) (by_ := 24) (vs := #[(0, .agg #[.int .i64 1, .int .i64 1, .int .i64 0])]) (cells := #[.int .i64 1, .int .i64 1, .int .i64 0]) S171 rfl (by kernel_rfl) ⟨by kernel_rfl⟩ (by kernel_rfl) (by kernel_rfl) (by kernel_rfl) (by kernel_rfl) (fun g172 w173 hg174 S175 => ?_))
      refine wl_gv rfl (gv_call (args := #[.pointer (some ⟨gd, 0, none⟩), .slice (some ⟨g172, 0, none⟩) 1 1]) rfl Try.func36 (by kernel_rfl) rfl rfl (by kernel_rfl) ?_)
      have S176 : St none' w w173 [PDisk gd ((s1.crashR [(1, 1, 0)]).writeR 0 (sectorB [9])).1, row g172 #[.int .i64 1, .int .i64 1, .int .i64 0] 66, row g166 (bvs (sectorB [9])) 5, row g162 #[.int .u8 9] 5] := St.permT [row g172 #[.int .i64 1, .int .i64 1, .int .i64 0] 66, PDisk gd ((s1.crashR [(1, 1, 0)]).writeR 0 (sectorB [9])).1, row g166 (bvs (sectorB [9])) 5, row g162 #[.int .u8 9] 5] [1, 0, 2, 3] (by decide) rfl S175
      refine Calls.mono (pd_crash (ps := [(1, 1, 0)]) S176 (RoV.item 0 rfl) rfl (by decide)) ?_
      rintro _ w177 ⟨rfl, S178⟩
      refine ⟨_, rfl, ?_⟩
      have S179 : St none' w w177 [PDisk gd (((s1.crashR [(1, 1, 0)]).writeR 0 (sectorB [9])).1.crashR [(1, 1, 0)]), row g166 (bvs (sectorB [9])) 5, row g162 #[.int .u8 9] 5] := St.permT [PDisk gd (((s1.crashR [(1, 1, 0)]).writeR 0 (sectorB [9])).1.crashR [(1, 1, 0)]), row g172 #[.int .i64 1, .int .i64 1, .int .i64 0] 66, row g166 (bvs (sectorB [9])) 5, row g162 #[.int .u8 9] 5] [0, 2, 3] (by decide) rfl S178
      refine wl_end _ rfl ?_
      refine then_n ?_
      refine wp_seq ?_
      refine wp_region_lit ?_
      refine pv (pq gd) ?_
      refine wl_gv rfl (gv_call (args := #[.pointer (some ⟨gd, 0, none⟩), .int .i64 0]) rfl Try.func29 (by kernel_rfl) rfl rfl (by kernel_rfl) ?_)
      refine Calls.mono (pd_read S179) ?_
      rintro _ w180 ⟨v_, rfl, S181⟩
      obtain ⟨AP182, rfl, S181'⟩ := St.bytes_eq S181
      refine ⟨_, rfl, ?_⟩
      refine pv (.tuple #[.slice AP182 (((((s1.crashR [(1, 1, 0)]).writeR 0 (sectorB [9])).1.crashR [(1, 1, 0)]).readR 0).2.1.length) (((((s1.crashR [(1, 1, 0)]).writeR 0 (sectorB [9])).1.crashR [(1, 1, 0)]).readR 0).2.1.length), iv (((((s1.crashR [(1, 1, 0)]).writeR 0 (sectorB [9])).1.crashR [(1, 1, 0)]).readR 0).2.2)]) ?_
      refine pv (.slice AP182 (((((s1.crashR [(1, 1, 0)]).writeR 0 (sectorB [9])).1.crashR [(1, 1, 0)]).readR 0).2.1.length) (((((s1.crashR [(1, 1, 0)]).writeR 0 (sectorB [9])).1.crashR [(1, 1, 0)]).readR 0).2.1.length)) ?_
      refine pv (iv (((((s1.crashR [(1, 1, 0)]).writeR 0 (sectorB [9])).1.crashR [(1, 1, 0)]).readR 0).2.2)) ?_
      refine pv (.slice AP182 (((((s1.crashR [(1, 1, 0)]).writeR 0 (sectorB [9])).1.crashR [(1, 1, 0)]).readR 0).2.1.length) (((((s1.crashR [(1, 1, 0)]).writeR 0 (sectorB [9])).1.crashR [(1, 1, 0)]).readR 0).2.1.length)) ?_
      refine pv (iv (((((s1.crashR [(1, 1, 0)]).writeR 0 (sectorB [9])).1.crashR [(1, 1, 0)]).readR 0).2.2)) ?_
      refine wl_end _ rfl ?_
      refine then_n ?_
      refine wp_seq ?_
      refine wp_region_lit ?_
      refine pv (iv (((s1.crashR [(1, 1, 0)]).writeR 0 (sectorB [9])).2)) ?_
      refine wl_gv rfl (gv_eq (x := (((s1.crashR [(1, 1, 0)]).writeR 0 (sectorB [9])).2)) (y := 0) (by kernel_rfl) (fun _ => ?_) (fun hd183 => False.elim (absurd e1 hd183)))
      refine pv tv ?_
      refine wl_when (by kernel_rfl) (gv_val (v := .int .i64 (((((s1.crashR [(1, 1, 0)]).writeR 0 (sectorB [9])).1.crashR [(1, 1, 0)]).readR 0).2.2)) (w' := w180) (by kernel_rfl) ?_)
      refine wl_when (by kernel_rfl) (gv_eq (x := (((((s1.crashR [(1, 1, 0)]).writeR 0 (sectorB [9])).1.crashR [(1, 1, 0)]).readR 0).2.2)) (y := 0) (by kernel_rfl) (fun _ => ?_) (fun hd184 => False.elim (absurd e2 hd184)))
      refine pv tv ?_
      refine pv tv ?_
      refine wl_when (by kernel_rfl) (gv_val (v := .slice AP182 (((((s1.crashR [(1, 1, 0)]).writeR 0 (sectorB [9])).1.crashR [(1, 1, 0)]).readR 0).2.1.length) (((((s1.crashR [(1, 1, 0)]).writeR 0 (sectorB [9])).1.crashR [(1, 1, 0)]).readR 0).2.1.length)) (w' := w180) (by kernel_rfl) ?_)
      refine wl_when (by kernel_rfl) (gv_slit (e := 5) (sz := 1) (z := .int .u8 0) (by_ := 1) (vs := #[(0, .int .u8 9)]) (cells := #[.int .u8 9]) S181' rfl (by kernel_rfl) ⟨by kernel_rfl⟩ (by kernel_rfl) (by kernel_rfl) (by kernel_rfl) (by kernel_rfl) (fun g185 w186 hg187 S188 => ?_))
      refine wl_when (by kernel_rfl) (gv_call (args := #[.slice (some ⟨g185, 0, none⟩) 1 1]) rfl Try.func39 (by kernel_rfl) rfl rfl (by kernel_rfl) ?_)
      refine Calls.mono (sector_all (l := [9]) S188 (RoT.item (B := [9]) 0 rfl 0 1 _ rfl)) ?_
      rintro _ w190 ⟨g189, rfl, S191⟩
      refine ⟨_, rfl, ?_⟩
      refine wl_when (by kernel_rfl) (gv_call (args := #[.slice AP182 (((((s1.crashR [(1, 1, 0)]).writeR 0 (sectorB [9])).1.crashR [(1, 1, 0)]).readR 0).2.1.length) (((((s1.crashR [(1, 1, 0)]).writeR 0 (sectorB [9])).1.crashR [(1, 1, 0)]).readR 0).2.1.length), .slice (some ⟨g189, 0, none⟩) 512 512]) rfl Try.func28 (by kernel_rfl) rfl rfl (by kernel_rfl) ?_)
      have hrl1 : (sectorB [9]).length ≤ 9223372036854775807 := by rw [sectorB_len]; decide
      refine Calls.mono (same_b (b := sectorB [9]) (decide_eq_true e3) S191 (RoT.bytes 2 rfl rfl) (RoT.item 0 rfl 0 512 (sectorB [9]) (by rw [List.drop_zero, List.take_of_length_le (Nat.le_of_eq (sectorB_len _))])) (by rw [e3]; exact hrl1) hrl1) ?_
      rintro _ w192 ⟨rfl, S193⟩
      refine ⟨_, rfl, ?_⟩
      refine pv tv ?_
      refine pv tv ?_
      refine wl_end (fr ([iv n, .slice A l.length ca, .slice A3 ops.length c3, ud, ud, ud, tv, pq gd, tv, sl gi5 0 s.last.flatten.length s.last.flatten.length, sl gm 0 mm cm, iv ((i : Nat) : Int)] ++ jr J 12 7 ++ [iv (((s1.crashR [(1, 1, 0)]).writeR 0 (sectorB [9])).2), .slice AP182 (((((s1.crashR [(1, 1, 0)]).writeR 0 (sectorB [9])).1.crashR [(1, 1, 0)]).readR 0).2.1.length) (((((s1.crashR [(1, 1, 0)]).writeR 0 (sectorB [9])).1.crashR [(1, 1, 0)]).readR 0).2.1.length), iv (((((s1.crashR [(1, 1, 0)]).writeR 0 (sectorB [9])).1.crashR [(1, 1, 0)]).readR 0).2.2), .tuple #[pq gd, tv], iv n, .slice A l.length ca, .tuple #[pq gd, tv], pq gd, tv, tv, fv, pq gd, fv, pq gd, sl gi5 0 s.last.flatten.length s.last.flatten.length, sl gi5 0 s.last.flatten.length s.last.flatten.length, sl gm11 0 M9.length cm12, iv ((i : Nat) : Int), .slice A3 ops.length c3, iv (ops.length : Nat), fv] ++ jr J 40 96 ++ [pq gd, .agg #[iv 1, iv 1, iv 0], sl g154 0 1 1, .tuple #[], pq gd, sl g162 0 1 1, sl g166 0 512 512, iv (((s1.crashR [(1, 1, 0)]).writeR 0 (sectorB [9])).2), pq gd, .agg #[iv 1, iv 1, iv 0], sl g172 0 1 1, .tuple #[], .tuple #[.slice AP182 (((((s1.crashR [(1, 1, 0)]).writeR 0 (sectorB [9])).1.crashR [(1, 1, 0)]).readR 0).2.1.length) (((((s1.crashR [(1, 1, 0)]).writeR 0 (sectorB [9])).1.crashR [(1, 1, 0)]).readR 0).2.1.length), iv (((((s1.crashR [(1, 1, 0)]).writeR 0 (sectorB [9])).1.crashR [(1, 1, 0)]).readR 0).2.2)], pq gd, .tuple #[.slice AP182 (((((s1.crashR [(1, 1, 0)]).writeR 0 (sectorB [9])).1.crashR [(1, 1, 0)]).readR 0).2.1.length) (((((s1.crashR [(1, 1, 0)]).writeR 0 (sectorB [9])).1.crashR [(1, 1, 0)]).readR 0).2.1.length), iv (((((s1.crashR [(1, 1, 0)]).writeR 0 (sectorB [9])).1.crashR [(1, 1, 0)]).readR 0).2.2)], .slice AP182 (((((s1.crashR [(1, 1, 0)]).writeR 0 (sectorB [9])).1.crashR [(1, 1, 0)]).readR 0).2.1.length) (((((s1.crashR [(1, 1, 0)]).writeR 0 (sectorB [9])).1.crashR [(1, 1, 0)]).readR 0).2.1.length), iv (((((s1.crashR [(1, 1, 0)]).writeR 0 (sectorB [9])).1.crashR [(1, 1, 0)]).readR 0).2.2), iv (((s1.crashR [(1, 1, 0)]).writeR 0 (sectorB [9])).2), tv, tv, iv (((((s1.crashR [(1, 1, 0)]).writeR 0 (sectorB [9])).1.crashR [(1, 1, 0)]).readR 0).2.2), tv, tv, tv, .slice AP182 (((((s1.crashR [(1, 1, 0)]).writeR 0 (sectorB [9])).1.crashR [(1, 1, 0)]).readR 0).2.1.length) (((((s1.crashR [(1, 1, 0)]).writeR 0 (sectorB [9])).1.crashR [(1, 1, 0)]).readR 0).2.1.length), sl g185 0 1 1, sl g189 0 512 512, tv, tv]) 0) (by kernel_rfl) ?_
      refine then_n ?_
      refine wp_ret ?_
      refine bodyPost_ret (v := .bool true) (results_t1 rfl (by kernel_rfl)) rfl ?_
      exact ⟨rfl, S193.fr.below⟩
end Go.Proofs
