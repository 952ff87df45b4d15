/- The law DiskFused answers true. -/
import Derived.Test.YtefmefimhiedfaaHDskM
open Go Go.RowKit Go.Proofs.YtefmefimhiedfaaW.PrintWords Go.Proofs.YtefmefimhiedfaaW.PrintMore
namespace Go.Proofs
open Go.Vel
set_option linter.unusedVariables false
set_option maxRecDepth 100000
set_option maxHeartbeats 4000000
attribute [local irreducible] gives wpList Code.wp

theorem diskFused_all (w : World) {A3 : Option Addr} {c3 : Nat} {ops : List OpD} (k n : Int) (hkm : k ≤ 9223372036854775807) (hnm : n ≤ 9223372036854775807) (hs : RdV w A3 (opsV ops)) (hsm : ops.length ≤ 2199023255552) (hok : ∀ o ∈ ops, o.Ok w) : Calls Try.prog 16 #[.int .i64 k, .int .i64 n, .slice A3 ops.length c3] w fun e w' => e = .returned (.bool true) ∧ Below w.heap.size w w' := by
  have S0 : St none' w w [] := St.init none' w
  refine wp_enter (fr [iv k, iv n, .slice A3 ops.length c3] 175) Try.func16 rfl (by kernel_rfl) ?_
  refine wp_seq ?_
  refine wp_region_lit ?_
  refine pv fv ?_
  refine wl_end _ rfl ?_
  refine then_n ?_
  refine wp_seq ?_
  refine wp_seq ?_
  refine wp_region_lit ?_
  refine pv (iv n) ?_
  refine wl_gv rfl (gv_dec (p := (n : Int) < 0) (by kernel_rfl) (fun hb1 => ?_) (fun hb1 => ?_))
  · skip
    refine pv tv ?_
    refine wl_not (by kernel_rfl) ?_
    refine wl_not (by kernel_rfl) ?_
    refine pv tv ?_
    refine pv tv ?_
    refine wl_not (by kernel_rfl) ?_
    refine wl_not (by kernel_rfl) ?_
    refine pv tv ?_
    refine wl_end _ rfl ?_
    refine then_n ?_
    refine wp_cond_true (by kernel_rfl) ?_
    refine wp_seq ?_
    refine wp_region_lit ?_
    refine pv tv ?_
    refine wl_end _ rfl ?_
    refine then_n ?_
    refine wp_ret ?_
    refine then_r ?_
    refine bodyPost_ret (v := .bool true) (results_t1 rfl (by kernel_rfl)) rfl ?_
    exact ⟨rfl, S0.fr.below⟩
  · skip
    refine pv fv ?_
    refine wl_when (by kernel_rfl) (gv_val (v := .int .i64 k) (w' := w) (by kernel_rfl) ?_)
    refine wl_when (by kernel_rfl) (gv_dec (p := (k : Int) < 1) (by kernel_rfl) (fun hb2 => ?_) (fun hb2 => ?_))
    · skip
      refine pv tv ?_
      refine pv tv ?_
      refine wl_not (by kernel_rfl) ?_
      refine wl_not (by kernel_rfl) ?_
      refine pv tv ?_
      refine wl_end _ rfl ?_
      refine then_n ?_
      refine wp_cond_true (by kernel_rfl) ?_
      refine wp_seq ?_
      refine wp_region_lit ?_
      refine pv tv ?_
      refine wl_end _ rfl ?_
      refine then_n ?_
      refine wp_ret ?_
      refine then_r ?_
      refine bodyPost_ret (v := .bool true) (results_t1 rfl (by kernel_rfl)) rfl ?_
      exact ⟨rfl, S0.fr.below⟩
    · skip
      refine pv fv ?_
      refine pv fv ?_
      refine wl_when (by kernel_rfl) (gv_val (v := .int .i64 k) (w' := w) (by kernel_rfl) ?_)
      refine wl_when (by kernel_rfl) (gv_dec (p := (k : Int) > 2048) (by kernel_rfl) (fun hb3 => ?_) (fun hb3 => ?_))
      · skip
        refine pv tv ?_
        refine wl_end _ rfl ?_
        refine then_n ?_
        refine wp_cond_true (by kernel_rfl) ?_
        refine wp_seq ?_
        refine wp_region_lit ?_
        refine pv tv ?_
        refine wl_end _ rfl ?_
        refine then_n ?_
        refine wp_ret ?_
        refine then_r ?_
        refine bodyPost_ret (v := .bool true) (results_t1 rfl (by kernel_rfl)) rfl ?_
        exact ⟨rfl, S0.fr.below⟩
      · skip
        refine pv fv ?_
        refine wl_end _ rfl ?_
        refine then_n ?_
        refine wp_cond_false (by kernel_rfl) ?_
        refine wp_skip ?_
        refine then_n ?_
        refine wp_seq ?_
        refine wp_region_lit ?_
        refine pv (iv k) ?_
        refine wl_gv rfl (gv_call (args := #[.int .i64 k, .slice none 0 0]) rfl Try.func33 (by kernel_rfl) rfl rfl (by kernel_rfl) ?_)
        refine Calls.mono (open_new S0 (k := k) (by omega) (by omega)) ?_
        rintro _ w4 ⟨gd, rfl, S5⟩
        refine ⟨_, rfl, ?_⟩
        have hml : (Dsk.mk0 (List.replicate k.toNat zsec)).last.length = k.toNat := List.length_replicate
        refine pv (.tuple #[pq gd, tv]) ?_
        refine pv (pq gd) ?_
        refine pv tv ?_
        refine pv (pq gd) ?_
        refine pv tv ?_
        refine wl_end _ rfl ?_
        refine then_n ?_
        refine wp_seq ?_
        refine wp_seq ?_
        refine wp_region_lit ?_
        refine pv tv ?_
        refine pv fv ?_
        refine pv fv ?_
        refine wl_when (by kernel_rfl) (gv_val (v := .pointer (some ⟨gd, 0, none⟩)) (w' := w4) (by kernel_rfl) ?_)
        refine wl_when (by kernel_rfl) (gv_val (v := .bool false) (w' := w4) (by kernel_rfl) ?_)
        refine pv fv ?_
        refine wl_end _ rfl ?_
        refine then_n ?_
        refine wp_cond_false (by kernel_rfl) ?_
        refine wp_skip ?_
        refine then_n ?_
        refine wp_seq ?_
        refine wp_region_lit ?_
        refine pv (pq gd) ?_
        refine pv (iv n) ?_
        refine wl_gv rfl (gv_call (args := #[.pointer (some ⟨gd, 0, none⟩), .int .i64 n]) rfl Try.func40 (by kernel_rfl) rfl rfl (by kernel_rfl) ?_)
        obtain ⟨hf1, hf2, hf3⟩ := fuse_on (s := (Dsk.mk0 (List.replicate k.toNat zsec))) (n := n) (by show (-1 : Int) ≠ 0; decide) (by omega)
        refine Calls.mono (pd_fuse hnm S5) ?_
        rintro _ w6 ⟨rfl, S7⟩
        refine ⟨_, rfl, ?_⟩
        have hm0 : (((Dsk.mk0 (List.replicate k.toNat zsec)).fuseR n).last.length : Int) = k := by rw [hf2, hml]; omega
        have hp0 : ((Dsk.mk0 (List.replicate k.toNat zsec)).fuseR n).pend = [] := hf3.trans rfl
        generalize hs2 : (Dsk.mk0 (List.replicate k.toNat zsec)).fuseR n = s at S7 hf1 hm0 hp0
        refine wl_end _ rfl ?_
        refine then_n ?_
        refine wp_seq ?_
        refine wp_region_lit ?_
        refine pv (iv 0) ?_
        refine wl_end _ rfl ?_
        refine then_n ?_
        refine wp_seq ?_
        refine wp_seq ?_
        refine wp_region_lit ?_
        refine pv (iv 0) ?_
        refine wl_end _ rfl ?_
        refine then_n ?_
        refine wp_block ?_
        have S8 : St none' w w6 [PDisk gd s] := St.permT [PDisk gd s] [0] (by decide) rfl S7
        refine wp_loop_g (G := Nat × Dsk × Nat) (fun (g_ : Nat × Dsk × Nat) (a_ : Act) (w_ : World) => ∃ J : Nat → Value, a_ = (fr ([iv k, iv n, .slice A3 ops.length c3, ud, ud, ud, J 6, pq gd, tv, iv ((g_.2.2 : Nat) : Int), iv ((g_.1 : Nat) : Int)] ++ jr J 11 8 ++ [ud, iv n, fv, fv, iv k, fv, fv, fv, iv k, fv, fv, .tuple #[pq gd, tv], iv k, .tuple #[pq gd, tv], pq gd, tv, tv, fv, fv, pq gd, fv, fv, pq gd, iv n, .tuple #[]] ++ jr J 44 123) 11) ∧ St none' w w_ [PDisk gd g_.2.1] ∧ (g_.1 ≤ ops.length ∧ g_.2.1.pend.length ≤ g_.1 ∧ g_.2.1.left = n - g_.2.2 ∧ (g_.2.2 : Int) ≤ n ∧ (g_.2.1.last.length : Int) = k)) (fun g_ => ops.length - g_.1) (0, s, 0) ⟨(jl [ud, ud, ud, ud, ud, ud, fv]), by kernel_rfl, S8, ⟨Nat.zero_le _, by show s.pend.length ≤ 0; rw [hp0]; exact Nat.le_refl _, by show s.left = n - 0; omega, by show (0 : Int) ≤ n; omega, hm0⟩⟩ ?_
        rintro ⟨i, s1, dn⟩ a_ w9 ⟨J, rfl, S10, hI11⟩
        skip
        have S10 : St none' w w9 [PDisk gd s1] := S10
        have hI11 : (i ≤ ops.length ∧ s1.pend.length ≤ i ∧ s1.left = n - dn ∧ (dn : Int) ≤ n ∧ (s1.last.length : Int) = k) := hI11
        refine wp_seq ?_
        refine wp_seq ?_
        refine wp_region_lit ?_
        refine pv (iv ((i : Nat) : Int)) ?_
        refine pv (.slice A3 ops.length c3) ?_
        refine pv (iv (ops.length : Nat)) ?_
        refine wl_gv rfl (gv_dec (p := (((i : Nat) : Int) : Int) < (ops.length : Nat)) (by kernel_rfl) (fun hb12 => ?_) (fun hb12 => ?_))
        · skip
          have hi : i < ops.length := by omega
          obtain ⟨o, ho⟩ : ∃ o, ops[i]? = some o := ⟨_, List.getElem?_eq_getElem hi⟩
          have hk := hok o (List.mem_of_getElem? ho)
          obtain ⟨ad, hAd, hrs⟩ := (RoV.of_rd hs []).out w9 _ (show St none' w w9 ([PDisk gd s1] ++ []) from S10) (by rw [length_opsV]; omega)
          have hrq : RdV w9 (some ad) (opsV ops) := fun _ => ⟨ad, rfl, hrs⟩
          obtain ⟨hiI, hpI, hlI, hdI, hmI⟩ := hI11
          have hat9 := hk.hat
          have hdm9 := hk.dm
          refine wl_end _ rfl ?_
          refine then_n ?_
          refine wp_cond_true (by kernel_rfl) ?_
          refine wp_skip ?_
          refine then_n ?_
          refine wp_seq ?_
          refine wp_block ?_
          refine wp_seq ?_
          refine wp_region_lit ?_
          refine pv (.slice A3 ops.length c3) ?_
          refine pv (iv ((i : Nat) : Int)) ?_
          refine wl_gv rfl (gv_ixB (e := 49) (sz := 4) (n := ops.length) (c := c3) (i := ((i : Nat) : Int)) (k := .i64) (ad := ad) (ad' := (ad.add (i * 4))) (j := i) rfl (by kernel_rfl) (by kernel_rfl) (by rw [← hAd]; kernel_rfl) (by kernel_rfl) rfl (by omega) rfl ?_)
          refine wl_gv rfl (gv_ldRA (ad := ad.add (i * 4)) (vs := [.int .i64 o.kind, .int .i64 o.at_, .slice o.A o.d.length o.cd, .slice o.A2 o.ps.length o.cp]) (n := 4) rfl (by kernel_rfl) (by kernel_rfl) rfl (RoV.cells hrq (i * 4) (fun j u hu => opsV_at ops _ _ ho j u hu) (Nat.succ_pos _)) ?_)
          refine wl_gv rfl (gv_new (z := .agg #[.int .i64 0, .int .i64 0, .slice none 0 0, .slice none 0 0]) S10 rfl (by kernel_rfl) (fun g13 w14 hg15 S16 => ?_))
          refine wl_gv rfl (gv_stA (k := 0) (vs := [.int .i64 o.kind, .int .i64 o.at_, .slice o.A o.d.length o.cd, .slice o.A2 o.ps.length o.cp]) S16 0 rfl rfl (by kernel_rfl) (by kernel_rfl) (by kernel_rfl) rfl (by simp [Value.oneCell']) (Nat.le_of_ble_eq_true (by kernel_rfl)) (L' := [row g13 #[.int .i64 o.kind, .int .i64 o.at_, .slice o.A o.d.length o.cd, .slice o.A2 o.ps.length o.cp] 49, PDisk gd s1]) rfl (fun w17 S18 => ?_))
          refine wl_end _ rfl ?_
          refine then_n ?_
          refine wp_seq ?_
          refine wp_seq ?_
          refine wp_region_lit ?_
          refine pv (pq g13) ?_
          refine wl_gv rfl (gv_ldR (v := .int .i64 o.kind) rfl (by kernel_rfl) (by kernel_rfl) (((S18.blk 0 rfl).cell 0).trans rfl) ?_)
          refine wl_gv rfl (gv_eq (x := o.kind) (y := 4) (by kernel_rfl) (fun k4 => ?_) (fun k4 => ?_))
          · skip
            refine pv tv ?_
            refine wl_not (by kernel_rfl) ?_
            refine wl_not (by kernel_rfl) ?_
            refine wl_not (by kernel_rfl) ?_
            refine pv tv ?_
            refine wl_end (fr ([iv k, iv n, .slice A3 ops.length c3, ud, ud, ud, J 6, pq gd, tv, iv ((dn : Nat) : Int), iv ((i : Nat) : Int), pq g13] ++ jr J 12 7 ++ [ud, iv n, fv, fv, iv k, fv, fv, fv, iv k, fv, fv, .tuple #[pq gd, tv], iv k, .tuple #[pq gd, tv], pq gd, tv, tv, fv, fv, pq gd, fv, fv, pq gd, iv n, .tuple #[], iv ((i : Nat) : Int), .slice A3 ops.length c3, iv (ops.length : Nat), tv, J 48, J 49, .slice A3 ops.length c3, iv ((i : Nat) : Int), .pointer (some (ad.add (i * 4))), .agg #[iv o.kind, iv o.at_, .slice o.A o.d.length o.cd, .slice o.A2 o.ps.length o.cp], pq g13, iv o.kind, tv, tv, ud, ud, ud, tv] ++ jr J 62 105) 11) (by kernel_rfl) ?_
            refine then_n ?_
            refine wp_cond_true (by kernel_rfl) ?_
            refine wp_exit ?_
            refine then_x ?_
            refine inb_x ?_
            refine then_n ?_
            refine wp_region_lit ?_
            refine pv (iv ((i : Nat) : Int)) ?_
            refine wl_gv rfl (gv_int (k := .i64) (z := IntKind.i64.wrap (((i : Nat) : Int) + 1)) (z' := ((i + 1 : Nat) : Int)) (by kernel_rfl) (wr_eq (by omega) (by omega) (by omega)) ?_)
            refine pv (iv ((i + 1 : Nat) : Int)) ?_
            have S19 : St none' w w17 [PDisk gd s1] := St.permT [row g13 #[.int .i64 o.kind, .int .i64 o.at_, .slice o.A o.d.length o.cd, .slice o.A2 o.ps.length o.cp] 49, PDisk gd s1] [1] (by decide) rfl S18
            have hpb : s1.pend.length ≤ i + 1 := (by omega)
            have hlf : s1.left = n - (((dn : Nat) : Nat) : Int) := hlI
            have hdn : (((dn : Nat) : Nat) : Int) ≤ n := hdI
            have hln : (s1.last.length : Int) = k := hmI
            refine wl_end _ rfl ?_
            refine then_n ?_
            exact ⟨(i + 1, s1, dn), ⟨(jl [ud, ud, ud, ud, ud, ud, J 6, ud, ud, ud, ud, pq g13, J 12, J 13, J 14, J 15, J 16, J 17, J 18, ud, ud, ud, ud, ud, ud, ud, ud, ud, ud, ud, ud, ud, ud, ud, ud, ud, ud, ud, ud, ud, ud, ud, ud, ud, iv ((i : Nat) : Int), .slice A3 ops.length c3, iv (ops.length : Nat), tv, iv ((i : Nat) : Int), iv ((i + 1 : Nat) : Int), .slice A3 ops.length c3, iv ((i : Nat) : Int), .pointer (some (ad.add (i * 4))), .agg #[iv o.kind, iv o.at_, .slice o.A o.d.length o.cd, .slice o.A2 o.ps.length o.cp], pq g13, iv o.kind, tv, tv, ud, ud, ud, tv, J 62, J 63, J 64, J 65, J 66, J 67, J 68, J 69, J 70, J 71, J 72, J 73, J 74, J 75, J 76, J 77, J 78, J 79, J 80, J 81, J 82, J 83, J 84, J 85, J 86, J 87, J 88, J 89, J 90, J 91, J 92, J 93, J 94, J 95, J 96, J 97, J 98, J 99, J 100, J 101, J 102, J 103, J 104, J 105, J 106, J 107, J 108, J 109, J 110, J 111, J 112, J 113, J 114, J 115, J 116, J 117, J 118, J 119, J 120, J 121, J 122, J 123, J 124, J 125, J 126, J 127, J 128, J 129, J 130, J 131, J 132, J 133, J 134, J 135, J 136, J 137, J 138, J 139, J 140, J 141, J 142, J 143, J 144, J 145, J 146, J 147, J 148, J 149, J 150, J 151, J 152, J 153, J 154, J 155, J 156, J 157, J 158, J 159, J 160, J 161, J 162, J 163, J 164, J 165, J 166]), by kernel_rfl, S19, ⟨by omega, hpb, hlf, hdn, hln⟩⟩, (by show ops.length - (i + 1) < ops.length - i; omega)⟩
          · skip
            refine pv fv ?_
            refine wl_when (by kernel_rfl) (gv_val (v := .pointer (some ⟨g13, 0, none⟩)) (w' := w17) (by kernel_rfl) ?_)
            refine wl_when (by kernel_rfl) (gv_ldR (v := .int .i64 o.kind) rfl (by kernel_rfl) (by kernel_rfl) (((S18.blk 0 rfl).cell 0).trans rfl) ?_)
            refine wl_when (by kernel_rfl) (gv_eq (x := o.kind) (y := 6) (by kernel_rfl) (fun k6 => ?_) (fun k6 => ?_))
            · skip
              refine pv tv ?_
              refine wl_end (fr ([iv k, iv n, .slice A3 ops.length c3, ud, ud, ud, J 6, pq gd, tv, iv ((dn : Nat) : Int), iv ((i : Nat) : Int), pq g13] ++ jr J 12 7 ++ [ud, iv n, fv, fv, iv k, fv, fv, fv, iv k, fv, fv, .tuple #[pq gd, tv], iv k, .tuple #[pq gd, tv], pq gd, tv, tv, fv, fv, pq gd, fv, fv, pq gd, iv n, .tuple #[], iv ((i : Nat) : Int), .slice A3 ops.length c3, iv (ops.length : Nat), tv, J 48, J 49, .slice A3 ops.length c3, iv ((i : Nat) : Int), .pointer (some (ad.add (i * 4))), .agg #[iv o.kind, iv o.at_, .slice o.A o.d.length o.cd, .slice o.A2 o.ps.length o.cp], pq g13, iv o.kind, fv, fv, pq g13, iv o.kind, tv, tv] ++ jr J 62 105) 11) (by kernel_rfl) ?_
              refine then_n ?_
              refine wp_cond_true (by kernel_rfl) ?_
              refine wp_exit ?_
              refine then_x ?_
              refine inb_x ?_
              refine then_n ?_
              refine wp_region_lit ?_
              refine pv (iv ((i : Nat) : Int)) ?_
              refine wl_gv rfl (gv_int (k := .i64) (z := IntKind.i64.wrap (((i : Nat) : Int) + 1)) (z' := ((i + 1 : Nat) : Int)) (by kernel_rfl) (wr_eq (by omega) (by omega) (by omega)) ?_)
              refine pv (iv ((i + 1 : Nat) : Int)) ?_
              have S20 : St none' w w17 [PDisk gd s1] := St.permT [row g13 #[.int .i64 o.kind, .int .i64 o.at_, .slice o.A o.d.length o.cd, .slice o.A2 o.ps.length o.cp] 49, PDisk gd s1] [1] (by decide) rfl S18
              have hpb : s1.pend.length ≤ i + 1 := (by omega)
              have hlf : s1.left = n - (((dn : Nat) : Nat) : Int) := hlI
              have hdn : (((dn : Nat) : Nat) : Int) ≤ n := hdI
              have hln : (s1.last.length : Int) = k := hmI
              refine wl_end _ rfl ?_
              refine then_n ?_
              exact ⟨(i + 1, s1, dn), ⟨(jl [ud, ud, ud, ud, ud, ud, J 6, ud, ud, ud, ud, pq g13, J 12, J 13, J 14, J 15, J 16, J 17, J 18, ud, ud, ud, ud, ud, ud, ud, ud, ud, ud, ud, ud, ud, ud, ud, ud, ud, ud, ud, ud, ud, ud, ud, ud, ud, iv ((i : Nat) : Int), .slice A3 ops.length c3, iv (ops.length : Nat), tv, iv ((i : Nat) : Int), iv ((i + 1 : Nat) : Int), .slice A3 ops.length c3, iv ((i : Nat) : Int), .pointer (some (ad.add (i * 4))), .agg #[iv o.kind, iv o.at_, .slice o.A o.d.length o.cd, .slice o.A2 o.ps.length o.cp], pq g13, iv o.kind, fv, fv, pq g13, iv o.kind, tv, tv, J 62, J 63, J 64, J 65, J 66, J 67, J 68, J 69, J 70, J 71, J 72, J 73, J 74, J 75, J 76, J 77, J 78, J 79, J 80, J 81, J 82, J 83, J 84, J 85, J 86, J 87, J 88, J 89, J 90, J 91, J 92, J 93, J 94, J 95, J 96, J 97, J 98, J 99, J 100, J 101, J 102, J 103, J 104, J 105, J 106, J 107, J 108, J 109, J 110, J 111, J 112, J 113, J 114, J 115, J 116, J 117, J 118, J 119, J 120, J 121, J 122, J 123, J 124, J 125, J 126, J 127, J 128, J 129, J 130, J 131, J 132, J 133, J 134, J 135, J 136, J 137, J 138, J 139, J 140, J 141, J 142, J 143, J 144, J 145, J 146, J 147, J 148, J 149, J 150, J 151, J 152, J 153, J 154, J 155, J 156, J 157, J 158, J 159, J 160, J 161, J 162, J 163, J 164, J 165, J 166]), by kernel_rfl, S20, ⟨by omega, hpb, hlf, hdn, hln⟩⟩, (by show ops.length - (i + 1) < ops.length - i; omega)⟩
            · skip
              refine pv fv ?_
              refine wl_end (fr ([iv k, iv n, .slice A3 ops.length c3, ud, ud, ud, J 6, pq gd, tv, iv ((dn : Nat) : Int), iv ((i : Nat) : Int), pq g13] ++ jr J 12 7 ++ [ud, iv n, fv, fv, iv k, fv, fv, fv, iv k, fv, fv, .tuple #[pq gd, tv], iv k, .tuple #[pq gd, tv], pq gd, tv, tv, fv, fv, pq gd, fv, fv, pq gd, iv n, .tuple #[], iv ((i : Nat) : Int), .slice A3 ops.length c3, iv (ops.length : Nat), tv, J 48, J 49, .slice A3 ops.length c3, iv ((i : Nat) : Int), .pointer (some (ad.add (i * 4))), .agg #[iv o.kind, iv o.at_, .slice o.A o.d.length o.cd, .slice o.A2 o.ps.length o.cp], pq g13, iv o.kind, fv, fv, pq g13, iv o.kind, fv, fv] ++ jr J 62 105) 11) (by kernel_rfl) ?_
              refine then_n ?_
              refine wp_cond_false (by kernel_rfl) ?_
              refine wp_skip ?_
              refine then_n ?_
              refine wp_seq ?_
              refine wp_region_lit ?_
              refine pv (iv n) ?_
              refine pv (iv ((dn : Nat) : Int)) ?_
              refine wl_gv rfl (gv_int (k := .i64) (z := IntKind.i64.wrap (n - ((dn : Nat) : Int))) (z' := n - ((dn : Nat) : Int)) (by kernel_rfl) (wr_ok (by omega) (by omega)) ?_)
              refine pv (iv (n - ((dn : Nat) : Int))) ?_
              refine wl_end _ rfl ?_
              refine then_n ?_
              refine wp_seq ?_
              refine wp_seq ?_
              refine wp_region_lit ?_
              refine pv (pq gd) ?_
              refine wl_gv rfl (gv_call (args := #[.pointer (some ⟨gd, 0, none⟩)]) rfl Try.func22 (by kernel_rfl) rfl rfl (by kernel_rfl) ?_)
              by_cases hz : s1.left = 0
              · refine Calls.mono (pd_burnt' (b := true) (decide_eq_true hz) S18 1 rfl) ?_
                rintro _ _ ⟨rfl, rfl⟩
                refine ⟨_, rfl, ?_⟩
                refine pv (iv (n - ((dn : Nat) : Int))) ?_
                refine wl_gv rfl (gv_dec (p := (n - ((dn : Nat) : Int) : Int) ≤ 0) (by kernel_rfl) (fun _ => ?_) (fun hd21 => False.elim (by omega)))
                refine pv fv ?_
                refine wl_end _ rfl ?_
                refine then_n ?_
                refine wp_cond_false (by kernel_rfl) ?_
                refine wp_skip ?_
                refine then_n ?_
                refine wp_seq ?_
                refine wp_region_lit ?_
                refine pv (po g13 1) ?_
                refine wl_gv rfl (gv_ldR (v := .int .i64 o.at_) rfl (by kernel_rfl) (by kernel_rfl) (((S18.blk 0 rfl).cell 1).trans rfl) ?_)
                refine wl_gv rfl (gv_dec (p := (o.at_ : Int) ≥ 0) (by kernel_rfl) (fun hb22 => ?_) (fun hb22 => ?_))
                · skip
                  refine pv tv ?_
                  refine wl_when (by kernel_rfl) (gv_val (v := .pointer (some ⟨g13, 1, none⟩)) (w' := w17) (by kernel_rfl) ?_)
                  refine wl_when (by kernel_rfl) (gv_ldR (v := .int .i64 o.at_) rfl (by kernel_rfl) (by kernel_rfl) (((S18.blk 0 rfl).cell 1).trans rfl) ?_)
                  refine wl_when (by kernel_rfl) (gv_val (v := .int .i64 k) (w' := w17) (by kernel_rfl) ?_)
                  refine wl_when (by kernel_rfl) (gv_dec (p := (o.at_ : Int) < k) (by kernel_rfl) (fun hb23 => ?_) (fun hb23 => ?_))
                  · skip
                    refine pv tv ?_
                    refine pv tv ?_
                    refine wl_end _ rfl ?_
                    refine then_n ?_
                    refine wp_seq ?_
                    refine wp_region_lit ?_
                    refine pv (pq g13) ?_
                    refine wl_gv rfl (gv_ldR (v := .int .i64 o.kind) rfl (by kernel_rfl) (by kernel_rfl) (((S18.blk 0 rfl).cell 0).trans rfl) ?_)
                    refine wl_end _ rfl ?_
                    refine then_n ?_
                    refine wp_block ?_
                    refine wp_seq ?_
                    refine wp_region_lit ?_
                    refine wl_gv rfl (gv_eq (x := o.kind) (y := 2) (by kernel_rfl) (fun k2 => ?_) (fun k2 => ?_))
                    · skip
                      refine pv tv ?_
                      refine wl_end _ rfl ?_
                      refine then_n ?_
                      refine wp_cond_true (by kernel_rfl) ?_
                      refine wp_seq ?_
                      refine wp_region_phu (γ := Nat) 7 [5, 6] (fun (c_ : Nat) (i_ : Nat) => (match i_ with | 0 => .pointer (some ⟨gd, 0, none⟩) | 1 => .pointer (some ⟨g13, 1, none⟩) | 2 => .int .i64 o.at_ | 3 => .pointer (some ⟨g13, 2, none⟩) | 4 => .slice o.A o.d.length o.cd | 5 => .slice (some ⟨c_, 0, none⟩) o.d.length o.d.length | 6 => .int .i64 ((s1.writeR o.at_ o.d).2) | _ => undef : Value)) (fun (c_ : Nat) (p_ : Nat) (w_ : World) => (match p_ with | 0 => St none' w w_ [row g13 #[.int .i64 o.kind, .int .i64 o.at_, .slice o.A o.d.length o.cd, .slice o.A2 o.ps.length o.cp] 49, PDisk gd s1] | 1 => St none' w w_ [row c_ (bvs o.d) 5, row g13 #[.int .i64 o.kind, .int .i64 o.at_, .slice o.A o.d.length o.cd, .slice o.A2 o.ps.length o.cp] 49, PDisk gd s1] | _ => St none' w w_ [PDisk gd (s1.writeR o.at_ o.d).1, row c_ (bvs o.d) 5, row g13 #[.int .i64 o.kind, .int .i64 o.at_, .slice o.A o.d.length o.cd, .slice o.A2 o.ps.length o.cp] 49] : Prop)) (0) (by kernel_rfl) (by kernel_rfl) (by kernel_rfl) (by kernel_rfl) (S18.drew) ?_ ?_ ?_
                      · intro i_ c_ p_ vals_ w1 hi_ hiE_ hp_ hk_ hu_ hPh_ hd_
                        rcases i_ with _ | _ | _ | _ | _ | _ | _ | i_
                        · skip
                          refine told_free rfl rfl (gv_env ((⟨Array.replicate 178 undef, []⟩ : Act).put (some 7) (.pointer (some ⟨gd, 0, none⟩))) (by kernel_rfl) (xs := [.tmp 7]) (by kernel_rfl) (alike_cons (fill_past (by kernel_rfl) (by kernel_rfl)) alike_nil) (gv_val (v := .pointer (some ⟨gd, 0, none⟩)) (w' := w1) (by kernel_rfl) ?_))
                          exact ⟨rfl, rfl⟩
                        · skip
                          refine told_free rfl rfl (gv_env ((⟨Array.replicate 178 undef, []⟩ : Act).put (some 11) (.pointer (some ⟨g13, 0, none⟩))) (by kernel_rfl) (xs := [.tmp 11]) (by kernel_rfl) (alike_cons (fill_past (by kernel_rfl) (by kernel_rfl)) alike_nil) (gv_val (v := .pointer (some ⟨g13, 1, none⟩)) (w' := w1) (by kernel_rfl) ?_))
                          exact ⟨rfl, rfl⟩
                        · skip
                          rcases p_ with _ | _ | _ | p_
                          · skip
                            have S26 : St none' w w1 [row g13 #[.int .i64 o.kind, .int .i64 o.at_, .slice o.A o.d.length o.cd, .slice o.A2 o.ps.length o.cp] 49, PDisk gd s1] := hPh_
                            refine told_free rfl rfl (gv_env ((⟨Array.replicate 178 undef, []⟩ : Act).put (some 87) (.pointer (some ⟨g13, 1, none⟩))) (by kernel_rfl) (xs := [.tmp 87]) (by kernel_rfl) (alike_cons (fill_at (k := 1) (by kernel_rfl) (by kernel_rfl) ((hd_ 1 (by kernel_rfl)).trans (by kernel_rfl))) alike_nil) (gv_ldR (v := .int .i64 o.at_) rfl (by kernel_rfl) (by kernel_rfl) (((S26.blk 0 rfl).cell 1).trans rfl) ?_))
                            exact ⟨rfl, rfl⟩
                          · skip
                            have S27 : St none' w w1 [row c_ (bvs o.d) 5, row g13 #[.int .i64 o.kind, .int .i64 o.at_, .slice o.A o.d.length o.cd, .slice o.A2 o.ps.length o.cp] 49, PDisk gd s1] := hPh_
                            refine told_free rfl rfl (gv_env ((⟨Array.replicate 178 undef, []⟩ : Act).put (some 87) (.pointer (some ⟨g13, 1, none⟩))) (by kernel_rfl) (xs := [.tmp 87]) (by kernel_rfl) (alike_cons (fill_at (k := 1) (by kernel_rfl) (by kernel_rfl) ((hd_ 1 (by kernel_rfl)).trans (by kernel_rfl))) alike_nil) (gv_ldR (v := .int .i64 o.at_) rfl (by kernel_rfl) (by kernel_rfl) (((S27.blk 1 rfl).cell 1).trans rfl) ?_))
                            exact ⟨rfl, rfl⟩
                          · skip
                            exact absurd (hu_ 1 (by decide) (by kernel_rfl)) (by decide)
                          · exact absurd hp_ (by simp)
                        · skip
                          refine told_free rfl rfl (gv_env ((⟨Array.replicate 178 undef, []⟩ : Act).put (some 11) (.pointer (some ⟨g13, 0, none⟩))) (by kernel_rfl) (xs := [.tmp 11]) (by kernel_rfl) (alike_cons (fill_past (by kernel_rfl) (by kernel_rfl)) alike_nil) (gv_val (v := .pointer (some ⟨g13, 2, none⟩)) (w' := w1) (by kernel_rfl) ?_))
                          exact ⟨rfl, rfl⟩
                        · skip
                          rcases p_ with _ | _ | _ | p_
                          · skip
                            have S29 : St none' w w1 [row g13 #[.int .i64 o.kind, .int .i64 o.at_, .slice o.A o.d.length o.cd, .slice o.A2 o.ps.length o.cp] 49, PDisk gd s1] := hPh_
                            refine told_free rfl rfl (gv_env ((⟨Array.replicate 178 undef, []⟩ : Act).put (some 89) (.pointer (some ⟨g13, 2, none⟩))) (by kernel_rfl) (xs := [.tmp 89]) (by kernel_rfl) (alike_cons (fill_at (k := 3) (by kernel_rfl) (by kernel_rfl) ((hd_ 3 (by kernel_rfl)).trans (by kernel_rfl))) alike_nil) (gv_ldR (v := .slice o.A o.d.length o.cd) rfl (by kernel_rfl) (by kernel_rfl) (((S29.blk 0 rfl).cell 2).trans rfl) ?_))
                            exact ⟨rfl, rfl⟩
                          · skip
                            exact absurd (hu_ 0 (by decide) (by kernel_rfl)) (by decide)
                          · skip
                            exact absurd (hu_ 0 (by decide) (by kernel_rfl)) (by decide)
                          · exact absurd hp_ (by simp)
                        · skip
                          exact absurd hiE_ (by decide)
                        · skip
                          exact absurd hiE_ (by decide)
                        · exact absurd hi_ (by omega)
                      · intro k_ c_ vals_ w1 hk_ hPh_ hd_
                        rcases k_ with _ | _ | k_
                        · skip
                          have S30 : St none' w w1 [row g13 #[.int .i64 o.kind, .int .i64 o.at_, .slice o.A o.d.length o.cd, .slice o.A2 o.ps.length o.cp] 49, PDisk gd s1] := hPh_
                          refine told_free rfl rfl (gv_env ((⟨Array.replicate 178 undef, []⟩ : Act).put (some 90) (.slice o.A o.d.length o.cd)) (by kernel_rfl) (xs := [.func 27, .tmp 90]) (by kernel_rfl) (alike_cons eval_fn (alike_cons (fill_at (k := 4) (by kernel_rfl) (by kernel_rfl) ((hd_ 4 (by kernel_rfl)).trans (by kernel_rfl))) alike_nil)) (gv_call (args := #[.slice o.A o.d.length o.cd]) rfl Try.func27 (by kernel_rfl) rfl rfl (by kernel_rfl) ?_))
                          refine Calls.mono (ltwinS (l := o.d) S30 (Ro.of_C hk.d (fun _ h => h)).T hk.dm) ?_
                          rintro _ w32 ⟨g31, rfl, S33⟩
                          refine ⟨_, rfl, ?_⟩
                          refine ⟨(g31), rfl, ?_, S33⟩
                          intro i_ hi_ hne_ hdp_
                          rcases i_ with _ | _ | _ | _ | _ | _ | _ | i_
                          · rfl
                          · rfl
                          · rfl
                          · rfl
                          · rfl
                          · exact absurd rfl hne_
                          · exact (dep_no hdp_ (by kernel_rfl)).elim
                          · exact absurd hi_ (by omega)
                        · skip
                          have S34 : St none' w w1 [row c_ (bvs o.d) 5, row g13 #[.int .i64 o.kind, .int .i64 o.at_, .slice o.A o.d.length o.cd, .slice o.A2 o.ps.length o.cp] 49, PDisk gd s1] := hPh_
                          refine told_free rfl rfl (gv_env ((((⟨Array.replicate 178 undef, []⟩ : Act).put (some 86) (.pointer (some ⟨gd, 0, none⟩))).put (some 88) (.int .i64 o.at_)).put (some 91) (.slice (some ⟨c_, 0, none⟩) o.d.length o.d.length)) (by kernel_rfl) (xs := [.func 35, .tmp 86, .tmp 88, .tmp 91]) (by kernel_rfl) (alike_cons eval_fn (alike_cons (fill_at (k := 0) (by kernel_rfl) (by kernel_rfl) ((hd_ 0 (by kernel_rfl)).trans (by kernel_rfl))) (alike_cons (fill_at (k := 2) (by kernel_rfl) (by kernel_rfl) ((hd_ 2 (by kernel_rfl)).trans (by kernel_rfl))) (alike_cons (fill_at (k := 5) (by kernel_rfl) (by kernel_rfl) ((hd_ 5 (by kernel_rfl)).trans (by kernel_rfl))) alike_nil)))) (gv_call (args := #[.pointer (some ⟨gd, 0, none⟩), .int .i64 o.at_, .slice (some ⟨c_, 0, none⟩) o.d.length o.d.length]) rfl Try.func35 (by kernel_rfl) rfl rfl (by kernel_rfl) ?_))
                          have S35 : St none' w w1 [PDisk gd s1, row c_ (bvs o.d) 5, row g13 #[.int .i64 o.kind, .int .i64 o.at_, .slice o.A o.d.length o.cd, .slice o.A2 o.ps.length o.cp] 49] := St.permT [row c_ (bvs o.d) 5, row g13 #[.int .i64 o.kind, .int .i64 o.at_, .slice o.A o.d.length o.cd, .slice o.A2 o.ps.length o.cp] 49, PDisk gd s1] [2, 0, 1] (by decide) rfl S34
                          refine Calls.mono (pd_write S35 (RoT.item 0 rfl 0 o.d.length o.d (by rw [List.drop_zero, List.take_length])) (by have := hk.dm; omega) (by have := hpI; omega)) ?_
                          rintro _ w36 ⟨rfl, S37⟩
                          refine ⟨_, rfl, ?_⟩
                          refine ⟨(c_), rfl, ?_, S37⟩
                          intro i_ hi_ hne_ hdp_
                          rcases i_ with _ | _ | _ | _ | _ | _ | _ | i_
                          · rfl
                          · rfl
                          · rfl
                          · rfl
                          · rfl
                          · rfl
                          · exact absurd rfl hne_
                          · exact absurd hi_ (by omega)
                        · exact absurd hk_ (by simp)
                      · intro c_ w1 hPh_
                        have S38 : St none' w w1 [PDisk gd (s1.writeR o.at_ o.d).1, row c_ (bvs o.d) 5, row g13 #[.int .i64 o.kind, .int .i64 o.at_, .slice o.A o.d.length o.cd, .slice o.A2 o.ps.length o.cp] 49] := hPh_
                        refine wl_frame (fr ([iv k, iv n, .slice A3 ops.length c3, ud, ud, ud, J 6, pq gd, tv, iv ((dn : Nat) : Int), iv ((i : Nat) : Int), pq g13, iv (n - ((dn : Nat) : Int)), tv] ++ jr J 14 5 ++ [ud, iv n, fv, fv, iv k, fv, fv, fv, iv k, fv, fv, .tuple #[pq gd, tv], iv k, .tuple #[pq gd, tv], pq gd, tv, tv, fv, fv, pq gd, fv, fv, pq gd, iv n, .tuple #[], iv ((i : Nat) : Int), .slice A3 ops.length c3, iv (ops.length : Nat), tv, J 48, J 49, .slice A3 ops.length c3, iv ((i : Nat) : Int), .pointer (some (ad.add (i * 4))), .agg #[iv o.kind, iv o.at_, .slice o.A o.d.length o.cd, .slice o.A2 o.ps.length o.cp], pq g13, iv o.kind, fv, fv, pq g13, iv o.kind, fv, fv, iv n, iv ((dn : Nat) : Int), iv (n - ((dn : Nat) : Int)), pq gd, tv, iv (n - ((dn : Nat) : Int)), tv, fv, po g13 1, iv o.at_, tv, tv, po g13 1, iv o.at_, iv k, tv, tv, pq g13, iv o.kind, J 81, J 82, J 83, tv, tv, pq gd, po g13 1, iv o.at_, po g13 2, .slice o.A o.d.length o.cd, sl c_ 0 o.d.length o.d.length, iv ((s1.writeR o.at_ o.d).2)] ++ jr J 93 74) 11) (by kernel_rfl) ?_
                        refine pv (iv ((s1.writeR o.at_ o.d).2)) ?_
                        refine wl_end (fr ([iv k, iv n, .slice A3 ops.length c3, ud, ud, ud, J 6, pq gd, tv, iv ((dn : Nat) : Int), iv ((i : Nat) : Int), pq g13, iv (n - ((dn : Nat) : Int)), tv, iv ((s1.writeR o.at_ o.d).2)] ++ jr J 15 4 ++ [ud, iv n, fv, fv, iv k, fv, fv, fv, iv k, fv, fv, .tuple #[pq gd, tv], iv k, .tuple #[pq gd, tv], pq gd, tv, tv, fv, fv, pq gd, fv, fv, pq gd, iv n, .tuple #[], iv ((i : Nat) : Int), .slice A3 ops.length c3, iv (ops.length : Nat), tv, J 48, J 49, .slice A3 ops.length c3, iv ((i : Nat) : Int), .pointer (some (ad.add (i * 4))), .agg #[iv o.kind, iv o.at_, .slice o.A o.d.length o.cd, .slice o.A2 o.ps.length o.cp], pq g13, iv o.kind, fv, fv, pq g13, iv o.kind, fv, fv, iv n, iv ((dn : Nat) : Int), iv (n - ((dn : Nat) : Int)), pq gd, tv, iv (n - ((dn : Nat) : Int)), tv, fv, po g13 1, iv o.at_, tv, tv, po g13 1, iv o.at_, iv k, tv, tv, pq g13, iv o.kind, J 81, J 82, J 83, tv, tv, pq gd, po g13 1, iv o.at_, po g13 2, .slice o.A o.d.length o.cd, sl c_ 0 o.d.length o.d.length, iv ((s1.writeR o.at_ o.d).2)] ++ jr J 93 74) 11) (by kernel_rfl) ?_
                        refine then_n ?_
                        refine wp_seq ?_
                        refine wp_region_lit ?_
                        refine pv tv ?_
                        refine pv tv ?_
                        refine wl_when (by kernel_rfl) (gv_val (v := .pointer (some ⟨g13, 2, none⟩)) (w' := w1) (by kernel_rfl) ?_)
                        refine wl_when (by kernel_rfl) (gv_ldR (v := .slice o.A o.d.length o.cd) rfl (by kernel_rfl) (by kernel_rfl) (((S38.blk 2 rfl).cell 2).trans rfl) ?_)
                        refine wl_when (by kernel_rfl) (gv_val (v := .int .i64 (o.d.length : Nat)) (w' := w1) (by kernel_rfl) ?_)
                        refine wl_when (by kernel_rfl) (gv_eq (x := (o.d.length : Nat)) (y := 512) (by kernel_rfl) (fun hb39 => ?_) (fun hb39 => ?_))
                        · skip
                          refine pv tv ?_
                          refine pv tv ?_
                          refine wl_end _ rfl ?_
                          refine then_n ?_
                          refine wp_seq ?_
                          refine wp_seq ?_
                          refine wp_region_lit ?_
                          refine pv (iv ((s1.writeR o.at_ o.d).2)) ?_
                          refine wl_gv rfl (gv_eq (x := ((s1.writeR o.at_ o.d).2)) (y := 0) (by kernel_rfl) (fun hb40 => ?_) (fun hb40 => ?_))
                          · skip
                            have hw := writeR_ok hb40
                            exfalso; omega
                          · skip
                            have hw := writeR_no (show _ ≠ (0 : Int) from hb40)
                            refine pv tv ?_
                            refine pv tv ?_
                            refine wl_when (by kernel_rfl) (gv_val (v := .int .i64 (n - ((dn : Nat) : Int))) (w' := w1) (by kernel_rfl) ?_)
                            refine wl_when (by kernel_rfl) (gv_dec (p := (n - ((dn : Nat) : Int) : Int) > 0) (by kernel_rfl) (fun hd41 => False.elim (by omega)) (fun _ => ?_))
                            refine pv fv ?_
                            refine pv fv ?_
                            refine pv fv ?_
                            refine wl_when (by kernel_rfl) (gv_val (v := .int .i64 (n - ((dn : Nat) : Int))) (w' := w1) (by kernel_rfl) ?_)
                            refine wl_when (by kernel_rfl) (gv_dec (p := (n - ((dn : Nat) : Int) : Int) ≤ 0) (by kernel_rfl) (fun _ => ?_) (fun hd42 => False.elim (by omega)))
                            refine wl_when (by kernel_rfl) (gv_val (v := .bool true) (w' := w1) (by kernel_rfl) ?_)
                            refine wl_when (by kernel_rfl) (gv_val (v := .int .i64 ((s1.writeR o.at_ o.d).2)) (w' := w1) (by kernel_rfl) ?_)
                            refine wl_when (by kernel_rfl) (gv_ne (x := ((s1.writeR o.at_ o.d).2)) (y := 3) (by kernel_rfl) (fun hd43 => False.elim (by have := hw.2.2.2.2 hz; omega)) (fun _ => ?_))
                            refine wl_when (by kernel_rfl) (gv_val (v := .bool false) (w' := w1) (by kernel_rfl) ?_)
                            refine pv fv ?_
                            refine wl_end _ rfl ?_
                            refine then_n ?_
                            refine wp_cond_false (by kernel_rfl) ?_
                            refine wp_skip ?_
                            refine then_n ?_
                            refine wp_seq ?_
                            refine wp_region_lit ?_
                            refine pv (iv ((s1.writeR o.at_ o.d).2)) ?_
                            refine wl_gv rfl (gv_eq (x := ((s1.writeR o.at_ o.d).2)) (y := 0) (by kernel_rfl) (fun hb44 => ?_) (fun hb44 => ?_))
                            · skip
                              exfalso; omega
                            · skip
                              refine wl_end _ rfl ?_
                              refine then_n ?_
                              refine wp_cond_false (by kernel_rfl) ?_
                              refine wp_skip ?_
                              refine inb_n ?_
                              refine inb_n ?_
                              refine then_n ?_
                              refine wp_region_lit ?_
                              refine pv (iv ((i : Nat) : Int)) ?_
                              refine wl_gv rfl (gv_int (k := .i64) (z := IntKind.i64.wrap (((i : Nat) : Int) + 1)) (z' := ((i + 1 : Nat) : Int)) (by kernel_rfl) (wr_eq (by omega) (by omega) (by omega)) ?_)
                              refine pv (iv ((i + 1 : Nat) : Int)) ?_
                              have S45 : St none' w w1 [PDisk gd (s1.writeR o.at_ o.d).1] := St.permT [PDisk gd (s1.writeR o.at_ o.d).1, row c_ (bvs o.d) 5, row g13 #[.int .i64 o.kind, .int .i64 o.at_, .slice o.A o.d.length o.cd, .slice o.A2 o.ps.length o.cp] 49] [0] (by decide) rfl S38
                              have hpb : ((s1.writeR o.at_ o.d).1).pend.length ≤ i + 1 := (Nat.le_trans (writeR_pend s1 o.at_ o.d) (by omega))
                              have hlf : ((s1.writeR o.at_ o.d).1).left = n - (((dn : Nat) : Nat) : Int) := by rw [hw.2.2.1]; exact hlI
                              have hdn : (((dn : Nat) : Nat) : Int) ≤ n := hdI
                              have hln : (((s1.writeR o.at_ o.d).1).last.length : Int) = k := by rw [hw.1]; exact hmI
                              refine wl_end _ rfl ?_
                              refine then_n ?_
                              exact ⟨(i + 1, (s1.writeR o.at_ o.d).1, dn), ⟨(jl [ud, ud, ud, ud, ud, ud, J 6, ud, ud, ud, ud, pq g13, iv (n - ((dn : Nat) : Int)), tv, iv ((s1.writeR o.at_ o.d).2), tv, J 16, J 17, J 18, ud, ud, ud, ud, ud, ud, ud, ud, ud, ud, ud, ud, ud, ud, ud, ud, ud, ud, ud, ud, ud, ud, ud, ud, ud, iv ((i : Nat) : Int), .slice A3 ops.length c3, iv (ops.length : Nat), tv, iv ((i : Nat) : Int), iv ((i + 1 : Nat) : Int), .slice A3 ops.length c3, iv ((i : Nat) : Int), .pointer (some (ad.add (i * 4))), .agg #[iv o.kind, iv o.at_, .slice o.A o.d.length o.cd, .slice o.A2 o.ps.length o.cp], pq g13, iv o.kind, fv, fv, pq g13, iv o.kind, fv, fv, iv n, iv ((dn : Nat) : Int), iv (n - ((dn : Nat) : Int)), pq gd, tv, iv (n - ((dn : Nat) : Int)), tv, fv, po g13 1, iv o.at_, tv, tv, po g13 1, iv o.at_, iv k, tv, tv, pq g13, iv o.kind, J 81, J 82, J 83, tv, tv, pq gd, po g13 1, iv o.at_, po g13 2, .slice o.A o.d.length o.cd, sl c_ 0 o.d.length o.d.length, iv ((s1.writeR o.at_ o.d).2), tv, tv, po g13 2, .slice o.A o.d.length o.cd, iv (o.d.length : Nat), tv, tv, iv ((s1.writeR o.at_ o.d).2), fv, tv, tv, iv (n - ((dn : Nat) : Int)), fv, fv, fv, fv, iv (n - ((dn : Nat) : Int)), tv, tv, iv ((s1.writeR o.at_ o.d).2), fv, fv, fv, iv ((s1.writeR o.at_ o.d).2), fv, J 118, J 119, J 120, J 121, J 122, J 123, J 124, J 125, J 126, J 127, J 128, J 129, J 130, J 131, J 132, J 133, J 134, J 135, J 136, J 137, J 138, J 139, J 140, J 141, J 142, J 143, J 144, J 145, J 146, J 147, J 148, J 149, J 150, J 151, J 152, J 153, J 154, J 155, J 156, J 157, J 158, J 159, J 160, J 161, J 162, J 163, J 164, J 165, J 166]), by kernel_rfl, S45, ⟨by omega, hpb, hlf, hdn, hln⟩⟩, (by show ops.length - (i + 1) < ops.length - i; omega)⟩
                        · skip
                          refine pv fv ?_
                          refine pv fv ?_
                          refine wl_end _ rfl ?_
                          refine then_n ?_
                          refine wp_seq ?_
                          refine wp_seq ?_
                          refine wp_region_lit ?_
                          refine pv (iv ((s1.writeR o.at_ o.d).2)) ?_
                          refine wl_gv rfl (gv_eq (x := ((s1.writeR o.at_ o.d).2)) (y := 0) (by kernel_rfl) (fun hb46 => ?_) (fun hb46 => ?_))
                          · skip
                            have hw := writeR_ok hb46
                            exfalso; omega
                          · skip
                            have hw := writeR_no (show _ ≠ (0 : Int) from hb46)
                            refine pv fv ?_
                            refine pv fv ?_
                            refine wl_not (by kernel_rfl) ?_
                            refine wl_not (by kernel_rfl) ?_
                            refine pv fv ?_
                            refine pv fv ?_
                            refine pv fv ?_
                            refine wl_when (by kernel_rfl) (gv_val (v := .int .i64 (n - ((dn : Nat) : Int))) (w' := w1) (by kernel_rfl) ?_)
                            refine wl_when (by kernel_rfl) (gv_dec (p := (n - ((dn : Nat) : Int) : Int) ≤ 0) (by kernel_rfl) (fun _ => ?_) (fun hd47 => False.elim (by omega)))
                            refine wl_when (by kernel_rfl) (gv_val (v := .bool true) (w' := w1) (by kernel_rfl) ?_)
                            refine wl_when (by kernel_rfl) (gv_val (v := .int .i64 ((s1.writeR o.at_ o.d).2)) (w' := w1) (by kernel_rfl) ?_)
                            refine wl_when (by kernel_rfl) (gv_ne (x := ((s1.writeR o.at_ o.d).2)) (y := 3) (by kernel_rfl) (fun hd48 => False.elim (by have := hw.2.2.2.2 hz; omega)) (fun _ => ?_))
                            refine wl_when (by kernel_rfl) (gv_val (v := .bool false) (w' := w1) (by kernel_rfl) ?_)
                            refine pv fv ?_
                            refine wl_end _ rfl ?_
                            refine then_n ?_
                            refine wp_cond_false (by kernel_rfl) ?_
                            refine wp_skip ?_
                            refine then_n ?_
                            refine wp_seq ?_
                            refine wp_region_lit ?_
                            refine pv (iv ((s1.writeR o.at_ o.d).2)) ?_
                            refine wl_gv rfl (gv_eq (x := ((s1.writeR o.at_ o.d).2)) (y := 0) (by kernel_rfl) (fun hb49 => ?_) (fun hb49 => ?_))
                            · skip
                              exfalso; omega
                            · skip
                              refine wl_end _ rfl ?_
                              refine then_n ?_
                              refine wp_cond_false (by kernel_rfl) ?_
                              refine wp_skip ?_
                              refine inb_n ?_
                              refine inb_n ?_
                              refine then_n ?_
                              refine wp_region_lit ?_
                              refine pv (iv ((i : Nat) : Int)) ?_
                              refine wl_gv rfl (gv_int (k := .i64) (z := IntKind.i64.wrap (((i : Nat) : Int) + 1)) (z' := ((i + 1 : Nat) : Int)) (by kernel_rfl) (wr_eq (by omega) (by omega) (by omega)) ?_)
                              refine pv (iv ((i + 1 : Nat) : Int)) ?_
                              have S50 : St none' w w1 [PDisk gd (s1.writeR o.at_ o.d).1] := St.permT [PDisk gd (s1.writeR o.at_ o.d).1, row c_ (bvs o.d) 5, row g13 #[.int .i64 o.kind, .int .i64 o.at_, .slice o.A o.d.length o.cd, .slice o.A2 o.ps.length o.cp] 49] [0] (by decide) rfl S38
                              have hpb : ((s1.writeR o.at_ o.d).1).pend.length ≤ i + 1 := (Nat.le_trans (writeR_pend s1 o.at_ o.d) (by omega))
                              have hlf : ((s1.writeR o.at_ o.d).1).left = n - (((dn : Nat) : Nat) : Int) := by rw [hw.2.2.1]; exact hlI
                              have hdn : (((dn : Nat) : Nat) : Int) ≤ n := hdI
                              have hln : (((s1.writeR o.at_ o.d).1).last.length : Int) = k := by rw [hw.1]; exact hmI
                              refine wl_end _ rfl ?_
                              refine then_n ?_
                              exact ⟨(i + 1, (s1.writeR o.at_ o.d).1, dn), ⟨(jl [ud, ud, ud, ud, ud, ud, J 6, ud, ud, ud, ud, pq g13, iv (n - ((dn : Nat) : Int)), tv, iv ((s1.writeR o.at_ o.d).2), fv, J 16, J 17, J 18, ud, ud, ud, ud, ud, ud, ud, ud, ud, ud, ud, ud, ud, ud, ud, ud, ud, ud, ud, ud, ud, ud, ud, ud, ud, iv ((i : Nat) : Int), .slice A3 ops.length c3, iv (ops.length : Nat), tv, iv ((i : Nat) : Int), iv ((i + 1 : Nat) : Int), .slice A3 ops.length c3, iv ((i : Nat) : Int), .pointer (some (ad.add (i * 4))), .agg #[iv o.kind, iv o.at_, .slice o.A o.d.length o.cd, .slice o.A2 o.ps.length o.cp], pq g13, iv o.kind, fv, fv, pq g13, iv o.kind, fv, fv, iv n, iv ((dn : Nat) : Int), iv (n - ((dn : Nat) : Int)), pq gd, tv, iv (n - ((dn : Nat) : Int)), tv, fv, po g13 1, iv o.at_, tv, tv, po g13 1, iv o.at_, iv k, tv, tv, pq g13, iv o.kind, J 81, J 82, J 83, tv, tv, pq gd, po g13 1, iv o.at_, po g13 2, .slice o.A o.d.length o.cd, sl c_ 0 o.d.length o.d.length, iv ((s1.writeR o.at_ o.d).2), tv, tv, po g13 2, .slice o.A o.d.length o.cd, iv (o.d.length : Nat), fv, fv, iv ((s1.writeR o.at_ o.d).2), fv, fv, fv, ud, ud, fv, fv, fv, iv (n - ((dn : Nat) : Int)), tv, tv, iv ((s1.writeR o.at_ o.d).2), fv, fv, fv, iv ((s1.writeR o.at_ o.d).2), fv, J 118, J 119, J 120, J 121, J 122, J 123, J 124, J 125, J 126, J 127, J 128, J 129, J 130, J 131, J 132, J 133, J 134, J 135, J 136, J 137, J 138, J 139, J 140, J 141, J 142, J 143, J 144, J 145, J 146, J 147, J 148, J 149, J 150, J 151, J 152, J 153, J 154, J 155, J 156, J 157, J 158, J 159, J 160, J 161, J 162, J 163, J 164, J 165, J 166]), by kernel_rfl, S50, ⟨by omega, hpb, hlf, hdn, hln⟩⟩, (by show ops.length - (i + 1) < ops.length - i; omega)⟩
                    · skip
                      refine pv fv ?_
                      refine wl_end _ rfl ?_
                      refine then_n ?_
                      refine wp_cond_false (by kernel_rfl) ?_
                      refine wp_seq ?_
                      refine wp_region_lit ?_
                      refine wl_gv rfl (gv_eq (x := o.kind) (y := 3) (by kernel_rfl) (fun k3 => ?_) (fun k3 => ?_))
                      · skip
                        refine pv tv ?_
                        refine wl_end _ rfl ?_
                        refine then_n ?_
                        refine wp_cond_true (by kernel_rfl) ?_
                        refine wp_seq ?_
                        refine wp_region_lit ?_
                        refine pv (pq gd) ?_
                        refine wl_gv rfl (gv_call (args := #[.pointer (some ⟨gd, 0, none⟩)]) rfl Try.func41 (by kernel_rfl) rfl rfl (by kernel_rfl) ?_)
                        have S51 : St none' w w17 [PDisk gd s1, row g13 #[.int .i64 o.kind, .int .i64 o.at_, .slice o.A o.d.length o.cd, .slice o.A2 o.ps.length o.cp] 49] := St.permT [row g13 #[.int .i64 o.kind, .int .i64 o.at_, .slice o.A o.d.length o.cd, .slice o.A2 o.ps.length o.cp] 49, PDisk gd s1] [1, 0] (by decide) rfl S18
                        refine Calls.mono (pd_flush S51) ?_
                        rintro _ w52 ⟨rfl, S53⟩
                        refine ⟨_, rfl, ?_⟩
                        refine pv (iv s1.flushR.2) ?_
                        refine wl_end _ rfl ?_
                        refine then_n ?_
                        refine wp_seq ?_
                        refine wp_seq ?_
                        refine wp_region_lit ?_
                        refine pv (iv s1.flushR.2) ?_
                        refine wl_gv rfl (gv_eq (x := s1.flushR.2) (y := 0) (by kernel_rfl) (fun hb54 => ?_) (fun hb54 => ?_))
                        · skip
                          rcases flushR_cases s1 with ⟨_, e⟩ | ⟨hq, _⟩
                          · rw [e] at hb54; exact absurd (show (3 : Int) = 0 from hb54) (by decide)
                          · exact absurd hz hq
                        · skip
                          have hw : s1.flushR = (s1, 3) := (flushR_cases s1).elim (fun q => q.2) (fun q => absurd hz q.1)
                          refine pv (iv (n - ((dn : Nat) : Int))) ?_
                          refine wl_gv rfl (gv_dec (p := (n - ((dn : Nat) : Int) : Int) > 0) (by kernel_rfl) (fun hd55 => False.elim (by omega)) (fun _ => ?_))
                          refine pv fv ?_
                          refine wl_end _ rfl ?_
                          refine then_n ?_
                          refine wp_cond_false (by kernel_rfl) ?_
                          refine wp_skip ?_
                          refine then_n ?_
                          refine wp_seq ?_
                          refine wp_region_lit ?_
                          refine pv (iv s1.flushR.2) ?_
                          refine wl_gv rfl (gv_eq (x := s1.flushR.2) (y := 0) (by kernel_rfl) (fun hb56 => ?_) (fun hb56 => ?_))
                          · skip
                            exfalso; omega
                          · skip
                            refine wl_end _ rfl ?_
                            refine then_n ?_
                            refine wp_cond_false (by kernel_rfl) ?_
                            refine wp_skip ?_
                            refine inb_n ?_
                            refine inb_n ?_
                            refine then_n ?_
                            refine wp_region_lit ?_
                            refine pv (iv ((i : Nat) : Int)) ?_
                            refine wl_gv rfl (gv_int (k := .i64) (z := IntKind.i64.wrap (((i : Nat) : Int) + 1)) (z' := ((i + 1 : Nat) : Int)) (by kernel_rfl) (wr_eq (by omega) (by omega) (by omega)) ?_)
                            refine pv (iv ((i + 1 : Nat) : Int)) ?_
                            have S57 : St none' w w52 [PDisk gd s1.flushR.1] := St.permT [PDisk gd s1.flushR.1, row g13 #[.int .i64 o.kind, .int .i64 o.at_, .slice o.A o.d.length o.cd, .slice o.A2 o.ps.length o.cp] 49] [0] (by decide) rfl S53
                            have hpb : s1.flushR.1.pend.length ≤ i + 1 := (Nat.le_trans (flushR_pend s1) (by omega))
                            have hlf : s1.flushR.1.left = n - (((dn : Nat) : Nat) : Int) := by rw [hw]; exact hlI
                            have hdn : (((dn : Nat) : Nat) : Int) ≤ n := hdI
                            have hln : (s1.flushR.1.last.length : Int) = k := by rw [hw]; exact hmI
                            refine wl_end _ rfl ?_
                            refine then_n ?_
                            exact ⟨(i + 1, s1.flushR.1, dn), ⟨(jl [ud, ud, ud, ud, ud, ud, J 6, ud, ud, ud, ud, pq g13, iv (n - ((dn : Nat) : Int)), tv, J 14, J 15, iv s1.flushR.2, J 17, J 18, ud, ud, ud, ud, ud, ud, ud, ud, ud, ud, ud, ud, ud, ud, ud, ud, ud, ud, ud, ud, ud, ud, ud, ud, ud, iv ((i : Nat) : Int), .slice A3 ops.length c3, iv (ops.length : Nat), tv, iv ((i : Nat) : Int), iv ((i + 1 : Nat) : Int), .slice A3 ops.length c3, iv ((i : Nat) : Int), .pointer (some (ad.add (i * 4))), .agg #[iv o.kind, iv o.at_, .slice o.A o.d.length o.cd, .slice o.A2 o.ps.length o.cp], pq g13, iv o.kind, fv, fv, pq g13, iv o.kind, fv, fv, iv n, iv ((dn : Nat) : Int), iv (n - ((dn : Nat) : Int)), pq gd, tv, iv (n - ((dn : Nat) : Int)), tv, fv, po g13 1, iv o.at_, tv, tv, po g13 1, iv o.at_, iv k, tv, tv, pq g13, iv o.kind, J 81, J 82, J 83, fv, fv, J 86, J 87, J 88, J 89, J 90, J 91, J 92, J 93, J 94, J 95, J 96, J 97, J 98, J 99, J 100, J 101, J 102, J 103, J 104, J 105, J 106, J 107, J 108, J 109, J 110, J 111, J 112, J 113, J 114, J 115, J 116, J 117, J 118, J 119, tv, tv, pq gd, iv s1.flushR.2, iv s1.flushR.2, fv, iv (n - ((dn : Nat) : Int)), fv, fv, iv s1.flushR.2, fv, J 131, J 132, J 133, J 134, J 135, J 136, J 137, J 138, J 139, J 140, J 141, J 142, J 143, J 144, J 145, J 146, J 147, J 148, J 149, J 150, J 151, J 152, J 153, J 154, J 155, J 156, J 157, J 158, J 159, J 160, J 161, J 162, J 163, J 164, J 165, J 166]), by kernel_rfl, S57, ⟨by omega, hpb, hlf, hdn, hln⟩⟩, (by show ops.length - (i + 1) < ops.length - i; omega)⟩
                      · skip
                        refine pv fv ?_
                        refine wl_end _ rfl ?_
                        refine then_n ?_
                        refine wp_cond_false (by kernel_rfl) ?_
                        refine wp_seq ?_
                        refine wp_region_lit ?_
                        refine wl_gv rfl (gv_eq (x := o.kind) (y := 1) (by kernel_rfl) (fun k1 => ?_) (fun k1 => ?_))
                        · skip
                          refine pv tv ?_
                          refine wl_end _ rfl ?_
                          refine then_n ?_
                          refine wp_cond_true (by kernel_rfl) ?_
                          refine wp_seq ?_
                          refine wp_region_lit ?_
                          refine pv (pq gd) ?_
                          refine pv (po g13 1) ?_
                          refine wl_gv rfl (gv_ldR (v := .int .i64 o.at_) rfl (by kernel_rfl) (by kernel_rfl) (((S18.blk 0 rfl).cell 1).trans rfl) ?_)
                          refine wl_gv rfl (gv_call (args := #[.pointer (some ⟨gd, 0, none⟩), .int .i64 o.at_]) rfl Try.func29 (by kernel_rfl) rfl rfl (by kernel_rfl) ?_)
                          have S58 : St none' w w17 [PDisk gd s1, row g13 #[.int .i64 o.kind, .int .i64 o.at_, .slice o.A o.d.length o.cd, .slice o.A2 o.ps.length o.cp] 49] := St.permT [row g13 #[.int .i64 o.kind, .int .i64 o.at_, .slice o.A o.d.length o.cd, .slice o.A2 o.ps.length o.cp] 49, PDisk gd s1] [1, 0] (by decide) rfl S18
                          refine Calls.mono (pd_read S58) ?_
                          rintro _ w59 ⟨v_, rfl, S60⟩
                          obtain ⟨AP61, rfl, S60'⟩ := St.bytes_eq S60
                          refine ⟨_, rfl, ?_⟩
                          refine pv (.tuple #[.slice AP61 ((s1.readR o.at_).2.1.length) ((s1.readR o.at_).2.1.length), iv ((s1.readR o.at_).2.2)]) ?_
                          refine pv (.slice AP61 ((s1.readR o.at_).2.1.length) ((s1.readR o.at_).2.1.length)) ?_
                          refine pv (iv ((s1.readR o.at_).2.2)) ?_
                          refine pv (.slice AP61 ((s1.readR o.at_).2.1.length) ((s1.readR o.at_).2.1.length)) ?_
                          refine pv (iv ((s1.readR o.at_).2.2)) ?_
                          refine wl_end _ rfl ?_
                          refine then_n ?_
                          refine wp_seq ?_
                          refine wp_region_lit ?_
                          refine pv (iv ((s1.readR o.at_).2.2)) ?_
                          refine wl_gv rfl (gv_eq (x := ((s1.readR o.at_).2.2)) (y := 0) (by kernel_rfl) (fun hb62 => ?_) (fun hb62 => ?_))
                          · skip
                            have hq := readR_ok hb62
                            exfalso; omega
                          · skip
                            have hq := readR_no (show _ ≠ (0 : Int) from hb62)
                            refine pv tv ?_
                            refine pv tv ?_
                            refine wl_when (by kernel_rfl) (gv_val (v := .int .i64 (n - ((dn : Nat) : Int))) (w' := w59) (by kernel_rfl) ?_)
                            refine wl_when (by kernel_rfl) (gv_dec (p := (n - ((dn : Nat) : Int) : Int) > 0) (by kernel_rfl) (fun hd63 => False.elim (by omega)) (fun _ => ?_))
                            refine pv fv ?_
                            refine pv fv ?_
                            refine pv fv ?_
                            refine wl_when (by kernel_rfl) (gv_val (v := .int .i64 ((s1.readR o.at_).2.2)) (w' := w59) (by kernel_rfl) ?_)
                            refine wl_when (by kernel_rfl) (gv_ne (x := ((s1.readR o.at_).2.2)) (y := 0) (by kernel_rfl) (fun hb64 => ?_) (fun hb64 => ?_))
                            · skip
                              refine wl_when (by kernel_rfl) (gv_val (v := .bool true) (w' := w59) (by kernel_rfl) ?_)
                              refine wl_when (by kernel_rfl) (gv_val (v := .slice AP61 ((s1.readR o.at_).2.1.length) ((s1.readR o.at_).2.1.length)) (w' := w59) (by kernel_rfl) ?_)
                              refine wl_when (by kernel_rfl) (gv_val (v := .int .i64 ((s1.readR o.at_).2.1.length : Nat)) (w' := w59) (by kernel_rfl) ?_)
                              refine wl_when (by kernel_rfl) (gv_ne (x := ((s1.readR o.at_).2.1.length : Nat)) (y := 0) (by kernel_rfl) (fun hd65 => False.elim (hd65 (by rw [hq.1]; rfl))) (fun _ => ?_))
                              refine wl_when (by kernel_rfl) (gv_val (v := .bool false) (w' := w59) (by kernel_rfl) ?_)
                              refine pv fv ?_
                              refine pv fv ?_
                              refine wl_when (by kernel_rfl) (gv_val (v := .int .i64 (n - ((dn : Nat) : Int))) (w' := w59) (by kernel_rfl) ?_)
                              refine wl_when (by kernel_rfl) (gv_dec (p := (n - ((dn : Nat) : Int) : Int) ≤ 0) (by kernel_rfl) (fun _ => ?_) (fun hd66 => False.elim (by omega)))
                              refine wl_when (by kernel_rfl) (gv_val (v := .bool true) (w' := w59) (by kernel_rfl) ?_)
                              refine wl_when (by kernel_rfl) (gv_val (v := .int .i64 ((s1.readR o.at_).2.2)) (w' := w59) (by kernel_rfl) ?_)
                              refine wl_when (by kernel_rfl) (gv_ne (x := ((s1.readR o.at_).2.2)) (y := 3) (by kernel_rfl) (fun hd67 => False.elim (by have := hq.2.2 hz; omega)) (fun _ => ?_))
                              refine wl_when (by kernel_rfl) (gv_val (v := .bool false) (w' := w59) (by kernel_rfl) ?_)
                              refine pv fv ?_
                              refine wl_end (fr ([iv k, iv n, .slice A3 ops.length c3, ud, ud, ud, J 6, pq gd, tv, iv ((dn : Nat) : Int), iv ((i : Nat) : Int), pq g13, iv (n - ((dn : Nat) : Int)), tv, J 14, J 15, J 16, .slice AP61 ((s1.readR o.at_).2.1.length) ((s1.readR o.at_).2.1.length), iv ((s1.readR o.at_).2.2), ud, iv n, fv, fv, iv k, fv, fv, fv, iv k, fv, fv, .tuple #[pq gd, tv], iv k, .tuple #[pq gd, tv], pq gd, tv, tv, fv, fv, pq gd, fv, fv, pq gd, iv n, .tuple #[], iv ((i : Nat) : Int), .slice A3 ops.length c3, iv (ops.length : Nat), tv, J 48, J 49, .slice A3 ops.length c3, iv ((i : Nat) : Int), .pointer (some (ad.add (i * 4))), .agg #[iv o.kind, iv o.at_, .slice o.A o.d.length o.cd, .slice o.A2 o.ps.length o.cp], pq g13, iv o.kind, fv, fv, pq g13, iv o.kind, fv, fv, iv n, iv ((dn : Nat) : Int), iv (n - ((dn : Nat) : Int)), pq gd, tv, iv (n - ((dn : Nat) : Int)), tv, fv, po g13 1, iv o.at_, tv, tv, po g13 1, iv o.at_, iv k, tv, tv, pq g13, iv o.kind, J 81, J 82, J 83, fv, fv] ++ jr J 86 34 ++ [fv, fv] ++ jr J 122 11 ++ [tv, tv, .tuple #[.slice AP61 ((s1.readR o.at_).2.1.length) ((s1.readR o.at_).2.1.length), iv ((s1.readR o.at_).2.2)], pq gd, po g13 1, iv o.at_, .tuple #[.slice AP61 ((s1.readR o.at_).2.1.length) ((s1.readR o.at_).2.1.length), iv ((s1.readR o.at_).2.2)], .slice AP61 ((s1.readR o.at_).2.1.length) ((s1.readR o.at_).2.1.length), iv ((s1.readR o.at_).2.2), iv ((s1.readR o.at_).2.2), fv, tv, tv, iv (n - ((dn : Nat) : Int)), fv, fv, fv, fv, iv ((s1.readR o.at_).2.2), tv, tv, .slice AP61 ((s1.readR o.at_).2.1.length) ((s1.readR o.at_).2.1.length), iv ((s1.readR o.at_).2.1.length : Nat), fv, fv, fv, fv, iv (n - ((dn : Nat) : Int)), tv, tv, iv ((s1.readR o.at_).2.2), fv, fv, fv]) 11) (by kernel_rfl) ?_
                              refine then_n ?_
                              refine wp_cond_false (by kernel_rfl) ?_
                              refine wp_skip ?_
                              refine inb_n ?_
                              refine inb_n ?_
                              refine then_n ?_
                              refine wp_region_lit ?_
                              refine pv (iv ((i : Nat) : Int)) ?_
                              refine wl_gv rfl (gv_int (k := .i64) (z := IntKind.i64.wrap (((i : Nat) : Int) + 1)) (z' := ((i + 1 : Nat) : Int)) (by kernel_rfl) (wr_eq (by omega) (by omega) (by omega)) ?_)
                              refine pv (iv ((i + 1 : Nat) : Int)) ?_
                              have S68 : St none' w w59 [PDisk gd (s1.readR o.at_).1] := St.permT [bytesA (.slice AP61 ((s1.readR o.at_).2.1.length) ((s1.readR o.at_).2.1.length)) (s1.readR o.at_).2.1, PDisk gd (s1.readR o.at_).1, row g13 #[.int .i64 o.kind, .int .i64 o.at_, .slice o.A o.d.length o.cd, .slice o.A2 o.ps.length o.cp] 49] [1] (by decide) rfl S60'
                              have hpb : ((s1.readR o.at_).1).pend.length ≤ i + 1 := (by rw [(readR_same s1 _).2.1]; omega)
                              have hlf : ((s1.readR o.at_).1).left = n - (((dn : Nat) : Nat) : Int) := by rw [(readR_same s1 _).2.2]; exact hlI
                              have hdn : (((dn : Nat) : Nat) : Int) ≤ n := hdI
                              have hln : (((s1.readR o.at_).1).last.length : Int) = k := by rw [(readR_same s1 _).1]; exact hmI
                              refine wl_end _ rfl ?_
                              refine then_n ?_
                              exact ⟨(i + 1, (s1.readR o.at_).1, dn), ⟨(jl [ud, ud, ud, ud, ud, ud, J 6, ud, ud, ud, ud, pq g13, iv (n - ((dn : Nat) : Int)), tv, J 14, J 15, J 16, .slice AP61 ((s1.readR o.at_).2.1.length) ((s1.readR o.at_).2.1.length), iv ((s1.readR o.at_).2.2), ud, ud, ud, ud, ud, ud, ud, ud, ud, ud, ud, ud, ud, ud, ud, ud, ud, ud, ud, ud, ud, ud, ud, ud, ud, iv ((i : Nat) : Int), .slice A3 ops.length c3, iv (ops.length : Nat), tv, iv ((i : Nat) : Int), iv ((i + 1 : Nat) : Int), .slice A3 ops.length c3, iv ((i : Nat) : Int), .pointer (some (ad.add (i * 4))), .agg #[iv o.kind, iv o.at_, .slice o.A o.d.length o.cd, .slice o.A2 o.ps.length o.cp], pq g13, iv o.kind, fv, fv, pq g13, iv o.kind, fv, fv, iv n, iv ((dn : Nat) : Int), iv (n - ((dn : Nat) : Int)), pq gd, tv, iv (n - ((dn : Nat) : Int)), tv, fv, po g13 1, iv o.at_, tv, tv, po g13 1, iv o.at_, iv k, tv, tv, pq g13, iv o.kind, J 81, J 82, J 83, fv, fv, J 86, J 87, J 88, J 89, J 90, J 91, J 92, J 93, J 94, J 95, J 96, J 97, J 98, J 99, J 100, J 101, J 102, J 103, J 104, J 105, J 106, J 107, J 108, J 109, J 110, J 111, J 112, J 113, J 114, J 115, J 116, J 117, J 118, J 119, fv, fv, J 122, J 123, J 124, J 125, J 126, J 127, J 128, J 129, J 130, J 131, J 132, tv, tv, .tuple #[.slice AP61 ((s1.readR o.at_).2.1.length) ((s1.readR o.at_).2.1.length), iv ((s1.readR o.at_).2.2)], pq gd, po g13 1, iv o.at_, .tuple #[.slice AP61 ((s1.readR o.at_).2.1.length) ((s1.readR o.at_).2.1.length), iv ((s1.readR o.at_).2.2)], .slice AP61 ((s1.readR o.at_).2.1.length) ((s1.readR o.at_).2.1.length), iv ((s1.readR o.at_).2.2), iv ((s1.readR o.at_).2.2), fv, tv, tv, iv (n - ((dn : Nat) : Int)), fv, fv, fv, fv, iv ((s1.readR o.at_).2.2), tv, tv, .slice AP61 ((s1.readR o.at_).2.1.length) ((s1.readR o.at_).2.1.length), iv ((s1.readR o.at_).2.1.length : Nat), fv, fv, fv, fv, iv (n - ((dn : Nat) : Int)), tv, tv, iv ((s1.readR o.at_).2.2), fv, fv, fv]), by kernel_rfl, S68, ⟨by omega, hpb, hlf, hdn, hln⟩⟩, (by show ops.length - (i + 1) < ops.length - i; omega)⟩
                            · skip
                              exfalso; omega
                        · skip
                          refine pv fv ?_
                          refine wl_end _ rfl ?_
                          refine then_n ?_
                          refine wp_cond_false (by kernel_rfl) ?_
                          refine wp_region_lit ?_
                          refine pv (pq gd) ?_
                          refine wl_gv rfl (gv_ldA (k := 0) (n := 4) (vs := [.int .i64 o.kind, .int .i64 o.at_, .slice o.A o.d.length o.cd, .slice o.A2 o.ps.length o.cp]) S18 0 rfl rfl (by kernel_rfl) (by kernel_rfl) rfl rfl ?_)
                          refine wl_gv rfl (gv_call (args := #[.pointer (some ⟨gd, 0, none⟩), .agg #[.int .i64 o.kind, .int .i64 o.at_, .slice o.A o.d.length o.cd, .slice o.A2 o.ps.length o.cp]]) rfl Try.func38 (by kernel_rfl) rfl rfl (by kernel_rfl) ?_)
                          have S69 : St none' w w17 [PDisk gd s1, row g13 #[.int .i64 o.kind, .int .i64 o.at_, .slice o.A o.d.length o.cd, .slice o.A2 o.ps.length o.cp] 49] := St.permT [row g13 #[.int .i64 o.kind, .int .i64 o.at_, .slice o.A o.d.length o.cd, .slice o.A2 o.ps.length o.cp] 49, PDisk gd s1] [1, 0] (by decide) rfl S18
                          refine Calls.mono (act_all S69 (Ro.of_C hk.d (fun _ h => h)).T (RoV.of_rd hk.p _) hk.hat hk.dm hk.pm (by have := hpI; omega)) ?_
                          rintro _ w70 ⟨rfl, S71⟩
                          refine ⟨_, rfl, ?_⟩
                          refine wl_end _ rfl ?_
                          refine inb_n ?_
                          refine inb_n ?_
                          refine then_n ?_
                          refine wp_region_lit ?_
                          refine pv (iv ((i : Nat) : Int)) ?_
                          refine wl_gv rfl (gv_int (k := .i64) (z := IntKind.i64.wrap (((i : Nat) : Int) + 1)) (z' := ((i + 1 : Nat) : Int)) (by kernel_rfl) (wr_eq (by omega) (by omega) (by omega)) ?_)
                          refine pv (iv ((i + 1 : Nat) : Int)) ?_
                          have S72 : St none' w w70 [PDisk gd (s1.actR o.kind o.at_ o.d o.ps)] := St.permT [PDisk gd (s1.actR o.kind o.at_ o.d o.ps), row g13 #[.int .i64 o.kind, .int .i64 o.at_, .slice o.A o.d.length o.cd, .slice o.A2 o.ps.length o.cp] 49] [0] (by decide) rfl S71
                          have hac := act_left (s := s1) (a := o.at_) (d := o.d) (ps := o.ps) k2 k3 k4 k6
                          have hpb : (s1.actR o.kind o.at_ o.d o.ps).pend.length ≤ i + 1 := (Nat.le_trans (actR_pend s1 o.kind o.at_ o.d o.ps) (by omega))
                          have hlf : (s1.actR o.kind o.at_ o.d o.ps).left = n - (((dn : Nat) : Nat) : Int) := by rw [hac.1]; exact hlI
                          have hdn : (((dn : Nat) : Nat) : Int) ≤ n := hdI
                          have hln : ((s1.actR o.kind o.at_ o.d o.ps).last.length : Int) = k := by rw [hac.2.1]; exact hmI
                          refine wl_end _ rfl ?_
                          refine then_n ?_
                          exact ⟨(i + 1, (s1.actR o.kind o.at_ o.d o.ps), dn), ⟨(jl [ud, ud, ud, ud, ud, ud, J 6, ud, ud, ud, ud, pq g13, iv (n - ((dn : Nat) : Int)), tv, J 14, J 15, J 16, J 17, J 18, ud, ud, ud, ud, ud, ud, ud, ud, ud, ud, ud, ud, ud, ud, ud, ud, ud, ud, ud, ud, ud, ud, ud, ud, ud, iv ((i : Nat) : Int), .slice A3 ops.length c3, iv (ops.length : Nat), tv, iv ((i : Nat) : Int), iv ((i + 1 : Nat) : Int), .slice A3 ops.length c3, iv ((i : Nat) : Int), .pointer (some (ad.add (i * 4))), .agg #[iv o.kind, iv o.at_, .slice o.A o.d.length o.cd, .slice o.A2 o.ps.length o.cp], pq g13, iv o.kind, fv, fv, pq g13, iv o.kind, fv, fv, iv n, iv ((dn : Nat) : Int), iv (n - ((dn : Nat) : Int)), pq gd, tv, iv (n - ((dn : Nat) : Int)), tv, fv, po g13 1, iv o.at_, tv, tv, po g13 1, iv o.at_, iv k, tv, tv, pq g13, iv o.kind, pq gd, .agg #[iv o.kind, iv o.at_, .slice o.A o.d.length o.cd, .slice o.A2 o.ps.length o.cp], .tuple #[], fv, fv, J 86, J 87, J 88, J 89, J 90, J 91, J 92, J 93, J 94, J 95, J 96, J 97, J 98, J 99, J 100, J 101, J 102, J 103, J 104, J 105, J 106, J 107, J 108, J 109, J 110, J 111, J 112, J 113, J 114, J 115, J 116, J 117, J 118, J 119, fv, fv, J 122, J 123, J 124, J 125, J 126, J 127, J 128, J 129, J 130, J 131, J 132, fv, fv, J 135, J 136, J 137, J 138, J 139, J 140, J 141, J 142, J 143, J 144, J 145, J 146, J 147, J 148, J 149, J 150, J 151, J 152, J 153, J 154, J 155, J 156, J 157, J 158, J 159, J 160, J 161, J 162, J 163, J 164, J 165, J 166]), by kernel_rfl, S72, ⟨by omega, hpb, hlf, hdn, hln⟩⟩, (by show ops.length - (i + 1) < ops.length - i; omega)⟩
                  · skip
                    refine pv fv ?_
                    refine pv fv ?_
                    refine wl_end _ rfl ?_
                    refine then_n ?_
                    refine wp_seq ?_
                    refine wp_region_lit ?_
                    refine pv (pq g13) ?_
                    refine wl_gv rfl (gv_ldR (v := .int .i64 o.kind) rfl (by kernel_rfl) (by kernel_rfl) (((S18.blk 0 rfl).cell 0).trans rfl) ?_)
                    refine wl_end _ rfl ?_
                    refine then_n ?_
                    refine wp_block ?_
                    refine wp_seq ?_
                    refine wp_region_lit ?_
                    refine wl_gv rfl (gv_eq (x := o.kind) (y := 2) (by kernel_rfl) (fun k2 => ?_) (fun k2 => ?_))
                    · skip
                      refine pv tv ?_
                      refine wl_end _ rfl ?_
                      refine then_n ?_
                      refine wp_cond_true (by kernel_rfl) ?_
                      refine wp_seq ?_
                      refine wp_region_phu (γ := Nat) 7 [5, 6] (fun (c2_ : Nat) (i_ : Nat) => (match i_ with | 0 => .pointer (some ⟨gd, 0, none⟩) | 1 => .pointer (some ⟨g13, 1, none⟩) | 2 => .int .i64 o.at_ | 3 => .pointer (some ⟨g13, 2, none⟩) | 4 => .slice o.A o.d.length o.cd | 5 => .slice (some ⟨c2_, 0, none⟩) o.d.length o.d.length | 6 => .int .i64 ((s1.writeR o.at_ o.d).2) | _ => undef : Value)) (fun (c2_ : Nat) (p_ : Nat) (w_ : World) => (match p_ with | 0 => St none' w w_ [row g13 #[.int .i64 o.kind, .int .i64 o.at_, .slice o.A o.d.length o.cd, .slice o.A2 o.ps.length o.cp] 49, PDisk gd s1] | 1 => St none' w w_ [row c2_ (bvs o.d) 5, row g13 #[.int .i64 o.kind, .int .i64 o.at_, .slice o.A o.d.length o.cd, .slice o.A2 o.ps.length o.cp] 49, PDisk gd s1] | _ => St none' w w_ [PDisk gd (s1.writeR o.at_ o.d).1, row c2_ (bvs o.d) 5, row g13 #[.int .i64 o.kind, .int .i64 o.at_, .slice o.A o.d.length o.cd, .slice o.A2 o.ps.length o.cp] 49] : Prop)) (0) (by kernel_rfl) (by kernel_rfl) (by kernel_rfl) (by kernel_rfl) (S18.drew) ?_ ?_ ?_
                      · intro i_ c2_ p_ vals_ w1 hi_ hiE_ hp_ hk_ hu_ hPh_ hd_
                        rcases i_ with _ | _ | _ | _ | _ | _ | _ | i_
                        · skip
                          refine told_free rfl rfl (gv_env ((⟨Array.replicate 178 undef, []⟩ : Act).put (some 7) (.pointer (some ⟨gd, 0, none⟩))) (by kernel_rfl) (xs := [.tmp 7]) (by kernel_rfl) (alike_cons (fill_past (by kernel_rfl) (by kernel_rfl)) alike_nil) (gv_val (v := .pointer (some ⟨gd, 0, none⟩)) (w' := w1) (by kernel_rfl) ?_))
                          exact ⟨rfl, rfl⟩
                        · skip
                          refine told_free rfl rfl (gv_env ((⟨Array.replicate 178 undef, []⟩ : Act).put (some 11) (.pointer (some ⟨g13, 0, none⟩))) (by kernel_rfl) (xs := [.tmp 11]) (by kernel_rfl) (alike_cons (fill_past (by kernel_rfl) (by kernel_rfl)) alike_nil) (gv_val (v := .pointer (some ⟨g13, 1, none⟩)) (w' := w1) (by kernel_rfl) ?_))
                          exact ⟨rfl, rfl⟩
                        · skip
                          rcases p_ with _ | _ | _ | p_
                          · skip
                            have S75 : St none' w w1 [row g13 #[.int .i64 o.kind, .int .i64 o.at_, .slice o.A o.d.length o.cd, .slice o.A2 o.ps.length o.cp] 49, PDisk gd s1] := hPh_
                            refine told_free rfl rfl (gv_env ((⟨Array.replicate 178 undef, []⟩ : Act).put (some 87) (.pointer (some ⟨g13, 1, none⟩))) (by kernel_rfl) (xs := [.tmp 87]) (by kernel_rfl) (alike_cons (fill_at (k := 1) (by kernel_rfl) (by kernel_rfl) ((hd_ 1 (by kernel_rfl)).trans (by kernel_rfl))) alike_nil) (gv_ldR (v := .int .i64 o.at_) rfl (by kernel_rfl) (by kernel_rfl) (((S75.blk 0 rfl).cell 1).trans rfl) ?_))
                            exact ⟨rfl, rfl⟩
                          · skip
                            have S76 : St none' w w1 [row c2_ (bvs o.d) 5, row g13 #[.int .i64 o.kind, .int .i64 o.at_, .slice o.A o.d.length o.cd, .slice o.A2 o.ps.length o.cp] 49, PDisk gd s1] := hPh_
                            refine told_free rfl rfl (gv_env ((⟨Array.replicate 178 undef, []⟩ : Act).put (some 87) (.pointer (some ⟨g13, 1, none⟩))) (by kernel_rfl) (xs := [.tmp 87]) (by kernel_rfl) (alike_cons (fill_at (k := 1) (by kernel_rfl) (by kernel_rfl) ((hd_ 1 (by kernel_rfl)).trans (by kernel_rfl))) alike_nil) (gv_ldR (v := .int .i64 o.at_) rfl (by kernel_rfl) (by kernel_rfl) (((S76.blk 1 rfl).cell 1).trans rfl) ?_))
                            exact ⟨rfl, rfl⟩
                          · skip
                            exact absurd (hu_ 1 (by decide) (by kernel_rfl)) (by decide)
                          · exact absurd hp_ (by simp)
                        · skip
                          refine told_free rfl rfl (gv_env ((⟨Array.replicate 178 undef, []⟩ : Act).put (some 11) (.pointer (some ⟨g13, 0, none⟩))) (by kernel_rfl) (xs := [.tmp 11]) (by kernel_rfl) (alike_cons (fill_past (by kernel_rfl) (by kernel_rfl)) alike_nil) (gv_val (v := .pointer (some ⟨g13, 2, none⟩)) (w' := w1) (by kernel_rfl) ?_))
                          exact ⟨rfl, rfl⟩
                        · skip
                          rcases p_ with _ | _ | _ | p_
                          · skip
                            have S78 : St none' w w1 [row g13 #[.int .i64 o.kind, .int .i64 o.at_, .slice o.A o.d.length o.cd, .slice o.A2 o.ps.length o.cp] 49, PDisk gd s1] := hPh_
                            refine told_free rfl rfl (gv_env ((⟨Array.replicate 178 undef, []⟩ : Act).put (some 89) (.pointer (some ⟨g13, 2, none⟩))) (by kernel_rfl) (xs := [.tmp 89]) (by kernel_rfl) (alike_cons (fill_at (k := 3) (by kernel_rfl) (by kernel_rfl) ((hd_ 3 (by kernel_rfl)).trans (by kernel_rfl))) alike_nil) (gv_ldR (v := .slice o.A o.d.length o.cd) rfl (by kernel_rfl) (by kernel_rfl) (((S78.blk 0 rfl).cell 2).trans rfl) ?_))
                            exact ⟨rfl, rfl⟩
                          · skip
                            exact absurd (hu_ 0 (by decide) (by kernel_rfl)) (by decide)
                          · skip
                            exact absurd (hu_ 0 (by decide) (by kernel_rfl)) (by decide)
                          · exact absurd hp_ (by simp)
                        · skip
                          exact absurd hiE_ (by decide)
                        · skip
                          exact absurd hiE_ (by decide)
                        · exact absurd hi_ (by omega)
                      · intro k_ c2_ vals_ w1 hk_ hPh_ hd_
                        rcases k_ with _ | _ | k_
                        · skip
                          have S79 : St none' w w1 [row g13 #[.int .i64 o.kind, .int .i64 o.at_, .slice o.A o.d.length o.cd, .slice o.A2 o.ps.length o.cp] 49, PDisk gd s1] := hPh_
                          refine told_free rfl rfl (gv_env ((⟨Array.replicate 178 undef, []⟩ : Act).put (some 90) (.slice o.A o.d.length o.cd)) (by kernel_rfl) (xs := [.func 27, .tmp 90]) (by kernel_rfl) (alike_cons eval_fn (alike_cons (fill_at (k := 4) (by kernel_rfl) (by kernel_rfl) ((hd_ 4 (by kernel_rfl)).trans (by kernel_rfl))) alike_nil)) (gv_call (args := #[.slice o.A o.d.length o.cd]) rfl Try.func27 (by kernel_rfl) rfl rfl (by kernel_rfl) ?_))
                          refine Calls.mono (ltwinS (l := o.d) S79 (Ro.of_C hk.d (fun _ h => h)).T hk.dm) ?_
                          rintro _ w81 ⟨g80, rfl, S82⟩
                          refine ⟨_, rfl, ?_⟩
                          refine ⟨(g80), rfl, ?_, S82⟩
                          intro i_ hi_ hne_ hdp_
                          rcases i_ with _ | _ | _ | _ | _ | _ | _ | i_
                          · rfl
                          · rfl
                          · rfl
                          · rfl
                          · rfl
                          · exact absurd rfl hne_
                          · exact (dep_no hdp_ (by kernel_rfl)).elim
                          · exact absurd hi_ (by omega)
                        · skip
                          have S83 : St none' w w1 [row c2_ (bvs o.d) 5, row g13 #[.int .i64 o.kind, .int .i64 o.at_, .slice o.A o.d.length o.cd, .slice o.A2 o.ps.length o.cp] 49, PDisk gd s1] := hPh_
                          refine told_free rfl rfl (gv_env ((((⟨Array.replicate 178 undef, []⟩ : Act).put (some 86) (.pointer (some ⟨gd, 0, none⟩))).put (some 88) (.int .i64 o.at_)).put (some 91) (.slice (some ⟨c2_, 0, none⟩) o.d.length o.d.length)) (by kernel_rfl) (xs := [.func 35, .tmp 86, .tmp 88, .tmp 91]) (by kernel_rfl) (alike_cons eval_fn (alike_cons (fill_at (k := 0) (by kernel_rfl) (by kernel_rfl) ((hd_ 0 (by kernel_rfl)).trans (by kernel_rfl))) (alike_cons (fill_at (k := 2) (by kernel_rfl) (by kernel_rfl) ((hd_ 2 (by kernel_rfl)).trans (by kernel_rfl))) (alike_cons (fill_at (k := 5) (by kernel_rfl) (by kernel_rfl) ((hd_ 5 (by kernel_rfl)).trans (by kernel_rfl))) alike_nil)))) (gv_call (args := #[.pointer (some ⟨gd, 0, none⟩), .int .i64 o.at_, .slice (some ⟨c2_, 0, none⟩) o.d.length o.d.length]) rfl Try.func35 (by kernel_rfl) rfl rfl (by kernel_rfl) ?_))
                          have S84 : St none' w w1 [PDisk gd s1, row c2_ (bvs o.d) 5, row g13 #[.int .i64 o.kind, .int .i64 o.at_, .slice o.A o.d.length o.cd, .slice o.A2 o.ps.length o.cp] 49] := St.permT [row c2_ (bvs o.d) 5, row g13 #[.int .i64 o.kind, .int .i64 o.at_, .slice o.A o.d.length o.cd, .slice o.A2 o.ps.length o.cp] 49, PDisk gd s1] [2, 0, 1] (by decide) rfl S83
                          refine Calls.mono (pd_write S84 (RoT.item 0 rfl 0 o.d.length o.d (by rw [List.drop_zero, List.take_length])) (by have := hk.dm; omega) (by have := hpI; omega)) ?_
                          rintro _ w85 ⟨rfl, S86⟩
                          refine ⟨_, rfl, ?_⟩
                          refine ⟨(c2_), rfl, ?_, S86⟩
                          intro i_ hi_ hne_ hdp_
                          rcases i_ with _ | _ | _ | _ | _ | _ | _ | i_
                          · rfl
                          · rfl
                          · rfl
                          · rfl
                          · rfl
                          · rfl
                          · exact absurd rfl hne_
                          · exact absurd hi_ (by omega)
                        · exact absurd hk_ (by simp)
                      · intro c2_ w1 hPh_
                        have S87 : St none' w w1 [PDisk gd (s1.writeR o.at_ o.d).1, row c2_ (bvs o.d) 5, row g13 #[.int .i64 o.kind, .int .i64 o.at_, .slice o.A o.d.length o.cd, .slice o.A2 o.ps.length o.cp] 49] := hPh_
                        refine wl_frame (fr ([iv k, iv n, .slice A3 ops.length c3, ud, ud, ud, J 6, pq gd, tv, iv ((dn : Nat) : Int), iv ((i : Nat) : Int), pq g13, iv (n - ((dn : Nat) : Int)), fv] ++ jr J 14 5 ++ [ud, iv n, fv, fv, iv k, fv, fv, fv, iv k, fv, fv, .tuple #[pq gd, tv], iv k, .tuple #[pq gd, tv], pq gd, tv, tv, fv, fv, pq gd, fv, fv, pq gd, iv n, .tuple #[], iv ((i : Nat) : Int), .slice A3 ops.length c3, iv (ops.length : Nat), tv, J 48, J 49, .slice A3 ops.length c3, iv ((i : Nat) : Int), .pointer (some (ad.add (i * 4))), .agg #[iv o.kind, iv o.at_, .slice o.A o.d.length o.cd, .slice o.A2 o.ps.length o.cp], pq g13, iv o.kind, fv, fv, pq g13, iv o.kind, fv, fv, iv n, iv ((dn : Nat) : Int), iv (n - ((dn : Nat) : Int)), pq gd, tv, iv (n - ((dn : Nat) : Int)), tv, fv, po g13 1, iv o.at_, tv, tv, po g13 1, iv o.at_, iv k, fv, fv, pq g13, iv o.kind, J 81, J 82, J 83, tv, tv, pq gd, po g13 1, iv o.at_, po g13 2, .slice o.A o.d.length o.cd, sl c2_ 0 o.d.length o.d.length, iv ((s1.writeR o.at_ o.d).2)] ++ jr J 93 74) 11) (by kernel_rfl) ?_
                        refine pv (iv ((s1.writeR o.at_ o.d).2)) ?_
                        refine wl_end (fr ([iv k, iv n, .slice A3 ops.length c3, ud, ud, ud, J 6, pq gd, tv, iv ((dn : Nat) : Int), iv ((i : Nat) : Int), pq g13, iv (n - ((dn : Nat) : Int)), fv, iv ((s1.writeR o.at_ o.d).2)] ++ jr J 15 4 ++ [ud, iv n, fv, fv, iv k, fv, fv, fv, iv k, fv, fv, .tuple #[pq gd, tv], iv k, .tuple #[pq gd, tv], pq gd, tv, tv, fv, fv, pq gd, fv, fv, pq gd, iv n, .tuple #[], iv ((i : Nat) : Int), .slice A3 ops.length c3, iv (ops.length : Nat), tv, J 48, J 49, .slice A3 ops.length c3, iv ((i : Nat) : Int), .pointer (some (ad.add (i * 4))), .agg #[iv o.kind, iv o.at_, .slice o.A o.d.length o.cd, .slice o.A2 o.ps.length o.cp], pq g13, iv o.kind, fv, fv, pq g13, iv o.kind, fv, fv, iv n, iv ((dn : Nat) : Int), iv (n - ((dn : Nat) : Int)), pq gd, tv, iv (n - ((dn : Nat) : Int)), tv, fv, po g13 1, iv o.at_, tv, tv, po g13 1, iv o.at_, iv k, fv, fv, pq g13, iv o.kind, J 81, J 82, J 83, tv, tv, pq gd, po g13 1, iv o.at_, po g13 2, .slice o.A o.d.length o.cd, sl c2_ 0 o.d.length o.d.length, iv ((s1.writeR o.at_ o.d).2)] ++ jr J 93 74) 11) (by kernel_rfl) ?_
                        refine then_n ?_
                        refine wp_seq ?_
                        refine wp_region_lit ?_
                        refine pv fv ?_
                        refine pv fv ?_
                        refine wl_not (by kernel_rfl) ?_
                        refine wl_not (by kernel_rfl) ?_
                        refine wl_not (by kernel_rfl) ?_
                        refine wl_not (by kernel_rfl) ?_
                        refine pv fv ?_
                        refine pv fv ?_
                        refine wl_end _ rfl ?_
                        refine then_n ?_
                        refine wp_seq ?_
                        refine wp_seq ?_
                        refine wp_region_lit ?_
                        refine pv (iv ((s1.writeR o.at_ o.d).2)) ?_
                        refine wl_gv rfl (gv_eq (x := ((s1.writeR o.at_ o.d).2)) (y := 0) (by kernel_rfl) (fun hb88 => ?_) (fun hb88 => ?_))
                        · skip
                          have hw := writeR_ok hb88
                          exfalso; omega
                        · skip
                          have hw := writeR_no (show _ ≠ (0 : Int) from hb88)
                          refine pv fv ?_
                          refine pv fv ?_
                          refine wl_not (by kernel_rfl) ?_
                          refine wl_not (by kernel_rfl) ?_
                          refine pv fv ?_
                          refine pv fv ?_
                          refine pv fv ?_
                          refine wl_when (by kernel_rfl) (gv_val (v := .int .i64 (n - ((dn : Nat) : Int))) (w' := w1) (by kernel_rfl) ?_)
                          refine wl_when (by kernel_rfl) (gv_dec (p := (n - ((dn : Nat) : Int) : Int) ≤ 0) (by kernel_rfl) (fun _ => ?_) (fun hd89 => False.elim (by omega)))
                          refine wl_when (by kernel_rfl) (gv_val (v := .bool true) (w' := w1) (by kernel_rfl) ?_)
                          refine wl_when (by kernel_rfl) (gv_val (v := .int .i64 ((s1.writeR o.at_ o.d).2)) (w' := w1) (by kernel_rfl) ?_)
                          refine wl_when (by kernel_rfl) (gv_ne (x := ((s1.writeR o.at_ o.d).2)) (y := 3) (by kernel_rfl) (fun hd90 => False.elim (by have := hw.2.2.2.2 hz; omega)) (fun _ => ?_))
                          refine wl_when (by kernel_rfl) (gv_val (v := .bool false) (w' := w1) (by kernel_rfl) ?_)
                          refine pv fv ?_
                          refine wl_end _ rfl ?_
                          refine then_n ?_
                          refine wp_cond_false (by kernel_rfl) ?_
                          refine wp_skip ?_
                          refine then_n ?_
                          refine wp_seq ?_
                          refine wp_region_lit ?_
                          refine pv (iv ((s1.writeR o.at_ o.d).2)) ?_
                          refine wl_gv rfl (gv_eq (x := ((s1.writeR o.at_ o.d).2)) (y := 0) (by kernel_rfl) (fun hb91 => ?_) (fun hb91 => ?_))
                          · skip
                            exfalso; omega
                          · skip
                            refine wl_end _ rfl ?_
                            refine then_n ?_
                            refine wp_cond_false (by kernel_rfl) ?_
                            refine wp_skip ?_
                            refine inb_n ?_
                            refine inb_n ?_
                            refine then_n ?_
                            refine wp_region_lit ?_
                            refine pv (iv ((i : Nat) : Int)) ?_
                            refine wl_gv rfl (gv_int (k := .i64) (z := IntKind.i64.wrap (((i : Nat) : Int) + 1)) (z' := ((i + 1 : Nat) : Int)) (by kernel_rfl) (wr_eq (by omega) (by omega) (by omega)) ?_)
                            refine pv (iv ((i + 1 : Nat) : Int)) ?_
                            have S92 : St none' w w1 [PDisk gd (s1.writeR o.at_ o.d).1] := St.permT [PDisk gd (s1.writeR o.at_ o.d).1, row c2_ (bvs o.d) 5, row g13 #[.int .i64 o.kind, .int .i64 o.at_, .slice o.A o.d.length o.cd, .slice o.A2 o.ps.length o.cp] 49] [0] (by decide) rfl S87
                            have hpb : ((s1.writeR o.at_ o.d).1).pend.length ≤ i + 1 := (Nat.le_trans (writeR_pend s1 o.at_ o.d) (by omega))
                            have hlf : ((s1.writeR o.at_ o.d).1).left = n - (((dn : Nat) : Nat) : Int) := by rw [hw.2.2.1]; exact hlI
                            have hdn : (((dn : Nat) : Nat) : Int) ≤ n := hdI
                            have hln : (((s1.writeR o.at_ o.d).1).last.length : Int) = k := by rw [hw.1]; exact hmI
                            refine wl_end _ rfl ?_
                            refine then_n ?_
                            exact ⟨(i + 1, (s1.writeR o.at_ o.d).1, dn), ⟨(jl [ud, ud, ud, ud, ud, ud, J 6, ud, ud, ud, ud, pq g13, iv (n - ((dn : Nat) : Int)), fv, iv ((s1.writeR o.at_ o.d).2), fv, J 16, J 17, J 18, ud, ud, ud, ud, ud, ud, ud, ud, ud, ud, ud, ud, ud, ud, ud, ud, ud, ud, ud, ud, ud, ud, ud, ud, ud, iv ((i : Nat) : Int), .slice A3 ops.length c3, iv (ops.length : Nat), tv, iv ((i : Nat) : Int), iv ((i + 1 : Nat) : Int), .slice A3 ops.length c3, iv ((i : Nat) : Int), .pointer (some (ad.add (i * 4))), .agg #[iv o.kind, iv o.at_, .slice o.A o.d.length o.cd, .slice o.A2 o.ps.length o.cp], pq g13, iv o.kind, fv, fv, pq g13, iv o.kind, fv, fv, iv n, iv ((dn : Nat) : Int), iv (n - ((dn : Nat) : Int)), pq gd, tv, iv (n - ((dn : Nat) : Int)), tv, fv, po g13 1, iv o.at_, tv, tv, po g13 1, iv o.at_, iv k, fv, fv, pq g13, iv o.kind, J 81, J 82, J 83, tv, tv, pq gd, po g13 1, iv o.at_, po g13 2, .slice o.A o.d.length o.cd, sl c2_ 0 o.d.length o.d.length, iv ((s1.writeR o.at_ o.d).2), fv, fv, ud, ud, ud, ud, fv, iv ((s1.writeR o.at_ o.d).2), fv, fv, fv, ud, ud, fv, fv, fv, iv (n - ((dn : Nat) : Int)), tv, tv, iv ((s1.writeR o.at_ o.d).2), fv, fv, fv, iv ((s1.writeR o.at_ o.d).2), fv, J 118, J 119, J 120, J 121, J 122, J 123, J 124, J 125, J 126, J 127, J 128, J 129, J 130, J 131, J 132, J 133, J 134, J 135, J 136, J 137, J 138, J 139, J 140, J 141, J 142, J 143, J 144, J 145, J 146, J 147, J 148, J 149, J 150, J 151, J 152, J 153, J 154, J 155, J 156, J 157, J 158, J 159, J 160, J 161, J 162, J 163, J 164, J 165, J 166]), by kernel_rfl, S92, ⟨by omega, hpb, hlf, hdn, hln⟩⟩, (by show ops.length - (i + 1) < ops.length - i; omega)⟩
                    · skip
                      refine pv fv ?_
                      refine wl_end _ rfl ?_
                      refine then_n ?_
                      refine wp_cond_false (by kernel_rfl) ?_
                      refine wp_seq ?_
                      refine wp_region_lit ?_
                      refine wl_gv rfl (gv_eq (x := o.kind) (y := 3) (by kernel_rfl) (fun k3 => ?_) (fun k3 => ?_))
                      · skip
                        refine pv tv ?_
                        refine wl_end _ rfl ?_
                        refine then_n ?_
                        refine wp_cond_true (by kernel_rfl) ?_
                        refine wp_seq ?_
                        refine wp_region_lit ?_
                        refine pv (pq gd) ?_
                        refine wl_gv rfl (gv_call (args := #[.pointer (some ⟨gd, 0, none⟩)]) rfl Try.func41 (by kernel_rfl) rfl rfl (by kernel_rfl) ?_)
                        have S93 : St none' w w17 [PDisk gd s1, row g13 #[.int .i64 o.kind, .int .i64 o.at_, .slice o.A o.d.length o.cd, .slice o.A2 o.ps.length o.cp] 49] := St.permT [row g13 #[.int .i64 o.kind, .int .i64 o.at_, .slice o.A o.d.length o.cd, .slice o.A2 o.ps.length o.cp] 49, PDisk gd s1] [1, 0] (by decide) rfl S18
                        refine Calls.mono (pd_flush S93) ?_
                        rintro _ w94 ⟨rfl, S95⟩
                        refine ⟨_, rfl, ?_⟩
                        refine pv (iv s1.flushR.2) ?_
                        refine wl_end _ rfl ?_
                        refine then_n ?_
                        refine wp_seq ?_
                        refine wp_seq ?_
                        refine wp_region_lit ?_
                        refine pv (iv s1.flushR.2) ?_
                        refine wl_gv rfl (gv_eq (x := s1.flushR.2) (y := 0) (by kernel_rfl) (fun hb96 => ?_) (fun hb96 => ?_))
                        · skip
                          rcases flushR_cases s1 with ⟨_, e⟩ | ⟨hq, _⟩
                          · rw [e] at hb96; exact absurd (show (3 : Int) = 0 from hb96) (by decide)
                          · exact absurd hz hq
                        · skip
                          have hw : s1.flushR = (s1, 3) := (flushR_cases s1).elim (fun q => q.2) (fun q => absurd hz q.1)
                          refine pv (iv (n - ((dn : Nat) : Int))) ?_
                          refine wl_gv rfl (gv_dec (p := (n - ((dn : Nat) : Int) : Int) > 0) (by kernel_rfl) (fun hd97 => False.elim (by omega)) (fun _ => ?_))
                          refine pv fv ?_
                          refine wl_end _ rfl ?_
                          refine then_n ?_
                          refine wp_cond_false (by kernel_rfl) ?_
                          refine wp_skip ?_
                          refine then_n ?_
                          refine wp_seq ?_
                          refine wp_region_lit ?_
                          refine pv (iv s1.flushR.2) ?_
                          refine wl_gv rfl (gv_eq (x := s1.flushR.2) (y := 0) (by kernel_rfl) (fun hb98 => ?_) (fun hb98 => ?_))
                          · skip
                            exfalso; omega
                          · skip
                            refine wl_end _ rfl ?_
                            refine then_n ?_
                            refine wp_cond_false (by kernel_rfl) ?_
                            refine wp_skip ?_
                            refine inb_n ?_
                            refine inb_n ?_
                            refine then_n ?_
                            refine wp_region_lit ?_
                            refine pv (iv ((i : Nat) : Int)) ?_
                            refine wl_gv rfl (gv_int (k := .i64) (z := IntKind.i64.wrap (((i : Nat) : Int) + 1)) (z' := ((i + 1 : Nat) : Int)) (by kernel_rfl) (wr_eq (by omega) (by omega) (by omega)) ?_)
                            refine pv (iv ((i + 1 : Nat) : Int)) ?_
                            have S99 : St none' w w94 [PDisk gd s1.flushR.1] := St.permT [PDisk gd s1.flushR.1, row g13 #[.int .i64 o.kind, .int .i64 o.at_, .slice o.A o.d.length o.cd, .slice o.A2 o.ps.length o.cp] 49] [0] (by decide) rfl S95
                            have hpb : s1.flushR.1.pend.length ≤ i + 1 := (Nat.le_trans (flushR_pend s1) (by omega))
                            have hlf : s1.flushR.1.left = n - (((dn : Nat) : Nat) : Int) := by rw [hw]; exact hlI
                            have hdn : (((dn : Nat) : Nat) : Int) ≤ n := hdI
                            have hln : (s1.flushR.1.last.length : Int) = k := by rw [hw]; exact hmI
                            refine wl_end _ rfl ?_
                            refine then_n ?_
                            exact ⟨(i + 1, s1.flushR.1, dn), ⟨(jl [ud, ud, ud, ud, ud, ud, J 6, ud, ud, ud, ud, pq g13, iv (n - ((dn : Nat) : Int)), fv, J 14, J 15, iv s1.flushR.2, J 17, J 18, ud, ud, ud, ud, ud, ud, ud, ud, ud, ud, ud, ud, ud, ud, ud, ud, ud, ud, ud, ud, ud, ud, ud, ud, ud, iv ((i : Nat) : Int), .slice A3 ops.length c3, iv (ops.length : Nat), tv, iv ((i : Nat) : Int), iv ((i + 1 : Nat) : Int), .slice A3 ops.length c3, iv ((i : Nat) : Int), .pointer (some (ad.add (i * 4))), .agg #[iv o.kind, iv o.at_, .slice o.A o.d.length o.cd, .slice o.A2 o.ps.length o.cp], pq g13, iv o.kind, fv, fv, pq g13, iv o.kind, fv, fv, iv n, iv ((dn : Nat) : Int), iv (n - ((dn : Nat) : Int)), pq gd, tv, iv (n - ((dn : Nat) : Int)), tv, fv, po g13 1, iv o.at_, tv, tv, po g13 1, iv o.at_, iv k, fv, fv, pq g13, iv o.kind, J 81, J 82, J 83, fv, fv, J 86, J 87, J 88, J 89, J 90, J 91, J 92, J 93, J 94, J 95, J 96, J 97, J 98, J 99, J 100, J 101, J 102, J 103, J 104, J 105, J 106, J 107, J 108, J 109, J 110, J 111, J 112, J 113, J 114, J 115, J 116, J 117, J 118, J 119, tv, tv, pq gd, iv s1.flushR.2, iv s1.flushR.2, fv, iv (n - ((dn : Nat) : Int)), fv, fv, iv s1.flushR.2, fv, J 131, J 132, J 133, J 134, J 135, J 136, J 137, J 138, J 139, J 140, J 141, J 142, J 143, J 144, J 145, J 146, J 147, J 148, J 149, J 150, J 151, J 152, J 153, J 154, J 155, J 156, J 157, J 158, J 159, J 160, J 161, J 162, J 163, J 164, J 165, J 166]), by kernel_rfl, S99, ⟨by omega, hpb, hlf, hdn, hln⟩⟩, (by show ops.length - (i + 1) < ops.length - i; omega)⟩
                      · skip
                        refine pv fv ?_
                        refine wl_end _ rfl ?_
                        refine then_n ?_
                        refine wp_cond_false (by kernel_rfl) ?_
                        refine wp_seq ?_
                        refine wp_region_lit ?_
                        refine wl_gv rfl (gv_eq (x := o.kind) (y := 1) (by kernel_rfl) (fun k1 => ?_) (fun k1 => ?_))
                        · skip
                          refine pv tv ?_
                          refine wl_end _ rfl ?_
                          refine then_n ?_
                          refine wp_cond_true (by kernel_rfl) ?_
                          refine wp_seq ?_
                          refine wp_region_lit ?_
                          refine pv (pq gd) ?_
                          refine pv (po g13 1) ?_
                          refine wl_gv rfl (gv_ldR (v := .int .i64 o.at_) rfl (by kernel_rfl) (by kernel_rfl) (((S18.blk 0 rfl).cell 1).trans rfl) ?_)
                          refine wl_gv rfl (gv_call (args := #[.pointer (some ⟨gd, 0, none⟩), .int .i64 o.at_]) rfl Try.func29 (by kernel_rfl) rfl rfl (by kernel_rfl) ?_)
                          have S100 : St none' w w17 [PDisk gd s1, row g13 #[.int .i64 o.kind, .int .i64 o.at_, .slice o.A o.d.length o.cd, .slice o.A2 o.ps.length o.cp] 49] := St.permT [row g13 #[.int .i64 o.kind, .int .i64 o.at_, .slice o.A o.d.length o.cd, .slice o.A2 o.ps.length o.cp] 49, PDisk gd s1] [1, 0] (by decide) rfl S18
                          refine Calls.mono (pd_read S100) ?_
                          rintro _ w101 ⟨v_, rfl, S102⟩
                          obtain ⟨AP103, rfl, S102'⟩ := St.bytes_eq S102
                          refine ⟨_, rfl, ?_⟩
                          refine pv (.tuple #[.slice AP103 ((s1.readR o.at_).2.1.length) ((s1.readR o.at_).2.1.length), iv ((s1.readR o.at_).2.2)]) ?_
                          refine pv (.slice AP103 ((s1.readR o.at_).2.1.length) ((s1.readR o.at_).2.1.length)) ?_
                          refine pv (iv ((s1.readR o.at_).2.2)) ?_
                          refine pv (.slice AP103 ((s1.readR o.at_).2.1.length) ((s1.readR o.at_).2.1.length)) ?_
                          refine pv (iv ((s1.readR o.at_).2.2)) ?_
                          refine wl_end _ rfl ?_
                          refine then_n ?_
                          refine wp_seq ?_
                          refine wp_region_lit ?_
                          refine pv (iv ((s1.readR o.at_).2.2)) ?_
                          refine wl_gv rfl (gv_eq (x := ((s1.readR o.at_).2.2)) (y := 0) (by kernel_rfl) (fun hb104 => ?_) (fun hb104 => ?_))
                          · skip
                            have hq := readR_ok hb104
                            exfalso; omega
                          · skip
                            have hq := readR_no (show _ ≠ (0 : Int) from hb104)
                            refine pv fv ?_
                            refine pv fv ?_
                            refine wl_not (by kernel_rfl) ?_
                            refine wl_not (by kernel_rfl) ?_
                            refine pv fv ?_
                            refine pv fv ?_
                            refine pv fv ?_
                            refine wl_when (by kernel_rfl) (gv_val (v := .int .i64 ((s1.readR o.at_).2.2)) (w' := w101) (by kernel_rfl) ?_)
                            refine wl_when (by kernel_rfl) (gv_ne (x := ((s1.readR o.at_).2.2)) (y := 0) (by kernel_rfl) (fun hb105 => ?_) (fun hb105 => ?_))
                            · skip
                              refine wl_when (by kernel_rfl) (gv_val (v := .bool true) (w' := w101) (by kernel_rfl) ?_)
                              refine wl_when (by kernel_rfl) (gv_val (v := .slice AP103 ((s1.readR o.at_).2.1.length) ((s1.readR o.at_).2.1.length)) (w' := w101) (by kernel_rfl) ?_)
                              refine wl_when (by kernel_rfl) (gv_val (v := .int .i64 ((s1.readR o.at_).2.1.length : Nat)) (w' := w101) (by kernel_rfl) ?_)
                              refine wl_when (by kernel_rfl) (gv_ne (x := ((s1.readR o.at_).2.1.length : Nat)) (y := 0) (by kernel_rfl) (fun hd106 => False.elim (hd106 (by rw [hq.1]; rfl))) (fun _ => ?_))
                              refine wl_when (by kernel_rfl) (gv_val (v := .bool false) (w' := w101) (by kernel_rfl) ?_)
                              refine pv fv ?_
                              refine pv fv ?_
                              refine wl_when (by kernel_rfl) (gv_val (v := .int .i64 (n - ((dn : Nat) : Int))) (w' := w101) (by kernel_rfl) ?_)
                              refine wl_when (by kernel_rfl) (gv_dec (p := (n - ((dn : Nat) : Int) : Int) ≤ 0) (by kernel_rfl) (fun _ => ?_) (fun hd107 => False.elim (by omega)))
                              refine wl_when (by kernel_rfl) (gv_val (v := .bool true) (w' := w101) (by kernel_rfl) ?_)
                              refine wl_when (by kernel_rfl) (gv_val (v := .int .i64 ((s1.readR o.at_).2.2)) (w' := w101) (by kernel_rfl) ?_)
                              refine wl_when (by kernel_rfl) (gv_ne (x := ((s1.readR o.at_).2.2)) (y := 3) (by kernel_rfl) (fun hd108 => False.elim (by have := hq.2.2 hz; omega)) (fun _ => ?_))
                              refine wl_when (by kernel_rfl) (gv_val (v := .bool false) (w' := w101) (by kernel_rfl) ?_)
                              refine pv fv ?_
                              refine wl_end (fr ([iv k, iv n, .slice A3 ops.length c3, ud, ud, ud, J 6, pq gd, tv, iv ((dn : Nat) : Int), iv ((i : Nat) : Int), pq g13, iv (n - ((dn : Nat) : Int)), fv, J 14, J 15, J 16, .slice AP103 ((s1.readR o.at_).2.1.length) ((s1.readR o.at_).2.1.length), iv ((s1.readR o.at_).2.2), ud, iv n, fv, fv, iv k, fv, fv, fv, iv k, fv, fv, .tuple #[pq gd, tv], iv k, .tuple #[pq gd, tv], pq gd, tv, tv, fv, fv, pq gd, fv, fv, pq gd, iv n, .tuple #[], iv ((i : Nat) : Int), .slice A3 ops.length c3, iv (ops.length : Nat), tv, J 48, J 49, .slice A3 ops.length c3, iv ((i : Nat) : Int), .pointer (some (ad.add (i * 4))), .agg #[iv o.kind, iv o.at_, .slice o.A o.d.length o.cd, .slice o.A2 o.ps.length o.cp], pq g13, iv o.kind, fv, fv, pq g13, iv o.kind, fv, fv, iv n, iv ((dn : Nat) : Int), iv (n - ((dn : Nat) : Int)), pq gd, tv, iv (n - ((dn : Nat) : Int)), tv, fv, po g13 1, iv o.at_, tv, tv, po g13 1, iv o.at_, iv k, fv, fv, pq g13, iv o.kind, J 81, J 82, J 83, fv, fv] ++ jr J 86 34 ++ [fv, fv] ++ jr J 122 11 ++ [tv, tv, .tuple #[.slice AP103 ((s1.readR o.at_).2.1.length) ((s1.readR o.at_).2.1.length), iv ((s1.readR o.at_).2.2)], pq gd, po g13 1, iv o.at_, .tuple #[.slice AP103 ((s1.readR o.at_).2.1.length) ((s1.readR o.at_).2.1.length), iv ((s1.readR o.at_).2.2)], .slice AP103 ((s1.readR o.at_).2.1.length) ((s1.readR o.at_).2.1.length), iv ((s1.readR o.at_).2.2), iv ((s1.readR o.at_).2.2), fv, fv, fv, ud, ud, fv, fv, fv, iv ((s1.readR o.at_).2.2), tv, tv, .slice AP103 ((s1.readR o.at_).2.1.length) ((s1.readR o.at_).2.1.length), iv ((s1.readR o.at_).2.1.length : Nat), fv, fv, fv, fv, iv (n - ((dn : Nat) : Int)), tv, tv, iv ((s1.readR o.at_).2.2), fv, fv, fv]) 11) (by kernel_rfl) ?_
                              refine then_n ?_
                              refine wp_cond_false (by kernel_rfl) ?_
                              refine wp_skip ?_
                              refine inb_n ?_
                              refine inb_n ?_
                              refine then_n ?_
                              refine wp_region_lit ?_
                              refine pv (iv ((i : Nat) : Int)) ?_
                              refine wl_gv rfl (gv_int (k := .i64) (z := IntKind.i64.wrap (((i : Nat) : Int) + 1)) (z' := ((i + 1 : Nat) : Int)) (by kernel_rfl) (wr_eq (by omega) (by omega) (by omega)) ?_)
                              refine pv (iv ((i + 1 : Nat) : Int)) ?_
                              have S109 : St none' w w101 [PDisk gd (s1.readR o.at_).1] := St.permT [bytesA (.slice AP103 ((s1.readR o.at_).2.1.length) ((s1.readR o.at_).2.1.length)) (s1.readR o.at_).2.1, PDisk gd (s1.readR o.at_).1, row g13 #[.int .i64 o.kind, .int .i64 o.at_, .slice o.A o.d.length o.cd, .slice o.A2 o.ps.length o.cp] 49] [1] (by decide) rfl S102'
                              have hpb : ((s1.readR o.at_).1).pend.length ≤ i + 1 := (by rw [(readR_same s1 _).2.1]; omega)
                              have hlf : ((s1.readR o.at_).1).left = n - (((dn : Nat) : Nat) : Int) := by rw [(readR_same s1 _).2.2]; exact hlI
                              have hdn : (((dn : Nat) : Nat) : Int) ≤ n := hdI
                              have hln : (((s1.readR o.at_).1).last.length : Int) = k := by rw [(readR_same s1 _).1]; exact hmI
                              refine wl_end _ rfl ?_
                              refine then_n ?_
                              exact ⟨(i + 1, (s1.readR o.at_).1, dn), ⟨(jl [ud, ud, ud, ud, ud, ud, J 6, ud, ud, ud, ud, pq g13, iv (n - ((dn : Nat) : Int)), fv, J 14, J 15, J 16, .slice AP103 ((s1.readR o.at_).2.1.length) ((s1.readR o.at_).2.1.length), iv ((s1.readR o.at_).2.2), ud, ud, ud, ud, ud, ud, ud, ud, ud, ud, ud, ud, ud, ud, ud, ud, ud, ud, ud, ud, ud, ud, ud, ud, ud, iv ((i : Nat) : Int), .slice A3 ops.length c3, iv (ops.length : Nat), tv, iv ((i : Nat) : Int), iv ((i + 1 : Nat) : Int), .slice A3 ops.length c3, iv ((i : Nat) : Int), .pointer (some (ad.add (i * 4))), .agg #[iv o.kind, iv o.at_, .slice o.A o.d.length o.cd, .slice o.A2 o.ps.length o.cp], pq g13, iv o.kind, fv, fv, pq g13, iv o.kind, fv, fv, iv n, iv ((dn : Nat) : Int), iv (n - ((dn : Nat) : Int)), pq gd, tv, iv (n - ((dn : Nat) : Int)), tv, fv, po g13 1, iv o.at_, tv, tv, po g13 1, iv o.at_, iv k, fv, fv, pq g13, iv o.kind, J 81, J 82, J 83, fv, fv, J 86, J 87, J 88, J 89, J 90, J 91, J 92, J 93, J 94, J 95, J 96, J 97, J 98, J 99, J 100, J 101, J 102, J 103, J 104, J 105, J 106, J 107, J 108, J 109, J 110, J 111, J 112, J 113, J 114, J 115, J 116, J 117, J 118, J 119, fv, fv, J 122, J 123, J 124, J 125, J 126, J 127, J 128, J 129, J 130, J 131, J 132, tv, tv, .tuple #[.slice AP103 ((s1.readR o.at_).2.1.length) ((s1.readR o.at_).2.1.length), iv ((s1.readR o.at_).2.2)], pq gd, po g13 1, iv o.at_, .tuple #[.slice AP103 ((s1.readR o.at_).2.1.length) ((s1.readR o.at_).2.1.length), iv ((s1.readR o.at_).2.2)], .slice AP103 ((s1.readR o.at_).2.1.length) ((s1.readR o.at_).2.1.length), iv ((s1.readR o.at_).2.2), iv ((s1.readR o.at_).2.2), fv, fv, fv, ud, ud, fv, fv, fv, iv ((s1.readR o.at_).2.2), tv, tv, .slice AP103 ((s1.readR o.at_).2.1.length) ((s1.readR o.at_).2.1.length), iv ((s1.readR o.at_).2.1.length : Nat), fv, fv, fv, fv, iv (n - ((dn : Nat) : Int)), tv, tv, iv ((s1.readR o.at_).2.2), fv, fv, fv]), by kernel_rfl, S109, ⟨by omega, hpb, hlf, hdn, hln⟩⟩, (by show ops.length - (i + 1) < ops.length - i; omega)⟩
                            · skip
                              exfalso; omega
                        · skip
                          refine pv fv ?_
                          refine wl_end _ rfl ?_
                          refine then_n ?_
                          refine wp_cond_false (by kernel_rfl) ?_
                          refine wp_region_lit ?_
                          refine pv (pq gd) ?_
                          refine wl_gv rfl (gv_ldA (k := 0) (n := 4) (vs := [.int .i64 o.kind, .int .i64 o.at_, .slice o.A o.d.length o.cd, .slice o.A2 o.ps.length o.cp]) S18 0 rfl rfl (by kernel_rfl) (by kernel_rfl) rfl rfl ?_)
                          refine wl_gv rfl (gv_call (args := #[.pointer (some ⟨gd, 0, none⟩), .agg #[.int .i64 o.kind, .int .i64 o.at_, .slice o.A o.d.length o.cd, .slice o.A2 o.ps.length o.cp]]) rfl Try.func38 (by kernel_rfl) rfl rfl (by kernel_rfl) ?_)
                          have S110 : St none' w w17 [PDisk gd s1, row g13 #[.int .i64 o.kind, .int .i64 o.at_, .slice o.A o.d.length o.cd, .slice o.A2 o.ps.length o.cp] 49] := St.permT [row g13 #[.int .i64 o.kind, .int .i64 o.at_, .slice o.A o.d.length o.cd, .slice o.A2 o.ps.length o.cp] 49, PDisk gd s1] [1, 0] (by decide) rfl S18
                          refine Calls.mono (act_all S110 (Ro.of_C hk.d (fun _ h => h)).T (RoV.of_rd hk.p _) hk.hat hk.dm hk.pm (by have := hpI; omega)) ?_
                          rintro _ w111 ⟨rfl, S112⟩
                          refine ⟨_, rfl, ?_⟩
                          refine wl_end _ rfl ?_
                          refine inb_n ?_
                          refine inb_n ?_
                          refine then_n ?_
                          refine wp_region_lit ?_
                          refine pv (iv ((i : Nat) : Int)) ?_
                          refine wl_gv rfl (gv_int (k := .i64) (z := IntKind.i64.wrap (((i : Nat) : Int) + 1)) (z' := ((i + 1 : Nat) : Int)) (by kernel_rfl) (wr_eq (by omega) (by omega) (by omega)) ?_)
                          refine pv (iv ((i + 1 : Nat) : Int)) ?_
                          have S113 : St none' w w111 [PDisk gd (s1.actR o.kind o.at_ o.d o.ps)] := St.permT [PDisk gd (s1.actR o.kind o.at_ o.d o.ps), row g13 #[.int .i64 o.kind, .int .i64 o.at_, .slice o.A o.d.length o.cd, .slice o.A2 o.ps.length o.cp] 49] [0] (by decide) rfl S112
                          have hac := act_left (s := s1) (a := o.at_) (d := o.d) (ps := o.ps) k2 k3 k4 k6
                          have hpb : (s1.actR o.kind o.at_ o.d o.ps).pend.length ≤ i + 1 := (Nat.le_trans (actR_pend s1 o.kind o.at_ o.d o.ps) (by omega))
                          have hlf : (s1.actR o.kind o.at_ o.d o.ps).left = n - (((dn : Nat) : Nat) : Int) := by rw [hac.1]; exact hlI
                          have hdn : (((dn : Nat) : Nat) : Int) ≤ n := hdI
                          have hln : ((s1.actR o.kind o.at_ o.d o.ps).last.length : Int) = k := by rw [hac.2.1]; exact hmI
                          refine wl_end _ rfl ?_
                          refine then_n ?_
                          exact ⟨(i + 1, (s1.actR o.kind o.at_ o.d o.ps), dn), ⟨(jl [ud, ud, ud, ud, ud, ud, J 6, ud, ud, ud, ud, pq g13, iv (n - ((dn : Nat) : Int)), fv, J 14, J 15, J 16, J 17, J 18, ud, ud, ud, ud, ud, ud, ud, ud, ud, ud, ud, ud, ud, ud, ud, ud, ud, ud, ud, ud, ud, ud, ud, ud, ud, iv ((i : Nat) : Int), .slice A3 ops.length c3, iv (ops.length : Nat), tv, iv ((i : Nat) : Int), iv ((i + 1 : Nat) : Int), .slice A3 ops.length c3, iv ((i : Nat) : Int), .pointer (some (ad.add (i * 4))), .agg #[iv o.kind, iv o.at_, .slice o.A o.d.length o.cd, .slice o.A2 o.ps.length o.cp], pq g13, iv o.kind, fv, fv, pq g13, iv o.kind, fv, fv, iv n, iv ((dn : Nat) : Int), iv (n - ((dn : Nat) : Int)), pq gd, tv, iv (n - ((dn : Nat) : Int)), tv, fv, po g13 1, iv o.at_, tv, tv, po g13 1, iv o.at_, iv k, fv, fv, pq g13, iv o.kind, pq gd, .agg #[iv o.kind, iv o.at_, .slice o.A o.d.length o.cd, .slice o.A2 o.ps.length o.cp], .tuple #[], fv, fv, J 86, J 87, J 88, J 89, J 90, J 91, J 92, J 93, J 94, J 95, J 96, J 97, J 98, J 99, J 100, J 101, J 102, J 103, J 104, J 105, J 106, J 107, J 108, J 109, J 110, J 111, J 112, J 113, J 114, J 115, J 116, J 117, J 118, J 119, fv, fv, J 122, J 123, J 124, J 125, J 126, J 127, J 128, J 129, J 130, J 131, J 132, fv, fv, J 135, J 136, J 137, J 138, J 139, J 140, J 141, J 142, J 143, J 144, J 145, J 146, J 147, J 148, J 149, J 150, J 151, J 152, J 153, J 154, J 155, J 156, J 157, J 158, J 159, J 160, J 161, J 162, J 163, J 164, J 165, J 166]), by kernel_rfl, S113, ⟨by omega, hpb, hlf, hdn, hln⟩⟩, (by show ops.length - (i + 1) < ops.length - i; omega)⟩
                · skip
                  refine pv fv ?_
                  refine wl_not (by kernel_rfl) ?_
                  refine wl_not (by kernel_rfl) ?_
                  refine wl_not (by kernel_rfl) ?_
                  refine wl_not (by kernel_rfl) ?_
                  refine pv fv ?_
                  refine pv fv ?_
                  refine wl_end _ rfl ?_
                  refine then_n ?_
                  refine wp_seq ?_
                  refine wp_region_lit ?_
                  refine pv (pq g13) ?_
                  refine wl_gv rfl (gv_ldR (v := .int .i64 o.kind) rfl (by kernel_rfl) (by kernel_rfl) (((S18.blk 0 rfl).cell 0).trans rfl) ?_)
                  refine wl_end _ rfl ?_
                  refine then_n ?_
                  refine wp_block ?_
                  refine wp_seq ?_
                  refine wp_region_lit ?_
                  refine wl_gv rfl (gv_eq (x := o.kind) (y := 2) (by kernel_rfl) (fun k2 => ?_) (fun k2 => ?_))
                  · skip
                    refine pv tv ?_
                    refine wl_end _ rfl ?_
                    refine then_n ?_
                    refine wp_cond_true (by kernel_rfl) ?_
                    refine wp_seq ?_
                    refine wp_region_phu (γ := Nat) 7 [5, 6] (fun (c3_ : Nat) (i_ : Nat) => (match i_ with | 0 => .pointer (some ⟨gd, 0, none⟩) | 1 => .pointer (some ⟨g13, 1, none⟩) | 2 => .int .i64 o.at_ | 3 => .pointer (some ⟨g13, 2, none⟩) | 4 => .slice o.A o.d.length o.cd | 5 => .slice (some ⟨c3_, 0, none⟩) o.d.length o.d.length | 6 => .int .i64 ((s1.writeR o.at_ o.d).2) | _ => undef : Value)) (fun (c3_ : Nat) (p_ : Nat) (w_ : World) => (match p_ with | 0 => St none' w w_ [row g13 #[.int .i64 o.kind, .int .i64 o.at_, .slice o.A o.d.length o.cd, .slice o.A2 o.ps.length o.cp] 49, PDisk gd s1] | 1 => St none' w w_ [row c3_ (bvs o.d) 5, row g13 #[.int .i64 o.kind, .int .i64 o.at_, .slice o.A o.d.length o.cd, .slice o.A2 o.ps.length o.cp] 49, PDisk gd s1] | _ => St none' w w_ [PDisk gd (s1.writeR o.at_ o.d).1, row c3_ (bvs o.d) 5, row g13 #[.int .i64 o.kind, .int .i64 o.at_, .slice o.A o.d.length o.cd, .slice o.A2 o.ps.length o.cp] 49] : Prop)) (0) (by kernel_rfl) (by kernel_rfl) (by kernel_rfl) (by kernel_rfl) (S18.drew) ?_ ?_ ?_
                    · intro i_ c3_ p_ vals_ w1 hi_ hiE_ hp_ hk_ hu_ hPh_ hd_
                      rcases i_ with _ | _ | _ | _ | _ | _ | _ | i_
                      · skip
                        refine told_free rfl rfl (gv_env ((⟨Array.replicate 178 undef, []⟩ : Act).put (some 7) (.pointer (some ⟨gd, 0, none⟩))) (by kernel_rfl) (xs := [.tmp 7]) (by kernel_rfl) (alike_cons (fill_past (by kernel_rfl) (by kernel_rfl)) alike_nil) (gv_val (v := .pointer (some ⟨gd, 0, none⟩)) (w' := w1) (by kernel_rfl) ?_))
                        exact ⟨rfl, rfl⟩
                      · skip
                        refine told_free rfl rfl (gv_env ((⟨Array.replicate 178 undef, []⟩ : Act).put (some 11) (.pointer (some ⟨g13, 0, none⟩))) (by kernel_rfl) (xs := [.tmp 11]) (by kernel_rfl) (alike_cons (fill_past (by kernel_rfl) (by kernel_rfl)) alike_nil) (gv_val (v := .pointer (some ⟨g13, 1, none⟩)) (w' := w1) (by kernel_rfl) ?_))
                        exact ⟨rfl, rfl⟩
                      · skip
                        rcases p_ with _ | _ | _ | p_
                        · skip
                          have S116 : St none' w w1 [row g13 #[.int .i64 o.kind, .int .i64 o.at_, .slice o.A o.d.length o.cd, .slice o.A2 o.ps.length o.cp] 49, PDisk gd s1] := hPh_
                          refine told_free rfl rfl (gv_env ((⟨Array.replicate 178 undef, []⟩ : Act).put (some 87) (.pointer (some ⟨g13, 1, none⟩))) (by kernel_rfl) (xs := [.tmp 87]) (by kernel_rfl) (alike_cons (fill_at (k := 1) (by kernel_rfl) (by kernel_rfl) ((hd_ 1 (by kernel_rfl)).trans (by kernel_rfl))) alike_nil) (gv_ldR (v := .int .i64 o.at_) rfl (by kernel_rfl) (by kernel_rfl) (((S116.blk 0 rfl).cell 1).trans rfl) ?_))
                          exact ⟨rfl, rfl⟩
                        · skip
                          have S117 : St none' w w1 [row c3_ (bvs o.d) 5, row g13 #[.int .i64 o.kind, .int .i64 o.at_, .slice o.A o.d.length o.cd, .slice o.A2 o.ps.length o.cp] 49, PDisk gd s1] := hPh_
                          refine told_free rfl rfl (gv_env ((⟨Array.replicate 178 undef, []⟩ : Act).put (some 87) (.pointer (some ⟨g13, 1, none⟩))) (by kernel_rfl) (xs := [.tmp 87]) (by kernel_rfl) (alike_cons (fill_at (k := 1) (by kernel_rfl) (by kernel_rfl) ((hd_ 1 (by kernel_rfl)).trans (by kernel_rfl))) alike_nil) (gv_ldR (v := .int .i64 o.at_) rfl (by kernel_rfl) (by kernel_rfl) (((S117.blk 1 rfl).cell 1).trans rfl) ?_))
                          exact ⟨rfl, rfl⟩
                        · skip
                          exact absurd (hu_ 1 (by decide) (by kernel_rfl)) (by decide)
                        · exact absurd hp_ (by simp)
                      · skip
                        refine told_free rfl rfl (gv_env ((⟨Array.replicate 178 undef, []⟩ : Act).put (some 11) (.pointer (some ⟨g13, 0, none⟩))) (by kernel_rfl) (xs := [.tmp 11]) (by kernel_rfl) (alike_cons (fill_past (by kernel_rfl) (by kernel_rfl)) alike_nil) (gv_val (v := .pointer (some ⟨g13, 2, none⟩)) (w' := w1) (by kernel_rfl) ?_))
                        exact ⟨rfl, rfl⟩
                      · skip
                        rcases p_ with _ | _ | _ | p_
                        · skip
                          have S119 : St none' w w1 [row g13 #[.int .i64 o.kind, .int .i64 o.at_, .slice o.A o.d.length o.cd, .slice o.A2 o.ps.length o.cp] 49, PDisk gd s1] := hPh_
                          refine told_free rfl rfl (gv_env ((⟨Array.replicate 178 undef, []⟩ : Act).put (some 89) (.pointer (some ⟨g13, 2, none⟩))) (by kernel_rfl) (xs := [.tmp 89]) (by kernel_rfl) (alike_cons (fill_at (k := 3) (by kernel_rfl) (by kernel_rfl) ((hd_ 3 (by kernel_rfl)).trans (by kernel_rfl))) alike_nil) (gv_ldR (v := .slice o.A o.d.length o.cd) rfl (by kernel_rfl) (by kernel_rfl) (((S119.blk 0 rfl).cell 2).trans rfl) ?_))
                          exact ⟨rfl, rfl⟩
                        · skip
                          exact absurd (hu_ 0 (by decide) (by kernel_rfl)) (by decide)
                        · skip
                          exact absurd (hu_ 0 (by decide) (by kernel_rfl)) (by decide)
                        · exact absurd hp_ (by simp)
                      · skip
                        exact absurd hiE_ (by decide)
                      · skip
                        exact absurd hiE_ (by decide)
                      · exact absurd hi_ (by omega)
                    · intro k_ c3_ vals_ w1 hk_ hPh_ hd_
                      rcases k_ with _ | _ | k_
                      · skip
                        have S120 : St none' w w1 [row g13 #[.int .i64 o.kind, .int .i64 o.at_, .slice o.A o.d.length o.cd, .slice o.A2 o.ps.length o.cp] 49, PDisk gd s1] := hPh_
                        refine told_free rfl rfl (gv_env ((⟨Array.replicate 178 undef, []⟩ : Act).put (some 90) (.slice o.A o.d.length o.cd)) (by kernel_rfl) (xs := [.func 27, .tmp 90]) (by kernel_rfl) (alike_cons eval_fn (alike_cons (fill_at (k := 4) (by kernel_rfl) (by kernel_rfl) ((hd_ 4 (by kernel_rfl)).trans (by kernel_rfl))) alike_nil)) (gv_call (args := #[.slice o.A o.d.length o.cd]) rfl Try.func27 (by kernel_rfl) rfl rfl (by kernel_rfl) ?_))
                        refine Calls.mono (ltwinS (l := o.d) S120 (Ro.of_C hk.d (fun _ h => h)).T hk.dm) ?_
                        rintro _ w122 ⟨g121, rfl, S123⟩
                        refine ⟨_, rfl, ?_⟩
                        refine ⟨(g121), rfl, ?_, S123⟩
                        intro i_ hi_ hne_ hdp_
                        rcases i_ with _ | _ | _ | _ | _ | _ | _ | i_
                        · rfl
                        · rfl
                        · rfl
                        · rfl
                        · rfl
                        · exact absurd rfl hne_
                        · exact (dep_no hdp_ (by kernel_rfl)).elim
                        · exact absurd hi_ (by omega)
                      · skip
                        have S124 : St none' w w1 [row c3_ (bvs o.d) 5, row g13 #[.int .i64 o.kind, .int .i64 o.at_, .slice o.A o.d.length o.cd, .slice o.A2 o.ps.length o.cp] 49, PDisk gd s1] := hPh_
                        refine told_free rfl rfl (gv_env ((((⟨Array.replicate 178 undef, []⟩ : Act).put (some 86) (.pointer (some ⟨gd, 0, none⟩))).put (some 88) (.int .i64 o.at_)).put (some 91) (.slice (some ⟨c3_, 0, none⟩) o.d.length o.d.length)) (by kernel_rfl) (xs := [.func 35, .tmp 86, .tmp 88, .tmp 91]) (by kernel_rfl) (alike_cons eval_fn (alike_cons (fill_at (k := 0) (by kernel_rfl) (by kernel_rfl) ((hd_ 0 (by kernel_rfl)).trans (by kernel_rfl))) (alike_cons (fill_at (k := 2) (by kernel_rfl) (by kernel_rfl) ((hd_ 2 (by kernel_rfl)).trans (by kernel_rfl))) (alike_cons (fill_at (k := 5) (by kernel_rfl) (by kernel_rfl) ((hd_ 5 (by kernel_rfl)).trans (by kernel_rfl))) alike_nil)))) (gv_call (args := #[.pointer (some ⟨gd, 0, none⟩), .int .i64 o.at_, .slice (some ⟨c3_, 0, none⟩) o.d.length o.d.length]) rfl Try.func35 (by kernel_rfl) rfl rfl (by kernel_rfl) ?_))
                        have S125 : St none' w w1 [PDisk gd s1, row c3_ (bvs o.d) 5, row g13 #[.int .i64 o.kind, .int .i64 o.at_, .slice o.A o.d.length o.cd, .slice o.A2 o.ps.length o.cp] 49] := St.permT [row c3_ (bvs o.d) 5, row g13 #[.int .i64 o.kind, .int .i64 o.at_, .slice o.A o.d.length o.cd, .slice o.A2 o.ps.length o.cp] 49, PDisk gd s1] [2, 0, 1] (by decide) rfl S124
                        refine Calls.mono (pd_write S125 (RoT.item 0 rfl 0 o.d.length o.d (by rw [List.drop_zero, List.take_length])) (by have := hk.dm; omega) (by have := hpI; omega)) ?_
                        rintro _ w126 ⟨rfl, S127⟩
                        refine ⟨_, rfl, ?_⟩
                        refine ⟨(c3_), rfl, ?_, S127⟩
                        intro i_ hi_ hne_ hdp_
                        rcases i_ with _ | _ | _ | _ | _ | _ | _ | i_
                        · rfl
                        · rfl
                        · rfl
                        · rfl
                        · rfl
                        · rfl
                        · exact absurd rfl hne_
                        · exact absurd hi_ (by omega)
                      · exact absurd hk_ (by simp)
                    · intro c3_ w1 hPh_
                      have S128 : St none' w w1 [PDisk gd (s1.writeR o.at_ o.d).1, row c3_ (bvs o.d) 5, row g13 #[.int .i64 o.kind, .int .i64 o.at_, .slice o.A o.d.length o.cd, .slice o.A2 o.ps.length o.cp] 49] := hPh_
                      refine wl_frame (fr ([iv k, iv n, .slice A3 ops.length c3, ud, ud, ud, J 6, pq gd, tv, iv ((dn : Nat) : Int), iv ((i : Nat) : Int), pq g13, iv (n - ((dn : Nat) : Int)), fv] ++ jr J 14 5 ++ [ud, iv n, fv, fv, iv k, fv, fv, fv, iv k, fv, fv, .tuple #[pq gd, tv], iv k, .tuple #[pq gd, tv], pq gd, tv, tv, fv, fv, pq gd, fv, fv, pq gd, iv n, .tuple #[], iv ((i : Nat) : Int), .slice A3 ops.length c3, iv (ops.length : Nat), tv, J 48, J 49, .slice A3 ops.length c3, iv ((i : Nat) : Int), .pointer (some (ad.add (i * 4))), .agg #[iv o.kind, iv o.at_, .slice o.A o.d.length o.cd, .slice o.A2 o.ps.length o.cp], pq g13, iv o.kind, fv, fv, pq g13, iv o.kind, fv, fv, iv n, iv ((dn : Nat) : Int), iv (n - ((dn : Nat) : Int)), pq gd, tv, iv (n - ((dn : Nat) : Int)), tv, fv, po g13 1, iv o.at_, fv, fv, ud, ud, ud, ud, fv, pq g13, iv o.kind, J 81, J 82, J 83, tv, tv, pq gd, po g13 1, iv o.at_, po g13 2, .slice o.A o.d.length o.cd, sl c3_ 0 o.d.length o.d.length, iv ((s1.writeR o.at_ o.d).2)] ++ jr J 93 74) 11) (by kernel_rfl) ?_
                      refine pv (iv ((s1.writeR o.at_ o.d).2)) ?_
                      refine wl_end (fr ([iv k, iv n, .slice A3 ops.length c3, ud, ud, ud, J 6, pq gd, tv, iv ((dn : Nat) : Int), iv ((i : Nat) : Int), pq g13, iv (n - ((dn : Nat) : Int)), fv, iv ((s1.writeR o.at_ o.d).2)] ++ jr J 15 4 ++ [ud, iv n, fv, fv, iv k, fv, fv, fv, iv k, fv, fv, .tuple #[pq gd, tv], iv k, .tuple #[pq gd, tv], pq gd, tv, tv, fv, fv, pq gd, fv, fv, pq gd, iv n, .tuple #[], iv ((i : Nat) : Int), .slice A3 ops.length c3, iv (ops.length : Nat), tv, J 48, J 49, .slice A3 ops.length c3, iv ((i : Nat) : Int), .pointer (some (ad.add (i * 4))), .agg #[iv o.kind, iv o.at_, .slice o.A o.d.length o.cd, .slice o.A2 o.ps.length o.cp], pq g13, iv o.kind, fv, fv, pq g13, iv o.kind, fv, fv, iv n, iv ((dn : Nat) : Int), iv (n - ((dn : Nat) : Int)), pq gd, tv, iv (n - ((dn : Nat) : Int)), tv, fv, po g13 1, iv o.at_, fv, fv, ud, ud, ud, ud, fv, pq g13, iv o.kind, J 81, J 82, J 83, tv, tv, pq gd, po g13 1, iv o.at_, po g13 2, .slice o.A o.d.length o.cd, sl c3_ 0 o.d.length o.d.length, iv ((s1.writeR o.at_ o.d).2)] ++ jr J 93 74) 11) (by kernel_rfl) ?_
                      refine then_n ?_
                      refine wp_seq ?_
                      refine wp_region_lit ?_
                      refine pv fv ?_
                      refine pv fv ?_
                      refine wl_not (by kernel_rfl) ?_
                      refine wl_not (by kernel_rfl) ?_
                      refine wl_not (by kernel_rfl) ?_
                      refine wl_not (by kernel_rfl) ?_
                      refine pv fv ?_
                      refine pv fv ?_
                      refine wl_end _ rfl ?_
                      refine then_n ?_
                      refine wp_seq ?_
                      refine wp_seq ?_
                      refine wp_region_lit ?_
                      refine pv (iv ((s1.writeR o.at_ o.d).2)) ?_
                      refine wl_gv rfl (gv_eq (x := ((s1.writeR o.at_ o.d).2)) (y := 0) (by kernel_rfl) (fun hb129 => ?_) (fun hb129 => ?_))
                      · skip
                        have hw := writeR_ok hb129
                        exfalso; omega
                      · skip
                        have hw := writeR_no (show _ ≠ (0 : Int) from hb129)
                        refine pv fv ?_
                        refine pv fv ?_
                        refine wl_not (by kernel_rfl) ?_
                        refine wl_not (by kernel_rfl) ?_
                        refine pv fv ?_
                        refine pv fv ?_
                        refine pv fv ?_
                        refine wl_when (by kernel_rfl) (gv_val (v := .int .i64 (n - ((dn : Nat) : Int))) (w' := w1) (by kernel_rfl) ?_)
                        refine wl_when (by kernel_rfl) (gv_dec (p := (n - ((dn : Nat) : Int) : Int) ≤ 0) (by kernel_rfl) (fun _ => ?_) (fun hd130 => False.elim (by omega)))
                        refine wl_when (by kernel_rfl) (gv_val (v := .bool true) (w' := w1) (by kernel_rfl) ?_)
                        refine wl_when (by kernel_rfl) (gv_val (v := .int .i64 ((s1.writeR o.at_ o.d).2)) (w' := w1) (by kernel_rfl) ?_)
                        refine wl_when (by kernel_rfl) (gv_ne (x := ((s1.writeR o.at_ o.d).2)) (y := 3) (by kernel_rfl) (fun hd131 => False.elim (by have := hw.2.2.2.2 hz; omega)) (fun _ => ?_))
                        refine wl_when (by kernel_rfl) (gv_val (v := .bool false) (w' := w1) (by kernel_rfl) ?_)
                        refine pv fv ?_
                        refine wl_end _ rfl ?_
                        refine then_n ?_
                        refine wp_cond_false (by kernel_rfl) ?_
                        refine wp_skip ?_
                        refine then_n ?_
                        refine wp_seq ?_
                        refine wp_region_lit ?_
                        refine pv (iv ((s1.writeR o.at_ o.d).2)) ?_
                        refine wl_gv rfl (gv_eq (x := ((s1.writeR o.at_ o.d).2)) (y := 0) (by kernel_rfl) (fun hb132 => ?_) (fun hb132 => ?_))
                        · skip
                          exfalso; omega
                        · skip
                          refine wl_end _ rfl ?_
                          refine then_n ?_
                          refine wp_cond_false (by kernel_rfl) ?_
                          refine wp_skip ?_
                          refine inb_n ?_
                          refine inb_n ?_
                          refine then_n ?_
                          refine wp_region_lit ?_
                          refine pv (iv ((i : Nat) : Int)) ?_
                          refine wl_gv rfl (gv_int (k := .i64) (z := IntKind.i64.wrap (((i : Nat) : Int) + 1)) (z' := ((i + 1 : Nat) : Int)) (by kernel_rfl) (wr_eq (by omega) (by omega) (by omega)) ?_)
                          refine pv (iv ((i + 1 : Nat) : Int)) ?_
                          have S133 : St none' w w1 [PDisk gd (s1.writeR o.at_ o.d).1] := St.permT [PDisk gd (s1.writeR o.at_ o.d).1, row c3_ (bvs o.d) 5, row g13 #[.int .i64 o.kind, .int .i64 o.at_, .slice o.A o.d.length o.cd, .slice o.A2 o.ps.length o.cp] 49] [0] (by decide) rfl S128
                          have hpb : ((s1.writeR o.at_ o.d).1).pend.length ≤ i + 1 := (Nat.le_trans (writeR_pend s1 o.at_ o.d) (by omega))
                          have hlf : ((s1.writeR o.at_ o.d).1).left = n - (((dn : Nat) : Nat) : Int) := by rw [hw.2.2.1]; exact hlI
                          have hdn : (((dn : Nat) : Nat) : Int) ≤ n := hdI
                          have hln : (((s1.writeR o.at_ o.d).1).last.length : Int) = k := by rw [hw.1]; exact hmI
                          refine wl_end _ rfl ?_
                          refine then_n ?_
                          exact ⟨(i + 1, (s1.writeR o.at_ o.d).1, dn), ⟨(jl [ud, ud, ud, ud, ud, ud, J 6, ud, ud, ud, ud, pq g13, iv (n - ((dn : Nat) : Int)), fv, iv ((s1.writeR o.at_ o.d).2), fv, J 16, J 17, J 18, ud, ud, ud, ud, ud, ud, ud, ud, ud, ud, ud, ud, ud, ud, ud, ud, ud, ud, ud, ud, ud, ud, ud, ud, ud, iv ((i : Nat) : Int), .slice A3 ops.length c3, iv (ops.length : Nat), tv, iv ((i : Nat) : Int), iv ((i + 1 : Nat) : Int), .slice A3 ops.length c3, iv ((i : Nat) : Int), .pointer (some (ad.add (i * 4))), .agg #[iv o.kind, iv o.at_, .slice o.A o.d.length o.cd, .slice o.A2 o.ps.length o.cp], pq g13, iv o.kind, fv, fv, pq g13, iv o.kind, fv, fv, iv n, iv ((dn : Nat) : Int), iv (n - ((dn : Nat) : Int)), pq gd, tv, iv (n - ((dn : Nat) : Int)), tv, fv, po g13 1, iv o.at_, fv, fv, ud, ud, ud, ud, fv, pq g13, iv o.kind, J 81, J 82, J 83, tv, tv, pq gd, po g13 1, iv o.at_, po g13 2, .slice o.A o.d.length o.cd, sl c3_ 0 o.d.length o.d.length, iv ((s1.writeR o.at_ o.d).2), fv, fv, ud, ud, ud, ud, fv, iv ((s1.writeR o.at_ o.d).2), fv, fv, fv, ud, ud, fv, fv, fv, iv (n - ((dn : Nat) : Int)), tv, tv, iv ((s1.writeR o.at_ o.d).2), fv, fv, fv, iv ((s1.writeR o.at_ o.d).2), fv, J 118, J 119, J 120, J 121, J 122, J 123, J 124, J 125, J 126, J 127, J 128, J 129, J 130, J 131, J 132, J 133, J 134, J 135, J 136, J 137, J 138, J 139, J 140, J 141, J 142, J 143, J 144, J 145, J 146, J 147, J 148, J 149, J 150, J 151, J 152, J 153, J 154, J 155, J 156, J 157, J 158, J 159, J 160, J 161, J 162, J 163, J 164, J 165, J 166]), by kernel_rfl, S133, ⟨by omega, hpb, hlf, hdn, hln⟩⟩, (by show ops.length - (i + 1) < ops.length - i; omega)⟩
                  · skip
                    refine pv fv ?_
                    refine wl_end _ rfl ?_
                    refine then_n ?_
                    refine wp_cond_false (by kernel_rfl) ?_
                    refine wp_seq ?_
                    refine wp_region_lit ?_
                    refine wl_gv rfl (gv_eq (x := o.kind) (y := 3) (by kernel_rfl) (fun k3 => ?_) (fun k3 => ?_))
                    · skip
                      refine pv tv ?_
                      refine wl_end _ rfl ?_
                      refine then_n ?_
                      refine wp_cond_true (by kernel_rfl) ?_
                      refine wp_seq ?_
                      refine wp_region_lit ?_
                      refine pv (pq gd) ?_
                      refine wl_gv rfl (gv_call (args := #[.pointer (some ⟨gd, 0, none⟩)]) rfl Try.func41 (by kernel_rfl) rfl rfl (by kernel_rfl) ?_)
                      have S134 : St none' w w17 [PDisk gd s1, row g13 #[.int .i64 o.kind, .int .i64 o.at_, .slice o.A o.d.length o.cd, .slice o.A2 o.ps.length o.cp] 49] := St.permT [row g13 #[.int .i64 o.kind, .int .i64 o.at_, .slice o.A o.d.length o.cd, .slice o.A2 o.ps.length o.cp] 49, PDisk gd s1] [1, 0] (by decide) rfl S18
                      refine Calls.mono (pd_flush S134) ?_
                      rintro _ w135 ⟨rfl, S136⟩
                      refine ⟨_, rfl, ?_⟩
                      refine pv (iv s1.flushR.2) ?_
                      refine wl_end _ rfl ?_
                      refine then_n ?_
                      refine wp_seq ?_
                      refine wp_seq ?_
                      refine wp_region_lit ?_
                      refine pv (iv s1.flushR.2) ?_
                      refine wl_gv rfl (gv_eq (x := s1.flushR.2) (y := 0) (by kernel_rfl) (fun hb137 => ?_) (fun hb137 => ?_))
                      · skip
                        rcases flushR_cases s1 with ⟨_, e⟩ | ⟨hq, _⟩
                        · rw [e] at hb137; exact absurd (show (3 : Int) = 0 from hb137) (by decide)
                        · exact absurd hz hq
                      · skip
                        have hw : s1.flushR = (s1, 3) := (flushR_cases s1).elim (fun q => q.2) (fun q => absurd hz q.1)
                        refine pv (iv (n - ((dn : Nat) : Int))) ?_
                        refine wl_gv rfl (gv_dec (p := (n - ((dn : Nat) : Int) : Int) > 0) (by kernel_rfl) (fun hd138 => False.elim (by omega)) (fun _ => ?_))
                        refine pv fv ?_
                        refine wl_end _ rfl ?_
                        refine then_n ?_
                        refine wp_cond_false (by kernel_rfl) ?_
                        refine wp_skip ?_
                        refine then_n ?_
                        refine wp_seq ?_
                        refine wp_region_lit ?_
                        refine pv (iv s1.flushR.2) ?_
                        refine wl_gv rfl (gv_eq (x := s1.flushR.2) (y := 0) (by kernel_rfl) (fun hb139 => ?_) (fun hb139 => ?_))
                        · skip
                          exfalso; omega
                        · skip
                          refine wl_end _ rfl ?_
                          refine then_n ?_
                          refine wp_cond_false (by kernel_rfl) ?_
                          refine wp_skip ?_
                          refine inb_n ?_
                          refine inb_n ?_
                          refine then_n ?_
                          refine wp_region_lit ?_
                          refine pv (iv ((i : Nat) : Int)) ?_
                          refine wl_gv rfl (gv_int (k := .i64) (z := IntKind.i64.wrap (((i : Nat) : Int) + 1)) (z' := ((i + 1 : Nat) : Int)) (by kernel_rfl) (wr_eq (by omega) (by omega) (by omega)) ?_)
                          refine pv (iv ((i + 1 : Nat) : Int)) ?_
                          have S140 : St none' w w135 [PDisk gd s1.flushR.1] := St.permT [PDisk gd s1.flushR.1, row g13 #[.int .i64 o.kind, .int .i64 o.at_, .slice o.A o.d.length o.cd, .slice o.A2 o.ps.length o.cp] 49] [0] (by decide) rfl S136
                          have hpb : s1.flushR.1.pend.length ≤ i + 1 := (Nat.le_trans (flushR_pend s1) (by omega))
                          have hlf : s1.flushR.1.left = n - (((dn : Nat) : Nat) : Int) := by rw [hw]; exact hlI
                          have hdn : (((dn : Nat) : Nat) : Int) ≤ n := hdI
                          have hln : (s1.flushR.1.last.length : Int) = k := by rw [hw]; exact hmI
                          refine wl_end _ rfl ?_
                          refine then_n ?_
                          exact ⟨(i + 1, s1.flushR.1, dn), ⟨(jl [ud, ud, ud, ud, ud, ud, J 6, ud, ud, ud, ud, pq g13, iv (n - ((dn : Nat) : Int)), fv, J 14, J 15, iv s1.flushR.2, J 17, J 18, ud, ud, ud, ud, ud, ud, ud, ud, ud, ud, ud, ud, ud, ud, ud, ud, ud, ud, ud, ud, ud, ud, ud, ud, ud, iv ((i : Nat) : Int), .slice A3 ops.length c3, iv (ops.length : Nat), tv, iv ((i : Nat) : Int), iv ((i + 1 : Nat) : Int), .slice A3 ops.length c3, iv ((i : Nat) : Int), .pointer (some (ad.add (i * 4))), .agg #[iv o.kind, iv o.at_, .slice o.A o.d.length o.cd, .slice o.A2 o.ps.length o.cp], pq g13, iv o.kind, fv, fv, pq g13, iv o.kind, fv, fv, iv n, iv ((dn : Nat) : Int), iv (n - ((dn : Nat) : Int)), pq gd, tv, iv (n - ((dn : Nat) : Int)), tv, fv, po g13 1, iv o.at_, fv, fv, ud, ud, ud, ud, fv, pq g13, iv o.kind, J 81, J 82, J 83, fv, fv, J 86, J 87, J 88, J 89, J 90, J 91, J 92, J 93, J 94, J 95, J 96, J 97, J 98, J 99, J 100, J 101, J 102, J 103, J 104, J 105, J 106, J 107, J 108, J 109, J 110, J 111, J 112, J 113, J 114, J 115, J 116, J 117, J 118, J 119, tv, tv, pq gd, iv s1.flushR.2, iv s1.flushR.2, fv, iv (n - ((dn : Nat) : Int)), fv, fv, iv s1.flushR.2, fv, J 131, J 132, J 133, J 134, J 135, J 136, J 137, J 138, J 139, J 140, J 141, J 142, J 143, J 144, J 145, J 146, J 147, J 148, J 149, J 150, J 151, J 152, J 153, J 154, J 155, J 156, J 157, J 158, J 159, J 160, J 161, J 162, J 163, J 164, J 165, J 166]), by kernel_rfl, S140, ⟨by omega, hpb, hlf, hdn, hln⟩⟩, (by show ops.length - (i + 1) < ops.length - i; omega)⟩
                    · skip
                      refine pv fv ?_
                      refine wl_end _ rfl ?_
                      refine then_n ?_
                      refine wp_cond_false (by kernel_rfl) ?_
                      refine wp_seq ?_
                      refine wp_region_lit ?_
                      refine wl_gv rfl (gv_eq (x := o.kind) (y := 1) (by kernel_rfl) (fun k1 => ?_) (fun k1 => ?_))
                      · skip
                        refine pv tv ?_
                        refine wl_end _ rfl ?_
                        refine then_n ?_
                        refine wp_cond_true (by kernel_rfl) ?_
                        refine wp_seq ?_
                        refine wp_region_lit ?_
                        refine pv (pq gd) ?_
                        refine pv (po g13 1) ?_
                        refine wl_gv rfl (gv_ldR (v := .int .i64 o.at_) rfl (by kernel_rfl) (by kernel_rfl) (((S18.blk 0 rfl).cell 1).trans rfl) ?_)
                        refine wl_gv rfl (gv_call (args := #[.pointer (some ⟨gd, 0, none⟩), .int .i64 o.at_]) rfl Try.func29 (by kernel_rfl) rfl rfl (by kernel_rfl) ?_)
                        have S141 : St none' w w17 [PDisk gd s1, row g13 #[.int .i64 o.kind, .int .i64 o.at_, .slice o.A o.d.length o.cd, .slice o.A2 o.ps.length o.cp] 49] := St.permT [row g13 #[.int .i64 o.kind, .int .i64 o.at_, .slice o.A o.d.length o.cd, .slice o.A2 o.ps.length o.cp] 49, PDisk gd s1] [1, 0] (by decide) rfl S18
                        refine Calls.mono (pd_read S141) ?_
                        rintro _ w142 ⟨v_, rfl, S143⟩
                        obtain ⟨AP144, rfl, S143'⟩ := St.bytes_eq S143
                        refine ⟨_, rfl, ?_⟩
                        refine pv (.tuple #[.slice AP144 ((s1.readR o.at_).2.1.length) ((s1.readR o.at_).2.1.length), iv ((s1.readR o.at_).2.2)]) ?_
                        refine pv (.slice AP144 ((s1.readR o.at_).2.1.length) ((s1.readR o.at_).2.1.length)) ?_
                        refine pv (iv ((s1.readR o.at_).2.2)) ?_
                        refine pv (.slice AP144 ((s1.readR o.at_).2.1.length) ((s1.readR o.at_).2.1.length)) ?_
                        refine pv (iv ((s1.readR o.at_).2.2)) ?_
                        refine wl_end _ rfl ?_
                        refine then_n ?_
                        refine wp_seq ?_
                        refine wp_region_lit ?_
                        refine pv (iv ((s1.readR o.at_).2.2)) ?_
                        refine wl_gv rfl (gv_eq (x := ((s1.readR o.at_).2.2)) (y := 0) (by kernel_rfl) (fun hb145 => ?_) (fun hb145 => ?_))
                        · skip
                          have hq := readR_ok hb145
                          exfalso; omega
                        · skip
                          have hq := readR_no (show _ ≠ (0 : Int) from hb145)
                          refine pv fv ?_
                          refine pv fv ?_
                          refine wl_not (by kernel_rfl) ?_
                          refine wl_not (by kernel_rfl) ?_
                          refine pv fv ?_
                          refine pv fv ?_
                          refine pv fv ?_
                          refine wl_when (by kernel_rfl) (gv_val (v := .int .i64 ((s1.readR o.at_).2.2)) (w' := w142) (by kernel_rfl) ?_)
                          refine wl_when (by kernel_rfl) (gv_ne (x := ((s1.readR o.at_).2.2)) (y := 0) (by kernel_rfl) (fun hb146 => ?_) (fun hb146 => ?_))
                          · skip
                            refine wl_when (by kernel_rfl) (gv_val (v := .bool true) (w' := w142) (by kernel_rfl) ?_)
                            refine wl_when (by kernel_rfl) (gv_val (v := .slice AP144 ((s1.readR o.at_).2.1.length) ((s1.readR o.at_).2.1.length)) (w' := w142) (by kernel_rfl) ?_)
                            refine wl_when (by kernel_rfl) (gv_val (v := .int .i64 ((s1.readR o.at_).2.1.length : Nat)) (w' := w142) (by kernel_rfl) ?_)
                            refine wl_when (by kernel_rfl) (gv_ne (x := ((s1.readR o.at_).2.1.length : Nat)) (y := 0) (by kernel_rfl) (fun hd147 => False.elim (hd147 (by rw [hq.1]; rfl))) (fun _ => ?_))
                            refine wl_when (by kernel_rfl) (gv_val (v := .bool false) (w' := w142) (by kernel_rfl) ?_)
                            refine pv fv ?_
                            refine pv fv ?_
                            refine wl_when (by kernel_rfl) (gv_val (v := .int .i64 (n - ((dn : Nat) : Int))) (w' := w142) (by kernel_rfl) ?_)
                            refine wl_when (by kernel_rfl) (gv_dec (p := (n - ((dn : Nat) : Int) : Int) ≤ 0) (by kernel_rfl) (fun _ => ?_) (fun hd148 => False.elim (by omega)))
                            refine wl_when (by kernel_rfl) (gv_val (v := .bool true) (w' := w142) (by kernel_rfl) ?_)
                            refine wl_when (by kernel_rfl) (gv_val (v := .int .i64 ((s1.readR o.at_).2.2)) (w' := w142) (by kernel_rfl) ?_)
                            refine wl_when (by kernel_rfl) (gv_ne (x := ((s1.readR o.at_).2.2)) (y := 3) (by kernel_rfl) (fun hd149 => False.elim (by have := hq.2.2 hz; omega)) (fun _ => ?_))
                            refine wl_when (by kernel_rfl) (gv_val (v := .bool false) (w' := w142) (by kernel_rfl) ?_)
                            refine pv fv ?_
                            refine wl_end (fr ([iv k, iv n, .slice A3 ops.length c3, ud, ud, ud, J 6, pq gd, tv, iv ((dn : Nat) : Int), iv ((i : Nat) : Int), pq g13, iv (n - ((dn : Nat) : Int)), fv, J 14, J 15, J 16, .slice AP144 ((s1.readR o.at_).2.1.length) ((s1.readR o.at_).2.1.length), iv ((s1.readR o.at_).2.2), ud, iv n, fv, fv, iv k, fv, fv, fv, iv k, fv, fv, .tuple #[pq gd, tv], iv k, .tuple #[pq gd, tv], pq gd, tv, tv, fv, fv, pq gd, fv, fv, pq gd, iv n, .tuple #[], iv ((i : Nat) : Int), .slice A3 ops.length c3, iv (ops.length : Nat), tv, J 48, J 49, .slice A3 ops.length c3, iv ((i : Nat) : Int), .pointer (some (ad.add (i * 4))), .agg #[iv o.kind, iv o.at_, .slice o.A o.d.length o.cd, .slice o.A2 o.ps.length o.cp], pq g13, iv o.kind, fv, fv, pq g13, iv o.kind, fv, fv, iv n, iv ((dn : Nat) : Int), iv (n - ((dn : Nat) : Int)), pq gd, tv, iv (n - ((dn : Nat) : Int)), tv, fv, po g13 1, iv o.at_, fv, fv, ud, ud, ud, ud, fv, pq g13, iv o.kind, J 81, J 82, J 83, fv, fv] ++ jr J 86 34 ++ [fv, fv] ++ jr J 122 11 ++ [tv, tv, .tuple #[.slice AP144 ((s1.readR o.at_).2.1.length) ((s1.readR o.at_).2.1.length), iv ((s1.readR o.at_).2.2)], pq gd, po g13 1, iv o.at_, .tuple #[.slice AP144 ((s1.readR o.at_).2.1.length) ((s1.readR o.at_).2.1.length), iv ((s1.readR o.at_).2.2)], .slice AP144 ((s1.readR o.at_).2.1.length) ((s1.readR o.at_).2.1.length), iv ((s1.readR o.at_).2.2), iv ((s1.readR o.at_).2.2), fv, fv, fv, ud, ud, fv, fv, fv, iv ((s1.readR o.at_).2.2), tv, tv, .slice AP144 ((s1.readR o.at_).2.1.length) ((s1.readR o.at_).2.1.length), iv ((s1.readR o.at_).2.1.length : Nat), fv, fv, fv, fv, iv (n - ((dn : Nat) : Int)), tv, tv, iv ((s1.readR o.at_).2.2), fv, fv, fv]) 11) (by kernel_rfl) ?_
                            refine then_n ?_
                            refine wp_cond_false (by kernel_rfl) ?_
                            refine wp_skip ?_
                            refine inb_n ?_
                            refine inb_n ?_
                            refine then_n ?_
                            refine wp_region_lit ?_
                            refine pv (iv ((i : Nat) : Int)) ?_
                            refine wl_gv rfl (gv_int (k := .i64) (z := IntKind.i64.wrap (((i : Nat) : Int) + 1)) (z' := ((i + 1 : Nat) : Int)) (by kernel_rfl) (wr_eq (by omega) (by omega) (by omega)) ?_)
                            refine pv (iv ((i + 1 : Nat) : Int)) ?_
                            have S150 : St none' w w142 [PDisk gd (s1.readR o.at_).1] := St.permT [bytesA (.slice AP144 ((s1.readR o.at_).2.1.length) ((s1.readR o.at_).2.1.length)) (s1.readR o.at_).2.1, PDisk gd (s1.readR o.at_).1, row g13 #[.int .i64 o.kind, .int .i64 o.at_, .slice o.A o.d.length o.cd, .slice o.A2 o.ps.length o.cp] 49] [1] (by decide) rfl S143'
                            have hpb : ((s1.readR o.at_).1).pend.length ≤ i + 1 := (by rw [(readR_same s1 _).2.1]; omega)
                            have hlf : ((s1.readR o.at_).1).left = n - (((dn : Nat) : Nat) : Int) := by rw [(readR_same s1 _).2.2]; exact hlI
                            have hdn : (((dn : Nat) : Nat) : Int) ≤ n := hdI
                            have hln : (((s1.readR o.at_).1).last.length : Int) = k := by rw [(readR_same s1 _).1]; exact hmI
                            refine wl_end _ rfl ?_
                            refine then_n ?_
                            exact ⟨(i + 1, (s1.readR o.at_).1, dn), ⟨(jl [ud, ud, ud, ud, ud, ud, J 6, ud, ud, ud, ud, pq g13, iv (n - ((dn : Nat) : Int)), fv, J 14, J 15, J 16, .slice AP144 ((s1.readR o.at_).2.1.length) ((s1.readR o.at_).2.1.length), iv ((s1.readR o.at_).2.2), ud, ud, ud, ud, ud, ud, ud, ud, ud, ud, ud, ud, ud, ud, ud, ud, ud, ud, ud, ud, ud, ud, ud, ud, ud, iv ((i : Nat) : Int), .slice A3 ops.length c3, iv (ops.length : Nat), tv, iv ((i : Nat) : Int), iv ((i + 1 : Nat) : Int), .slice A3 ops.length c3, iv ((i : Nat) : Int), .pointer (some (ad.add (i * 4))), .agg #[iv o.kind, iv o.at_, .slice o.A o.d.length o.cd, .slice o.A2 o.ps.length o.cp], pq g13, iv o.kind, fv, fv, pq g13, iv o.kind, fv, fv, iv n, iv ((dn : Nat) : Int), iv (n - ((dn : Nat) : Int)), pq gd, tv, iv (n - ((dn : Nat) : Int)), tv, fv, po g13 1, iv o.at_, fv, fv, ud, ud, ud, ud, fv, pq g13, iv o.kind, J 81, J 82, J 83, fv, fv, J 86, J 87, J 88, J 89, J 90, J 91, J 92, J 93, J 94, J 95, J 96, J 97, J 98, J 99, J 100, J 101, J 102, J 103, J 104, J 105, J 106, J 107, J 108, J 109, J 110, J 111, J 112, J 113, J 114, J 115, J 116, J 117, J 118, J 119, fv, fv, J 122, J 123, J 124, J 125, J 126, J 127, J 128, J 129, J 130, J 131, J 132, tv, tv, .tuple #[.slice AP144 ((s1.readR o.at_).2.1.length) ((s1.readR o.at_).2.1.length), iv ((s1.readR o.at_).2.2)], pq gd, po g13 1, iv o.at_, .tuple #[.slice AP144 ((s1.readR o.at_).2.1.length) ((s1.readR o.at_).2.1.length), iv ((s1.readR o.at_).2.2)], .slice AP144 ((s1.readR o.at_).2.1.length) ((s1.readR o.at_).2.1.length), iv ((s1.readR o.at_).2.2), iv ((s1.readR o.at_).2.2), fv, fv, fv, ud, ud, fv, fv, fv, iv ((s1.readR o.at_).2.2), tv, tv, .slice AP144 ((s1.readR o.at_).2.1.length) ((s1.readR o.at_).2.1.length), iv ((s1.readR o.at_).2.1.length : Nat), fv, fv, fv, fv, iv (n - ((dn : Nat) : Int)), tv, tv, iv ((s1.readR o.at_).2.2), fv, fv, fv]), by kernel_rfl, S150, ⟨by omega, hpb, hlf, hdn, hln⟩⟩, (by show ops.length - (i + 1) < ops.length - i; omega)⟩
                          · skip
                            exfalso; omega
                      · skip
                        refine pv fv ?_
                        refine wl_end _ rfl ?_
                        refine then_n ?_
                        refine wp_cond_false (by kernel_rfl) ?_
                        refine wp_region_lit ?_
                        refine pv (pq gd) ?_
                        refine wl_gv rfl (gv_ldA (k := 0) (n := 4) (vs := [.int .i64 o.kind, .int .i64 o.at_, .slice o.A o.d.length o.cd, .slice o.A2 o.ps.length o.cp]) S18 0 rfl rfl (by kernel_rfl) (by kernel_rfl) rfl rfl ?_)
                        refine wl_gv rfl (gv_call (args := #[.pointer (some ⟨gd, 0, none⟩), .agg #[.int .i64 o.kind, .int .i64 o.at_, .slice o.A o.d.length o.cd, .slice o.A2 o.ps.length o.cp]]) rfl Try.func38 (by kernel_rfl) rfl rfl (by kernel_rfl) ?_)
                        have S151 : St none' w w17 [PDisk gd s1, row g13 #[.int .i64 o.kind, .int .i64 o.at_, .slice o.A o.d.length o.cd, .slice o.A2 o.ps.length o.cp] 49] := St.permT [row g13 #[.int .i64 o.kind, .int .i64 o.at_, .slice o.A o.d.length o.cd, .slice o.A2 o.ps.length o.cp] 49, PDisk gd s1] [1, 0] (by decide) rfl S18
                        refine Calls.mono (act_all S151 (Ro.of_C hk.d (fun _ h => h)).T (RoV.of_rd hk.p _) hk.hat hk.dm hk.pm (by have := hpI; omega)) ?_
                        rintro _ w152 ⟨rfl, S153⟩
                        refine ⟨_, rfl, ?_⟩
                        refine wl_end _ rfl ?_
                        refine inb_n ?_
                        refine inb_n ?_
                        refine then_n ?_
                        refine wp_region_lit ?_
                        refine pv (iv ((i : Nat) : Int)) ?_
                        refine wl_gv rfl (gv_int (k := .i64) (z := IntKind.i64.wrap (((i : Nat) : Int) + 1)) (z' := ((i + 1 : Nat) : Int)) (by kernel_rfl) (wr_eq (by omega) (by omega) (by omega)) ?_)
                        refine pv (iv ((i + 1 : Nat) : Int)) ?_
                        have S154 : St none' w w152 [PDisk gd (s1.actR o.kind o.at_ o.d o.ps)] := St.permT [PDisk gd (s1.actR o.kind o.at_ o.d o.ps), row g13 #[.int .i64 o.kind, .int .i64 o.at_, .slice o.A o.d.length o.cd, .slice o.A2 o.ps.length o.cp] 49] [0] (by decide) rfl S153
                        have hac := act_left (s := s1) (a := o.at_) (d := o.d) (ps := o.ps) k2 k3 k4 k6
                        have hpb : (s1.actR o.kind o.at_ o.d o.ps).pend.length ≤ i + 1 := (Nat.le_trans (actR_pend s1 o.kind o.at_ o.d o.ps) (by omega))
                        have hlf : (s1.actR o.kind o.at_ o.d o.ps).left = n - (((dn : Nat) : Nat) : Int) := by rw [hac.1]; exact hlI
                        have hdn : (((dn : Nat) : Nat) : Int) ≤ n := hdI
                        have hln : ((s1.actR o.kind o.at_ o.d o.ps).last.length : Int) = k := by rw [hac.2.1]; exact hmI
                        refine wl_end _ rfl ?_
                        refine then_n ?_
                        exact ⟨(i + 1, (s1.actR o.kind o.at_ o.d o.ps), dn), ⟨(jl [ud, ud, ud, ud, ud, ud, J 6, ud, ud, ud, ud, pq g13, iv (n - ((dn : Nat) : Int)), fv, J 14, J 15, J 16, J 17, J 18, ud, ud, ud, ud, ud, ud, ud, ud, ud, ud, ud, ud, ud, ud, ud, ud, ud, ud, ud, ud, ud, ud, ud, ud, ud, iv ((i : Nat) : Int), .slice A3 ops.length c3, iv (ops.length : Nat), tv, iv ((i : Nat) : Int), iv ((i + 1 : Nat) : Int), .slice A3 ops.length c3, iv ((i : Nat) : Int), .pointer (some (ad.add (i * 4))), .agg #[iv o.kind, iv o.at_, .slice o.A o.d.length o.cd, .slice o.A2 o.ps.length o.cp], pq g13, iv o.kind, fv, fv, pq g13, iv o.kind, fv, fv, iv n, iv ((dn : Nat) : Int), iv (n - ((dn : Nat) : Int)), pq gd, tv, iv (n - ((dn : Nat) : Int)), tv, fv, po g13 1, iv o.at_, fv, fv, ud, ud, ud, ud, fv, pq g13, iv o.kind, pq gd, .agg #[iv o.kind, iv o.at_, .slice o.A o.d.length o.cd, .slice o.A2 o.ps.length o.cp], .tuple #[], fv, fv, J 86, J 87, J 88, J 89, J 90, J 91, J 92, J 93, J 94, J 95, J 96, J 97, J 98, J 99, J 100, J 101, J 102, J 103, J 104, J 105, J 106, J 107, J 108, J 109, J 110, J 111, J 112, J 113, J 114, J 115, J 116, J 117, J 118, J 119, fv, fv, J 122, J 123, J 124, J 125, J 126, J 127, J 128, J 129, J 130, J 131, J 132, fv, fv, J 135, J 136, J 137, J 138, J 139, J 140, J 141, J 142, J 143, J 144, J 145, J 146, J 147, J 148, J 149, J 150, J 151, J 152, J 153, J 154, J 155, J 156, J 157, J 158, J 159, J 160, J 161, J 162, J 163, J 164, J 165, J 166]), by kernel_rfl, S154, ⟨by omega, hpb, hlf, hdn, hln⟩⟩, (by show ops.length - (i + 1) < ops.length - i; omega)⟩
              · refine Calls.mono (pd_burnt' (b := false) (decide_eq_false hz) S18 1 rfl) ?_
                rintro _ _ ⟨rfl, rfl⟩
                refine ⟨_, rfl, ?_⟩
                refine pv (iv (n - ((dn : Nat) : Int))) ?_
                refine wl_gv rfl (gv_dec (p := (n - ((dn : Nat) : Int) : Int) ≤ 0) (by kernel_rfl) (fun hd155 => False.elim (by omega)) (fun _ => ?_))
                refine pv fv ?_
                refine wl_end _ rfl ?_
                refine then_n ?_
                refine wp_cond_false (by kernel_rfl) ?_
                refine wp_skip ?_
                refine then_n ?_
                refine wp_seq ?_
                refine wp_region_lit ?_
                refine pv (po g13 1) ?_
                refine wl_gv rfl (gv_ldR (v := .int .i64 o.at_) rfl (by kernel_rfl) (by kernel_rfl) (((S18.blk 0 rfl).cell 1).trans rfl) ?_)
                refine wl_gv rfl (gv_dec (p := (o.at_ : Int) ≥ 0) (by kernel_rfl) (fun hb156 => ?_) (fun hb156 => ?_))
                · skip
                  refine pv tv ?_
                  refine wl_when (by kernel_rfl) (gv_val (v := .pointer (some ⟨g13, 1, none⟩)) (w' := w17) (by kernel_rfl) ?_)
                  refine wl_when (by kernel_rfl) (gv_ldR (v := .int .i64 o.at_) rfl (by kernel_rfl) (by kernel_rfl) (((S18.blk 0 rfl).cell 1).trans rfl) ?_)
                  refine wl_when (by kernel_rfl) (gv_val (v := .int .i64 k) (w' := w17) (by kernel_rfl) ?_)
                  refine wl_when (by kernel_rfl) (gv_dec (p := (o.at_ : Int) < k) (by kernel_rfl) (fun hb157 => ?_) (fun hb157 => ?_))
                  · skip
                    refine pv tv ?_
                    refine pv tv ?_
                    refine wl_end _ rfl ?_
                    refine then_n ?_
                    refine wp_seq ?_
                    refine wp_region_lit ?_
                    refine pv (pq g13) ?_
                    refine wl_gv rfl (gv_ldR (v := .int .i64 o.kind) rfl (by kernel_rfl) (by kernel_rfl) (((S18.blk 0 rfl).cell 0).trans rfl) ?_)
                    refine wl_end _ rfl ?_
                    refine then_n ?_
                    refine wp_block ?_
                    refine wp_seq ?_
                    refine wp_region_lit ?_
                    refine wl_gv rfl (gv_eq (x := o.kind) (y := 2) (by kernel_rfl) (fun k2 => ?_) (fun k2 => ?_))
                    · skip
                      refine pv tv ?_
                      refine wl_end _ rfl ?_
                      refine then_n ?_
                      refine wp_cond_true (by kernel_rfl) ?_
                      refine wp_seq ?_
                      refine wp_region_phu (γ := Nat) 7 [5, 6] (fun (c4_ : Nat) (i_ : Nat) => (match i_ with | 0 => .pointer (some ⟨gd, 0, none⟩) | 1 => .pointer (some ⟨g13, 1, none⟩) | 2 => .int .i64 o.at_ | 3 => .pointer (some ⟨g13, 2, none⟩) | 4 => .slice o.A o.d.length o.cd | 5 => .slice (some ⟨c4_, 0, none⟩) o.d.length o.d.length | 6 => .int .i64 ((s1.writeR o.at_ o.d).2) | _ => undef : Value)) (fun (c4_ : Nat) (p_ : Nat) (w_ : World) => (match p_ with | 0 => St none' w w_ [row g13 #[.int .i64 o.kind, .int .i64 o.at_, .slice o.A o.d.length o.cd, .slice o.A2 o.ps.length o.cp] 49, PDisk gd s1] | 1 => St none' w w_ [row c4_ (bvs o.d) 5, row g13 #[.int .i64 o.kind, .int .i64 o.at_, .slice o.A o.d.length o.cd, .slice o.A2 o.ps.length o.cp] 49, PDisk gd s1] | _ => St none' w w_ [PDisk gd (s1.writeR o.at_ o.d).1, row c4_ (bvs o.d) 5, row g13 #[.int .i64 o.kind, .int .i64 o.at_, .slice o.A o.d.length o.cd, .slice o.A2 o.ps.length o.cp] 49] : Prop)) (0) (by kernel_rfl) (by kernel_rfl) (by kernel_rfl) (by kernel_rfl) (S18.drew) ?_ ?_ ?_
                      · intro i_ c4_ p_ vals_ w1 hi_ hiE_ hp_ hk_ hu_ hPh_ hd_
                        rcases i_ with _ | _ | _ | _ | _ | _ | _ | i_
                        · skip
                          refine told_free rfl rfl (gv_env ((⟨Array.replicate 178 undef, []⟩ : Act).put (some 7) (.pointer (some ⟨gd, 0, none⟩))) (by kernel_rfl) (xs := [.tmp 7]) (by kernel_rfl) (alike_cons (fill_past (by kernel_rfl) (by kernel_rfl)) alike_nil) (gv_val (v := .pointer (some ⟨gd, 0, none⟩)) (w' := w1) (by kernel_rfl) ?_))
                          exact ⟨rfl, rfl⟩
                        · skip
                          refine told_free rfl rfl (gv_env ((⟨Array.replicate 178 undef, []⟩ : Act).put (some 11) (.pointer (some ⟨g13, 0, none⟩))) (by kernel_rfl) (xs := [.tmp 11]) (by kernel_rfl) (alike_cons (fill_past (by kernel_rfl) (by kernel_rfl)) alike_nil) (gv_val (v := .pointer (some ⟨g13, 1, none⟩)) (w' := w1) (by kernel_rfl) ?_))
                          exact ⟨rfl, rfl⟩
                        · skip
                          rcases p_ with _ | _ | _ | p_
                          · skip
                            have S160 : St none' w w1 [row g13 #[.int .i64 o.kind, .int .i64 o.at_, .slice o.A o.d.length o.cd, .slice o.A2 o.ps.length o.cp] 49, PDisk gd s1] := hPh_
                            refine told_free rfl rfl (gv_env ((⟨Array.replicate 178 undef, []⟩ : Act).put (some 87) (.pointer (some ⟨g13, 1, none⟩))) (by kernel_rfl) (xs := [.tmp 87]) (by kernel_rfl) (alike_cons (fill_at (k := 1) (by kernel_rfl) (by kernel_rfl) ((hd_ 1 (by kernel_rfl)).trans (by kernel_rfl))) alike_nil) (gv_ldR (v := .int .i64 o.at_) rfl (by kernel_rfl) (by kernel_rfl) (((S160.blk 0 rfl).cell 1).trans rfl) ?_))
                            exact ⟨rfl, rfl⟩
                          · skip
                            have S161 : St none' w w1 [row c4_ (bvs o.d) 5, row g13 #[.int .i64 o.kind, .int .i64 o.at_, .slice o.A o.d.length o.cd, .slice o.A2 o.ps.length o.cp] 49, PDisk gd s1] := hPh_
                            refine told_free rfl rfl (gv_env ((⟨Array.replicate 178 undef, []⟩ : Act).put (some 87) (.pointer (some ⟨g13, 1, none⟩))) (by kernel_rfl) (xs := [.tmp 87]) (by kernel_rfl) (alike_cons (fill_at (k := 1) (by kernel_rfl) (by kernel_rfl) ((hd_ 1 (by kernel_rfl)).trans (by kernel_rfl))) alike_nil) (gv_ldR (v := .int .i64 o.at_) rfl (by kernel_rfl) (by kernel_rfl) (((S161.blk 1 rfl).cell 1).trans rfl) ?_))
                            exact ⟨rfl, rfl⟩
                          · skip
                            exact absurd (hu_ 1 (by decide) (by kernel_rfl)) (by decide)
                          · exact absurd hp_ (by simp)
                        · skip
                          refine told_free rfl rfl (gv_env ((⟨Array.replicate 178 undef, []⟩ : Act).put (some 11) (.pointer (some ⟨g13, 0, none⟩))) (by kernel_rfl) (xs := [.tmp 11]) (by kernel_rfl) (alike_cons (fill_past (by kernel_rfl) (by kernel_rfl)) alike_nil) (gv_val (v := .pointer (some ⟨g13, 2, none⟩)) (w' := w1) (by kernel_rfl) ?_))
                          exact ⟨rfl, rfl⟩
                        · skip
                          rcases p_ with _ | _ | _ | p_
                          · skip
                            have S163 : St none' w w1 [row g13 #[.int .i64 o.kind, .int .i64 o.at_, .slice o.A o.d.length o.cd, .slice o.A2 o.ps.length o.cp] 49, PDisk gd s1] := hPh_
                            refine told_free rfl rfl (gv_env ((⟨Array.replicate 178 undef, []⟩ : Act).put (some 89) (.pointer (some ⟨g13, 2, none⟩))) (by kernel_rfl) (xs := [.tmp 89]) (by kernel_rfl) (alike_cons (fill_at (k := 3) (by kernel_rfl) (by kernel_rfl) ((hd_ 3 (by kernel_rfl)).trans (by kernel_rfl))) alike_nil) (gv_ldR (v := .slice o.A o.d.length o.cd) rfl (by kernel_rfl) (by kernel_rfl) (((S163.blk 0 rfl).cell 2).trans rfl) ?_))
                            exact ⟨rfl, rfl⟩
                          · skip
                            exact absurd (hu_ 0 (by decide) (by kernel_rfl)) (by decide)
                          · skip
                            exact absurd (hu_ 0 (by decide) (by kernel_rfl)) (by decide)
                          · exact absurd hp_ (by simp)
                        · skip
                          exact absurd hiE_ (by decide)
                        · skip
                          exact absurd hiE_ (by decide)
                        · exact absurd hi_ (by omega)
                      · intro k_ c4_ vals_ w1 hk_ hPh_ hd_
                        rcases k_ with _ | _ | k_
                        · skip
                          have S164 : St none' w w1 [row g13 #[.int .i64 o.kind, .int .i64 o.at_, .slice o.A o.d.length o.cd, .slice o.A2 o.ps.length o.cp] 49, PDisk gd s1] := hPh_
                          refine told_free rfl rfl (gv_env ((⟨Array.replicate 178 undef, []⟩ : Act).put (some 90) (.slice o.A o.d.length o.cd)) (by kernel_rfl) (xs := [.func 27, .tmp 90]) (by kernel_rfl) (alike_cons eval_fn (alike_cons (fill_at (k := 4) (by kernel_rfl) (by kernel_rfl) ((hd_ 4 (by kernel_rfl)).trans (by kernel_rfl))) alike_nil)) (gv_call (args := #[.slice o.A o.d.length o.cd]) rfl Try.func27 (by kernel_rfl) rfl rfl (by kernel_rfl) ?_))
                          refine Calls.mono (ltwinS (l := o.d) S164 (Ro.of_C hk.d (fun _ h => h)).T hk.dm) ?_
                          rintro _ w166 ⟨g165, rfl, S167⟩
                          refine ⟨_, rfl, ?_⟩
                          refine ⟨(g165), rfl, ?_, S167⟩
                          intro i_ hi_ hne_ hdp_
                          rcases i_ with _ | _ | _ | _ | _ | _ | _ | i_
                          · rfl
                          · rfl
                          · rfl
                          · rfl
                          · rfl
                          · exact absurd rfl hne_
                          · exact (dep_no hdp_ (by kernel_rfl)).elim
                          · exact absurd hi_ (by omega)
                        · skip
                          have S168 : St none' w w1 [row c4_ (bvs o.d) 5, row g13 #[.int .i64 o.kind, .int .i64 o.at_, .slice o.A o.d.length o.cd, .slice o.A2 o.ps.length o.cp] 49, PDisk gd s1] := hPh_
                          refine told_free rfl rfl (gv_env ((((⟨Array.replicate 178 undef, []⟩ : Act).put (some 86) (.pointer (some ⟨gd, 0, none⟩))).put (some 88) (.int .i64 o.at_)).put (some 91) (.slice (some ⟨c4_, 0, none⟩) o.d.length o.d.length)) (by kernel_rfl) (xs := [.func 35, .tmp 86, .tmp 88, .tmp 91]) (by kernel_rfl) (alike_cons eval_fn (alike_cons (fill_at (k := 0) (by kernel_rfl) (by kernel_rfl) ((hd_ 0 (by kernel_rfl)).trans (by kernel_rfl))) (alike_cons (fill_at (k := 2) (by kernel_rfl) (by kernel_rfl) ((hd_ 2 (by kernel_rfl)).trans (by kernel_rfl))) (alike_cons (fill_at (k := 5) (by kernel_rfl) (by kernel_rfl) ((hd_ 5 (by kernel_rfl)).trans (by kernel_rfl))) alike_nil)))) (gv_call (args := #[.pointer (some ⟨gd, 0, none⟩), .int .i64 o.at_, .slice (some ⟨c4_, 0, none⟩) o.d.length o.d.length]) rfl Try.func35 (by kernel_rfl) rfl rfl (by kernel_rfl) ?_))
                          have S169 : St none' w w1 [PDisk gd s1, row c4_ (bvs o.d) 5, row g13 #[.int .i64 o.kind, .int .i64 o.at_, .slice o.A o.d.length o.cd, .slice o.A2 o.ps.length o.cp] 49] := St.permT [row c4_ (bvs o.d) 5, row g13 #[.int .i64 o.kind, .int .i64 o.at_, .slice o.A o.d.length o.cd, .slice o.A2 o.ps.length o.cp] 49, PDisk gd s1] [2, 0, 1] (by decide) rfl S168
                          refine Calls.mono (pd_write S169 (RoT.item 0 rfl 0 o.d.length o.d (by rw [List.drop_zero, List.take_length])) (by have := hk.dm; omega) (by have := hpI; omega)) ?_
                          rintro _ w170 ⟨rfl, S171⟩
                          refine ⟨_, rfl, ?_⟩
                          refine ⟨(c4_), rfl, ?_, S171⟩
                          intro i_ hi_ hne_ hdp_
                          rcases i_ with _ | _ | _ | _ | _ | _ | _ | i_
                          · rfl
                          · rfl
                          · rfl
                          · rfl
                          · rfl
                          · rfl
                          · exact absurd rfl hne_
                          · exact absurd hi_ (by omega)
                        · exact absurd hk_ (by simp)
                      · intro c4_ w1 hPh_
                        have S172 : St none' w w1 [PDisk gd (s1.writeR o.at_ o.d).1, row c4_ (bvs o.d) 5, row g13 #[.int .i64 o.kind, .int .i64 o.at_, .slice o.A o.d.length o.cd, .slice o.A2 o.ps.length o.cp] 49] := hPh_
                        refine wl_frame (fr ([iv k, iv n, .slice A3 ops.length c3, ud, ud, ud, J 6, pq gd, tv, iv ((dn : Nat) : Int), iv ((i : Nat) : Int), pq g13, iv (n - ((dn : Nat) : Int)), tv] ++ jr J 14 5 ++ [ud, iv n, fv, fv, iv k, fv, fv, fv, iv k, fv, fv, .tuple #[pq gd, tv], iv k, .tuple #[pq gd, tv], pq gd, tv, tv, fv, fv, pq gd, fv, fv, pq gd, iv n, .tuple #[], iv ((i : Nat) : Int), .slice A3 ops.length c3, iv (ops.length : Nat), tv, J 48, J 49, .slice A3 ops.length c3, iv ((i : Nat) : Int), .pointer (some (ad.add (i * 4))), .agg #[iv o.kind, iv o.at_, .slice o.A o.d.length o.cd, .slice o.A2 o.ps.length o.cp], pq g13, iv o.kind, fv, fv, pq g13, iv o.kind, fv, fv, iv n, iv ((dn : Nat) : Int), iv (n - ((dn : Nat) : Int)), pq gd, fv, iv (n - ((dn : Nat) : Int)), fv, fv, po g13 1, iv o.at_, tv, tv, po g13 1, iv o.at_, iv k, tv, tv, pq g13, iv o.kind, J 81, J 82, J 83, tv, tv, pq gd, po g13 1, iv o.at_, po g13 2, .slice o.A o.d.length o.cd, sl c4_ 0 o.d.length o.d.length, iv ((s1.writeR o.at_ o.d).2)] ++ jr J 93 74) 11) (by kernel_rfl) ?_
                        refine pv (iv ((s1.writeR o.at_ o.d).2)) ?_
                        refine wl_end (fr ([iv k, iv n, .slice A3 ops.length c3, ud, ud, ud, J 6, pq gd, tv, iv ((dn : Nat) : Int), iv ((i : Nat) : Int), pq g13, iv (n - ((dn : Nat) : Int)), tv, iv ((s1.writeR o.at_ o.d).2)] ++ jr J 15 4 ++ [ud, iv n, fv, fv, iv k, fv, fv, fv, iv k, fv, fv, .tuple #[pq gd, tv], iv k, .tuple #[pq gd, tv], pq gd, tv, tv, fv, fv, pq gd, fv, fv, pq gd, iv n, .tuple #[], iv ((i : Nat) : Int), .slice A3 ops.length c3, iv (ops.length : Nat), tv, J 48, J 49, .slice A3 ops.length c3, iv ((i : Nat) : Int), .pointer (some (ad.add (i * 4))), .agg #[iv o.kind, iv o.at_, .slice o.A o.d.length o.cd, .slice o.A2 o.ps.length o.cp], pq g13, iv o.kind, fv, fv, pq g13, iv o.kind, fv, fv, iv n, iv ((dn : Nat) : Int), iv (n - ((dn : Nat) : Int)), pq gd, fv, iv (n - ((dn : Nat) : Int)), fv, fv, po g13 1, iv o.at_, tv, tv, po g13 1, iv o.at_, iv k, tv, tv, pq g13, iv o.kind, J 81, J 82, J 83, tv, tv, pq gd, po g13 1, iv o.at_, po g13 2, .slice o.A o.d.length o.cd, sl c4_ 0 o.d.length o.d.length, iv ((s1.writeR o.at_ o.d).2)] ++ jr J 93 74) 11) (by kernel_rfl) ?_
                        refine then_n ?_
                        refine wp_seq ?_
                        refine wp_region_lit ?_
                        refine pv tv ?_
                        refine pv tv ?_
                        refine wl_when (by kernel_rfl) (gv_val (v := .pointer (some ⟨g13, 2, none⟩)) (w' := w1) (by kernel_rfl) ?_)
                        refine wl_when (by kernel_rfl) (gv_ldR (v := .slice o.A o.d.length o.cd) rfl (by kernel_rfl) (by kernel_rfl) (((S172.blk 2 rfl).cell 2).trans rfl) ?_)
                        refine wl_when (by kernel_rfl) (gv_val (v := .int .i64 (o.d.length : Nat)) (w' := w1) (by kernel_rfl) ?_)
                        refine wl_when (by kernel_rfl) (gv_eq (x := (o.d.length : Nat)) (y := 512) (by kernel_rfl) (fun hb173 => ?_) (fun hb173 => ?_))
                        · skip
                          refine pv tv ?_
                          refine pv tv ?_
                          refine wl_end _ rfl ?_
                          refine then_n ?_
                          refine wp_seq ?_
                          refine wp_seq ?_
                          refine wp_region_lit ?_
                          refine pv (iv ((s1.writeR o.at_ o.d).2)) ?_
                          refine wl_gv rfl (gv_eq (x := ((s1.writeR o.at_ o.d).2)) (y := 0) (by kernel_rfl) (fun hb174 => ?_) (fun hb174 => ?_))
                          · skip
                            have hw := writeR_ok hb174
                            refine pv tv ?_
                            refine pv tv ?_
                            refine wl_when (by kernel_rfl) (gv_val (v := .int .i64 (n - ((dn : Nat) : Int))) (w' := w1) (by kernel_rfl) ?_)
                            refine wl_when (by kernel_rfl) (gv_dec (p := (n - ((dn : Nat) : Int) : Int) > 0) (by kernel_rfl) (fun _ => ?_) (fun hd175 => False.elim (by omega)))
                            refine pv tv ?_
                            refine pv fv ?_
                            refine pv fv ?_
                            refine wl_when (by kernel_rfl) (gv_val (v := .int .i64 (n - ((dn : Nat) : Int))) (w' := w1) (by kernel_rfl) ?_)
                            refine wl_when (by kernel_rfl) (gv_dec (p := (n - ((dn : Nat) : Int) : Int) ≤ 0) (by kernel_rfl) (fun hd176 => False.elim (by omega)) (fun _ => ?_))
                            refine wl_when (by kernel_rfl) (gv_val (v := .bool false) (w' := w1) (by kernel_rfl) ?_)
                            refine wl_not (by kernel_rfl) ?_
                            refine wl_not (by kernel_rfl) ?_
                            refine wl_when (by kernel_rfl) (gv_val (v := .bool false) (w' := w1) (by kernel_rfl) ?_)
                            refine pv fv ?_
                            refine wl_end _ rfl ?_
                            refine then_n ?_
                            refine wp_cond_false (by kernel_rfl) ?_
                            refine wp_skip ?_
                            refine then_n ?_
                            refine wp_seq ?_
                            refine wp_region_lit ?_
                            refine pv (iv ((s1.writeR o.at_ o.d).2)) ?_
                            refine wl_gv rfl (gv_eq (x := ((s1.writeR o.at_ o.d).2)) (y := 0) (by kernel_rfl) (fun hb177 => ?_) (fun hb177 => ?_))
                            · skip
                              refine wl_end _ rfl ?_
                              refine then_n ?_
                              refine wp_cond_true (by kernel_rfl) ?_
                              refine wp_region_lit ?_
                              refine pv (iv ((dn : Nat) : Int)) ?_
                              refine wl_gv rfl (gv_int (k := .i64) (z := IntKind.i64.wrap (((dn : Nat) : Int) + 1)) (z' := ((dn + 1 : Nat) : Int)) (by kernel_rfl) (wr_eq (by omega) (by omega) (by omega)) ?_)
                              refine pv (iv ((dn + 1 : Nat) : Int)) ?_
                              refine wl_end _ rfl ?_
                              refine inb_n ?_
                              refine inb_n ?_
                              refine then_n ?_
                              refine wp_region_lit ?_
                              refine pv (iv ((i : Nat) : Int)) ?_
                              refine wl_gv rfl (gv_int (k := .i64) (z := IntKind.i64.wrap (((i : Nat) : Int) + 1)) (z' := ((i + 1 : Nat) : Int)) (by kernel_rfl) (wr_eq (by omega) (by omega) (by omega)) ?_)
                              refine pv (iv ((i + 1 : Nat) : Int)) ?_
                              have S178 : St none' w w1 [PDisk gd (s1.writeR o.at_ o.d).1] := St.permT [PDisk gd (s1.writeR o.at_ o.d).1, row c4_ (bvs o.d) 5, row g13 #[.int .i64 o.kind, .int .i64 o.at_, .slice o.A o.d.length o.cd, .slice o.A2 o.ps.length o.cp] 49] [0] (by decide) rfl S172
                              have hpb : ((s1.writeR o.at_ o.d).1).pend.length ≤ i + 1 := (Nat.le_trans (writeR_pend s1 o.at_ o.d) (by omega))
                              have hlf : ((s1.writeR o.at_ o.d).1).left = n - (((dn + 1 : Nat) : Nat) : Int) := by rw [hw.2.2.2.2]; show spent s1.left = _; rw [spent_pos (by omega)]; omega
                              have hdn : (((dn + 1 : Nat) : Nat) : Int) ≤ n := by omega
                              have hln : (((s1.writeR o.at_ o.d).1).last.length : Int) = k := by rw [hw.2.2.2.2]; exact hmI
                              refine wl_end _ rfl ?_
                              refine then_n ?_
                              exact ⟨(i + 1, (s1.writeR o.at_ o.d).1, dn + 1), ⟨(jl [ud, ud, ud, ud, ud, ud, J 6, ud, ud, ud, ud, pq g13, iv (n - ((dn : Nat) : Int)), tv, iv ((s1.writeR o.at_ o.d).2), tv, J 16, J 17, J 18, ud, ud, ud, ud, ud, ud, ud, ud, ud, ud, ud, ud, ud, ud, ud, ud, ud, ud, ud, ud, ud, ud, ud, ud, ud, iv ((i : Nat) : Int), .slice A3 ops.length c3, iv (ops.length : Nat), tv, iv ((i : Nat) : Int), iv ((i + 1 : Nat) : Int), .slice A3 ops.length c3, iv ((i : Nat) : Int), .pointer (some (ad.add (i * 4))), .agg #[iv o.kind, iv o.at_, .slice o.A o.d.length o.cd, .slice o.A2 o.ps.length o.cp], pq g13, iv o.kind, fv, fv, pq g13, iv o.kind, fv, fv, iv n, iv ((dn : Nat) : Int), iv (n - ((dn : Nat) : Int)), pq gd, fv, iv (n - ((dn : Nat) : Int)), fv, fv, po g13 1, iv o.at_, tv, tv, po g13 1, iv o.at_, iv k, tv, tv, pq g13, iv o.kind, J 81, J 82, J 83, tv, tv, pq gd, po g13 1, iv o.at_, po g13 2, .slice o.A o.d.length o.cd, sl c4_ 0 o.d.length o.d.length, iv ((s1.writeR o.at_ o.d).2), tv, tv, po g13 2, .slice o.A o.d.length o.cd, iv (o.d.length : Nat), tv, tv, iv ((s1.writeR o.at_ o.d).2), tv, tv, tv, iv (n - ((dn : Nat) : Int)), tv, tv, fv, fv, iv (n - ((dn : Nat) : Int)), fv, fv, ud, ud, fv, fv, iv ((s1.writeR o.at_ o.d).2), tv, iv ((dn : Nat) : Int), iv ((dn + 1 : Nat) : Int), J 120, J 121, J 122, J 123, J 124, J 125, J 126, J 127, J 128, J 129, J 130, J 131, J 132, J 133, J 134, J 135, J 136, J 137, J 138, J 139, J 140, J 141, J 142, J 143, J 144, J 145, J 146, J 147, J 148, J 149, J 150, J 151, J 152, J 153, J 154, J 155, J 156, J 157, J 158, J 159, J 160, J 161, J 162, J 163, J 164, J 165, J 166]), by kernel_rfl, S178, ⟨by omega, hpb, hlf, hdn, hln⟩⟩, (by show ops.length - (i + 1) < ops.length - i; omega)⟩
                            · skip
                              exfalso; omega
                          · skip
                            have hw := writeR_no (show _ ≠ (0 : Int) from hb174)
                            exact absurd (writeR_yes hz (by omega) (by omega) (by omega)) hb174
                        · skip
                          refine pv fv ?_
                          refine pv fv ?_
                          refine wl_end _ rfl ?_
                          refine then_n ?_
                          refine wp_seq ?_
                          refine wp_seq ?_
                          refine wp_region_lit ?_
                          refine pv (iv ((s1.writeR o.at_ o.d).2)) ?_
                          refine wl_gv rfl (gv_eq (x := ((s1.writeR o.at_ o.d).2)) (y := 0) (by kernel_rfl) (fun hb179 => ?_) (fun hb179 => ?_))
                          · skip
                            have hw := writeR_ok hb179
                            exfalso; omega
                          · skip
                            have hw := writeR_no (show _ ≠ (0 : Int) from hb179)
                            refine pv fv ?_
                            refine pv fv ?_
                            refine wl_not (by kernel_rfl) ?_
                            refine wl_not (by kernel_rfl) ?_
                            refine pv fv ?_
                            refine pv fv ?_
                            refine pv fv ?_
                            refine wl_when (by kernel_rfl) (gv_val (v := .int .i64 (n - ((dn : Nat) : Int))) (w' := w1) (by kernel_rfl) ?_)
                            refine wl_when (by kernel_rfl) (gv_dec (p := (n - ((dn : Nat) : Int) : Int) ≤ 0) (by kernel_rfl) (fun hd180 => False.elim (by omega)) (fun _ => ?_))
                            refine wl_when (by kernel_rfl) (gv_val (v := .bool false) (w' := w1) (by kernel_rfl) ?_)
                            refine wl_not (by kernel_rfl) ?_
                            refine wl_not (by kernel_rfl) ?_
                            refine wl_when (by kernel_rfl) (gv_val (v := .bool false) (w' := w1) (by kernel_rfl) ?_)
                            refine pv fv ?_
                            refine wl_end _ rfl ?_
                            refine then_n ?_
                            refine wp_cond_false (by kernel_rfl) ?_
                            refine wp_skip ?_
                            refine then_n ?_
                            refine wp_seq ?_
                            refine wp_region_lit ?_
                            refine pv (iv ((s1.writeR o.at_ o.d).2)) ?_
                            refine wl_gv rfl (gv_eq (x := ((s1.writeR o.at_ o.d).2)) (y := 0) (by kernel_rfl) (fun hb181 => ?_) (fun hb181 => ?_))
                            · skip
                              exfalso; omega
                            · skip
                              refine wl_end _ rfl ?_
                              refine then_n ?_
                              refine wp_cond_false (by kernel_rfl) ?_
                              refine wp_skip ?_
                              refine inb_n ?_
                              refine inb_n ?_
                              refine then_n ?_
                              refine wp_region_lit ?_
                              refine pv (iv ((i : Nat) : Int)) ?_
                              refine wl_gv rfl (gv_int (k := .i64) (z := IntKind.i64.wrap (((i : Nat) : Int) + 1)) (z' := ((i + 1 : Nat) : Int)) (by kernel_rfl) (wr_eq (by omega) (by omega) (by omega)) ?_)
                              refine pv (iv ((i + 1 : Nat) : Int)) ?_
                              have S182 : St none' w w1 [PDisk gd (s1.writeR o.at_ o.d).1] := St.permT [PDisk gd (s1.writeR o.at_ o.d).1, row c4_ (bvs o.d) 5, row g13 #[.int .i64 o.kind, .int .i64 o.at_, .slice o.A o.d.length o.cd, .slice o.A2 o.ps.length o.cp] 49] [0] (by decide) rfl S172
                              have hpb : ((s1.writeR o.at_ o.d).1).pend.length ≤ i + 1 := (Nat.le_trans (writeR_pend s1 o.at_ o.d) (by omega))
                              have hlf : ((s1.writeR o.at_ o.d).1).left = n - (((dn : Nat) : Nat) : Int) := by rw [hw.2.2.1]; exact hlI
                              have hdn : (((dn : Nat) : Nat) : Int) ≤ n := hdI
                              have hln : (((s1.writeR o.at_ o.d).1).last.length : Int) = k := by rw [hw.1]; exact hmI
                              refine wl_end _ rfl ?_
                              refine then_n ?_
                              exact ⟨(i + 1, (s1.writeR o.at_ o.d).1, dn), ⟨(jl [ud, ud, ud, ud, ud, ud, J 6, ud, ud, ud, ud, pq g13, iv (n - ((dn : Nat) : Int)), tv, iv ((s1.writeR o.at_ o.d).2), fv, J 16, J 17, J 18, ud, ud, ud, ud, ud, ud, ud, ud, ud, ud, ud, ud, ud, ud, ud, ud, ud, ud, ud, ud, ud, ud, ud, ud, ud, iv ((i : Nat) : Int), .slice A3 ops.length c3, iv (ops.length : Nat), tv, iv ((i : Nat) : Int), iv ((i + 1 : Nat) : Int), .slice A3 ops.length c3, iv ((i : Nat) : Int), .pointer (some (ad.add (i * 4))), .agg #[iv o.kind, iv o.at_, .slice o.A o.d.length o.cd, .slice o.A2 o.ps.length o.cp], pq g13, iv o.kind, fv, fv, pq g13, iv o.kind, fv, fv, iv n, iv ((dn : Nat) : Int), iv (n - ((dn : Nat) : Int)), pq gd, fv, iv (n - ((dn : Nat) : Int)), fv, fv, po g13 1, iv o.at_, tv, tv, po g13 1, iv o.at_, iv k, tv, tv, pq g13, iv o.kind, J 81, J 82, J 83, tv, tv, pq gd, po g13 1, iv o.at_, po g13 2, .slice o.A o.d.length o.cd, sl c4_ 0 o.d.length o.d.length, iv ((s1.writeR o.at_ o.d).2), tv, tv, po g13 2, .slice o.A o.d.length o.cd, iv (o.d.length : Nat), fv, fv, iv ((s1.writeR o.at_ o.d).2), fv, fv, fv, ud, ud, fv, fv, fv, iv (n - ((dn : Nat) : Int)), fv, fv, ud, ud, fv, fv, iv ((s1.writeR o.at_ o.d).2), fv, J 118, J 119, J 120, J 121, J 122, J 123, J 124, J 125, J 126, J 127, J 128, J 129, J 130, J 131, J 132, J 133, J 134, J 135, J 136, J 137, J 138, J 139, J 140, J 141, J 142, J 143, J 144, J 145, J 146, J 147, J 148, J 149, J 150, J 151, J 152, J 153, J 154, J 155, J 156, J 157, J 158, J 159, J 160, J 161, J 162, J 163, J 164, J 165, J 166]), by kernel_rfl, S182, ⟨by omega, hpb, hlf, hdn, hln⟩⟩, (by show ops.length - (i + 1) < ops.length - i; omega)⟩
                    · skip
                      refine pv fv ?_
                      refine wl_end _ rfl ?_
                      refine then_n ?_
                      refine wp_cond_false (by kernel_rfl) ?_
                      refine wp_seq ?_
                      refine wp_region_lit ?_
                      refine wl_gv rfl (gv_eq (x := o.kind) (y := 3) (by kernel_rfl) (fun k3 => ?_) (fun k3 => ?_))
                      · skip
                        refine pv tv ?_
                        refine wl_end _ rfl ?_
                        refine then_n ?_
                        refine wp_cond_true (by kernel_rfl) ?_
                        refine wp_seq ?_
                        refine wp_region_lit ?_
                        refine pv (pq gd) ?_
                        refine wl_gv rfl (gv_call (args := #[.pointer (some ⟨gd, 0, none⟩)]) rfl Try.func41 (by kernel_rfl) rfl rfl (by kernel_rfl) ?_)
                        have S183 : St none' w w17 [PDisk gd s1, row g13 #[.int .i64 o.kind, .int .i64 o.at_, .slice o.A o.d.length o.cd, .slice o.A2 o.ps.length o.cp] 49] := St.permT [row g13 #[.int .i64 o.kind, .int .i64 o.at_, .slice o.A o.d.length o.cd, .slice o.A2 o.ps.length o.cp] 49, PDisk gd s1] [1, 0] (by decide) rfl S18
                        refine Calls.mono (pd_flush S183) ?_
                        rintro _ w184 ⟨rfl, S185⟩
                        refine ⟨_, rfl, ?_⟩
                        refine pv (iv s1.flushR.2) ?_
                        refine wl_end _ rfl ?_
                        refine then_n ?_
                        refine wp_seq ?_
                        refine wp_seq ?_
                        refine wp_region_lit ?_
                        refine pv (iv s1.flushR.2) ?_
                        refine wl_gv rfl (gv_eq (x := s1.flushR.2) (y := 0) (by kernel_rfl) (fun hb186 => ?_) (fun hb186 => ?_))
                        · skip
                          have hw : s1.flushR = ({ s1 with last := applyP s1.last s1.pend, pend := [], fl := inc s1.fl, left := spent s1.left }, 0) := (flushR_cases s1).elim (fun q => absurd q.1 hz) (fun q => q.2)
                          refine pv (iv (n - ((dn : Nat) : Int))) ?_
                          refine wl_gv rfl (gv_dec (p := (n - ((dn : Nat) : Int) : Int) > 0) (by kernel_rfl) (fun _ => ?_) (fun hd187 => False.elim (by omega)))
                          refine pv fv ?_
                          refine wl_end _ rfl ?_
                          refine then_n ?_
                          refine wp_cond_false (by kernel_rfl) ?_
                          refine wp_skip ?_
                          refine then_n ?_
                          refine wp_seq ?_
                          refine wp_region_lit ?_
                          refine pv (iv s1.flushR.2) ?_
                          refine wl_gv rfl (gv_eq (x := s1.flushR.2) (y := 0) (by kernel_rfl) (fun hb188 => ?_) (fun hb188 => ?_))
                          · skip
                            refine wl_end _ rfl ?_
                            refine then_n ?_
                            refine wp_cond_true (by kernel_rfl) ?_
                            refine wp_region_lit ?_
                            refine pv (iv ((dn : Nat) : Int)) ?_
                            refine wl_gv rfl (gv_int (k := .i64) (z := IntKind.i64.wrap (((dn : Nat) : Int) + 1)) (z' := ((dn + 1 : Nat) : Int)) (by kernel_rfl) (wr_eq (by omega) (by omega) (by omega)) ?_)
                            refine pv (iv ((dn + 1 : Nat) : Int)) ?_
                            refine wl_end _ rfl ?_
                            refine inb_n ?_
                            refine inb_n ?_
                            refine then_n ?_
                            refine wp_region_lit ?_
                            refine pv (iv ((i : Nat) : Int)) ?_
                            refine wl_gv rfl (gv_int (k := .i64) (z := IntKind.i64.wrap (((i : Nat) : Int) + 1)) (z' := ((i + 1 : Nat) : Int)) (by kernel_rfl) (wr_eq (by omega) (by omega) (by omega)) ?_)
                            refine pv (iv ((i + 1 : Nat) : Int)) ?_
                            have S189 : St none' w w184 [PDisk gd s1.flushR.1] := St.permT [PDisk gd s1.flushR.1, row g13 #[.int .i64 o.kind, .int .i64 o.at_, .slice o.A o.d.length o.cd, .slice o.A2 o.ps.length o.cp] 49] [0] (by decide) rfl S185
                            have hpb : s1.flushR.1.pend.length ≤ i + 1 := (Nat.le_trans (flushR_pend s1) (by omega))
                            have hlf : s1.flushR.1.left = n - (((dn + 1 : Nat) : Nat) : Int) := by rw [hw]; show spent s1.left = _; rw [spent_pos (by omega)]; omega
                            have hdn : (((dn + 1 : Nat) : Nat) : Int) ≤ n := by omega
                            have hln : (s1.flushR.1.last.length : Int) = k := by rw [hw]; show ((applyP s1.last s1.pend).length : Int) = k; rw [length_applyP]; exact hmI
                            refine wl_end (fr ([iv k, iv n, .slice A3 ops.length c3, ud, ud, ud, J 6, pq gd, tv, iv ((dn + 1 : Nat) : Int), iv ((i + 1 : Nat) : Int), pq g13, iv (n - ((dn : Nat) : Int)), tv, J 14, J 15, iv s1.flushR.2, J 17, J 18, ud, iv n, fv, fv, iv k, fv, fv, fv, iv k, fv, fv, .tuple #[pq gd, tv], iv k, .tuple #[pq gd, tv], pq gd, tv, tv, fv, fv, pq gd, fv, fv, pq gd, iv n, .tuple #[], iv ((i : Nat) : Int), .slice A3 ops.length c3, iv (ops.length : Nat), tv, iv ((i : Nat) : Int), iv ((i + 1 : Nat) : Int), .slice A3 ops.length c3, iv ((i : Nat) : Int), .pointer (some (ad.add (i * 4))), .agg #[iv o.kind, iv o.at_, .slice o.A o.d.length o.cd, .slice o.A2 o.ps.length o.cp], pq g13, iv o.kind, fv, fv, pq g13, iv o.kind, fv, fv, iv n, iv ((dn : Nat) : Int), iv (n - ((dn : Nat) : Int)), pq gd, fv, iv (n - ((dn : Nat) : Int)), fv, fv, po g13 1, iv o.at_, tv, tv, po g13 1, iv o.at_, iv k, tv, tv, pq g13, iv o.kind, J 81, J 82, J 83, fv, fv] ++ jr J 86 34 ++ [tv, tv, pq gd, iv s1.flushR.2, iv s1.flushR.2, tv, iv (n - ((dn : Nat) : Int)), tv, fv, iv s1.flushR.2, tv, iv ((dn : Nat) : Int), iv ((dn + 1 : Nat) : Int)] ++ jr J 133 34) 11) (by kernel_rfl) ?_
                            refine then_n ?_
                            exact ⟨(i + 1, s1.flushR.1, dn + 1), ⟨(jl [ud, ud, ud, ud, ud, ud, J 6, ud, ud, ud, ud, pq g13, iv (n - ((dn : Nat) : Int)), tv, J 14, J 15, iv s1.flushR.2, J 17, J 18, ud, ud, ud, ud, ud, ud, ud, ud, ud, ud, ud, ud, ud, ud, ud, ud, ud, ud, ud, ud, ud, ud, ud, ud, ud, iv ((i : Nat) : Int), .slice A3 ops.length c3, iv (ops.length : Nat), tv, iv ((i : Nat) : Int), iv ((i + 1 : Nat) : Int), .slice A3 ops.length c3, iv ((i : Nat) : Int), .pointer (some (ad.add (i * 4))), .agg #[iv o.kind, iv o.at_, .slice o.A o.d.length o.cd, .slice o.A2 o.ps.length o.cp], pq g13, iv o.kind, fv, fv, pq g13, iv o.kind, fv, fv, iv n, iv ((dn : Nat) : Int), iv (n - ((dn : Nat) : Int)), pq gd, fv, iv (n - ((dn : Nat) : Int)), fv, fv, po g13 1, iv o.at_, tv, tv, po g13 1, iv o.at_, iv k, tv, tv, pq g13, iv o.kind, J 81, J 82, J 83, fv, fv, J 86, J 87, J 88, J 89, J 90, J 91, J 92, J 93, J 94, J 95, J 96, J 97, J 98, J 99, J 100, J 101, J 102, J 103, J 104, J 105, J 106, J 107, J 108, J 109, J 110, J 111, J 112, J 113, J 114, J 115, J 116, J 117, J 118, J 119, tv, tv, pq gd, iv s1.flushR.2, iv s1.flushR.2, tv, iv (n - ((dn : Nat) : Int)), tv, fv, iv s1.flushR.2, tv, iv ((dn : Nat) : Int), iv ((dn + 1 : Nat) : Int), J 133, J 134, J 135, J 136, J 137, J 138, J 139, J 140, J 141, J 142, J 143, J 144, J 145, J 146, J 147, J 148, J 149, J 150, J 151, J 152, J 153, J 154, J 155, J 156, J 157, J 158, J 159, J 160, J 161, J 162, J 163, J 164, J 165, J 166]), by kernel_rfl, S189, ⟨by omega, hpb, hlf, hdn, hln⟩⟩, (by show ops.length - (i + 1) < ops.length - i; omega)⟩
                          · skip
                            exfalso; omega
                        · skip
                          rcases flushR_cases s1 with ⟨hq, _⟩ | ⟨_, e⟩
                          · exact absurd hq hz
                          · rw [e] at hb186; exact absurd rfl hb186
                      · skip
                        refine pv fv ?_
                        refine wl_end _ rfl ?_
                        refine then_n ?_
                        refine wp_cond_false (by kernel_rfl) ?_
                        refine wp_seq ?_
                        refine wp_region_lit ?_
                        refine wl_gv rfl (gv_eq (x := o.kind) (y := 1) (by kernel_rfl) (fun k1 => ?_) (fun k1 => ?_))
                        · skip
                          refine pv tv ?_
                          refine wl_end _ rfl ?_
                          refine then_n ?_
                          refine wp_cond_true (by kernel_rfl) ?_
                          refine wp_seq ?_
                          refine wp_region_lit ?_
                          refine pv (pq gd) ?_
                          refine pv (po g13 1) ?_
                          refine wl_gv rfl (gv_ldR (v := .int .i64 o.at_) rfl (by kernel_rfl) (by kernel_rfl) (((S18.blk 0 rfl).cell 1).trans rfl) ?_)
                          refine wl_gv rfl (gv_call (args := #[.pointer (some ⟨gd, 0, none⟩), .int .i64 o.at_]) rfl Try.func29 (by kernel_rfl) rfl rfl (by kernel_rfl) ?_)
                          have S190 : St none' w w17 [PDisk gd s1, row g13 #[.int .i64 o.kind, .int .i64 o.at_, .slice o.A o.d.length o.cd, .slice o.A2 o.ps.length o.cp] 49] := St.permT [row g13 #[.int .i64 o.kind, .int .i64 o.at_, .slice o.A o.d.length o.cd, .slice o.A2 o.ps.length o.cp] 49, PDisk gd s1] [1, 0] (by decide) rfl S18
                          refine Calls.mono (pd_read S190) ?_
                          rintro _ w191 ⟨v_, rfl, S192⟩
                          obtain ⟨AP193, rfl, S192'⟩ := St.bytes_eq S192
                          refine ⟨_, rfl, ?_⟩
                          refine pv (.tuple #[.slice AP193 ((s1.readR o.at_).2.1.length) ((s1.readR o.at_).2.1.length), iv ((s1.readR o.at_).2.2)]) ?_
                          refine pv (.slice AP193 ((s1.readR o.at_).2.1.length) ((s1.readR o.at_).2.1.length)) ?_
                          refine pv (iv ((s1.readR o.at_).2.2)) ?_
                          refine pv (.slice AP193 ((s1.readR o.at_).2.1.length) ((s1.readR o.at_).2.1.length)) ?_
                          refine pv (iv ((s1.readR o.at_).2.2)) ?_
                          refine wl_end _ rfl ?_
                          refine then_n ?_
                          refine wp_seq ?_
                          refine wp_region_lit ?_
                          refine pv (iv ((s1.readR o.at_).2.2)) ?_
                          refine wl_gv rfl (gv_eq (x := ((s1.readR o.at_).2.2)) (y := 0) (by kernel_rfl) (fun hb194 => ?_) (fun hb194 => ?_))
                          · skip
                            have hq := readR_ok hb194
                            refine pv tv ?_
                            refine pv tv ?_
                            refine wl_when (by kernel_rfl) (gv_val (v := .int .i64 (n - ((dn : Nat) : Int))) (w' := w191) (by kernel_rfl) ?_)
                            refine wl_when (by kernel_rfl) (gv_dec (p := (n - ((dn : Nat) : Int) : Int) > 0) (by kernel_rfl) (fun _ => ?_) (fun hd195 => False.elim (by omega)))
                            refine pv tv ?_
                            refine pv fv ?_
                            refine pv fv ?_
                            refine wl_when (by kernel_rfl) (gv_val (v := .int .i64 ((s1.readR o.at_).2.2)) (w' := w191) (by kernel_rfl) ?_)
                            refine wl_when (by kernel_rfl) (gv_ne (x := ((s1.readR o.at_).2.2)) (y := 0) (by kernel_rfl) (fun hb196 => ?_) (fun hb196 => ?_))
                            · skip
                              exfalso; omega
                            · skip
                              refine wl_when (by kernel_rfl) (gv_val (v := .bool false) (w' := w191) (by kernel_rfl) ?_)
                              refine wl_not (by kernel_rfl) ?_
                              refine wl_not (by kernel_rfl) ?_
                              refine wl_not (by kernel_rfl) ?_
                              refine wl_when (by kernel_rfl) (gv_val (v := .bool false) (w' := w191) (by kernel_rfl) ?_)
                              refine pv fv ?_
                              refine pv fv ?_
                              refine wl_when (by kernel_rfl) (gv_val (v := .int .i64 (n - ((dn : Nat) : Int))) (w' := w191) (by kernel_rfl) ?_)
                              refine wl_when (by kernel_rfl) (gv_dec (p := (n - ((dn : Nat) : Int) : Int) ≤ 0) (by kernel_rfl) (fun hd197 => False.elim (by omega)) (fun _ => ?_))
                              refine wl_when (by kernel_rfl) (gv_val (v := .bool false) (w' := w191) (by kernel_rfl) ?_)
                              refine wl_not (by kernel_rfl) ?_
                              refine wl_not (by kernel_rfl) ?_
                              refine wl_when (by kernel_rfl) (gv_val (v := .bool false) (w' := w191) (by kernel_rfl) ?_)
                              refine pv fv ?_
                              refine wl_end (fr ([iv k, iv n, .slice A3 ops.length c3, ud, ud, ud, J 6, pq gd, tv, iv ((dn : Nat) : Int), iv ((i : Nat) : Int), pq g13, iv (n - ((dn : Nat) : Int)), tv, J 14, J 15, J 16, .slice AP193 ((s1.readR o.at_).2.1.length) ((s1.readR o.at_).2.1.length), iv ((s1.readR o.at_).2.2), ud, iv n, fv, fv, iv k, fv, fv, fv, iv k, fv, fv, .tuple #[pq gd, tv], iv k, .tuple #[pq gd, tv], pq gd, tv, tv, fv, fv, pq gd, fv, fv, pq gd, iv n, .tuple #[], iv ((i : Nat) : Int), .slice A3 ops.length c3, iv (ops.length : Nat), tv, J 48, J 49, .slice A3 ops.length c3, iv ((i : Nat) : Int), .pointer (some (ad.add (i * 4))), .agg #[iv o.kind, iv o.at_, .slice o.A o.d.length o.cd, .slice o.A2 o.ps.length o.cp], pq g13, iv o.kind, fv, fv, pq g13, iv o.kind, fv, fv, iv n, iv ((dn : Nat) : Int), iv (n - ((dn : Nat) : Int)), pq gd, fv, iv (n - ((dn : Nat) : Int)), fv, fv, po g13 1, iv o.at_, tv, tv, po g13 1, iv o.at_, iv k, tv, tv, pq g13, iv o.kind, J 81, J 82, J 83, fv, fv] ++ jr J 86 34 ++ [fv, fv] ++ jr J 122 11 ++ [tv, tv, .tuple #[.slice AP193 ((s1.readR o.at_).2.1.length) ((s1.readR o.at_).2.1.length), iv ((s1.readR o.at_).2.2)], pq gd, po g13 1, iv o.at_, .tuple #[.slice AP193 ((s1.readR o.at_).2.1.length) ((s1.readR o.at_).2.1.length), iv ((s1.readR o.at_).2.2)], .slice AP193 ((s1.readR o.at_).2.1.length) ((s1.readR o.at_).2.1.length), iv ((s1.readR o.at_).2.2), iv ((s1.readR o.at_).2.2), tv, tv, tv, iv (n - ((dn : Nat) : Int)), tv, tv, fv, fv, iv ((s1.readR o.at_).2.2), fv, fv, ud, ud, ud, fv, fv, fv, iv (n - ((dn : Nat) : Int)), fv, fv, ud, ud, fv, fv]) 11) (by kernel_rfl) ?_
                              refine then_n ?_
                              refine wp_cond_false (by kernel_rfl) ?_
                              refine wp_skip ?_
                              refine inb_n ?_
                              refine inb_n ?_
                              refine then_n ?_
                              refine wp_region_lit ?_
                              refine pv (iv ((i : Nat) : Int)) ?_
                              refine wl_gv rfl (gv_int (k := .i64) (z := IntKind.i64.wrap (((i : Nat) : Int) + 1)) (z' := ((i + 1 : Nat) : Int)) (by kernel_rfl) (wr_eq (by omega) (by omega) (by omega)) ?_)
                              refine pv (iv ((i + 1 : Nat) : Int)) ?_
                              have S198 : St none' w w191 [PDisk gd (s1.readR o.at_).1] := St.permT [bytesA (.slice AP193 ((s1.readR o.at_).2.1.length) ((s1.readR o.at_).2.1.length)) (s1.readR o.at_).2.1, PDisk gd (s1.readR o.at_).1, row g13 #[.int .i64 o.kind, .int .i64 o.at_, .slice o.A o.d.length o.cd, .slice o.A2 o.ps.length o.cp] 49] [1] (by decide) rfl S192'
                              have hpb : ((s1.readR o.at_).1).pend.length ≤ i + 1 := (by rw [(readR_same s1 _).2.1]; omega)
                              have hlf : ((s1.readR o.at_).1).left = n - (((dn : Nat) : Nat) : Int) := by rw [(readR_same s1 _).2.2]; exact hlI
                              have hdn : (((dn : Nat) : Nat) : Int) ≤ n := hdI
                              have hln : (((s1.readR o.at_).1).last.length : Int) = k := by rw [(readR_same s1 _).1]; exact hmI
                              refine wl_end _ rfl ?_
                              refine then_n ?_
                              exact ⟨(i + 1, (s1.readR o.at_).1, dn), ⟨(jl [ud, ud, ud, ud, ud, ud, J 6, ud, ud, ud, ud, pq g13, iv (n - ((dn : Nat) : Int)), tv, J 14, J 15, J 16, .slice AP193 ((s1.readR o.at_).2.1.length) ((s1.readR o.at_).2.1.length), iv ((s1.readR o.at_).2.2), ud, ud, ud, ud, ud, ud, ud, ud, ud, ud, ud, ud, ud, ud, ud, ud, ud, ud, ud, ud, ud, ud, ud, ud, ud, iv ((i : Nat) : Int), .slice A3 ops.length c3, iv (ops.length : Nat), tv, iv ((i : Nat) : Int), iv ((i + 1 : Nat) : Int), .slice A3 ops.length c3, iv ((i : Nat) : Int), .pointer (some (ad.add (i * 4))), .agg #[iv o.kind, iv o.at_, .slice o.A o.d.length o.cd, .slice o.A2 o.ps.length o.cp], pq g13, iv o.kind, fv, fv, pq g13, iv o.kind, fv, fv, iv n, iv ((dn : Nat) : Int), iv (n - ((dn : Nat) : Int)), pq gd, fv, iv (n - ((dn : Nat) : Int)), fv, fv, po g13 1, iv o.at_, tv, tv, po g13 1, iv o.at_, iv k, tv, tv, pq g13, iv o.kind, J 81, J 82, J 83, fv, fv, J 86, J 87, J 88, J 89, J 90, J 91, J 92, J 93, J 94, J 95, J 96, J 97, J 98, J 99, J 100, J 101, J 102, J 103, J 104, J 105, J 106, J 107, J 108, J 109, J 110, J 111, J 112, J 113, J 114, J 115, J 116, J 117, J 118, J 119, fv, fv, J 122, J 123, J 124, J 125, J 126, J 127, J 128, J 129, J 130, J 131, J 132, tv, tv, .tuple #[.slice AP193 ((s1.readR o.at_).2.1.length) ((s1.readR o.at_).2.1.length), iv ((s1.readR o.at_).2.2)], pq gd, po g13 1, iv o.at_, .tuple #[.slice AP193 ((s1.readR o.at_).2.1.length) ((s1.readR o.at_).2.1.length), iv ((s1.readR o.at_).2.2)], .slice AP193 ((s1.readR o.at_).2.1.length) ((s1.readR o.at_).2.1.length), iv ((s1.readR o.at_).2.2), iv ((s1.readR o.at_).2.2), tv, tv, tv, iv (n - ((dn : Nat) : Int)), tv, tv, fv, fv, iv ((s1.readR o.at_).2.2), fv, fv, ud, ud, ud, fv, fv, fv, iv (n - ((dn : Nat) : Int)), fv, fv, ud, ud, fv, fv]), by kernel_rfl, S198, ⟨by omega, hpb, hlf, hdn, hln⟩⟩, (by show ops.length - (i + 1) < ops.length - i; omega)⟩
                          · skip
                            have hq := readR_no (show _ ≠ (0 : Int) from hb194)
                            exact absurd (readR_yes hz (by omega) (by omega)).1 hb194
                        · skip
                          refine pv fv ?_
                          refine wl_end _ rfl ?_
                          refine then_n ?_
                          refine wp_cond_false (by kernel_rfl) ?_
                          refine wp_region_lit ?_
                          refine pv (pq gd) ?_
                          refine wl_gv rfl (gv_ldA (k := 0) (n := 4) (vs := [.int .i64 o.kind, .int .i64 o.at_, .slice o.A o.d.length o.cd, .slice o.A2 o.ps.length o.cp]) S18 0 rfl rfl (by kernel_rfl) (by kernel_rfl) rfl rfl ?_)
                          refine wl_gv rfl (gv_call (args := #[.pointer (some ⟨gd, 0, none⟩), .agg #[.int .i64 o.kind, .int .i64 o.at_, .slice o.A o.d.length o.cd, .slice o.A2 o.ps.length o.cp]]) rfl Try.func38 (by kernel_rfl) rfl rfl (by kernel_rfl) ?_)
                          have S199 : St none' w w17 [PDisk gd s1, row g13 #[.int .i64 o.kind, .int .i64 o.at_, .slice o.A o.d.length o.cd, .slice o.A2 o.ps.length o.cp] 49] := St.permT [row g13 #[.int .i64 o.kind, .int .i64 o.at_, .slice o.A o.d.length o.cd, .slice o.A2 o.ps.length o.cp] 49, PDisk gd s1] [1, 0] (by decide) rfl S18
                          refine Calls.mono (act_all S199 (Ro.of_C hk.d (fun _ h => h)).T (RoV.of_rd hk.p _) hk.hat hk.dm hk.pm (by have := hpI; omega)) ?_
                          rintro _ w200 ⟨rfl, S201⟩
                          refine ⟨_, rfl, ?_⟩
                          refine wl_end _ rfl ?_
                          refine inb_n ?_
                          refine inb_n ?_
                          refine then_n ?_
                          refine wp_region_lit ?_
                          refine pv (iv ((i : Nat) : Int)) ?_
                          refine wl_gv rfl (gv_int (k := .i64) (z := IntKind.i64.wrap (((i : Nat) : Int) + 1)) (z' := ((i + 1 : Nat) : Int)) (by kernel_rfl) (wr_eq (by omega) (by omega) (by omega)) ?_)
                          refine pv (iv ((i + 1 : Nat) : Int)) ?_
                          have S202 : St none' w w200 [PDisk gd (s1.actR o.kind o.at_ o.d o.ps)] := St.permT [PDisk gd (s1.actR o.kind o.at_ o.d o.ps), row g13 #[.int .i64 o.kind, .int .i64 o.at_, .slice o.A o.d.length o.cd, .slice o.A2 o.ps.length o.cp] 49] [0] (by decide) rfl S201
                          have hac := act_left (s := s1) (a := o.at_) (d := o.d) (ps := o.ps) k2 k3 k4 k6
                          have hpb : (s1.actR o.kind o.at_ o.d o.ps).pend.length ≤ i + 1 := (Nat.le_trans (actR_pend s1 o.kind o.at_ o.d o.ps) (by omega))
                          have hlf : (s1.actR o.kind o.at_ o.d o.ps).left = n - (((dn : Nat) : Nat) : Int) := by rw [hac.1]; exact hlI
                          have hdn : (((dn : Nat) : Nat) : Int) ≤ n := hdI
                          have hln : ((s1.actR o.kind o.at_ o.d o.ps).last.length : Int) = k := by rw [hac.2.1]; exact hmI
                          refine wl_end _ rfl ?_
                          refine then_n ?_
                          exact ⟨(i + 1, (s1.actR o.kind o.at_ o.d o.ps), dn), ⟨(jl [ud, ud, ud, ud, ud, ud, J 6, ud, ud, ud, ud, pq g13, iv (n - ((dn : Nat) : Int)), tv, J 14, J 15, J 16, J 17, J 18, ud, ud, ud, ud, ud, ud, ud, ud, ud, ud, ud, ud, ud, ud, ud, ud, ud, ud, ud, ud, ud, ud, ud, ud, ud, iv ((i : Nat) : Int), .slice A3 ops.length c3, iv (ops.length : Nat), tv, iv ((i : Nat) : Int), iv ((i + 1 : Nat) : Int), .slice A3 ops.length c3, iv ((i : Nat) : Int), .pointer (some (ad.add (i * 4))), .agg #[iv o.kind, iv o.at_, .slice o.A o.d.length o.cd, .slice o.A2 o.ps.length o.cp], pq g13, iv o.kind, fv, fv, pq g13, iv o.kind, fv, fv, iv n, iv ((dn : Nat) : Int), iv (n - ((dn : Nat) : Int)), pq gd, fv, iv (n - ((dn : Nat) : Int)), fv, fv, po g13 1, iv o.at_, tv, tv, po g13 1, iv o.at_, iv k, tv, tv, pq g13, iv o.kind, pq gd, .agg #[iv o.kind, iv o.at_, .slice o.A o.d.length o.cd, .slice o.A2 o.ps.length o.cp], .tuple #[], fv, fv, J 86, J 87, J 88, J 89, J 90, J 91, J 92, J 93, J 94, J 95, J 96, J 97, J 98, J 99, J 100, J 101, J 102, J 103, J 104, J 105, J 106, J 107, J 108, J 109, J 110, J 111, J 112, J 113, J 114, J 115, J 116, J 117, J 118, J 119, fv, fv, J 122, J 123, J 124, J 125, J 126, J 127, J 128, J 129, J 130, J 131, J 132, fv, fv, J 135, J 136, J 137, J 138, J 139, J 140, J 141, J 142, J 143, J 144, J 145, J 146, J 147, J 148, J 149, J 150, J 151, J 152, J 153, J 154, J 155, J 156, J 157, J 158, J 159, J 160, J 161, J 162, J 163, J 164, J 165, J 166]), by kernel_rfl, S202, ⟨by omega, hpb, hlf, hdn, hln⟩⟩, (by show ops.length - (i + 1) < ops.length - i; omega)⟩
                  · skip
                    refine pv fv ?_
                    refine pv fv ?_
                    refine wl_end _ rfl ?_
                    refine then_n ?_
                    refine wp_seq ?_
                    refine wp_region_lit ?_
                    refine pv (pq g13) ?_
                    refine wl_gv rfl (gv_ldR (v := .int .i64 o.kind) rfl (by kernel_rfl) (by kernel_rfl) (((S18.blk 0 rfl).cell 0).trans rfl) ?_)
                    refine wl_end _ rfl ?_
                    refine then_n ?_
                    refine wp_block ?_
                    refine wp_seq ?_
                    refine wp_region_lit ?_
                    refine wl_gv rfl (gv_eq (x := o.kind) (y := 2) (by kernel_rfl) (fun k2 => ?_) (fun k2 => ?_))
                    · skip
                      refine pv tv ?_
                      refine wl_end _ rfl ?_
                      refine then_n ?_
                      refine wp_cond_true (by kernel_rfl) ?_
                      refine wp_seq ?_
                      refine wp_region_phu (γ := Nat) 7 [5, 6] (fun (c5_ : Nat) (i_ : Nat) => (match i_ with | 0 => .pointer (some ⟨gd, 0, none⟩) | 1 => .pointer (some ⟨g13, 1, none⟩) | 2 => .int .i64 o.at_ | 3 => .pointer (some ⟨g13, 2, none⟩) | 4 => .slice o.A o.d.length o.cd | 5 => .slice (some ⟨c5_, 0, none⟩) o.d.length o.d.length | 6 => .int .i64 ((s1.writeR o.at_ o.d).2) | _ => undef : Value)) (fun (c5_ : Nat) (p_ : Nat) (w_ : World) => (match p_ with | 0 => St none' w w_ [row g13 #[.int .i64 o.kind, .int .i64 o.at_, .slice o.A o.d.length o.cd, .slice o.A2 o.ps.length o.cp] 49, PDisk gd s1] | 1 => St none' w w_ [row c5_ (bvs o.d) 5, row g13 #[.int .i64 o.kind, .int .i64 o.at_, .slice o.A o.d.length o.cd, .slice o.A2 o.ps.length o.cp] 49, PDisk gd s1] | _ => St none' w w_ [PDisk gd (s1.writeR o.at_ o.d).1, row c5_ (bvs o.d) 5, row g13 #[.int .i64 o.kind, .int .i64 o.at_, .slice o.A o.d.length o.cd, .slice o.A2 o.ps.length o.cp] 49] : Prop)) (0) (by kernel_rfl) (by kernel_rfl) (by kernel_rfl) (by kernel_rfl) (S18.drew) ?_ ?_ ?_
                      · intro i_ c5_ p_ vals_ w1 hi_ hiE_ hp_ hk_ hu_ hPh_ hd_
                        rcases i_ with _ | _ | _ | _ | _ | _ | _ | i_
                        · skip
                          refine told_free rfl rfl (gv_env ((⟨Array.replicate 178 undef, []⟩ : Act).put (some 7) (.pointer (some ⟨gd, 0, none⟩))) (by kernel_rfl) (xs := [.tmp 7]) (by kernel_rfl) (alike_cons (fill_past (by kernel_rfl) (by kernel_rfl)) alike_nil) (gv_val (v := .pointer (some ⟨gd, 0, none⟩)) (w' := w1) (by kernel_rfl) ?_))
                          exact ⟨rfl, rfl⟩
                        · skip
                          refine told_free rfl rfl (gv_env ((⟨Array.replicate 178 undef, []⟩ : Act).put (some 11) (.pointer (some ⟨g13, 0, none⟩))) (by kernel_rfl) (xs := [.tmp 11]) (by kernel_rfl) (alike_cons (fill_past (by kernel_rfl) (by kernel_rfl)) alike_nil) (gv_val (v := .pointer (some ⟨g13, 1, none⟩)) (w' := w1) (by kernel_rfl) ?_))
                          exact ⟨rfl, rfl⟩
                        · skip
                          rcases p_ with _ | _ | _ | p_
                          · skip
                            have S205 : St none' w w1 [row g13 #[.int .i64 o.kind, .int .i64 o.at_, .slice o.A o.d.length o.cd, .slice o.A2 o.ps.length o.cp] 49, PDisk gd s1] := hPh_
                            refine told_free rfl rfl (gv_env ((⟨Array.replicate 178 undef, []⟩ : Act).put (some 87) (.pointer (some ⟨g13, 1, none⟩))) (by kernel_rfl) (xs := [.tmp 87]) (by kernel_rfl) (alike_cons (fill_at (k := 1) (by kernel_rfl) (by kernel_rfl) ((hd_ 1 (by kernel_rfl)).trans (by kernel_rfl))) alike_nil) (gv_ldR (v := .int .i64 o.at_) rfl (by kernel_rfl) (by kernel_rfl) (((S205.blk 0 rfl).cell 1).trans rfl) ?_))
                            exact ⟨rfl, rfl⟩
                          · skip
                            have S206 : St none' w w1 [row c5_ (bvs o.d) 5, row g13 #[.int .i64 o.kind, .int .i64 o.at_, .slice o.A o.d.length o.cd, .slice o.A2 o.ps.length o.cp] 49, PDisk gd s1] := hPh_
                            refine told_free rfl rfl (gv_env ((⟨Array.replicate 178 undef, []⟩ : Act).put (some 87) (.pointer (some ⟨g13, 1, none⟩))) (by kernel_rfl) (xs := [.tmp 87]) (by kernel_rfl) (alike_cons (fill_at (k := 1) (by kernel_rfl) (by kernel_rfl) ((hd_ 1 (by kernel_rfl)).trans (by kernel_rfl))) alike_nil) (gv_ldR (v := .int .i64 o.at_) rfl (by kernel_rfl) (by kernel_rfl) (((S206.blk 1 rfl).cell 1).trans rfl) ?_))
                            exact ⟨rfl, rfl⟩
                          · skip
                            exact absurd (hu_ 1 (by decide) (by kernel_rfl)) (by decide)
                          · exact absurd hp_ (by simp)
                        · skip
                          refine told_free rfl rfl (gv_env ((⟨Array.replicate 178 undef, []⟩ : Act).put (some 11) (.pointer (some ⟨g13, 0, none⟩))) (by kernel_rfl) (xs := [.tmp 11]) (by kernel_rfl) (alike_cons (fill_past (by kernel_rfl) (by kernel_rfl)) alike_nil) (gv_val (v := .pointer (some ⟨g13, 2, none⟩)) (w' := w1) (by kernel_rfl) ?_))
                          exact ⟨rfl, rfl⟩
                        · skip
                          rcases p_ with _ | _ | _ | p_
                          · skip
                            have S208 : St none' w w1 [row g13 #[.int .i64 o.kind, .int .i64 o.at_, .slice o.A o.d.length o.cd, .slice o.A2 o.ps.length o.cp] 49, PDisk gd s1] := hPh_
                            refine told_free rfl rfl (gv_env ((⟨Array.replicate 178 undef, []⟩ : Act).put (some 89) (.pointer (some ⟨g13, 2, none⟩))) (by kernel_rfl) (xs := [.tmp 89]) (by kernel_rfl) (alike_cons (fill_at (k := 3) (by kernel_rfl) (by kernel_rfl) ((hd_ 3 (by kernel_rfl)).trans (by kernel_rfl))) alike_nil) (gv_ldR (v := .slice o.A o.d.length o.cd) rfl (by kernel_rfl) (by kernel_rfl) (((S208.blk 0 rfl).cell 2).trans rfl) ?_))
                            exact ⟨rfl, rfl⟩
                          · skip
                            exact absurd (hu_ 0 (by decide) (by kernel_rfl)) (by decide)
                          · skip
                            exact absurd (hu_ 0 (by decide) (by kernel_rfl)) (by decide)
                          · exact absurd hp_ (by simp)
                        · skip
                          exact absurd hiE_ (by decide)
                        · skip
                          exact absurd hiE_ (by decide)
                        · exact absurd hi_ (by omega)
                      · intro k_ c5_ vals_ w1 hk_ hPh_ hd_
                        rcases k_ with _ | _ | k_
                        · skip
                          have S209 : St none' w w1 [row g13 #[.int .i64 o.kind, .int .i64 o.at_, .slice o.A o.d.length o.cd, .slice o.A2 o.ps.length o.cp] 49, PDisk gd s1] := hPh_
                          refine told_free rfl rfl (gv_env ((⟨Array.replicate 178 undef, []⟩ : Act).put (some 90) (.slice o.A o.d.length o.cd)) (by kernel_rfl) (xs := [.func 27, .tmp 90]) (by kernel_rfl) (alike_cons eval_fn (alike_cons (fill_at (k := 4) (by kernel_rfl) (by kernel_rfl) ((hd_ 4 (by kernel_rfl)).trans (by kernel_rfl))) alike_nil)) (gv_call (args := #[.slice o.A o.d.length o.cd]) rfl Try.func27 (by kernel_rfl) rfl rfl (by kernel_rfl) ?_))
                          refine Calls.mono (ltwinS (l := o.d) S209 (Ro.of_C hk.d (fun _ h => h)).T hk.dm) ?_
                          rintro _ w211 ⟨g210, rfl, S212⟩
                          refine ⟨_, rfl, ?_⟩
                          refine ⟨(g210), rfl, ?_, S212⟩
                          intro i_ hi_ hne_ hdp_
                          rcases i_ with _ | _ | _ | _ | _ | _ | _ | i_
                          · rfl
                          · rfl
                          · rfl
                          · rfl
                          · rfl
                          · exact absurd rfl hne_
                          · exact (dep_no hdp_ (by kernel_rfl)).elim
                          · exact absurd hi_ (by omega)
                        · skip
                          have S213 : St none' w w1 [row c5_ (bvs o.d) 5, row g13 #[.int .i64 o.kind, .int .i64 o.at_, .slice o.A o.d.length o.cd, .slice o.A2 o.ps.length o.cp] 49, PDisk gd s1] := hPh_
                          refine told_free rfl rfl (gv_env ((((⟨Array.replicate 178 undef, []⟩ : Act).put (some 86) (.pointer (some ⟨gd, 0, none⟩))).put (some 88) (.int .i64 o.at_)).put (some 91) (.slice (some ⟨c5_, 0, none⟩) o.d.length o.d.length)) (by kernel_rfl) (xs := [.func 35, .tmp 86, .tmp 88, .tmp 91]) (by kernel_rfl) (alike_cons eval_fn (alike_cons (fill_at (k := 0) (by kernel_rfl) (by kernel_rfl) ((hd_ 0 (by kernel_rfl)).trans (by kernel_rfl))) (alike_cons (fill_at (k := 2) (by kernel_rfl) (by kernel_rfl) ((hd_ 2 (by kernel_rfl)).trans (by kernel_rfl))) (alike_cons (fill_at (k := 5) (by kernel_rfl) (by kernel_rfl) ((hd_ 5 (by kernel_rfl)).trans (by kernel_rfl))) alike_nil)))) (gv_call (args := #[.pointer (some ⟨gd, 0, none⟩), .int .i64 o.at_, .slice (some ⟨c5_, 0, none⟩) o.d.length o.d.length]) rfl Try.func35 (by kernel_rfl) rfl rfl (by kernel_rfl) ?_))
                          have S214 : St none' w w1 [PDisk gd s1, row c5_ (bvs o.d) 5, row g13 #[.int .i64 o.kind, .int .i64 o.at_, .slice o.A o.d.length o.cd, .slice o.A2 o.ps.length o.cp] 49] := St.permT [row c5_ (bvs o.d) 5, row g13 #[.int .i64 o.kind, .int .i64 o.at_, .slice o.A o.d.length o.cd, .slice o.A2 o.ps.length o.cp] 49, PDisk gd s1] [2, 0, 1] (by decide) rfl S213
                          refine Calls.mono (pd_write S214 (RoT.item 0 rfl 0 o.d.length o.d (by rw [List.drop_zero, List.take_length])) (by have := hk.dm; omega) (by have := hpI; omega)) ?_
                          rintro _ w215 ⟨rfl, S216⟩
                          refine ⟨_, rfl, ?_⟩
                          refine ⟨(c5_), rfl, ?_, S216⟩
                          intro i_ hi_ hne_ hdp_
                          rcases i_ with _ | _ | _ | _ | _ | _ | _ | i_
                          · rfl
                          · rfl
                          · rfl
                          · rfl
                          · rfl
                          · rfl
                          · exact absurd rfl hne_
                          · exact absurd hi_ (by omega)
                        · exact absurd hk_ (by simp)
                      · intro c5_ w1 hPh_
                        have S217 : St none' w w1 [PDisk gd (s1.writeR o.at_ o.d).1, row c5_ (bvs o.d) 5, row g13 #[.int .i64 o.kind, .int .i64 o.at_, .slice o.A o.d.length o.cd, .slice o.A2 o.ps.length o.cp] 49] := hPh_
                        refine wl_frame (fr ([iv k, iv n, .slice A3 ops.length c3, ud, ud, ud, J 6, pq gd, tv, iv ((dn : Nat) : Int), iv ((i : Nat) : Int), pq g13, iv (n - ((dn : Nat) : Int)), fv] ++ jr J 14 5 ++ [ud, iv n, fv, fv, iv k, fv, fv, fv, iv k, fv, fv, .tuple #[pq gd, tv], iv k, .tuple #[pq gd, tv], pq gd, tv, tv, fv, fv, pq gd, fv, fv, pq gd, iv n, .tuple #[], iv ((i : Nat) : Int), .slice A3 ops.length c3, iv (ops.length : Nat), tv, J 48, J 49, .slice A3 ops.length c3, iv ((i : Nat) : Int), .pointer (some (ad.add (i * 4))), .agg #[iv o.kind, iv o.at_, .slice o.A o.d.length o.cd, .slice o.A2 o.ps.length o.cp], pq g13, iv o.kind, fv, fv, pq g13, iv o.kind, fv, fv, iv n, iv ((dn : Nat) : Int), iv (n - ((dn : Nat) : Int)), pq gd, fv, iv (n - ((dn : Nat) : Int)), fv, fv, po g13 1, iv o.at_, tv, tv, po g13 1, iv o.at_, iv k, fv, fv, pq g13, iv o.kind, J 81, J 82, J 83, tv, tv, pq gd, po g13 1, iv o.at_, po g13 2, .slice o.A o.d.length o.cd, sl c5_ 0 o.d.length o.d.length, iv ((s1.writeR o.at_ o.d).2)] ++ jr J 93 74) 11) (by kernel_rfl) ?_
                        refine pv (iv ((s1.writeR o.at_ o.d).2)) ?_
                        refine wl_end (fr ([iv k, iv n, .slice A3 ops.length c3, ud, ud, ud, J 6, pq gd, tv, iv ((dn : Nat) : Int), iv ((i : Nat) : Int), pq g13, iv (n - ((dn : Nat) : Int)), fv, iv ((s1.writeR o.at_ o.d).2)] ++ jr J 15 4 ++ [ud, iv n, fv, fv, iv k, fv, fv, fv, iv k, fv, fv, .tuple #[pq gd, tv], iv k, .tuple #[pq gd, tv], pq gd, tv, tv, fv, fv, pq gd, fv, fv, pq gd, iv n, .tuple #[], iv ((i : Nat) : Int), .slice A3 ops.length c3, iv (ops.length : Nat), tv, J 48, J 49, .slice A3 ops.length c3, iv ((i : Nat) : Int), .pointer (some (ad.add (i * 4))), .agg #[iv o.kind, iv o.at_, .slice o.A o.d.length o.cd, .slice o.A2 o.ps.length o.cp], pq g13, iv o.kind, fv, fv, pq g13, iv o.kind, fv, fv, iv n, iv ((dn : Nat) : Int), iv (n - ((dn : Nat) : Int)), pq gd, fv, iv (n - ((dn : Nat) : Int)), fv, fv, po g13 1, iv o.at_, tv, tv, po g13 1, iv o.at_, iv k, fv, fv, pq g13, iv o.kind, J 81, J 82, J 83, tv, tv, pq gd, po g13 1, iv o.at_, po g13 2, .slice o.A o.d.length o.cd, sl c5_ 0 o.d.length o.d.length, iv ((s1.writeR o.at_ o.d).2)] ++ jr J 93 74) 11) (by kernel_rfl) ?_
                        refine then_n ?_
                        refine wp_seq ?_
                        refine wp_region_lit ?_
                        refine pv fv ?_
                        refine pv fv ?_
                        refine wl_not (by kernel_rfl) ?_
                        refine wl_not (by kernel_rfl) ?_
                        refine wl_not (by kernel_rfl) ?_
                        refine wl_not (by kernel_rfl) ?_
                        refine pv fv ?_
                        refine pv fv ?_
                        refine wl_end _ rfl ?_
                        refine then_n ?_
                        refine wp_seq ?_
                        refine wp_seq ?_
                        refine wp_region_lit ?_
                        refine pv (iv ((s1.writeR o.at_ o.d).2)) ?_
                        refine wl_gv rfl (gv_eq (x := ((s1.writeR o.at_ o.d).2)) (y := 0) (by kernel_rfl) (fun hb218 => ?_) (fun hb218 => ?_))
                        · skip
                          have hw := writeR_ok hb218
                          exfalso; omega
                        · skip
                          have hw := writeR_no (show _ ≠ (0 : Int) from hb218)
                          refine pv fv ?_
                          refine pv fv ?_
                          refine wl_not (by kernel_rfl) ?_
                          refine wl_not (by kernel_rfl) ?_
                          refine pv fv ?_
                          refine pv fv ?_
                          refine pv fv ?_
                          refine wl_when (by kernel_rfl) (gv_val (v := .int .i64 (n - ((dn : Nat) : Int))) (w' := w1) (by kernel_rfl) ?_)
                          refine wl_when (by kernel_rfl) (gv_dec (p := (n - ((dn : Nat) : Int) : Int) ≤ 0) (by kernel_rfl) (fun hd219 => False.elim (by omega)) (fun _ => ?_))
                          refine wl_when (by kernel_rfl) (gv_val (v := .bool false) (w' := w1) (by kernel_rfl) ?_)
                          refine wl_not (by kernel_rfl) ?_
                          refine wl_not (by kernel_rfl) ?_
                          refine wl_when (by kernel_rfl) (gv_val (v := .bool false) (w' := w1) (by kernel_rfl) ?_)
                          refine pv fv ?_
                          refine wl_end _ rfl ?_
                          refine then_n ?_
                          refine wp_cond_false (by kernel_rfl) ?_
                          refine wp_skip ?_
                          refine then_n ?_
                          refine wp_seq ?_
                          refine wp_region_lit ?_
                          refine pv (iv ((s1.writeR o.at_ o.d).2)) ?_
                          refine wl_gv rfl (gv_eq (x := ((s1.writeR o.at_ o.d).2)) (y := 0) (by kernel_rfl) (fun hb220 => ?_) (fun hb220 => ?_))
                          · skip
                            exfalso; omega
                          · skip
                            refine wl_end _ rfl ?_
                            refine then_n ?_
                            refine wp_cond_false (by kernel_rfl) ?_
                            refine wp_skip ?_
                            refine inb_n ?_
                            refine inb_n ?_
                            refine then_n ?_
                            refine wp_region_lit ?_
                            refine pv (iv ((i : Nat) : Int)) ?_
                            refine wl_gv rfl (gv_int (k := .i64) (z := IntKind.i64.wrap (((i : Nat) : Int) + 1)) (z' := ((i + 1 : Nat) : Int)) (by kernel_rfl) (wr_eq (by omega) (by omega) (by omega)) ?_)
                            refine pv (iv ((i + 1 : Nat) : Int)) ?_
                            have S221 : St none' w w1 [PDisk gd (s1.writeR o.at_ o.d).1] := St.permT [PDisk gd (s1.writeR o.at_ o.d).1, row c5_ (bvs o.d) 5, row g13 #[.int .i64 o.kind, .int .i64 o.at_, .slice o.A o.d.length o.cd, .slice o.A2 o.ps.length o.cp] 49] [0] (by decide) rfl S217
                            have hpb : ((s1.writeR o.at_ o.d).1).pend.length ≤ i + 1 := (Nat.le_trans (writeR_pend s1 o.at_ o.d) (by omega))
                            have hlf : ((s1.writeR o.at_ o.d).1).left = n - (((dn : Nat) : Nat) : Int) := by rw [hw.2.2.1]; exact hlI
                            have hdn : (((dn : Nat) : Nat) : Int) ≤ n := hdI
                            have hln : (((s1.writeR o.at_ o.d).1).last.length : Int) = k := by rw [hw.1]; exact hmI
                            refine wl_end _ rfl ?_
                            refine then_n ?_
                            exact ⟨(i + 1, (s1.writeR o.at_ o.d).1, dn), ⟨(jl [ud, ud, ud, ud, ud, ud, J 6, ud, ud, ud, ud, pq g13, iv (n - ((dn : Nat) : Int)), fv, iv ((s1.writeR o.at_ o.d).2), fv, J 16, J 17, J 18, ud, ud, ud, ud, ud, ud, ud, ud, ud, ud, ud, ud, ud, ud, ud, ud, ud, ud, ud, ud, ud, ud, ud, ud, ud, iv ((i : Nat) : Int), .slice A3 ops.length c3, iv (ops.length : Nat), tv, iv ((i : Nat) : Int), iv ((i + 1 : Nat) : Int), .slice A3 ops.length c3, iv ((i : Nat) : Int), .pointer (some (ad.add (i * 4))), .agg #[iv o.kind, iv o.at_, .slice o.A o.d.length o.cd, .slice o.A2 o.ps.length o.cp], pq g13, iv o.kind, fv, fv, pq g13, iv o.kind, fv, fv, iv n, iv ((dn : Nat) : Int), iv (n - ((dn : Nat) : Int)), pq gd, fv, iv (n - ((dn : Nat) : Int)), fv, fv, po g13 1, iv o.at_, tv, tv, po g13 1, iv o.at_, iv k, fv, fv, pq g13, iv o.kind, J 81, J 82, J 83, tv, tv, pq gd, po g13 1, iv o.at_, po g13 2, .slice o.A o.d.length o.cd, sl c5_ 0 o.d.length o.d.length, iv ((s1.writeR o.at_ o.d).2), fv, fv, ud, ud, ud, ud, fv, iv ((s1.writeR o.at_ o.d).2), fv, fv, fv, ud, ud, fv, fv, fv, iv (n - ((dn : Nat) : Int)), fv, fv, ud, ud, fv, fv, iv ((s1.writeR o.at_ o.d).2), fv, J 118, J 119, J 120, J 121, J 122, J 123, J 124, J 125, J 126, J 127, J 128, J 129, J 130, J 131, J 132, J 133, J 134, J 135, J 136, J 137, J 138, J 139, J 140, J 141, J 142, J 143, J 144, J 145, J 146, J 147, J 148, J 149, J 150, J 151, J 152, J 153, J 154, J 155, J 156, J 157, J 158, J 159, J 160, J 161, J 162, J 163, J 164, J 165, J 166]), by kernel_rfl, S221, ⟨by omega, hpb, hlf, hdn, hln⟩⟩, (by show ops.length - (i + 1) < ops.length - i; omega)⟩
                    · skip
                      refine pv fv ?_
                      refine wl_end _ rfl ?_
                      refine then_n ?_
                      refine wp_cond_false (by kernel_rfl) ?_
                      refine wp_seq ?_
                      refine wp_region_lit ?_
                      refine wl_gv rfl (gv_eq (x := o.kind) (y := 3) (by kernel_rfl) (fun k3 => ?_) (fun k3 => ?_))
                      · skip
                        refine pv tv ?_
                        refine wl_end _ rfl ?_
                        refine then_n ?_
                        refine wp_cond_true (by kernel_rfl) ?_
                        refine wp_seq ?_
                        refine wp_region_lit ?_
                        refine pv (pq gd) ?_
                        refine wl_gv rfl (gv_call (args := #[.pointer (some ⟨gd, 0, none⟩)]) rfl Try.func41 (by kernel_rfl) rfl rfl (by kernel_rfl) ?_)
                        have S222 : St none' w w17 [PDisk gd s1, row g13 #[.int .i64 o.kind, .int .i64 o.at_, .slice o.A o.d.length o.cd, .slice o.A2 o.ps.length o.cp] 49] := St.permT [row g13 #[.int .i64 o.kind, .int .i64 o.at_, .slice o.A o.d.length o.cd, .slice o.A2 o.ps.length o.cp] 49, PDisk gd s1] [1, 0] (by decide) rfl S18
                        refine Calls.mono (pd_flush S222) ?_
                        rintro _ w223 ⟨rfl, S224⟩
                        refine ⟨_, rfl, ?_⟩
                        refine pv (iv s1.flushR.2) ?_
                        refine wl_end _ rfl ?_
                        refine then_n ?_
                        refine wp_seq ?_
                        refine wp_seq ?_
                        refine wp_region_lit ?_
                        refine pv (iv s1.flushR.2) ?_
                        refine wl_gv rfl (gv_eq (x := s1.flushR.2) (y := 0) (by kernel_rfl) (fun hb225 => ?_) (fun hb225 => ?_))
                        · skip
                          have hw : s1.flushR = ({ s1 with last := applyP s1.last s1.pend, pend := [], fl := inc s1.fl, left := spent s1.left }, 0) := (flushR_cases s1).elim (fun q => absurd q.1 hz) (fun q => q.2)
                          refine pv (iv (n - ((dn : Nat) : Int))) ?_
                          refine wl_gv rfl (gv_dec (p := (n - ((dn : Nat) : Int) : Int) > 0) (by kernel_rfl) (fun _ => ?_) (fun hd226 => False.elim (by omega)))
                          refine pv fv ?_
                          refine wl_end _ rfl ?_
                          refine then_n ?_
                          refine wp_cond_false (by kernel_rfl) ?_
                          refine wp_skip ?_
                          refine then_n ?_
                          refine wp_seq ?_
                          refine wp_region_lit ?_
                          refine pv (iv s1.flushR.2) ?_
                          refine wl_gv rfl (gv_eq (x := s1.flushR.2) (y := 0) (by kernel_rfl) (fun hb227 => ?_) (fun hb227 => ?_))
                          · skip
                            refine wl_end _ rfl ?_
                            refine then_n ?_
                            refine wp_cond_true (by kernel_rfl) ?_
                            refine wp_region_lit ?_
                            refine pv (iv ((dn : Nat) : Int)) ?_
                            refine wl_gv rfl (gv_int (k := .i64) (z := IntKind.i64.wrap (((dn : Nat) : Int) + 1)) (z' := ((dn + 1 : Nat) : Int)) (by kernel_rfl) (wr_eq (by omega) (by omega) (by omega)) ?_)
                            refine pv (iv ((dn + 1 : Nat) : Int)) ?_
                            refine wl_end _ rfl ?_
                            refine inb_n ?_
                            refine inb_n ?_
                            refine then_n ?_
                            refine wp_region_lit ?_
                            refine pv (iv ((i : Nat) : Int)) ?_
                            refine wl_gv rfl (gv_int (k := .i64) (z := IntKind.i64.wrap (((i : Nat) : Int) + 1)) (z' := ((i + 1 : Nat) : Int)) (by kernel_rfl) (wr_eq (by omega) (by omega) (by omega)) ?_)
                            refine pv (iv ((i + 1 : Nat) : Int)) ?_
                            have S228 : St none' w w223 [PDisk gd s1.flushR.1] := St.permT [PDisk gd s1.flushR.1, row g13 #[.int .i64 o.kind, .int .i64 o.at_, .slice o.A o.d.length o.cd, .slice o.A2 o.ps.length o.cp] 49] [0] (by decide) rfl S224
                            have hpb : s1.flushR.1.pend.length ≤ i + 1 := (Nat.le_trans (flushR_pend s1) (by omega))
                            have hlf : s1.flushR.1.left = n - (((dn + 1 : Nat) : Nat) : Int) := by rw [hw]; show spent s1.left = _; rw [spent_pos (by omega)]; omega
                            have hdn : (((dn + 1 : Nat) : Nat) : Int) ≤ n := by omega
                            have hln : (s1.flushR.1.last.length : Int) = k := by rw [hw]; show ((applyP s1.last s1.pend).length : Int) = k; rw [length_applyP]; exact hmI
                            refine wl_end (fr ([iv k, iv n, .slice A3 ops.length c3, ud, ud, ud, J 6, pq gd, tv, iv ((dn + 1 : Nat) : Int), iv ((i + 1 : Nat) : Int), pq g13, iv (n - ((dn : Nat) : Int)), fv, J 14, J 15, iv s1.flushR.2, J 17, J 18, ud, iv n, fv, fv, iv k, fv, fv, fv, iv k, fv, fv, .tuple #[pq gd, tv], iv k, .tuple #[pq gd, tv], pq gd, tv, tv, fv, fv, pq gd, fv, fv, pq gd, iv n, .tuple #[], iv ((i : Nat) : Int), .slice A3 ops.length c3, iv (ops.length : Nat), tv, iv ((i : Nat) : Int), iv ((i + 1 : Nat) : Int), .slice A3 ops.length c3, iv ((i : Nat) : Int), .pointer (some (ad.add (i * 4))), .agg #[iv o.kind, iv o.at_, .slice o.A o.d.length o.cd, .slice o.A2 o.ps.length o.cp], pq g13, iv o.kind, fv, fv, pq g13, iv o.kind, fv, fv, iv n, iv ((dn : Nat) : Int), iv (n - ((dn : Nat) : Int)), pq gd, fv, iv (n - ((dn : Nat) : Int)), fv, fv, po g13 1, iv o.at_, tv, tv, po g13 1, iv o.at_, iv k, fv, fv, pq g13, iv o.kind, J 81, J 82, J 83, fv, fv] ++ jr J 86 34 ++ [tv, tv, pq gd, iv s1.flushR.2, iv s1.flushR.2, tv, iv (n - ((dn : Nat) : Int)), tv, fv, iv s1.flushR.2, tv, iv ((dn : Nat) : Int), iv ((dn + 1 : Nat) : Int)] ++ jr J 133 34) 11) (by kernel_rfl) ?_
                            refine then_n ?_
                            exact ⟨(i + 1, s1.flushR.1, dn + 1), ⟨(jl [ud, ud, ud, ud, ud, ud, J 6, ud, ud, ud, ud, pq g13, iv (n - ((dn : Nat) : Int)), fv, J 14, J 15, iv s1.flushR.2, J 17, J 18, ud, ud, ud, ud, ud, ud, ud, ud, ud, ud, ud, ud, ud, ud, ud, ud, ud, ud, ud, ud, ud, ud, ud, ud, ud, iv ((i : Nat) : Int), .slice A3 ops.length c3, iv (ops.length : Nat), tv, iv ((i : Nat) : Int), iv ((i + 1 : Nat) : Int), .slice A3 ops.length c3, iv ((i : Nat) : Int), .pointer (some (ad.add (i * 4))), .agg #[iv o.kind, iv o.at_, .slice o.A o.d.length o.cd, .slice o.A2 o.ps.length o.cp], pq g13, iv o.kind, fv, fv, pq g13, iv o.kind, fv, fv, iv n, iv ((dn : Nat) : Int), iv (n - ((dn : Nat) : Int)), pq gd, fv, iv (n - ((dn : Nat) : Int)), fv, fv, po g13 1, iv o.at_, tv, tv, po g13 1, iv o.at_, iv k, fv, fv, pq g13, iv o.kind, J 81, J 82, J 83, fv, fv, J 86, J 87, J 88, J 89, J 90, J 91, J 92, J 93, J 94, J 95, J 96, J 97, J 98, J 99, J 100, J 101, J 102, J 103, J 104, J 105, J 106, J 107, J 108, J 109, J 110, J 111, J 112, J 113, J 114, J 115, J 116, J 117, J 118, J 119, tv, tv, pq gd, iv s1.flushR.2, iv s1.flushR.2, tv, iv (n - ((dn : Nat) : Int)), tv, fv, iv s1.flushR.2, tv, iv ((dn : Nat) : Int), iv ((dn + 1 : Nat) : Int), J 133, J 134, J 135, J 136, J 137, J 138, J 139, J 140, J 141, J 142, J 143, J 144, J 145, J 146, J 147, J 148, J 149, J 150, J 151, J 152, J 153, J 154, J 155, J 156, J 157, J 158, J 159, J 160, J 161, J 162, J 163, J 164, J 165, J 166]), by kernel_rfl, S228, ⟨by omega, hpb, hlf, hdn, hln⟩⟩, (by show ops.length - (i + 1) < ops.length - i; omega)⟩
                          · skip
                            exfalso; omega
                        · skip
                          rcases flushR_cases s1 with ⟨hq, _⟩ | ⟨_, e⟩
                          · exact absurd hq hz
                          · rw [e] at hb225; exact absurd rfl hb225
                      · skip
                        refine pv fv ?_
                        refine wl_end _ rfl ?_
                        refine then_n ?_
                        refine wp_cond_false (by kernel_rfl) ?_
                        refine wp_seq ?_
                        refine wp_region_lit ?_
                        refine wl_gv rfl (gv_eq (x := o.kind) (y := 1) (by kernel_rfl) (fun k1 => ?_) (fun k1 => ?_))
                        · skip
                          refine pv tv ?_
                          refine wl_end _ rfl ?_
                          refine then_n ?_
                          refine wp_cond_true (by kernel_rfl) ?_
                          refine wp_seq ?_
                          refine wp_region_lit ?_
                          refine pv (pq gd) ?_
                          refine pv (po g13 1) ?_
                          refine wl_gv rfl (gv_ldR (v := .int .i64 o.at_) rfl (by kernel_rfl) (by kernel_rfl) (((S18.blk 0 rfl).cell 1).trans rfl) ?_)
                          refine wl_gv rfl (gv_call (args := #[.pointer (some ⟨gd, 0, none⟩), .int .i64 o.at_]) rfl Try.func29 (by kernel_rfl) rfl rfl (by kernel_rfl) ?_)
                          have S229 : St none' w w17 [PDisk gd s1, row g13 #[.int .i64 o.kind, .int .i64 o.at_, .slice o.A o.d.length o.cd, .slice o.A2 o.ps.length o.cp] 49] := St.permT [row g13 #[.int .i64 o.kind, .int .i64 o.at_, .slice o.A o.d.length o.cd, .slice o.A2 o.ps.length o.cp] 49, PDisk gd s1] [1, 0] (by decide) rfl S18
                          refine Calls.mono (pd_read S229) ?_
                          rintro _ w230 ⟨v_, rfl, S231⟩
                          obtain ⟨AP232, rfl, S231'⟩ := St.bytes_eq S231
                          refine ⟨_, rfl, ?_⟩
                          refine pv (.tuple #[.slice AP232 ((s1.readR o.at_).2.1.length) ((s1.readR o.at_).2.1.length), iv ((s1.readR o.at_).2.2)]) ?_
                          refine pv (.slice AP232 ((s1.readR o.at_).2.1.length) ((s1.readR o.at_).2.1.length)) ?_
                          refine pv (iv ((s1.readR o.at_).2.2)) ?_
                          refine pv (.slice AP232 ((s1.readR o.at_).2.1.length) ((s1.readR o.at_).2.1.length)) ?_
                          refine pv (iv ((s1.readR o.at_).2.2)) ?_
                          refine wl_end _ rfl ?_
                          refine then_n ?_
                          refine wp_seq ?_
                          refine wp_region_lit ?_
                          refine pv (iv ((s1.readR o.at_).2.2)) ?_
                          refine wl_gv rfl (gv_eq (x := ((s1.readR o.at_).2.2)) (y := 0) (by kernel_rfl) (fun hb233 => ?_) (fun hb233 => ?_))
                          · skip
                            have hq := readR_ok hb233
                            exfalso; omega
                          · skip
                            have hq := readR_no (show _ ≠ (0 : Int) from hb233)
                            refine pv fv ?_
                            refine pv fv ?_
                            refine wl_not (by kernel_rfl) ?_
                            refine wl_not (by kernel_rfl) ?_
                            refine pv fv ?_
                            refine pv fv ?_
                            refine pv fv ?_
                            refine wl_when (by kernel_rfl) (gv_val (v := .int .i64 ((s1.readR o.at_).2.2)) (w' := w230) (by kernel_rfl) ?_)
                            refine wl_when (by kernel_rfl) (gv_ne (x := ((s1.readR o.at_).2.2)) (y := 0) (by kernel_rfl) (fun hb234 => ?_) (fun hb234 => ?_))
                            · skip
                              refine wl_when (by kernel_rfl) (gv_val (v := .bool true) (w' := w230) (by kernel_rfl) ?_)
                              refine wl_when (by kernel_rfl) (gv_val (v := .slice AP232 ((s1.readR o.at_).2.1.length) ((s1.readR o.at_).2.1.length)) (w' := w230) (by kernel_rfl) ?_)
                              refine wl_when (by kernel_rfl) (gv_val (v := .int .i64 ((s1.readR o.at_).2.1.length : Nat)) (w' := w230) (by kernel_rfl) ?_)
                              refine wl_when (by kernel_rfl) (gv_ne (x := ((s1.readR o.at_).2.1.length : Nat)) (y := 0) (by kernel_rfl) (fun hd235 => False.elim (hd235 (by rw [hq.1]; rfl))) (fun _ => ?_))
                              refine wl_when (by kernel_rfl) (gv_val (v := .bool false) (w' := w230) (by kernel_rfl) ?_)
                              refine pv fv ?_
                              refine pv fv ?_
                              refine wl_when (by kernel_rfl) (gv_val (v := .int .i64 (n - ((dn : Nat) : Int))) (w' := w230) (by kernel_rfl) ?_)
                              refine wl_when (by kernel_rfl) (gv_dec (p := (n - ((dn : Nat) : Int) : Int) ≤ 0) (by kernel_rfl) (fun hd236 => False.elim (by omega)) (fun _ => ?_))
                              refine wl_when (by kernel_rfl) (gv_val (v := .bool false) (w' := w230) (by kernel_rfl) ?_)
                              refine wl_not (by kernel_rfl) ?_
                              refine wl_not (by kernel_rfl) ?_
                              refine wl_when (by kernel_rfl) (gv_val (v := .bool false) (w' := w230) (by kernel_rfl) ?_)
                              refine pv fv ?_
                              refine wl_end (fr ([iv k, iv n, .slice A3 ops.length c3, ud, ud, ud, J 6, pq gd, tv, iv ((dn : Nat) : Int), iv ((i : Nat) : Int), pq g13, iv (n - ((dn : Nat) : Int)), fv, J 14, J 15, J 16, .slice AP232 ((s1.readR o.at_).2.1.length) ((s1.readR o.at_).2.1.length), iv ((s1.readR o.at_).2.2), ud, iv n, fv, fv, iv k, fv, fv, fv, iv k, fv, fv, .tuple #[pq gd, tv], iv k, .tuple #[pq gd, tv], pq gd, tv, tv, fv, fv, pq gd, fv, fv, pq gd, iv n, .tuple #[], iv ((i : Nat) : Int), .slice A3 ops.length c3, iv (ops.length : Nat), tv, J 48, J 49, .slice A3 ops.length c3, iv ((i : Nat) : Int), .pointer (some (ad.add (i * 4))), .agg #[iv o.kind, iv o.at_, .slice o.A o.d.length o.cd, .slice o.A2 o.ps.length o.cp], pq g13, iv o.kind, fv, fv, pq g13, iv o.kind, fv, fv, iv n, iv ((dn : Nat) : Int), iv (n - ((dn : Nat) : Int)), pq gd, fv, iv (n - ((dn : Nat) : Int)), fv, fv, po g13 1, iv o.at_, tv, tv, po g13 1, iv o.at_, iv k, fv, fv, pq g13, iv o.kind, J 81, J 82, J 83, fv, fv] ++ jr J 86 34 ++ [fv, fv] ++ jr J 122 11 ++ [tv, tv, .tuple #[.slice AP232 ((s1.readR o.at_).2.1.length) ((s1.readR o.at_).2.1.length), iv ((s1.readR o.at_).2.2)], pq gd, po g13 1, iv o.at_, .tuple #[.slice AP232 ((s1.readR o.at_).2.1.length) ((s1.readR o.at_).2.1.length), iv ((s1.readR o.at_).2.2)], .slice AP232 ((s1.readR o.at_).2.1.length) ((s1.readR o.at_).2.1.length), iv ((s1.readR o.at_).2.2), iv ((s1.readR o.at_).2.2), fv, fv, fv, ud, ud, fv, fv, fv, iv ((s1.readR o.at_).2.2), tv, tv, .slice AP232 ((s1.readR o.at_).2.1.length) ((s1.readR o.at_).2.1.length), iv ((s1.readR o.at_).2.1.length : Nat), fv, fv, fv, fv, iv (n - ((dn : Nat) : Int)), fv, fv, ud, ud, fv, fv]) 11) (by kernel_rfl) ?_
                              refine then_n ?_
                              refine wp_cond_false (by kernel_rfl) ?_
                              refine wp_skip ?_
                              refine inb_n ?_
                              refine inb_n ?_
                              refine then_n ?_
                              refine wp_region_lit ?_
                              refine pv (iv ((i : Nat) : Int)) ?_
                              refine wl_gv rfl (gv_int (k := .i64) (z := IntKind.i64.wrap (((i : Nat) : Int) + 1)) (z' := ((i + 1 : Nat) : Int)) (by kernel_rfl) (wr_eq (by omega) (by omega) (by omega)) ?_)
                              refine pv (iv ((i + 1 : Nat) : Int)) ?_
                              have S237 : St none' w w230 [PDisk gd (s1.readR o.at_).1] := St.permT [bytesA (.slice AP232 ((s1.readR o.at_).2.1.length) ((s1.readR o.at_).2.1.length)) (s1.readR o.at_).2.1, PDisk gd (s1.readR o.at_).1, row g13 #[.int .i64 o.kind, .int .i64 o.at_, .slice o.A o.d.length o.cd, .slice o.A2 o.ps.length o.cp] 49] [1] (by decide) rfl S231'
                              have hpb : ((s1.readR o.at_).1).pend.length ≤ i + 1 := (by rw [(readR_same s1 _).2.1]; omega)
                              have hlf : ((s1.readR o.at_).1).left = n - (((dn : Nat) : Nat) : Int) := by rw [(readR_same s1 _).2.2]; exact hlI
                              have hdn : (((dn : Nat) : Nat) : Int) ≤ n := hdI
                              have hln : (((s1.readR o.at_).1).last.length : Int) = k := by rw [(readR_same s1 _).1]; exact hmI
                              refine wl_end _ rfl ?_
                              refine then_n ?_
                              exact ⟨(i + 1, (s1.readR o.at_).1, dn), ⟨(jl [ud, ud, ud, ud, ud, ud, J 6, ud, ud, ud, ud, pq g13, iv (n - ((dn : Nat) : Int)), fv, J 14, J 15, J 16, .slice AP232 ((s1.readR o.at_).2.1.length) ((s1.readR o.at_).2.1.length), iv ((s1.readR o.at_).2.2), ud, ud, ud, ud, ud, ud, ud, ud, ud, ud, ud, ud, ud, ud, ud, ud, ud, ud, ud, ud, ud, ud, ud, ud, ud, iv ((i : Nat) : Int), .slice A3 ops.length c3, iv (ops.length : Nat), tv, iv ((i : Nat) : Int), iv ((i + 1 : Nat) : Int), .slice A3 ops.length c3, iv ((i : Nat) : Int), .pointer (some (ad.add (i * 4))), .agg #[iv o.kind, iv o.at_, .slice o.A o.d.length o.cd, .slice o.A2 o.ps.length o.cp], pq g13, iv o.kind, fv, fv, pq g13, iv o.kind, fv, fv, iv n, iv ((dn : Nat) : Int), iv (n - ((dn : Nat) : Int)), pq gd, fv, iv (n - ((dn : Nat) : Int)), fv, fv, po g13 1, iv o.at_, tv, tv, po g13 1, iv o.at_, iv k, fv, fv, pq g13, iv o.kind, J 81, J 82, J 83, fv, fv, J 86, J 87, J 88, J 89, J 90, J 91, J 92, J 93, J 94, J 95, J 96, J 97, J 98, J 99, J 100, J 101, J 102, J 103, J 104, J 105, J 106, J 107, J 108, J 109, J 110, J 111, J 112, J 113, J 114, J 115, J 116, J 117, J 118, J 119, fv, fv, J 122, J 123, J 124, J 125, J 126, J 127, J 128, J 129, J 130, J 131, J 132, tv, tv, .tuple #[.slice AP232 ((s1.readR o.at_).2.1.length) ((s1.readR o.at_).2.1.length), iv ((s1.readR o.at_).2.2)], pq gd, po g13 1, iv o.at_, .tuple #[.slice AP232 ((s1.readR o.at_).2.1.length) ((s1.readR o.at_).2.1.length), iv ((s1.readR o.at_).2.2)], .slice AP232 ((s1.readR o.at_).2.1.length) ((s1.readR o.at_).2.1.length), iv ((s1.readR o.at_).2.2), iv ((s1.readR o.at_).2.2), fv, fv, fv, ud, ud, fv, fv, fv, iv ((s1.readR o.at_).2.2), tv, tv, .slice AP232 ((s1.readR o.at_).2.1.length) ((s1.readR o.at_).2.1.length), iv ((s1.readR o.at_).2.1.length : Nat), fv, fv, fv, fv, iv (n - ((dn : Nat) : Int)), fv, fv, ud, ud, fv, fv]), by kernel_rfl, S237, ⟨by omega, hpb, hlf, hdn, hln⟩⟩, (by show ops.length - (i + 1) < ops.length - i; omega)⟩
                            · skip
                              exfalso; omega
                        · skip
                          refine pv fv ?_
                          refine wl_end _ rfl ?_
                          refine then_n ?_
                          refine wp_cond_false (by kernel_rfl) ?_
                          refine wp_region_lit ?_
                          refine pv (pq gd) ?_
                          refine wl_gv rfl (gv_ldA (k := 0) (n := 4) (vs := [.int .i64 o.kind, .int .i64 o.at_, .slice o.A o.d.length o.cd, .slice o.A2 o.ps.length o.cp]) S18 0 rfl rfl (by kernel_rfl) (by kernel_rfl) rfl rfl ?_)
                          refine wl_gv rfl (gv_call (args := #[.pointer (some ⟨gd, 0, none⟩), .agg #[.int .i64 o.kind, .int .i64 o.at_, .slice o.A o.d.length o.cd, .slice o.A2 o.ps.length o.cp]]) rfl Try.func38 (by kernel_rfl) rfl rfl (by kernel_rfl) ?_)
                          have S238 : St none' w w17 [PDisk gd s1, row g13 #[.int .i64 o.kind, .int .i64 o.at_, .slice o.A o.d.length o.cd, .slice o.A2 o.ps.length o.cp] 49] := St.permT [row g13 #[.int .i64 o.kind, .int .i64 o.at_, .slice o.A o.d.length o.cd, .slice o.A2 o.ps.length o.cp] 49, PDisk gd s1] [1, 0] (by decide) rfl S18
                          refine Calls.mono (act_all S238 (Ro.of_C hk.d (fun _ h => h)).T (RoV.of_rd hk.p _) hk.hat hk.dm hk.pm (by have := hpI; omega)) ?_
                          rintro _ w239 ⟨rfl, S240⟩
                          refine ⟨_, rfl, ?_⟩
                          refine wl_end _ rfl ?_
                          refine inb_n ?_
                          refine inb_n ?_
                          refine then_n ?_
                          refine wp_region_lit ?_
                          refine pv (iv ((i : Nat) : Int)) ?_
                          refine wl_gv rfl (gv_int (k := .i64) (z := IntKind.i64.wrap (((i : Nat) : Int) + 1)) (z' := ((i + 1 : Nat) : Int)) (by kernel_rfl) (wr_eq (by omega) (by omega) (by omega)) ?_)
                          refine pv (iv ((i + 1 : Nat) : Int)) ?_
                          have S241 : St none' w w239 [PDisk gd (s1.actR o.kind o.at_ o.d o.ps)] := St.permT [PDisk gd (s1.actR o.kind o.at_ o.d o.ps), row g13 #[.int .i64 o.kind, .int .i64 o.at_, .slice o.A o.d.length o.cd, .slice o.A2 o.ps.length o.cp] 49] [0] (by decide) rfl S240
                          have hac := act_left (s := s1) (a := o.at_) (d := o.d) (ps := o.ps) k2 k3 k4 k6
                          have hpb : (s1.actR o.kind o.at_ o.d o.ps).pend.length ≤ i + 1 := (Nat.le_trans (actR_pend s1 o.kind o.at_ o.d o.ps) (by omega))
                          have hlf : (s1.actR o.kind o.at_ o.d o.ps).left = n - (((dn : Nat) : Nat) : Int) := by rw [hac.1]; exact hlI
                          have hdn : (((dn : Nat) : Nat) : Int) ≤ n := hdI
                          have hln : ((s1.actR o.kind o.at_ o.d o.ps).last.length : Int) = k := by rw [hac.2.1]; exact hmI
                          refine wl_end _ rfl ?_
                          refine then_n ?_
                          exact ⟨(i + 1, (s1.actR o.kind o.at_ o.d o.ps), dn), ⟨(jl [ud, ud, ud, ud, ud, ud, J 6, ud, ud, ud, ud, pq g13, iv (n - ((dn : Nat) : Int)), fv, J 14, J 15, J 16, J 17, J 18, ud, ud, ud, ud, ud, ud, ud, ud, ud, ud, ud, ud, ud, ud, ud, ud, ud, ud, ud, ud, ud, ud, ud, ud, ud, iv ((i : Nat) : Int), .slice A3 ops.length c3, iv (ops.length : Nat), tv, iv ((i : Nat) : Int), iv ((i + 1 : Nat) : Int), .slice A3 ops.length c3, iv ((i : Nat) : Int), .pointer (some (ad.add (i * 4))), .agg #[iv o.kind, iv o.at_, .slice o.A o.d.length o.cd, .slice o.A2 o.ps.length o.cp], pq g13, iv o.kind, fv, fv, pq g13, iv o.kind, fv, fv, iv n, iv ((dn : Nat) : Int), iv (n - ((dn : Nat) : Int)), pq gd, fv, iv (n - ((dn : Nat) : Int)), fv, fv, po g13 1, iv o.at_, tv, tv, po g13 1, iv o.at_, iv k, fv, fv, pq g13, iv o.kind, pq gd, .agg #[iv o.kind, iv o.at_, .slice o.A o.d.length o.cd, .slice o.A2 o.ps.length o.cp], .tuple #[], fv, fv, J 86, J 87, J 88, J 89, J 90, J 91, J 92, J 93, J 94, J 95, J 96, J 97, J 98, J 99, J 100, J 101, J 102, J 103, J 104, J 105, J 106, J 107, J 108, J 109, J 110, J 111, J 112, J 113, J 114, J 115, J 116, J 117, J 118, J 119, fv, fv, J 122, J 123, J 124, J 125, J 126, J 127, J 128, J 129, J 130, J 131, J 132, fv, fv, J 135, J 136, J 137, J 138, J 139, J 140, J 141, J 142, J 143, J 144, J 145, J 146, J 147, J 148, J 149, J 150, J 151, J 152, J 153, J 154, J 155, J 156, J 157, J 158, J 159, J 160, J 161, J 162, J 163, J 164, J 165, J 166]), by kernel_rfl, S241, ⟨by omega, hpb, hlf, hdn, hln⟩⟩, (by show ops.length - (i + 1) < ops.length - i; omega)⟩
                · skip
                  refine pv fv ?_
                  refine wl_not (by kernel_rfl) ?_
                  refine wl_not (by kernel_rfl) ?_
                  refine wl_not (by kernel_rfl) ?_
                  refine wl_not (by kernel_rfl) ?_
                  refine pv fv ?_
                  refine pv fv ?_
                  refine wl_end _ rfl ?_
                  refine then_n ?_
                  refine wp_seq ?_
                  refine wp_region_lit ?_
                  refine pv (pq g13) ?_
                  refine wl_gv rfl (gv_ldR (v := .int .i64 o.kind) rfl (by kernel_rfl) (by kernel_rfl) (((S18.blk 0 rfl).cell 0).trans rfl) ?_)
                  refine wl_end _ rfl ?_
                  refine then_n ?_
                  refine wp_block ?_
                  refine wp_seq ?_
                  refine wp_region_lit ?_
                  refine wl_gv rfl (gv_eq (x := o.kind) (y := 2) (by kernel_rfl) (fun k2 => ?_) (fun k2 => ?_))
                  · skip
                    refine pv tv ?_
                    refine wl_end _ rfl ?_
                    refine then_n ?_
                    refine wp_cond_true (by kernel_rfl) ?_
                    refine wp_seq ?_
                    refine wp_region_phu (γ := Nat) 7 [5, 6] (fun (c6_ : Nat) (i_ : Nat) => (match i_ with | 0 => .pointer (some ⟨gd, 0, none⟩) | 1 => .pointer (some ⟨g13, 1, none⟩) | 2 => .int .i64 o.at_ | 3 => .pointer (some ⟨g13, 2, none⟩) | 4 => .slice o.A o.d.length o.cd | 5 => .slice (some ⟨c6_, 0, none⟩) o.d.length o.d.length | 6 => .int .i64 ((s1.writeR o.at_ o.d).2) | _ => undef : Value)) (fun (c6_ : Nat) (p_ : Nat) (w_ : World) => (match p_ with | 0 => St none' w w_ [row g13 #[.int .i64 o.kind, .int .i64 o.at_, .slice o.A o.d.length o.cd, .slice o.A2 o.ps.length o.cp] 49, PDisk gd s1] | 1 => St none' w w_ [row c6_ (bvs o.d) 5, row g13 #[.int .i64 o.kind, .int .i64 o.at_, .slice o.A o.d.length o.cd, .slice o.A2 o.ps.length o.cp] 49, PDisk gd s1] | _ => St none' w w_ [PDisk gd (s1.writeR o.at_ o.d).1, row c6_ (bvs o.d) 5, row g13 #[.int .i64 o.kind, .int .i64 o.at_, .slice o.A o.d.length o.cd, .slice o.A2 o.ps.length o.cp] 49] : Prop)) (0) (by kernel_rfl) (by kernel_rfl) (by kernel_rfl) (by kernel_rfl) (S18.drew) ?_ ?_ ?_
                    · intro i_ c6_ p_ vals_ w1 hi_ hiE_ hp_ hk_ hu_ hPh_ hd_
                      rcases i_ with _ | _ | _ | _ | _ | _ | _ | i_
                      · skip
                        refine told_free rfl rfl (gv_env ((⟨Array.replicate 178 undef, []⟩ : Act).put (some 7) (.pointer (some ⟨gd, 0, none⟩))) (by kernel_rfl) (xs := [.tmp 7]) (by kernel_rfl) (alike_cons (fill_past (by kernel_rfl) (by kernel_rfl)) alike_nil) (gv_val (v := .pointer (some ⟨gd, 0, none⟩)) (w' := w1) (by kernel_rfl) ?_))
                        exact ⟨rfl, rfl⟩
                      · skip
                        refine told_free rfl rfl (gv_env ((⟨Array.replicate 178 undef, []⟩ : Act).put (some 11) (.pointer (some ⟨g13, 0, none⟩))) (by kernel_rfl) (xs := [.tmp 11]) (by kernel_rfl) (alike_cons (fill_past (by kernel_rfl) (by kernel_rfl)) alike_nil) (gv_val (v := .pointer (some ⟨g13, 1, none⟩)) (w' := w1) (by kernel_rfl) ?_))
                        exact ⟨rfl, rfl⟩
                      · skip
                        rcases p_ with _ | _ | _ | p_
                        · skip
                          have S244 : St none' w w1 [row g13 #[.int .i64 o.kind, .int .i64 o.at_, .slice o.A o.d.length o.cd, .slice o.A2 o.ps.length o.cp] 49, PDisk gd s1] := hPh_
                          refine told_free rfl rfl (gv_env ((⟨Array.replicate 178 undef, []⟩ : Act).put (some 87) (.pointer (some ⟨g13, 1, none⟩))) (by kernel_rfl) (xs := [.tmp 87]) (by kernel_rfl) (alike_cons (fill_at (k := 1) (by kernel_rfl) (by kernel_rfl) ((hd_ 1 (by kernel_rfl)).trans (by kernel_rfl))) alike_nil) (gv_ldR (v := .int .i64 o.at_) rfl (by kernel_rfl) (by kernel_rfl) (((S244.blk 0 rfl).cell 1).trans rfl) ?_))
                          exact ⟨rfl, rfl⟩
                        · skip
                          have S245 : St none' w w1 [row c6_ (bvs o.d) 5, row g13 #[.int .i64 o.kind, .int .i64 o.at_, .slice o.A o.d.length o.cd, .slice o.A2 o.ps.length o.cp] 49, PDisk gd s1] := hPh_
                          refine told_free rfl rfl (gv_env ((⟨Array.replicate 178 undef, []⟩ : Act).put (some 87) (.pointer (some ⟨g13, 1, none⟩))) (by kernel_rfl) (xs := [.tmp 87]) (by kernel_rfl) (alike_cons (fill_at (k := 1) (by kernel_rfl) (by kernel_rfl) ((hd_ 1 (by kernel_rfl)).trans (by kernel_rfl))) alike_nil) (gv_ldR (v := .int .i64 o.at_) rfl (by kernel_rfl) (by kernel_rfl) (((S245.blk 1 rfl).cell 1).trans rfl) ?_))
                          exact ⟨rfl, rfl⟩
                        · skip
                          exact absurd (hu_ 1 (by decide) (by kernel_rfl)) (by decide)
                        · exact absurd hp_ (by simp)
                      · skip
                        refine told_free rfl rfl (gv_env ((⟨Array.replicate 178 undef, []⟩ : Act).put (some 11) (.pointer (some ⟨g13, 0, none⟩))) (by kernel_rfl) (xs := [.tmp 11]) (by kernel_rfl) (alike_cons (fill_past (by kernel_rfl) (by kernel_rfl)) alike_nil) (gv_val (v := .pointer (some ⟨g13, 2, none⟩)) (w' := w1) (by kernel_rfl) ?_))
                        exact ⟨rfl, rfl⟩
                      · skip
                        rcases p_ with _ | _ | _ | p_
                        · skip
                          have S247 : St none' w w1 [row g13 #[.int .i64 o.kind, .int .i64 o.at_, .slice o.A o.d.length o.cd, .slice o.A2 o.ps.length o.cp] 49, PDisk gd s1] := hPh_
                          refine told_free rfl rfl (gv_env ((⟨Array.replicate 178 undef, []⟩ : Act).put (some 89) (.pointer (some ⟨g13, 2, none⟩))) (by kernel_rfl) (xs := [.tmp 89]) (by kernel_rfl) (alike_cons (fill_at (k := 3) (by kernel_rfl) (by kernel_rfl) ((hd_ 3 (by kernel_rfl)).trans (by kernel_rfl))) alike_nil) (gv_ldR (v := .slice o.A o.d.length o.cd) rfl (by kernel_rfl) (by kernel_rfl) (((S247.blk 0 rfl).cell 2).trans rfl) ?_))
                          exact ⟨rfl, rfl⟩
                        · skip
                          exact absurd (hu_ 0 (by decide) (by kernel_rfl)) (by decide)
                        · skip
                          exact absurd (hu_ 0 (by decide) (by kernel_rfl)) (by decide)
                        · exact absurd hp_ (by simp)
                      · skip
                        exact absurd hiE_ (by decide)
                      · skip
                        exact absurd hiE_ (by decide)
                      · exact absurd hi_ (by omega)
                    · intro k_ c6_ vals_ w1 hk_ hPh_ hd_
                      rcases k_ with _ | _ | k_
                      · skip
                        have S248 : St none' w w1 [row g13 #[.int .i64 o.kind, .int .i64 o.at_, .slice o.A o.d.length o.cd, .slice o.A2 o.ps.length o.cp] 49, PDisk gd s1] := hPh_
                        refine told_free rfl rfl (gv_env ((⟨Array.replicate 178 undef, []⟩ : Act).put (some 90) (.slice o.A o.d.length o.cd)) (by kernel_rfl) (xs := [.func 27, .tmp 90]) (by kernel_rfl) (alike_cons eval_fn (alike_cons (fill_at (k := 4) (by kernel_rfl) (by kernel_rfl) ((hd_ 4 (by kernel_rfl)).trans (by kernel_rfl))) alike_nil)) (gv_call (args := #[.slice o.A o.d.length o.cd]) rfl Try.func27 (by kernel_rfl) rfl rfl (by kernel_rfl) ?_))
                        refine Calls.mono (ltwinS (l := o.d) S248 (Ro.of_C hk.d (fun _ h => h)).T hk.dm) ?_
                        rintro _ w250 ⟨g249, rfl, S251⟩
                        refine ⟨_, rfl, ?_⟩
                        refine ⟨(g249), rfl, ?_, S251⟩
                        intro i_ hi_ hne_ hdp_
                        rcases i_ with _ | _ | _ | _ | _ | _ | _ | i_
                        · rfl
                        · rfl
                        · rfl
                        · rfl
                        · rfl
                        · exact absurd rfl hne_
                        · exact (dep_no hdp_ (by kernel_rfl)).elim
                        · exact absurd hi_ (by omega)
                      · skip
                        have S252 : St none' w w1 [row c6_ (bvs o.d) 5, row g13 #[.int .i64 o.kind, .int .i64 o.at_, .slice o.A o.d.length o.cd, .slice o.A2 o.ps.length o.cp] 49, PDisk gd s1] := hPh_
                        refine told_free rfl rfl (gv_env ((((⟨Array.replicate 178 undef, []⟩ : Act).put (some 86) (.pointer (some ⟨gd, 0, none⟩))).put (some 88) (.int .i64 o.at_)).put (some 91) (.slice (some ⟨c6_, 0, none⟩) o.d.length o.d.length)) (by kernel_rfl) (xs := [.func 35, .tmp 86, .tmp 88, .tmp 91]) (by kernel_rfl) (alike_cons eval_fn (alike_cons (fill_at (k := 0) (by kernel_rfl) (by kernel_rfl) ((hd_ 0 (by kernel_rfl)).trans (by kernel_rfl))) (alike_cons (fill_at (k := 2) (by kernel_rfl) (by kernel_rfl) ((hd_ 2 (by kernel_rfl)).trans (by kernel_rfl))) (alike_cons (fill_at (k := 5) (by kernel_rfl) (by kernel_rfl) ((hd_ 5 (by kernel_rfl)).trans (by kernel_rfl))) alike_nil)))) (gv_call (args := #[.pointer (some ⟨gd, 0, none⟩), .int .i64 o.at_, .slice (some ⟨c6_, 0, none⟩) o.d.length o.d.length]) rfl Try.func35 (by kernel_rfl) rfl rfl (by kernel_rfl) ?_))
                        have S253 : St none' w w1 [PDisk gd s1, row c6_ (bvs o.d) 5, row g13 #[.int .i64 o.kind, .int .i64 o.at_, .slice o.A o.d.length o.cd, .slice o.A2 o.ps.length o.cp] 49] := St.permT [row c6_ (bvs o.d) 5, row g13 #[.int .i64 o.kind, .int .i64 o.at_, .slice o.A o.d.length o.cd, .slice o.A2 o.ps.length o.cp] 49, PDisk gd s1] [2, 0, 1] (by decide) rfl S252
                        refine Calls.mono (pd_write S253 (RoT.item 0 rfl 0 o.d.length o.d (by rw [List.drop_zero, List.take_length])) (by have := hk.dm; omega) (by have := hpI; omega)) ?_
                        rintro _ w254 ⟨rfl, S255⟩
                        refine ⟨_, rfl, ?_⟩
                        refine ⟨(c6_), rfl, ?_, S255⟩
                        intro i_ hi_ hne_ hdp_
                        rcases i_ with _ | _ | _ | _ | _ | _ | _ | i_
                        · rfl
                        · rfl
                        · rfl
                        · rfl
                        · rfl
                        · rfl
                        · exact absurd rfl hne_
                        · exact absurd hi_ (by omega)
                      · exact absurd hk_ (by simp)
                    · intro c6_ w1 hPh_
                      have S256 : St none' w w1 [PDisk gd (s1.writeR o.at_ o.d).1, row c6_ (bvs o.d) 5, row g13 #[.int .i64 o.kind, .int .i64 o.at_, .slice o.A o.d.length o.cd, .slice o.A2 o.ps.length o.cp] 49] := hPh_
                      refine wl_frame (fr ([iv k, iv n, .slice A3 ops.length c3, ud, ud, ud, J 6, pq gd, tv, iv ((dn : Nat) : Int), iv ((i : Nat) : Int), pq g13, iv (n - ((dn : Nat) : Int)), fv] ++ jr J 14 5 ++ [ud, iv n, fv, fv, iv k, fv, fv, fv, iv k, fv, fv, .tuple #[pq gd, tv], iv k, .tuple #[pq gd, tv], pq gd, tv, tv, fv, fv, pq gd, fv, fv, pq gd, iv n, .tuple #[], iv ((i : Nat) : Int), .slice A3 ops.length c3, iv (ops.length : Nat), tv, J 48, J 49, .slice A3 ops.length c3, iv ((i : Nat) : Int), .pointer (some (ad.add (i * 4))), .agg #[iv o.kind, iv o.at_, .slice o.A o.d.length o.cd, .slice o.A2 o.ps.length o.cp], pq g13, iv o.kind, fv, fv, pq g13, iv o.kind, fv, fv, iv n, iv ((dn : Nat) : Int), iv (n - ((dn : Nat) : Int)), pq gd, fv, iv (n - ((dn : Nat) : Int)), fv, fv, po g13 1, iv o.at_, fv, fv, ud, ud, ud, ud, fv, pq g13, iv o.kind, J 81, J 82, J 83, tv, tv, pq gd, po g13 1, iv o.at_, po g13 2, .slice o.A o.d.length o.cd, sl c6_ 0 o.d.length o.d.length, iv ((s1.writeR o.at_ o.d).2)] ++ jr J 93 74) 11) (by kernel_rfl) ?_
                      refine pv (iv ((s1.writeR o.at_ o.d).2)) ?_
                      refine wl_end (fr ([iv k, iv n, .slice A3 ops.length c3, ud, ud, ud, J 6, pq gd, tv, iv ((dn : Nat) : Int), iv ((i : Nat) : Int), pq g13, iv (n - ((dn : Nat) : Int)), fv, iv ((s1.writeR o.at_ o.d).2)] ++ jr J 15 4 ++ [ud, iv n, fv, fv, iv k, fv, fv, fv, iv k, fv, fv, .tuple #[pq gd, tv], iv k, .tuple #[pq gd, tv], pq gd, tv, tv, fv, fv, pq gd, fv, fv, pq gd, iv n, .tuple #[], iv ((i : Nat) : Int), .slice A3 ops.length c3, iv (ops.length : Nat), tv, J 48, J 49, .slice A3 ops.length c3, iv ((i : Nat) : Int), .pointer (some (ad.add (i * 4))), .agg #[iv o.kind, iv o.at_, .slice o.A o.d.length o.cd, .slice o.A2 o.ps.length o.cp], pq g13, iv o.kind, fv, fv, pq g13, iv o.kind, fv, fv, iv n, iv ((dn : Nat) : Int), iv (n - ((dn : Nat) : Int)), pq gd, fv, iv (n - ((dn : Nat) : Int)), fv, fv, po g13 1, iv o.at_, fv, fv, ud, ud, ud, ud, fv, pq g13, iv o.kind, J 81, J 82, J 83, tv, tv, pq gd, po g13 1, iv o.at_, po g13 2, .slice o.A o.d.length o.cd, sl c6_ 0 o.d.length o.d.length, iv ((s1.writeR o.at_ o.d).2)] ++ jr J 93 74) 11) (by kernel_rfl) ?_
                      refine then_n ?_
                      refine wp_seq ?_
                      refine wp_region_lit ?_
                      refine pv fv ?_
                      refine pv fv ?_
                      refine wl_not (by kernel_rfl) ?_
                      refine wl_not (by kernel_rfl) ?_
                      refine wl_not (by kernel_rfl) ?_
                      refine wl_not (by kernel_rfl) ?_
                      refine pv fv ?_
                      refine pv fv ?_
                      refine wl_end _ rfl ?_
                      refine then_n ?_
                      refine wp_seq ?_
                      refine wp_seq ?_
                      refine wp_region_lit ?_
                      refine pv (iv ((s1.writeR o.at_ o.d).2)) ?_
                      refine wl_gv rfl (gv_eq (x := ((s1.writeR o.at_ o.d).2)) (y := 0) (by kernel_rfl) (fun hb257 => ?_) (fun hb257 => ?_))
                      · skip
                        have hw := writeR_ok hb257
                        exfalso; omega
                      · skip
                        have hw := writeR_no (show _ ≠ (0 : Int) from hb257)
                        refine pv fv ?_
                        refine pv fv ?_
                        refine wl_not (by kernel_rfl) ?_
                        refine wl_not (by kernel_rfl) ?_
                        refine pv fv ?_
                        refine pv fv ?_
                        refine pv fv ?_
                        refine wl_when (by kernel_rfl) (gv_val (v := .int .i64 (n - ((dn : Nat) : Int))) (w' := w1) (by kernel_rfl) ?_)
                        refine wl_when (by kernel_rfl) (gv_dec (p := (n - ((dn : Nat) : Int) : Int) ≤ 0) (by kernel_rfl) (fun hd258 => False.elim (by omega)) (fun _ => ?_))
                        refine wl_when (by kernel_rfl) (gv_val (v := .bool false) (w' := w1) (by kernel_rfl) ?_)
                        refine wl_not (by kernel_rfl) ?_
                        refine wl_not (by kernel_rfl) ?_
                        refine wl_when (by kernel_rfl) (gv_val (v := .bool false) (w' := w1) (by kernel_rfl) ?_)
                        refine pv fv ?_
                        refine wl_end _ rfl ?_
                        refine then_n ?_
                        refine wp_cond_false (by kernel_rfl) ?_
                        refine wp_skip ?_
                        refine then_n ?_
                        refine wp_seq ?_
                        refine wp_region_lit ?_
                        refine pv (iv ((s1.writeR o.at_ o.d).2)) ?_
                        refine wl_gv rfl (gv_eq (x := ((s1.writeR o.at_ o.d).2)) (y := 0) (by kernel_rfl) (fun hb259 => ?_) (fun hb259 => ?_))
                        · skip
                          exfalso; omega
                        · skip
                          refine wl_end _ rfl ?_
                          refine then_n ?_
                          refine wp_cond_false (by kernel_rfl) ?_
                          refine wp_skip ?_
                          refine inb_n ?_
                          refine inb_n ?_
                          refine then_n ?_
                          refine wp_region_lit ?_
                          refine pv (iv ((i : Nat) : Int)) ?_
                          refine wl_gv rfl (gv_int (k := .i64) (z := IntKind.i64.wrap (((i : Nat) : Int) + 1)) (z' := ((i + 1 : Nat) : Int)) (by kernel_rfl) (wr_eq (by omega) (by omega) (by omega)) ?_)
                          refine pv (iv ((i + 1 : Nat) : Int)) ?_
                          have S260 : St none' w w1 [PDisk gd (s1.writeR o.at_ o.d).1] := St.permT [PDisk gd (s1.writeR o.at_ o.d).1, row c6_ (bvs o.d) 5, row g13 #[.int .i64 o.kind, .int .i64 o.at_, .slice o.A o.d.length o.cd, .slice o.A2 o.ps.length o.cp] 49] [0] (by decide) rfl S256
                          have hpb : ((s1.writeR o.at_ o.d).1).pend.length ≤ i + 1 := (Nat.le_trans (writeR_pend s1 o.at_ o.d) (by omega))
                          have hlf : ((s1.writeR o.at_ o.d).1).left = n - (((dn : Nat) : Nat) : Int) := by rw [hw.2.2.1]; exact hlI
                          have hdn : (((dn : Nat) : Nat) : Int) ≤ n := hdI
                          have hln : (((s1.writeR o.at_ o.d).1).last.length : Int) = k := by rw [hw.1]; exact hmI
                          refine wl_end _ rfl ?_
                          refine then_n ?_
                          exact ⟨(i + 1, (s1.writeR o.at_ o.d).1, dn), ⟨(jl [ud, ud, ud, ud, ud, ud, J 6, ud, ud, ud, ud, pq g13, iv (n - ((dn : Nat) : Int)), fv, iv ((s1.writeR o.at_ o.d).2), fv, J 16, J 17, J 18, ud, ud, ud, ud, ud, ud, ud, ud, ud, ud, ud, ud, ud, ud, ud, ud, ud, ud, ud, ud, ud, ud, ud, ud, ud, iv ((i : Nat) : Int), .slice A3 ops.length c3, iv (ops.length : Nat), tv, iv ((i : Nat) : Int), iv ((i + 1 : Nat) : Int), .slice A3 ops.length c3, iv ((i : Nat) : Int), .pointer (some (ad.add (i * 4))), .agg #[iv o.kind, iv o.at_, .slice o.A o.d.length o.cd, .slice o.A2 o.ps.length o.cp], pq g13, iv o.kind, fv, fv, pq g13, iv o.kind, fv, fv, iv n, iv ((dn : Nat) : Int), iv (n - ((dn : Nat) : Int)), pq gd, fv, iv (n - ((dn : Nat) : Int)), fv, fv, po g13 1, iv o.at_, fv, fv, ud, ud, ud, ud, fv, pq g13, iv o.kind, J 81, J 82, J 83, tv, tv, pq gd, po g13 1, iv o.at_, po g13 2, .slice o.A o.d.length o.cd, sl c6_ 0 o.d.length o.d.length, iv ((s1.writeR o.at_ o.d).2), fv, fv, ud, ud, ud, ud, fv, iv ((s1.writeR o.at_ o.d).2), fv, fv, fv, ud, ud, fv, fv, fv, iv (n - ((dn : Nat) : Int)), fv, fv, ud, ud, fv, fv, iv ((s1.writeR o.at_ o.d).2), fv, J 118, J 119, J 120, J 121, J 122, J 123, J 124, J 125, J 126, J 127, J 128, J 129, J 130, J 131, J 132, J 133, J 134, J 135, J 136, J 137, J 138, J 139, J 140, J 141, J 142, J 143, J 144, J 145, J 146, J 147, J 148, J 149, J 150, J 151, J 152, J 153, J 154, J 155, J 156, J 157, J 158, J 159, J 160, J 161, J 162, J 163, J 164, J 165, J 166]), by kernel_rfl, S260, ⟨by omega, hpb, hlf, hdn, hln⟩⟩, (by show ops.length - (i + 1) < ops.length - i; omega)⟩
                  · skip
                    refine pv fv ?_
                    refine wl_end _ rfl ?_
                    refine then_n ?_
                    refine wp_cond_false (by kernel_rfl) ?_
                    refine wp_seq ?_
                    refine wp_region_lit ?_
                    refine wl_gv rfl (gv_eq (x := o.kind) (y := 3) (by kernel_rfl) (fun k3 => ?_) (fun k3 => ?_))
                    · skip
                      refine pv tv ?_
                      refine wl_end _ rfl ?_
                      refine then_n ?_
                      refine wp_cond_true (by kernel_rfl) ?_
                      refine wp_seq ?_
                      refine wp_region_lit ?_
                      refine pv (pq gd) ?_
                      refine wl_gv rfl (gv_call (args := #[.pointer (some ⟨gd, 0, none⟩)]) rfl Try.func41 (by kernel_rfl) rfl rfl (by kernel_rfl) ?_)
                      have S261 : St none' w w17 [PDisk gd s1, row g13 #[.int .i64 o.kind, .int .i64 o.at_, .slice o.A o.d.length o.cd, .slice o.A2 o.ps.length o.cp] 49] := St.permT [row g13 #[.int .i64 o.kind, .int .i64 o.at_, .slice o.A o.d.length o.cd, .slice o.A2 o.ps.length o.cp] 49, PDisk gd s1] [1, 0] (by decide) rfl S18
                      refine Calls.mono (pd_flush S261) ?_
                      rintro _ w262 ⟨rfl, S263⟩
                      refine ⟨_, rfl, ?_⟩
                      refine pv (iv s1.flushR.2) ?_
                      refine wl_end _ rfl ?_
                      refine then_n ?_
                      refine wp_seq ?_
                      refine wp_seq ?_
                      refine wp_region_lit ?_
                      refine pv (iv s1.flushR.2) ?_
                      refine wl_gv rfl (gv_eq (x := s1.flushR.2) (y := 0) (by kernel_rfl) (fun hb264 => ?_) (fun hb264 => ?_))
                      · skip
                        have hw : s1.flushR = ({ s1 with last := applyP s1.last s1.pend, pend := [], fl := inc s1.fl, left := spent s1.left }, 0) := (flushR_cases s1).elim (fun q => absurd q.1 hz) (fun q => q.2)
                        refine pv (iv (n - ((dn : Nat) : Int))) ?_
                        refine wl_gv rfl (gv_dec (p := (n - ((dn : Nat) : Int) : Int) > 0) (by kernel_rfl) (fun _ => ?_) (fun hd265 => False.elim (by omega)))
                        refine pv fv ?_
                        refine wl_end _ rfl ?_
                        refine then_n ?_
                        refine wp_cond_false (by kernel_rfl) ?_
                        refine wp_skip ?_
                        refine then_n ?_
                        refine wp_seq ?_
                        refine wp_region_lit ?_
                        refine pv (iv s1.flushR.2) ?_
                        refine wl_gv rfl (gv_eq (x := s1.flushR.2) (y := 0) (by kernel_rfl) (fun hb266 => ?_) (fun hb266 => ?_))
                        · skip
                          refine wl_end _ rfl ?_
                          refine then_n ?_
                          refine wp_cond_true (by kernel_rfl) ?_
                          refine wp_region_lit ?_
                          refine pv (iv ((dn : Nat) : Int)) ?_
                          refine wl_gv rfl (gv_int (k := .i64) (z := IntKind.i64.wrap (((dn : Nat) : Int) + 1)) (z' := ((dn + 1 : Nat) : Int)) (by kernel_rfl) (wr_eq (by omega) (by omega) (by omega)) ?_)
                          refine pv (iv ((dn + 1 : Nat) : Int)) ?_
                          refine wl_end _ rfl ?_
                          refine inb_n ?_
                          refine inb_n ?_
                          refine then_n ?_
                          refine wp_region_lit ?_
                          refine pv (iv ((i : Nat) : Int)) ?_
                          refine wl_gv rfl (gv_int (k := .i64) (z := IntKind.i64.wrap (((i : Nat) : Int) + 1)) (z' := ((i + 1 : Nat) : Int)) (by kernel_rfl) (wr_eq (by omega) (by omega) (by omega)) ?_)
                          refine pv (iv ((i + 1 : Nat) : Int)) ?_
                          have S267 : St none' w w262 [PDisk gd s1.flushR.1] := St.permT [PDisk gd s1.flushR.1, row g13 #[.int .i64 o.kind, .int .i64 o.at_, .slice o.A o.d.length o.cd, .slice o.A2 o.ps.length o.cp] 49] [0] (by decide) rfl S263
                          have hpb : s1.flushR.1.pend.length ≤ i + 1 := (Nat.le_trans (flushR_pend s1) (by omega))
                          have hlf : s1.flushR.1.left = n - (((dn + 1 : Nat) : Nat) : Int) := by rw [hw]; show spent s1.left = _; rw [spent_pos (by omega)]; omega
                          have hdn : (((dn + 1 : Nat) : Nat) : Int) ≤ n := by omega
                          have hln : (s1.flushR.1.last.length : Int) = k := by rw [hw]; show ((applyP s1.last s1.pend).length : Int) = k; rw [length_applyP]; exact hmI
                          refine wl_end (fr ([iv k, iv n, .slice A3 ops.length c3, ud, ud, ud, J 6, pq gd, tv, iv ((dn + 1 : Nat) : Int), iv ((i + 1 : Nat) : Int), pq g13, iv (n - ((dn : Nat) : Int)), fv, J 14, J 15, iv s1.flushR.2, J 17, J 18, ud, iv n, fv, fv, iv k, fv, fv, fv, iv k, fv, fv, .tuple #[pq gd, tv], iv k, .tuple #[pq gd, tv], pq gd, tv, tv, fv, fv, pq gd, fv, fv, pq gd, iv n, .tuple #[], iv ((i : Nat) : Int), .slice A3 ops.length c3, iv (ops.length : Nat), tv, iv ((i : Nat) : Int), iv ((i + 1 : Nat) : Int), .slice A3 ops.length c3, iv ((i : Nat) : Int), .pointer (some (ad.add (i * 4))), .agg #[iv o.kind, iv o.at_, .slice o.A o.d.length o.cd, .slice o.A2 o.ps.length o.cp], pq g13, iv o.kind, fv, fv, pq g13, iv o.kind, fv, fv, iv n, iv ((dn : Nat) : Int), iv (n - ((dn : Nat) : Int)), pq gd, fv, iv (n - ((dn : Nat) : Int)), fv, fv, po g13 1, iv o.at_, fv, fv, ud, ud, ud, ud, fv, pq g13, iv o.kind, J 81, J 82, J 83, fv, fv] ++ jr J 86 34 ++ [tv, tv, pq gd, iv s1.flushR.2, iv s1.flushR.2, tv, iv (n - ((dn : Nat) : Int)), tv, fv, iv s1.flushR.2, tv, iv ((dn : Nat) : Int), iv ((dn + 1 : Nat) : Int)] ++ jr J 133 34) 11) (by kernel_rfl) ?_
                          refine then_n ?_
                          exact ⟨(i + 1, s1.flushR.1, dn + 1), ⟨(jl [ud, ud, ud, ud, ud, ud, J 6, ud, ud, ud, ud, pq g13, iv (n - ((dn : Nat) : Int)), fv, J 14, J 15, iv s1.flushR.2, J 17, J 18, ud, ud, ud, ud, ud, ud, ud, ud, ud, ud, ud, ud, ud, ud, ud, ud, ud, ud, ud, ud, ud, ud, ud, ud, ud, iv ((i : Nat) : Int), .slice A3 ops.length c3, iv (ops.length : Nat), tv, iv ((i : Nat) : Int), iv ((i + 1 : Nat) : Int), .slice A3 ops.length c3, iv ((i : Nat) : Int), .pointer (some (ad.add (i * 4))), .agg #[iv o.kind, iv o.at_, .slice o.A o.d.length o.cd, .slice o.A2 o.ps.length o.cp], pq g13, iv o.kind, fv, fv, pq g13, iv o.kind, fv, fv, iv n, iv ((dn : Nat) : Int), iv (n - ((dn : Nat) : Int)), pq gd, fv, iv (n - ((dn : Nat) : Int)), fv, fv, po g13 1, iv o.at_, fv, fv, ud, ud, ud, ud, fv, pq g13, iv o.kind, J 81, J 82, J 83, fv, fv, J 86, J 87, J 88, J 89, J 90, J 91, J 92, J 93, J 94, J 95, J 96, J 97, J 98, J 99, J 100, J 101, J 102, J 103, J 104, J 105, J 106, J 107, J 108, J 109, J 110, J 111, J 112, J 113, J 114, J 115, J 116, J 117, J 118, J 119, tv, tv, pq gd, iv s1.flushR.2, iv s1.flushR.2, tv, iv (n - ((dn : Nat) : Int)), tv, fv, iv s1.flushR.2, tv, iv ((dn : Nat) : Int), iv ((dn + 1 : Nat) : Int), J 133, J 134, J 135, J 136, J 137, J 138, J 139, J 140, J 141, J 142, J 143, J 144, J 145, J 146, J 147, J 148, J 149, J 150, J 151, J 152, J 153, J 154, J 155, J 156, J 157, J 158, J 159, J 160, J 161, J 162, J 163, J 164, J 165, J 166]), by kernel_rfl, S267, ⟨by omega, hpb, hlf, hdn, hln⟩⟩, (by show ops.length - (i + 1) < ops.length - i; omega)⟩
                        · skip
                          exfalso; omega
                      · skip
                        rcases flushR_cases s1 with ⟨hq, _⟩ | ⟨_, e⟩
                        · exact absurd hq hz
                        · rw [e] at hb264; exact absurd rfl hb264
                    · skip
                      refine pv fv ?_
                      refine wl_end _ rfl ?_
                      refine then_n ?_
                      refine wp_cond_false (by kernel_rfl) ?_
                      refine wp_seq ?_
                      refine wp_region_lit ?_
                      refine wl_gv rfl (gv_eq (x := o.kind) (y := 1) (by kernel_rfl) (fun k1 => ?_) (fun k1 => ?_))
                      · skip
                        refine pv tv ?_
                        refine wl_end _ rfl ?_
                        refine then_n ?_
                        refine wp_cond_true (by kernel_rfl) ?_
                        refine wp_seq ?_
                        refine wp_region_lit ?_
                        refine pv (pq gd) ?_
                        refine pv (po g13 1) ?_
                        refine wl_gv rfl (gv_ldR (v := .int .i64 o.at_) rfl (by kernel_rfl) (by kernel_rfl) (((S18.blk 0 rfl).cell 1).trans rfl) ?_)
                        refine wl_gv rfl (gv_call (args := #[.pointer (some ⟨gd, 0, none⟩), .int .i64 o.at_]) rfl Try.func29 (by kernel_rfl) rfl rfl (by kernel_rfl) ?_)
                        have S268 : St none' w w17 [PDisk gd s1, row g13 #[.int .i64 o.kind, .int .i64 o.at_, .slice o.A o.d.length o.cd, .slice o.A2 o.ps.length o.cp] 49] := St.permT [row g13 #[.int .i64 o.kind, .int .i64 o.at_, .slice o.A o.d.length o.cd, .slice o.A2 o.ps.length o.cp] 49, PDisk gd s1] [1, 0] (by decide) rfl S18
                        refine Calls.mono (pd_read S268) ?_
                        rintro _ w269 ⟨v_, rfl, S270⟩
                        obtain ⟨AP271, rfl, S270'⟩ := St.bytes_eq S270
                        refine ⟨_, rfl, ?_⟩
                        refine pv (.tuple #[.slice AP271 ((s1.readR o.at_).2.1.length) ((s1.readR o.at_).2.1.length), iv ((s1.readR o.at_).2.2)]) ?_
                        refine pv (.slice AP271 ((s1.readR o.at_).2.1.length) ((s1.readR o.at_).2.1.length)) ?_
                        refine pv (iv ((s1.readR o.at_).2.2)) ?_
                        refine pv (.slice AP271 ((s1.readR o.at_).2.1.length) ((s1.readR o.at_).2.1.length)) ?_
                        refine pv (iv ((s1.readR o.at_).2.2)) ?_
                        refine wl_end _ rfl ?_
                        refine then_n ?_
                        refine wp_seq ?_
                        refine wp_region_lit ?_
                        refine pv (iv ((s1.readR o.at_).2.2)) ?_
                        refine wl_gv rfl (gv_eq (x := ((s1.readR o.at_).2.2)) (y := 0) (by kernel_rfl) (fun hb272 => ?_) (fun hb272 => ?_))
                        · skip
                          have hq := readR_ok hb272
                          exfalso; omega
                        · skip
                          have hq := readR_no (show _ ≠ (0 : Int) from hb272)
                          refine pv fv ?_
                          refine pv fv ?_
                          refine wl_not (by kernel_rfl) ?_
                          refine wl_not (by kernel_rfl) ?_
                          refine pv fv ?_
                          refine pv fv ?_
                          refine pv fv ?_
                          refine wl_when (by kernel_rfl) (gv_val (v := .int .i64 ((s1.readR o.at_).2.2)) (w' := w269) (by kernel_rfl) ?_)
                          refine wl_when (by kernel_rfl) (gv_ne (x := ((s1.readR o.at_).2.2)) (y := 0) (by kernel_rfl) (fun hb273 => ?_) (fun hb273 => ?_))
                          · skip
                            refine wl_when (by kernel_rfl) (gv_val (v := .bool true) (w' := w269) (by kernel_rfl) ?_)
                            refine wl_when (by kernel_rfl) (gv_val (v := .slice AP271 ((s1.readR o.at_).2.1.length) ((s1.readR o.at_).2.1.length)) (w' := w269) (by kernel_rfl) ?_)
                            refine wl_when (by kernel_rfl) (gv_val (v := .int .i64 ((s1.readR o.at_).2.1.length : Nat)) (w' := w269) (by kernel_rfl) ?_)
                            refine wl_when (by kernel_rfl) (gv_ne (x := ((s1.readR o.at_).2.1.length : Nat)) (y := 0) (by kernel_rfl) (fun hd274 => False.elim (hd274 (by rw [hq.1]; rfl))) (fun _ => ?_))
                            refine wl_when (by kernel_rfl) (gv_val (v := .bool false) (w' := w269) (by kernel_rfl) ?_)
                            refine pv fv ?_
                            refine pv fv ?_
                            refine wl_when (by kernel_rfl) (gv_val (v := .int .i64 (n - ((dn : Nat) : Int))) (w' := w269) (by kernel_rfl) ?_)
                            refine wl_when (by kernel_rfl) (gv_dec (p := (n - ((dn : Nat) : Int) : Int) ≤ 0) (by kernel_rfl) (fun hd275 => False.elim (by omega)) (fun _ => ?_))
                            refine wl_when (by kernel_rfl) (gv_val (v := .bool false) (w' := w269) (by kernel_rfl) ?_)
                            refine wl_not (by kernel_rfl) ?_
                            refine wl_not (by kernel_rfl) ?_
                            refine wl_when (by kernel_rfl) (gv_val (v := .bool false) (w' := w269) (by kernel_rfl) ?_)
                            refine pv fv ?_
                            refine wl_end (fr ([iv k, iv n, .slice A3 ops.length c3, ud, ud, ud, J 6, pq gd, tv, iv ((dn : Nat) : Int), iv ((i : Nat) : Int), pq g13, iv (n - ((dn : Nat) : Int)), fv, J 14, J 15, J 16, .slice AP271 ((s1.readR o.at_).2.1.length) ((s1.readR o.at_).2.1.length), iv ((s1.readR o.at_).2.2), ud, iv n, fv, fv, iv k, fv, fv, fv, iv k, fv, fv, .tuple #[pq gd, tv], iv k, .tuple #[pq gd, tv], pq gd, tv, tv, fv, fv, pq gd, fv, fv, pq gd, iv n, .tuple #[], iv ((i : Nat) : Int), .slice A3 ops.length c3, iv (ops.length : Nat), tv, J 48, J 49, .slice A3 ops.length c3, iv ((i : Nat) : Int), .pointer (some (ad.add (i * 4))), .agg #[iv o.kind, iv o.at_, .slice o.A o.d.length o.cd, .slice o.A2 o.ps.length o.cp], pq g13, iv o.kind, fv, fv, pq g13, iv o.kind, fv, fv, iv n, iv ((dn : Nat) : Int), iv (n - ((dn : Nat) : Int)), pq gd, fv, iv (n - ((dn : Nat) : Int)), fv, fv, po g13 1, iv o.at_, fv, fv, ud, ud, ud, ud, fv, pq g13, iv o.kind, J 81, J 82, J 83, fv, fv] ++ jr J 86 34 ++ [fv, fv] ++ jr J 122 11 ++ [tv, tv, .tuple #[.slice AP271 ((s1.readR o.at_).2.1.length) ((s1.readR o.at_).2.1.length), iv ((s1.readR o.at_).2.2)], pq gd, po g13 1, iv o.at_, .tuple #[.slice AP271 ((s1.readR o.at_).2.1.length) ((s1.readR o.at_).2.1.length), iv ((s1.readR o.at_).2.2)], .slice AP271 ((s1.readR o.at_).2.1.length) ((s1.readR o.at_).2.1.length), iv ((s1.readR o.at_).2.2), iv ((s1.readR o.at_).2.2), fv, fv, fv, ud, ud, fv, fv, fv, iv ((s1.readR o.at_).2.2), tv, tv, .slice AP271 ((s1.readR o.at_).2.1.length) ((s1.readR o.at_).2.1.length), iv ((s1.readR o.at_).2.1.length : Nat), fv, fv, fv, fv, iv (n - ((dn : Nat) : Int)), fv, fv, ud, ud, fv, fv]) 11) (by kernel_rfl) ?_
                            refine then_n ?_
                            refine wp_cond_false (by kernel_rfl) ?_
                            refine wp_skip ?_
                            refine inb_n ?_
                            refine inb_n ?_
                            refine then_n ?_
                            refine wp_region_lit ?_
                            refine pv (iv ((i : Nat) : Int)) ?_
                            refine wl_gv rfl (gv_int (k := .i64) (z := IntKind.i64.wrap (((i : Nat) : Int) + 1)) (z' := ((i + 1 : Nat) : Int)) (by kernel_rfl) (wr_eq (by omega) (by omega) (by omega)) ?_)
                            refine pv (iv ((i + 1 : Nat) : Int)) ?_
                            have S276 : St none' w w269 [PDisk gd (s1.readR o.at_).1] := St.permT [bytesA (.slice AP271 ((s1.readR o.at_).2.1.length) ((s1.readR o.at_).2.1.length)) (s1.readR o.at_).2.1, PDisk gd (s1.readR o.at_).1, row g13 #[.int .i64 o.kind, .int .i64 o.at_, .slice o.A o.d.length o.cd, .slice o.A2 o.ps.length o.cp] 49] [1] (by decide) rfl S270'
                            have hpb : ((s1.readR o.at_).1).pend.length ≤ i + 1 := (by rw [(readR_same s1 _).2.1]; omega)
                            have hlf : ((s1.readR o.at_).1).left = n - (((dn : Nat) : Nat) : Int) := by rw [(readR_same s1 _).2.2]; exact hlI
                            have hdn : (((dn : Nat) : Nat) : Int) ≤ n := hdI
                            have hln : (((s1.readR o.at_).1).last.length : Int) = k := by rw [(readR_same s1 _).1]; exact hmI
                            refine wl_end _ rfl ?_
                            refine then_n ?_
                            exact ⟨(i + 1, (s1.readR o.at_).1, dn), ⟨(jl [ud, ud, ud, ud, ud, ud, J 6, ud, ud, ud, ud, pq g13, iv (n - ((dn : Nat) : Int)), fv, J 14, J 15, J 16, .slice AP271 ((s1.readR o.at_).2.1.length) ((s1.readR o.at_).2.1.length), iv ((s1.readR o.at_).2.2), ud, ud, ud, ud, ud, ud, ud, ud, ud, ud, ud, ud, ud, ud, ud, ud, ud, ud, ud, ud, ud, ud, ud, ud, ud, iv ((i : Nat) : Int), .slice A3 ops.length c3, iv (ops.length : Nat), tv, iv ((i : Nat) : Int), iv ((i + 1 : Nat) : Int), .slice A3 ops.length c3, iv ((i : Nat) : Int), .pointer (some (ad.add (i * 4))), .agg #[iv o.kind, iv o.at_, .slice o.A o.d.length o.cd, .slice o.A2 o.ps.length o.cp], pq g13, iv o.kind, fv, fv, pq g13, iv o.kind, fv, fv, iv n, iv ((dn : Nat) : Int), iv (n - ((dn : Nat) : Int)), pq gd, fv, iv (n - ((dn : Nat) : Int)), fv, fv, po g13 1, iv o.at_, fv, fv, ud, ud, ud, ud, fv, pq g13, iv o.kind, J 81, J 82, J 83, fv, fv, J 86, J 87, J 88, J 89, J 90, J 91, J 92, J 93, J 94, J 95, J 96, J 97, J 98, J 99, J 100, J 101, J 102, J 103, J 104, J 105, J 106, J 107, J 108, J 109, J 110, J 111, J 112, J 113, J 114, J 115, J 116, J 117, J 118, J 119, fv, fv, J 122, J 123, J 124, J 125, J 126, J 127, J 128, J 129, J 130, J 131, J 132, tv, tv, .tuple #[.slice AP271 ((s1.readR o.at_).2.1.length) ((s1.readR o.at_).2.1.length), iv ((s1.readR o.at_).2.2)], pq gd, po g13 1, iv o.at_, .tuple #[.slice AP271 ((s1.readR o.at_).2.1.length) ((s1.readR o.at_).2.1.length), iv ((s1.readR o.at_).2.2)], .slice AP271 ((s1.readR o.at_).2.1.length) ((s1.readR o.at_).2.1.length), iv ((s1.readR o.at_).2.2), iv ((s1.readR o.at_).2.2), fv, fv, fv, ud, ud, fv, fv, fv, iv ((s1.readR o.at_).2.2), tv, tv, .slice AP271 ((s1.readR o.at_).2.1.length) ((s1.readR o.at_).2.1.length), iv ((s1.readR o.at_).2.1.length : Nat), fv, fv, fv, fv, iv (n - ((dn : Nat) : Int)), fv, fv, ud, ud, fv, fv]), by kernel_rfl, S276, ⟨by omega, hpb, hlf, hdn, hln⟩⟩, (by show ops.length - (i + 1) < ops.length - i; omega)⟩
                          · skip
                            exfalso; omega
                      · skip
                        refine pv fv ?_
                        refine wl_end _ rfl ?_
                        refine then_n ?_
                        refine wp_cond_false (by kernel_rfl) ?_
                        refine wp_region_lit ?_
                        refine pv (pq gd) ?_
                        refine wl_gv rfl (gv_ldA (k := 0) (n := 4) (vs := [.int .i64 o.kind, .int .i64 o.at_, .slice o.A o.d.length o.cd, .slice o.A2 o.ps.length o.cp]) S18 0 rfl rfl (by kernel_rfl) (by kernel_rfl) rfl rfl ?_)
                        refine wl_gv rfl (gv_call (args := #[.pointer (some ⟨gd, 0, none⟩), .agg #[.int .i64 o.kind, .int .i64 o.at_, .slice o.A o.d.length o.cd, .slice o.A2 o.ps.length o.cp]]) rfl Try.func38 (by kernel_rfl) rfl rfl (by kernel_rfl) ?_)
                        have S277 : St none' w w17 [PDisk gd s1, row g13 #[.int .i64 o.kind, .int .i64 o.at_, .slice o.A o.d.length o.cd, .slice o.A2 o.ps.length o.cp] 49] := St.permT [row g13 #[.int .i64 o.kind, .int .i64 o.at_, .slice o.A o.d.length o.cd, .slice o.A2 o.ps.length o.cp] 49, PDisk gd s1] [1, 0] (by decide) rfl S18
                        refine Calls.mono (act_all S277 (Ro.of_C hk.d (fun _ h => h)).T (RoV.of_rd hk.p _) hk.hat hk.dm hk.pm (by have := hpI; omega)) ?_
                        rintro _ w278 ⟨rfl, S279⟩
                        refine ⟨_, rfl, ?_⟩
                        refine wl_end _ rfl ?_
                        refine inb_n ?_
                        refine inb_n ?_
                        refine then_n ?_
                        refine wp_region_lit ?_
                        refine pv (iv ((i : Nat) : Int)) ?_
                        refine wl_gv rfl (gv_int (k := .i64) (z := IntKind.i64.wrap (((i : Nat) : Int) + 1)) (z' := ((i + 1 : Nat) : Int)) (by kernel_rfl) (wr_eq (by omega) (by omega) (by omega)) ?_)
                        refine pv (iv ((i + 1 : Nat) : Int)) ?_
                        have S280 : St none' w w278 [PDisk gd (s1.actR o.kind o.at_ o.d o.ps)] := St.permT [PDisk gd (s1.actR o.kind o.at_ o.d o.ps), row g13 #[.int .i64 o.kind, .int .i64 o.at_, .slice o.A o.d.length o.cd, .slice o.A2 o.ps.length o.cp] 49] [0] (by decide) rfl S279
                        have hac := act_left (s := s1) (a := o.at_) (d := o.d) (ps := o.ps) k2 k3 k4 k6
                        have hpb : (s1.actR o.kind o.at_ o.d o.ps).pend.length ≤ i + 1 := (Nat.le_trans (actR_pend s1 o.kind o.at_ o.d o.ps) (by omega))
                        have hlf : (s1.actR o.kind o.at_ o.d o.ps).left = n - (((dn : Nat) : Nat) : Int) := by rw [hac.1]; exact hlI
                        have hdn : (((dn : Nat) : Nat) : Int) ≤ n := hdI
                        have hln : ((s1.actR o.kind o.at_ o.d o.ps).last.length : Int) = k := by rw [hac.2.1]; exact hmI
                        refine wl_end _ rfl ?_
                        refine then_n ?_
                        exact ⟨(i + 1, (s1.actR o.kind o.at_ o.d o.ps), dn), ⟨(jl [ud, ud, ud, ud, ud, ud, J 6, ud, ud, ud, ud, pq g13, iv (n - ((dn : Nat) : Int)), fv, J 14, J 15, J 16, J 17, J 18, ud, ud, ud, ud, ud, ud, ud, ud, ud, ud, ud, ud, ud, ud, ud, ud, ud, ud, ud, ud, ud, ud, ud, ud, ud, iv ((i : Nat) : Int), .slice A3 ops.length c3, iv (ops.length : Nat), tv, iv ((i : Nat) : Int), iv ((i + 1 : Nat) : Int), .slice A3 ops.length c3, iv ((i : Nat) : Int), .pointer (some (ad.add (i * 4))), .agg #[iv o.kind, iv o.at_, .slice o.A o.d.length o.cd, .slice o.A2 o.ps.length o.cp], pq g13, iv o.kind, fv, fv, pq g13, iv o.kind, fv, fv, iv n, iv ((dn : Nat) : Int), iv (n - ((dn : Nat) : Int)), pq gd, fv, iv (n - ((dn : Nat) : Int)), fv, fv, po g13 1, iv o.at_, fv, fv, ud, ud, ud, ud, fv, pq g13, iv o.kind, pq gd, .agg #[iv o.kind, iv o.at_, .slice o.A o.d.length o.cd, .slice o.A2 o.ps.length o.cp], .tuple #[], fv, fv, J 86, J 87, J 88, J 89, J 90, J 91, J 92, J 93, J 94, J 95, J 96, J 97, J 98, J 99, J 100, J 101, J 102, J 103, J 104, J 105, J 106, J 107, J 108, J 109, J 110, J 111, J 112, J 113, J 114, J 115, J 116, J 117, J 118, J 119, fv, fv, J 122, J 123, J 124, J 125, J 126, J 127, J 128, J 129, J 130, J 131, J 132, fv, fv, J 135, J 136, J 137, J 138, J 139, J 140, J 141, J 142, J 143, J 144, J 145, J 146, J 147, J 148, J 149, J 150, J 151, J 152, J 153, J 154, J 155, J 156, J 157, J 158, J 159, J 160, J 161, J 162, J 163, J 164, J 165, J 166]), by kernel_rfl, S280, ⟨by omega, hpb, hlf, hdn, hln⟩⟩, (by show ops.length - (i + 1) < ops.length - i; omega)⟩
        · skip
          refine wl_end _ rfl ?_
          refine then_n ?_
          refine wp_cond_false (by kernel_rfl) ?_
          refine wp_exit ?_
          refine then_x ?_
          refine then_x ?_
          refine inb_x ?_
          refine then_n ?_
          refine wp_seq ?_
          refine wp_region_lit ?_
          refine pv (pq gd) ?_
          refine wl_gv rfl (gv_call (args := #[.pointer (some ⟨gd, 0, none⟩), .slice none 0 0]) rfl Try.func36 (by kernel_rfl) rfl rfl (by kernel_rfl) ?_)
          refine Calls.mono (pd_crash (ps := []) S10 RoV.nil rfl (by decide)) ?_
          rintro _ w281 ⟨rfl, S282⟩
          refine ⟨_, rfl, ?_⟩
          refine wl_end _ rfl ?_
          refine then_n ?_
          refine wp_seq ?_
          refine wp_region_lit ?_
          refine pv (pq gd) ?_
          refine wl_gv rfl (gv_call (args := #[.pointer (some ⟨gd, 0, none⟩)]) rfl Try.func41 (by kernel_rfl) rfl rfl (by kernel_rfl) ?_)
          have hfe : (s1.crashR []).flushR = ({ s1.crashR [] with last := applyP (s1.crashR []).last (s1.crashR []).pend, pend := [], fl := inc (s1.crashR []).fl, left := spent (-1) }, 0) := (flushR_cases (s1.crashR [])).elim (fun q => absurd (show (-1 : Int) = 0 from q.1) (by decide)) (fun q => q.2)
          refine Calls.mono (pd_flush S282) ?_
          rintro _ w285 ⟨rfl, S286⟩
          refine ⟨_, rfl, ?_⟩
          refine pv (iv ((s1.crashR []).flushR.2)) ?_
          refine wl_end _ rfl ?_
          refine then_n ?_
          refine wp_seq ?_
          refine wp_region_lit ?_
          refine pv (iv ((s1.crashR []).flushR.2)) ?_
          refine wl_gv rfl (gv_eq (x := ((s1.crashR []).flushR.2)) (y := 0) (by kernel_rfl) (fun _ => ?_) (fun hd287 => False.elim (hd287 (by rw [hfe]))))
          refine pv tv ?_
          refine wl_when (by kernel_rfl) (gv_val (v := .pointer (some ⟨gd, 0, none⟩)) (w' := w285) (by kernel_rfl) ?_)
          refine wl_when (by kernel_rfl) (gv_call (args := #[.pointer (some ⟨gd, 0, none⟩)]) rfl Try.func22 (by kernel_rfl) rfl rfl (by kernel_rfl) ?_)
          refine Calls.mono (pd_burnt' (b := false) (by rw [hfe]; rfl) S286 0 rfl) ?_
          rintro _ _ ⟨rfl, rfl⟩
          refine ⟨_, rfl, ?_⟩
          refine wl_when (by kernel_rfl) (gv_val (v := .bool true) (w' := w285) (by kernel_rfl) ?_)
          refine pv tv ?_
          refine pv tv ?_
          refine wl_end (fr ([iv k, iv n, .slice A3 ops.length c3, ud, ud, ud, tv, pq gd, tv, iv ((dn : Nat) : Int), iv ((i : Nat) : Int)] ++ jr J 11 8 ++ [iv ((s1.crashR []).flushR.2), iv n, fv, fv, iv k, fv, fv, fv, iv k, fv, fv, .tuple #[pq gd, tv], iv k, .tuple #[pq gd, tv], pq gd, tv, tv, fv, fv, pq gd, fv, fv, pq gd, iv n, .tuple #[], iv ((i : Nat) : Int), .slice A3 ops.length c3, iv (ops.length : Nat), fv] ++ jr J 48 119 ++ [pq gd, .tuple #[], pq gd, iv ((s1.crashR []).flushR.2), iv ((s1.crashR []).flushR.2), tv, tv, pq gd, fv, tv, tv]) 0) (by kernel_rfl) ?_
          refine then_n ?_
          refine wp_ret ?_
          refine bodyPost_ret (v := .bool true) (results_t1 rfl (by kernel_rfl)) rfl ?_
          exact ⟨rfl, S286.fr.below⟩
end Go.Proofs
