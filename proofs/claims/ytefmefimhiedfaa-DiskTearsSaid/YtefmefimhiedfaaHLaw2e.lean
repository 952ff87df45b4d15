/- Spliced, begin, joined, torn of the laws. -/
import Derived.Test.YtefmefimhiedfaaHTears
open Go Go.RowKit Go.Proofs.YtefmefimhiedfaaW.PrintWords Go.Proofs.YtefmefimhiedfaaW.PrintMore
namespace Go.Proofs
open Go.Vel
set_option linter.unusedVariables false
set_option maxRecDepth 100000
set_option maxHeartbeats 4000000
attribute [local irreducible] gives wpList Code.wp

theorem spliced_all {F : Nat → Prop} {w0 w : World} {L : List Ast} {adb : Addr} {A1 : Option Addr} {b : List UInt8} {C : List Hd} {cb c1 : Nat} (S : St F w0 w L) (hb : RoT F w0 L (some adb) b) (hC : RoV F w0 L A1 (C.map Hd.val)) (hx : ∀ x ∈ C, RoT F w0 L x.A x.l) (hb5 : b.length = 512) (hx5 : ∀ x ∈ C, x.l.length = 512) (hs : Splices (C.map (·.l)) b) (hCm : C.length ≤ 4611686018427387904) :
    Calls Try.prog 74 #[.slice (some adb) b.length cb, .slice A1 C.length c1] w fun e w' => e = .returned (.bool true) ∧ St F w0 w' L := by
  refine wp_enter (fr [.slice (some adb) b.length cb, .slice A1 C.length c1] 78) Try.func74 rfl (by kernel_rfl) ?_
  refine wp_seq ?_
  refine wp_region_lit ?_
  refine pv fv ?_
  refine wl_end _ rfl ?_
  refine then_n ?_
  refine wp_seq ?_
  refine wp_region_lit ?_
  refine pv (iv 0) ?_
  refine wl_end _ rfl ?_
  refine then_n ?_
  refine wp_seq ?_
  refine wp_region_lit ?_
  refine pv (iv 0) ?_
  refine wl_end _ rfl ?_
  refine then_n ?_
  refine wp_seq ?_
  refine wp_seq ?_
  refine wp_region_lit ?_
  refine pv (iv 0) ?_
  refine wl_end _ rfl ?_
  refine then_n ?_
  refine wp_block ?_
  refine wp_loop_g (G := Nat × Nat × Nat) (fun (g_ : Nat × Nat × Nat) (a_ : Act) (w_ : World) => ∃ J : Nat → Value, a_ = (fr ([.slice (some adb) b.length cb, .slice A1 C.length c1, ud, ud, J 4, iv ((g_.2.1 : Nat) : Int), iv ((g_.2.2 : Nat) : Int), iv ((g_.1 : Nat) : Int)] ++ jr J 8 66) 6) ∧ St F w0 w_ (L) ∧ (g_.1 ≤ C.length ∧ FB b (C.map (·.l)) g_.1 g_.2.1 g_.2.2)) (fun g_ => C.length - g_.1) (0, 0, 0) ⟨(jl [ud, ud, ud, ud, fv]), by kernel_rfl, S, ⟨Nat.zero_le _, ⟨fun i c h => absurd h (Nat.not_lt_zero _), fun i c h => absurd h (Nat.not_lt_zero _), Nat.zero_le _, Nat.zero_le _⟩⟩⟩ ?_
  rintro ⟨j, f, kk⟩ a_ w1 ⟨J, rfl, S2, hI3⟩
  skip
  have S2 : St F w0 w1 (L) := S2
  have hI3 : (j ≤ C.length ∧ FB b (C.map (·.l)) j f kk) := hI3
  refine wp_seq ?_
  refine wp_seq ?_
  refine wp_region_lit ?_
  refine pv (iv ((j : Nat) : Int)) ?_
  refine pv (.slice A1 C.length c1) ?_
  refine pv (iv (C.length : Nat)) ?_
  refine wl_gv rfl (gv_dec (p := (((j : Nat) : Int) : Int) < (C.length : Nat)) (by kernel_rfl) (fun hb4 => ?_) (fun hb4 => ?_))
  · skip
    obtain ⟨hj, hFB⟩ := hI3
    have hjl : j < C.length := by omega
    obtain ⟨x, hxj⟩ : ∃ x, C[j]? = some x := ⟨_, List.getElem?_eq_getElem hjl⟩
    have hxm := List.mem_of_getElem? hxj
    have hxr := hx x hxm
    have hxl := hx5 x hxm
    obtain ⟨ad1, hAd1, hr1⟩ := hC.out _ [] S2 (by rw [List.length_map]; omega)
    obtain ⟨adx, hAx⟩ := (hxr.now S2).at (k := 0) (by omega)
    have hxr2 : RoT F w0 L (some adx) x.l := hAx ▸ hxr
    refine wl_end _ rfl ?_
    refine then_n ?_
    refine wp_cond_true (by kernel_rfl) ?_
    refine wp_skip ?_
    refine then_n ?_
    refine wp_seq ?_
    refine wp_block ?_
    refine wp_seq ?_
    refine wp_region_lit ?_
    refine pv (.slice A1 C.length c1) ?_
    refine pv (iv ((j : Nat) : Int)) ?_
    refine wl_gv rfl (gv_ixB (e := 31) (sz := 1) (n := C.length) (c := c1) (i := ((j : Nat) : Int)) (k := .i64) (ad := ad1) (ad' := (ad1.add j)) (j := j) rfl (by kernel_rfl) (by kernel_rfl) (by rw [← hAd1]; kernel_rfl) (by kernel_rfl) rfl hjl (by rw [Nat.mul_one]) ?_)
    refine wl_gv rfl (gv_ldR (v := .slice x.A x.l.length x.c) rfl (by kernel_rfl) (by kernel_rfl) (hr1 j _ (by rw [List.getElem?_map, hxj]; rfl)) ?_)
    refine pv (.slice x.A x.l.length x.c) ?_
    refine wl_end _ rfl ?_
    refine then_n ?_
    refine wp_seq ?_
    refine wp_seq ?_
    refine wp_region_lit ?_
    refine pv (.slice x.A x.l.length x.c) ?_
    refine pv (iv (x.l.length : Nat)) ?_
    refine pv (.slice (some adb) b.length cb) ?_
    refine pv (iv (b.length : Nat)) ?_
    refine wl_gv rfl (gv_ne (x := (x.l.length : Nat)) (y := (b.length : Nat)) (by kernel_rfl) (fun hd5 => False.elim (by omega)) (fun _ => ?_))
    refine wl_end _ rfl ?_
    refine then_n ?_
    refine wp_cond_false (by kernel_rfl) ?_
    refine wp_skip ?_
    refine then_n ?_
    refine wp_seq ?_
    refine wp_region_lit ?_
    refine pv (iv 0) ?_
    refine wl_end _ rfl ?_
    refine then_n ?_
    refine wp_seq ?_
    refine wp_block ?_
    refine wp_loop_g (G := Nat) (fun (g_ : Nat) (a_ : Act) (w_ : World) => ∃ J : Nat → Value, a_ = (fr ([.slice (some adb) b.length cb, .slice A1 C.length c1, ud, ud, J 4, iv ((f : Nat) : Int), iv ((kk : Nat) : Int), iv ((j : Nat) : Int), .slice x.A x.l.length x.c, iv ((g_ : Nat) : Int), J 10, iv ((j : Nat) : Int), .slice A1 C.length c1, iv (C.length : Nat), tv, J 15, J 16, .slice A1 C.length c1, iv ((j : Nat) : Int), .pointer (some (ad1.add j)), .slice x.A x.l.length x.c, .slice x.A x.l.length x.c, iv (x.l.length : Nat), .slice (some adb) b.length cb, iv (b.length : Nat), fv] ++ jr J 26 48) 6) ∧ St F w0 w_ (L) ∧ (g_ ≤ b.length ∧ b.take g_ = x.l.take g_)) (fun g_ => b.length - g_) 0 ⟨(jl [ud, ud, ud, ud, J 4, ud, ud, ud, ud, ud, J 10, ud, ud, ud, ud, J 15, J 16, ud, ud, ud, ud, ud, ud, ud, ud, ud, J 26, J 27, J 28, J 29, J 30, J 31, J 32, J 33, J 34, J 35, J 36, J 37, J 38, J 39, J 40, J 41, J 42, J 43, J 44, J 45, J 46, J 47, J 48, J 49, J 50, J 51, J 52, J 53, J 54, J 55, J 56, J 57, J 58, J 59, J 60, J 61, J 62, J 63, J 64, J 65, J 66, J 67, J 68, J 69, J 70, J 71, J 72, J 73]), by kernel_rfl, S2, ⟨Nat.zero_le _, rfl⟩⟩ ?_
    rintro i a_ w6 ⟨J, rfl, S7, hI8⟩
    skip
    have S7 : St F w0 w6 (L) := S7
    have hI8 : (i ≤ b.length ∧ b.take i = x.l.take i) := hI8
    refine wp_seq ?_
    refine wp_seq ?_
    by_cases hib : i < b.length
    · skip
      refine wp_region_phu (γ := Unit) 15 [] (fun (c_ : Unit) (i_ : Nat) => (match i_ with | 0 => .int .i64 ((i : Nat) : Int) | 1 => .slice (some adb) b.length cb | 2 => .int .i64 (b.length : Nat) | 3 => .bool true | 4 => .bool true | 5 => .slice (some adb) b.length cb | 6 => .int .i64 ((i : Nat) : Int) | 7 => .pointer (some (adb.add i)) | 8 => .int .u8 ((b.getD (i) 0).toNat : Int) | 9 => .slice x.A x.l.length x.c | 10 => .int .i64 ((i : Nat) : Int) | 11 => .pointer (some (adx.add i)) | 12 => .int .u8 ((x.l.getD (i) 0).toNat : Int) | 13 => .bool (((b.getD (i) 0).toNat : Int) == ((x.l.getD (i) 0).toNat : Int)) | 14 => .bool (((b.getD (i) 0).toNat : Int) == ((x.l.getD (i) 0).toNat : Int)) | _ => undef : Value)) (fun (c_ : Unit) (p_ : Nat) (w_ : World) => (match p_ with  | _ => St F w0 w_ (L) : Prop)) () (by kernel_rfl) (by kernel_rfl) (by kernel_rfl) (by kernel_rfl) (S7.drew) ?_ ?_ ?_
      · intro i_ c_ p_ vals_ w1 hi_ hiE_ hp_ hk_ hu_ hPh_ hd_
        rcases i_ with _ | _ | _ | _ | _ | _ | _ | _ | _ | _ | _ | _ | _ | _ | _ | i_
        · skip
          refine told_free rfl rfl (gv_env ((⟨Array.replicate 80 undef, []⟩ : Act).put (some 9) (.int .i64 ((i : Nat) : Int))) (by kernel_rfl) (xs := [.tmp 9]) (by kernel_rfl) (alike_cons (fill_past (by kernel_rfl) (by kernel_rfl)) alike_nil) (gv_val (v := .int .i64 ((i : Nat) : Int)) (w' := w1) (by kernel_rfl) ?_))
          exact ⟨rfl, rfl⟩
        · skip
          refine told_free rfl rfl (gv_env ((⟨Array.replicate 80 undef, []⟩ : Act).put (some 0) (.slice (some adb) b.length cb)) (by kernel_rfl) (xs := [.tmp 0]) (by kernel_rfl) (alike_cons (fill_past (by kernel_rfl) (by kernel_rfl)) alike_nil) (gv_val (v := .slice (some adb) b.length cb) (w' := w1) (by kernel_rfl) ?_))
          exact ⟨rfl, rfl⟩
        · skip
          refine told_free rfl rfl (gv_env ((⟨Array.replicate 80 undef, []⟩ : Act).put (some 27) (.slice (some adb) b.length cb)) (by kernel_rfl) (xs := [.tmp 27]) (by kernel_rfl) (alike_cons (fill_at (k := 1) (by kernel_rfl) (by kernel_rfl) ((hd_ 1 (by kernel_rfl)).trans (by kernel_rfl))) alike_nil) (gv_val (v := .int .i64 (b.length : Nat)) (w' := w1) (by kernel_rfl) ?_))
          exact ⟨rfl, rfl⟩
        · skip
          refine told_free rfl rfl (gv_env (((⟨Array.replicate 80 undef, []⟩ : Act).put (some 26) (.int .i64 ((i : Nat) : Int))).put (some 28) (.int .i64 (b.length : Nat))) (by kernel_rfl) (xs := [.tmp 26, .tmp 28]) (by kernel_rfl) (alike_cons (fill_at (k := 0) (by kernel_rfl) (by kernel_rfl) ((hd_ 0 (by kernel_rfl)).trans (by kernel_rfl))) (alike_cons (fill_at (k := 2) (by kernel_rfl) (by kernel_rfl) ((hd_ 2 (by kernel_rfl)).trans (by kernel_rfl))) alike_nil)) (gv_boolT (b := decide ((((i : Nat) : Int) : Int) < (b.length : Nat))) (b' := true) (by kernel_rfl) (by simp; omega) ?_))
          exact ⟨rfl, rfl⟩
        · skip
          refine told_free rfl rfl (gv_env ((⟨Array.replicate 80 undef, []⟩ : Act).put (some 29) (.bool true)) (by kernel_rfl) (xs := [.tmp 29]) (by kernel_rfl) (alike_cons (fill_at (k := 3) (by kernel_rfl) (by kernel_rfl) ((hd_ 3 (by kernel_rfl)).trans (by kernel_rfl))) alike_nil) (gv_val (v := .bool true) (w' := w1) (by kernel_rfl) ?_))
          exact ⟨rfl, rfl⟩
        · skip
          refine told_when (g := 4) (t := 30) (k := 4) (b := true) rfl rfl (by kernel_rfl) (by kernel_rfl) (by kernel_rfl) ((hd_ 4 (by kernel_rfl)).trans (by kernel_rfl)) (gv_env ((⟨Array.replicate 80 undef, []⟩ : Act).put (some 0) (.slice (some adb) b.length cb)) (by kernel_rfl) (xs := [.tmp 0]) (by kernel_rfl) (alike_cons (fill_past (by kernel_rfl) (by kernel_rfl)) alike_nil) (gv_val (v := .slice (some adb) b.length cb) (w' := w1) (by kernel_rfl) ?_))
          exact ⟨rfl, rfl⟩
        · skip
          refine told_when (g := 4) (t := 30) (k := 4) (b := true) rfl rfl (by kernel_rfl) (by kernel_rfl) (by kernel_rfl) ((hd_ 4 (by kernel_rfl)).trans (by kernel_rfl)) (gv_env ((⟨Array.replicate 80 undef, []⟩ : Act).put (some 9) (.int .i64 ((i : Nat) : Int))) (by kernel_rfl) (xs := [.tmp 9]) (by kernel_rfl) (alike_cons (fill_past (by kernel_rfl) (by kernel_rfl)) alike_nil) (gv_val (v := .int .i64 ((i : Nat) : Int)) (w' := w1) (by kernel_rfl) ?_))
          exact ⟨rfl, rfl⟩
        · skip
          refine told_when (g := 4) (t := 30) (k := 4) (b := true) rfl rfl (by kernel_rfl) (by kernel_rfl) (by kernel_rfl) ((hd_ 4 (by kernel_rfl)).trans (by kernel_rfl)) (gv_env (((⟨Array.replicate 80 undef, []⟩ : Act).put (some 31) (.slice (some adb) b.length cb)).put (some 32) (.int .i64 ((i : Nat) : Int))) (by kernel_rfl) (xs := [.tmp 31, .tmp 32]) (by kernel_rfl) (alike_cons (fill_at (k := 5) (by kernel_rfl) (by kernel_rfl) ((hd_ 5 (by kernel_rfl)).trans (by kernel_rfl))) (alike_cons (fill_at (k := 6) (by kernel_rfl) (by kernel_rfl) ((hd_ 6 (by kernel_rfl)).trans (by kernel_rfl))) alike_nil)) (gv_ixB (e := 5) (sz := 1) (n := b.length) (c := cb) (i := ((i : Nat) : Int)) (k := .i64) (ad := adb) (ad' := (adb.add i)) (j := i) rfl (by kernel_rfl) (by kernel_rfl) (by kernel_rfl) (by kernel_rfl) rfl hib (by rw [Nat.mul_one]) ?_))
          exact ⟨rfl, rfl⟩
        · skip
          have S17 : St F w0 w1 (L) := hPh_
          refine told_when (g := 4) (t := 30) (k := 4) (b := true) rfl rfl (by kernel_rfl) (by kernel_rfl) (by kernel_rfl) ((hd_ 4 (by kernel_rfl)).trans (by kernel_rfl)) (gv_env ((⟨Array.replicate 80 undef, []⟩ : Act).put (some 33) (.pointer (some (adb.add i)))) (by kernel_rfl) (xs := [.tmp 33]) (by kernel_rfl) (alike_cons (fill_at (k := 7) (by kernel_rfl) (by kernel_rfl) ((hd_ 7 (by kernel_rfl)).trans (by kernel_rfl))) alike_nil) (gv_ldR (v := .int .u8 ((b.getD (i) 0).toNat : Int)) rfl (by kernel_rfl) (by kernel_rfl) ((hb.now S17).cell hib) ?_))
          exact ⟨rfl, rfl⟩
        · skip
          refine told_when (g := 4) (t := 30) (k := 4) (b := true) rfl rfl (by kernel_rfl) (by kernel_rfl) (by kernel_rfl) ((hd_ 4 (by kernel_rfl)).trans (by kernel_rfl)) (gv_env ((⟨Array.replicate 80 undef, []⟩ : Act).put (some 8) (.slice x.A x.l.length x.c)) (by kernel_rfl) (xs := [.tmp 8]) (by kernel_rfl) (alike_cons (fill_past (by kernel_rfl) (by kernel_rfl)) alike_nil) (gv_val (v := .slice x.A x.l.length x.c) (w' := w1) (by kernel_rfl) ?_))
          exact ⟨rfl, rfl⟩
        · skip
          refine told_when (g := 4) (t := 30) (k := 4) (b := true) rfl rfl (by kernel_rfl) (by kernel_rfl) (by kernel_rfl) ((hd_ 4 (by kernel_rfl)).trans (by kernel_rfl)) (gv_env ((⟨Array.replicate 80 undef, []⟩ : Act).put (some 9) (.int .i64 ((i : Nat) : Int))) (by kernel_rfl) (xs := [.tmp 9]) (by kernel_rfl) (alike_cons (fill_past (by kernel_rfl) (by kernel_rfl)) alike_nil) (gv_val (v := .int .i64 ((i : Nat) : Int)) (w' := w1) (by kernel_rfl) ?_))
          exact ⟨rfl, rfl⟩
        · skip
          refine told_when (g := 4) (t := 30) (k := 4) (b := true) rfl rfl (by kernel_rfl) (by kernel_rfl) (by kernel_rfl) ((hd_ 4 (by kernel_rfl)).trans (by kernel_rfl)) (gv_env (((⟨Array.replicate 80 undef, []⟩ : Act).put (some 35) (.slice x.A x.l.length x.c)).put (some 36) (.int .i64 ((i : Nat) : Int))) (by kernel_rfl) (xs := [.tmp 35, .tmp 36]) (by kernel_rfl) (alike_cons (fill_at (k := 9) (by kernel_rfl) (by kernel_rfl) ((hd_ 9 (by kernel_rfl)).trans (by kernel_rfl))) (alike_cons (fill_at (k := 10) (by kernel_rfl) (by kernel_rfl) ((hd_ 10 (by kernel_rfl)).trans (by kernel_rfl))) alike_nil)) (gv_ixB (e := 5) (sz := 1) (n := x.l.length) (c := x.c) (i := ((i : Nat) : Int)) (k := .i64) (ad := adx) (ad' := (adx.add i)) (j := i) rfl (by kernel_rfl) (by kernel_rfl) (by rw [← hAx]; kernel_rfl) (by kernel_rfl) rfl (by omega) (by rw [Nat.mul_one]) ?_))
          exact ⟨rfl, rfl⟩
        · skip
          have S21 : St F w0 w1 (L) := hPh_
          refine told_when (g := 4) (t := 30) (k := 4) (b := true) rfl rfl (by kernel_rfl) (by kernel_rfl) (by kernel_rfl) ((hd_ 4 (by kernel_rfl)).trans (by kernel_rfl)) (gv_env ((⟨Array.replicate 80 undef, []⟩ : Act).put (some 37) (.pointer (some (adx.add i)))) (by kernel_rfl) (xs := [.tmp 37]) (by kernel_rfl) (alike_cons (fill_at (k := 11) (by kernel_rfl) (by kernel_rfl) ((hd_ 11 (by kernel_rfl)).trans (by kernel_rfl))) alike_nil) (gv_ldR (v := .int .u8 ((x.l.getD (i) 0).toNat : Int)) rfl (by kernel_rfl) (by kernel_rfl) ((hxr2.now S21).cell (by omega)) ?_))
          exact ⟨rfl, rfl⟩
        · skip
          refine told_when (g := 4) (t := 30) (k := 4) (b := true) rfl rfl (by kernel_rfl) (by kernel_rfl) (by kernel_rfl) ((hd_ 4 (by kernel_rfl)).trans (by kernel_rfl)) (gv_env (((⟨Array.replicate 80 undef, []⟩ : Act).put (some 34) (.int .u8 ((b.getD (i) 0).toNat : Int))).put (some 38) (.int .u8 ((x.l.getD (i) 0).toNat : Int))) (by kernel_rfl) (xs := [.tmp 34, .tmp 38]) (by kernel_rfl) (alike_cons (fill_at (k := 8) (by kernel_rfl) (by kernel_rfl) ((hd_ 8 (by kernel_rfl)).trans (by kernel_rfl))) (alike_cons (fill_at (k := 12) (by kernel_rfl) (by kernel_rfl) ((hd_ 12 (by kernel_rfl)).trans (by kernel_rfl))) alike_nil)) (gv_val (v := .bool (((b.getD (i) 0).toNat : Int) == ((x.l.getD (i) 0).toNat : Int))) (w' := w1) (by kernel_rfl) ?_))
          exact ⟨rfl, rfl⟩
        · skip
          refine told_free rfl rfl (gv_env (((⟨Array.replicate 80 undef, []⟩ : Act).put (some 30) (.bool true)).put (some 39) (.bool (((b.getD (i) 0).toNat : Int) == ((x.l.getD (i) 0).toNat : Int)))) (by kernel_rfl) (xs := [.tmp 30, .tmp 39, .const (.bool false)]) (by kernel_rfl) (alike_cons (fill_at (k := 4) (by kernel_rfl) (by kernel_rfl) ((hd_ 4 (by kernel_rfl)).trans (by kernel_rfl))) (alike_cons (fill_at (k := 13) (by kernel_rfl) (by kernel_rfl) ((hd_ 13 (by kernel_rfl)).trans (by kernel_rfl))) (alike_cons eval_c alike_nil))) (gv_val (v := .bool (((b.getD (i) 0).toNat : Int) == ((x.l.getD (i) 0).toNat : Int))) (w' := w1) (by kernel_rfl) ?_))
          exact ⟨rfl, rfl⟩
        · exact absurd hi_ (by omega)
      · intro k_ c_ vals_ w1 hk_ hPh_ hd_
        exact absurd hk_ (Nat.not_lt_zero _)
      · intro c_ w1 hPh_
        have S24 : St F w0 w1 (L) := hPh_
        refine wl_frame (fr ([.slice (some adb) b.length cb, .slice A1 C.length c1, ud, ud, J 4, iv ((f : Nat) : Int), iv ((kk : Nat) : Int), iv ((j : Nat) : Int), .slice x.A x.l.length x.c, iv ((i : Nat) : Int), J 10, iv ((j : Nat) : Int), .slice A1 C.length c1, iv (C.length : Nat), tv, J 15, J 16, .slice A1 C.length c1, iv ((j : Nat) : Int), .pointer (some (ad1.add j)), .slice x.A x.l.length x.c, .slice x.A x.l.length x.c, iv (x.l.length : Nat), .slice (some adb) b.length cb, iv (b.length : Nat), fv, iv ((i : Nat) : Int), .slice (some adb) b.length cb, iv (b.length : Nat), tv, tv, .slice (some adb) b.length cb, iv ((i : Nat) : Int), .pointer (some (adb.add i)), .int .u8 ((b.getD (i) 0).toNat : Int), .slice x.A x.l.length x.c, iv ((i : Nat) : Int), .pointer (some (adx.add i)), .int .u8 ((x.l.getD (i) 0).toNat : Int), .bool (((b.getD (i) 0).toNat : Int) == ((x.l.getD (i) 0).toNat : Int)), .bool (((b.getD (i) 0).toNat : Int) == ((x.l.getD (i) 0).toNat : Int))] ++ jr J 41 33) 6) (by kernel_rfl) ?_
        refine wl_end (fr ([.slice (some adb) b.length cb, .slice A1 C.length c1, ud, ud, J 4, iv ((f : Nat) : Int), iv ((kk : Nat) : Int), iv ((j : Nat) : Int), .slice x.A x.l.length x.c, iv ((i : Nat) : Int), J 10, iv ((j : Nat) : Int), .slice A1 C.length c1, iv (C.length : Nat), tv, J 15, J 16, .slice A1 C.length c1, iv ((j : Nat) : Int), .pointer (some (ad1.add j)), .slice x.A x.l.length x.c, .slice x.A x.l.length x.c, iv (x.l.length : Nat), .slice (some adb) b.length cb, iv (b.length : Nat), fv, iv ((i : Nat) : Int), .slice (some adb) b.length cb, iv (b.length : Nat), tv, tv, .slice (some adb) b.length cb, iv ((i : Nat) : Int), .pointer (some (adb.add i)), .int .u8 ((b.getD (i) 0).toNat : Int), .slice x.A x.l.length x.c, iv ((i : Nat) : Int), .pointer (some (adx.add i)), .int .u8 ((x.l.getD (i) 0).toNat : Int), .bool (((b.getD (i) 0).toNat : Int) == ((x.l.getD (i) 0).toNat : Int)), .bool (((b.getD (i) 0).toNat : Int) == ((x.l.getD (i) 0).toNat : Int))] ++ jr J 41 33) 6) (by kernel_rfl) ?_
        refine then_n ?_
        refine wp_cond_split (t := ((b.getD (i) 0).toNat : Int) == ((x.l.getD (i) 0).toNat : Int)) (by kernel_rfl) (fun hc25 => ?_) (fun hc25 => ?_)
        · skip
          have heqi : b.getD (i) 0 = x.l.getD (i) 0 := UInt8.toNat_inj.1 (by have h9 : ((b.getD (i) 0).toNat : Int) = ((x.l.getD (i) 0).toNat : Int) := (by simpa using hc25); omega)
          refine wp_skip ?_
          refine then_n ?_
          refine wp_block ?_
          refine wp_region_lit ?_
          refine pv (iv ((i : Nat) : Int)) ?_
          refine wl_gv rfl (gv_int (k := .i64) (z := IntKind.i64.wrap (((i : Nat) : Int) + 1)) (z' := ((i + 1 : Nat) : Int)) (by kernel_rfl) (wr_eq (by omega) (by omega) (by omega)) ?_)
          refine pv (iv ((i + 1 : Nat) : Int)) ?_
          refine wl_end _ rfl ?_
          refine inb_n ?_
          refine then_n ?_
          exact ⟨i + 1, ⟨(jl [ud, ud, ud, ud, J 4, ud, ud, ud, ud, ud, J 10, ud, ud, ud, ud, J 15, J 16, ud, ud, ud, ud, ud, ud, ud, ud, ud, iv ((i : Nat) : Int), .slice (some adb) b.length cb, iv (b.length : Nat), tv, tv, .slice (some adb) b.length cb, iv ((i : Nat) : Int), .pointer (some (adb.add i)), .int .u8 ((b.getD (i) 0).toNat : Int), .slice x.A x.l.length x.c, iv ((i : Nat) : Int), .pointer (some (adx.add i)), .int .u8 ((x.l.getD (i) 0).toNat : Int), .bool (((b.getD (i) 0).toNat : Int) == ((x.l.getD (i) 0).toNat : Int)), .bool (((b.getD (i) 0).toNat : Int) == ((x.l.getD (i) 0).toNat : Int)), iv ((i : Nat) : Int), iv ((i + 1 : Nat) : Int), J 43, J 44, J 45, J 46, J 47, J 48, J 49, J 50, J 51, J 52, J 53, J 54, J 55, J 56, J 57, J 58, J 59, J 60, J 61, J 62, J 63, J 64, J 65, J 66, J 67, J 68, J 69, J 70, J 71, J 72, J 73]), by kernel_rfl, S24, ⟨by omega, take_grow hI8.2 hib (by omega) heqi⟩⟩, (by show b.length - (i + 1) < b.length - i; omega)⟩
        · skip
          have hne : b.getD (i) 0 ≠ x.l.getD (i) 0 := fun e => absurd hc25 (by rw [e]; simp)
          have h1 : ∀ m, m ≤ b.length → b.take m = x.l.take m → m ≤ i := fun m hm e => take_stop (by omega) (by omega) hne e
          have hi5 : i ≤ b.length := hI8.1
          refine wp_exit ?_
          refine then_x ?_
          refine then_x ?_
          refine inb_x ?_
          refine then_n ?_
          refine wp_seq ?_
          refine wp_region_lit ?_
          refine pv (iv ((f : Nat) : Int)) ?_
          refine pv (iv ((i : Nat) : Int)) ?_
          refine wl_gv rfl (gv_int (k := .i64) (z := if ((i : Nat) : Int) > ((f : Nat) : Int) then ((i : Nat) : Int) else ((f : Nat) : Int)) (z' := ((max f i : Nat) : Int)) (by kernel_rfl) (by split <;> omega) ?_)
          refine pv (iv ((max f i : Nat) : Int)) ?_
          refine wl_end _ rfl ?_
          refine then_n ?_
          refine wp_seq ?_
          refine wp_region_lit ?_
          refine pv (iv 0) ?_
          refine wl_end _ rfl ?_
          refine then_n ?_
          refine wp_seq ?_
          refine wp_block ?_
          refine wp_loop_g (G := Nat) (fun (g_ : Nat) (a_ : Act) (w_ : World) => ∃ J : Nat → Value, a_ = (fr ([.slice (some adb) b.length cb, .slice A1 C.length c1, ud, ud, J 4, iv ((max f i : Nat) : Int), iv ((kk : Nat) : Int), iv ((j : Nat) : Int), .slice x.A x.l.length x.c, iv ((i : Nat) : Int), iv ((g_ : Nat) : Int), iv ((j : Nat) : Int), .slice A1 C.length c1, iv (C.length : Nat), tv, J 15, J 16, .slice A1 C.length c1, iv ((j : Nat) : Int), .pointer (some (ad1.add j)), .slice x.A x.l.length x.c, .slice x.A x.l.length x.c, iv (x.l.length : Nat), .slice (some adb) b.length cb, iv (b.length : Nat), fv, iv ((i : Nat) : Int), .slice (some adb) b.length cb, iv (b.length : Nat), tv, tv, .slice (some adb) b.length cb, iv ((i : Nat) : Int), .pointer (some (adb.add i)), .int .u8 ((b.getD (i) 0).toNat : Int), .slice x.A x.l.length x.c, iv ((i : Nat) : Int), .pointer (some (adx.add i)), .int .u8 ((x.l.getD (i) 0).toNat : Int), .bool (((b.getD (i) 0).toNat : Int) == ((x.l.getD (i) 0).toNat : Int)), .bool (((b.getD (i) 0).toNat : Int) == ((x.l.getD (i) 0).toNat : Int)), J 41, J 42, iv ((f : Nat) : Int), iv ((i : Nat) : Int), iv ((max f i : Nat) : Int)] ++ jr J 46 28) 6) ∧ St F w0 w_ (L) ∧ (g_ ≤ b.length ∧ b.drop (b.length - g_) = x.l.drop (b.length - g_))) (fun g_ => b.length - g_) 0 ⟨(jl [ud, ud, ud, ud, J 4, ud, ud, ud, ud, ud, ud, ud, ud, ud, ud, J 15, J 16, ud, ud, ud, ud, ud, ud, ud, ud, ud, ud, ud, ud, ud, ud, ud, ud, ud, ud, ud, ud, ud, ud, ud, ud, J 41, J 42, ud, ud, ud, J 46, J 47, J 48, J 49, J 50, J 51, J 52, J 53, J 54, J 55, J 56, J 57, J 58, J 59, J 60, J 61, J 62, J 63, J 64, J 65, J 66, J 67, J 68, J 69, J 70, J 71, J 72, J 73]), by kernel_rfl, S24, ⟨Nat.zero_le _, by rw [Nat.sub_zero, List.drop_of_length_le (Nat.le_refl _), List.drop_of_length_le (by omega)]⟩⟩ ?_
          rintro l a_ w26 ⟨J, rfl, S27, hI28⟩
          skip
          have S27 : St F w0 w26 (L) := S27
          have hI28 : (l ≤ b.length ∧ b.drop (b.length - l) = x.l.drop (b.length - l)) := hI28
          refine wp_seq ?_
          refine wp_seq ?_
          by_cases hlb : l < b.length
          · skip
            refine wp_region_phu (γ := Unit) 23 [] (fun (c2_ : Unit) (i_ : Nat) => (match i_ with | 0 => .int .i64 ((l : Nat) : Int) | 1 => .slice (some adb) b.length cb | 2 => .int .i64 (b.length : Nat) | 3 => .bool true | 4 => .bool true | 5 => .slice (some adb) b.length cb | 6 => .slice (some adb) b.length cb | 7 => .int .i64 (b.length : Nat) | 8 => .int .i64 ((b.length - 1 : Nat) : Int) | 9 => .int .i64 ((l : Nat) : Int) | 10 => .int .i64 ((b.length - 1 - l : Nat) : Int) | 11 => .pointer (some (adb.add (b.length - 1 - l))) | 12 => .int .u8 ((b.getD (b.length - 1 - l) 0).toNat : Int) | 13 => .slice x.A x.l.length x.c | 14 => .slice (some adb) b.length cb | 15 => .int .i64 (b.length : Nat) | 16 => .int .i64 ((b.length - 1 : Nat) : Int) | 17 => .int .i64 ((l : Nat) : Int) | 18 => .int .i64 ((b.length - 1 - l : Nat) : Int) | 19 => .pointer (some (adx.add (b.length - 1 - l))) | 20 => .int .u8 ((x.l.getD (b.length - 1 - l) 0).toNat : Int) | 21 => .bool (((b.getD (b.length - 1 - l) 0).toNat : Int) == ((x.l.getD (b.length - 1 - l) 0).toNat : Int)) | 22 => .bool (((b.getD (b.length - 1 - l) 0).toNat : Int) == ((x.l.getD (b.length - 1 - l) 0).toNat : Int)) | _ => undef : Value)) (fun (c2_ : Unit) (p_ : Nat) (w_ : World) => (match p_ with  | _ => St F w0 w_ (L) : Prop)) () (by kernel_rfl) (by kernel_rfl) (by kernel_rfl) (by kernel_rfl) (S27.drew) ?_ ?_ ?_
            · intro i_ c2_ p_ vals_ w1 hi_ hiE_ hp_ hk_ hu_ hPh_ hd_
              rcases i_ with _ | _ | _ | _ | _ | _ | _ | _ | _ | _ | _ | _ | _ | _ | _ | _ | _ | _ | _ | _ | _ | _ | _ | i_
              · skip
                refine told_free rfl rfl (gv_env ((⟨Array.replicate 80 undef, []⟩ : Act).put (some 10) (.int .i64 ((l : Nat) : Int))) (by kernel_rfl) (xs := [.tmp 10]) (by kernel_rfl) (alike_cons (fill_past (by kernel_rfl) (by kernel_rfl)) alike_nil) (gv_val (v := .int .i64 ((l : Nat) : Int)) (w' := w1) (by kernel_rfl) ?_))
                exact ⟨rfl, rfl⟩
              · skip
                refine told_free rfl rfl (gv_env ((⟨Array.replicate 80 undef, []⟩ : Act).put (some 0) (.slice (some adb) b.length cb)) (by kernel_rfl) (xs := [.tmp 0]) (by kernel_rfl) (alike_cons (fill_past (by kernel_rfl) (by kernel_rfl)) alike_nil) (gv_val (v := .slice (some adb) b.length cb) (w' := w1) (by kernel_rfl) ?_))
                exact ⟨rfl, rfl⟩
              · skip
                refine told_free rfl rfl (gv_env ((⟨Array.replicate 80 undef, []⟩ : Act).put (some 47) (.slice (some adb) b.length cb)) (by kernel_rfl) (xs := [.tmp 47]) (by kernel_rfl) (alike_cons (fill_at (k := 1) (by kernel_rfl) (by kernel_rfl) ((hd_ 1 (by kernel_rfl)).trans (by kernel_rfl))) alike_nil) (gv_val (v := .int .i64 (b.length : Nat)) (w' := w1) (by kernel_rfl) ?_))
                exact ⟨rfl, rfl⟩
              · skip
                refine told_free rfl rfl (gv_env (((⟨Array.replicate 80 undef, []⟩ : Act).put (some 46) (.int .i64 ((l : Nat) : Int))).put (some 48) (.int .i64 (b.length : Nat))) (by kernel_rfl) (xs := [.tmp 46, .tmp 48]) (by kernel_rfl) (alike_cons (fill_at (k := 0) (by kernel_rfl) (by kernel_rfl) ((hd_ 0 (by kernel_rfl)).trans (by kernel_rfl))) (alike_cons (fill_at (k := 2) (by kernel_rfl) (by kernel_rfl) ((hd_ 2 (by kernel_rfl)).trans (by kernel_rfl))) alike_nil)) (gv_boolT (b := decide ((((l : Nat) : Int) : Int) < (b.length : Nat))) (b' := true) (by kernel_rfl) (by simp; omega) ?_))
                exact ⟨rfl, rfl⟩
              · skip
                refine told_free rfl rfl (gv_env ((⟨Array.replicate 80 undef, []⟩ : Act).put (some 49) (.bool true)) (by kernel_rfl) (xs := [.tmp 49]) (by kernel_rfl) (alike_cons (fill_at (k := 3) (by kernel_rfl) (by kernel_rfl) ((hd_ 3 (by kernel_rfl)).trans (by kernel_rfl))) alike_nil) (gv_val (v := .bool true) (w' := w1) (by kernel_rfl) ?_))
                exact ⟨rfl, rfl⟩
              · skip
                refine told_when (g := 4) (t := 50) (k := 4) (b := true) rfl rfl (by kernel_rfl) (by kernel_rfl) (by kernel_rfl) ((hd_ 4 (by kernel_rfl)).trans (by kernel_rfl)) (gv_env ((⟨Array.replicate 80 undef, []⟩ : Act).put (some 0) (.slice (some adb) b.length cb)) (by kernel_rfl) (xs := [.tmp 0]) (by kernel_rfl) (alike_cons (fill_past (by kernel_rfl) (by kernel_rfl)) alike_nil) (gv_val (v := .slice (some adb) b.length cb) (w' := w1) (by kernel_rfl) ?_))
                exact ⟨rfl, rfl⟩
              · skip
                refine told_when (g := 4) (t := 50) (k := 4) (b := true) rfl rfl (by kernel_rfl) (by kernel_rfl) (by kernel_rfl) ((hd_ 4 (by kernel_rfl)).trans (by kernel_rfl)) (gv_env ((⟨Array.replicate 80 undef, []⟩ : Act).put (some 0) (.slice (some adb) b.length cb)) (by kernel_rfl) (xs := [.tmp 0]) (by kernel_rfl) (alike_cons (fill_past (by kernel_rfl) (by kernel_rfl)) alike_nil) (gv_val (v := .slice (some adb) b.length cb) (w' := w1) (by kernel_rfl) ?_))
                exact ⟨rfl, rfl⟩
              · skip
                refine told_when (g := 4) (t := 50) (k := 4) (b := true) rfl rfl (by kernel_rfl) (by kernel_rfl) (by kernel_rfl) ((hd_ 4 (by kernel_rfl)).trans (by kernel_rfl)) (gv_env ((⟨Array.replicate 80 undef, []⟩ : Act).put (some 52) (.slice (some adb) b.length cb)) (by kernel_rfl) (xs := [.tmp 52]) (by kernel_rfl) (alike_cons (fill_at (k := 6) (by kernel_rfl) (by kernel_rfl) ((hd_ 6 (by kernel_rfl)).trans (by kernel_rfl))) alike_nil) (gv_val (v := .int .i64 (b.length : Nat)) (w' := w1) (by kernel_rfl) ?_))
                exact ⟨rfl, rfl⟩
              · skip
                refine told_when (g := 4) (t := 50) (k := 4) (b := true) rfl rfl (by kernel_rfl) (by kernel_rfl) (by kernel_rfl) ((hd_ 4 (by kernel_rfl)).trans (by kernel_rfl)) (gv_env ((⟨Array.replicate 80 undef, []⟩ : Act).put (some 53) (.int .i64 (b.length : Nat))) (by kernel_rfl) (xs := [.tmp 53, .const (.int .i64 1)]) (by kernel_rfl) (alike_cons (fill_at (k := 7) (by kernel_rfl) (by kernel_rfl) ((hd_ 7 (by kernel_rfl)).trans (by kernel_rfl))) (alike_cons eval_c alike_nil)) (gv_int (k := .i64) (z := IntKind.i64.wrap ((b.length : Nat) - 1)) (z' := ((b.length - 1 : Nat) : Int)) (by kernel_rfl) (wr_eq (by omega) (by omega) (by omega)) ?_))
                exact ⟨rfl, rfl⟩
              · skip
                refine told_when (g := 4) (t := 50) (k := 4) (b := true) rfl rfl (by kernel_rfl) (by kernel_rfl) (by kernel_rfl) ((hd_ 4 (by kernel_rfl)).trans (by kernel_rfl)) (gv_env ((⟨Array.replicate 80 undef, []⟩ : Act).put (some 10) (.int .i64 ((l : Nat) : Int))) (by kernel_rfl) (xs := [.tmp 10]) (by kernel_rfl) (alike_cons (fill_past (by kernel_rfl) (by kernel_rfl)) alike_nil) (gv_val (v := .int .i64 ((l : Nat) : Int)) (w' := w1) (by kernel_rfl) ?_))
                exact ⟨rfl, rfl⟩
              · skip
                refine told_when (g := 4) (t := 50) (k := 4) (b := true) rfl rfl (by kernel_rfl) (by kernel_rfl) (by kernel_rfl) ((hd_ 4 (by kernel_rfl)).trans (by kernel_rfl)) (gv_env (((⟨Array.replicate 80 undef, []⟩ : Act).put (some 54) (.int .i64 ((b.length - 1 : Nat) : Int))).put (some 55) (.int .i64 ((l : Nat) : Int))) (by kernel_rfl) (xs := [.tmp 54, .tmp 55]) (by kernel_rfl) (alike_cons (fill_at (k := 8) (by kernel_rfl) (by kernel_rfl) ((hd_ 8 (by kernel_rfl)).trans (by kernel_rfl))) (alike_cons (fill_at (k := 9) (by kernel_rfl) (by kernel_rfl) ((hd_ 9 (by kernel_rfl)).trans (by kernel_rfl))) alike_nil)) (gv_int (k := .i64) (z := IntKind.i64.wrap (((b.length - 1 : Nat) : Int) - ((l : Nat) : Int))) (z' := ((b.length - 1 - l : Nat) : Int)) (by kernel_rfl) (wr_eq (by omega) (by omega) (by omega)) ?_))
                exact ⟨rfl, rfl⟩
              · skip
                refine told_when (g := 4) (t := 50) (k := 4) (b := true) rfl rfl (by kernel_rfl) (by kernel_rfl) (by kernel_rfl) ((hd_ 4 (by kernel_rfl)).trans (by kernel_rfl)) (gv_env (((⟨Array.replicate 80 undef, []⟩ : Act).put (some 51) (.slice (some adb) b.length cb)).put (some 56) (.int .i64 ((b.length - 1 - l : Nat) : Int))) (by kernel_rfl) (xs := [.tmp 51, .tmp 56]) (by kernel_rfl) (alike_cons (fill_at (k := 5) (by kernel_rfl) (by kernel_rfl) ((hd_ 5 (by kernel_rfl)).trans (by kernel_rfl))) (alike_cons (fill_at (k := 10) (by kernel_rfl) (by kernel_rfl) ((hd_ 10 (by kernel_rfl)).trans (by kernel_rfl))) alike_nil)) (gv_ixB (e := 5) (sz := 1) (n := b.length) (c := cb) (i := ((b.length - 1 - l : Nat) : Int)) (k := .i64) (ad := adb) (ad' := (adb.add (b.length - 1 - l))) (j := (b.length - 1 - l)) rfl (by kernel_rfl) (by kernel_rfl) (by kernel_rfl) (by kernel_rfl) rfl (by omega) (by rw [Nat.mul_one]) ?_))
                exact ⟨rfl, rfl⟩
              · skip
                have S41 : St F w0 w1 (L) := hPh_
                refine told_when (g := 4) (t := 50) (k := 4) (b := true) rfl rfl (by kernel_rfl) (by kernel_rfl) (by kernel_rfl) ((hd_ 4 (by kernel_rfl)).trans (by kernel_rfl)) (gv_env ((⟨Array.replicate 80 undef, []⟩ : Act).put (some 57) (.pointer (some (adb.add (b.length - 1 - l))))) (by kernel_rfl) (xs := [.tmp 57]) (by kernel_rfl) (alike_cons (fill_at (k := 11) (by kernel_rfl) (by kernel_rfl) ((hd_ 11 (by kernel_rfl)).trans (by kernel_rfl))) alike_nil) (gv_ldR (v := .int .u8 ((b.getD (b.length - 1 - l) 0).toNat : Int)) rfl (by kernel_rfl) (by kernel_rfl) ((hb.now S41).cell (by omega)) ?_))
                exact ⟨rfl, rfl⟩
              · skip
                refine told_when (g := 4) (t := 50) (k := 4) (b := true) rfl rfl (by kernel_rfl) (by kernel_rfl) (by kernel_rfl) ((hd_ 4 (by kernel_rfl)).trans (by kernel_rfl)) (gv_env ((⟨Array.replicate 80 undef, []⟩ : Act).put (some 8) (.slice x.A x.l.length x.c)) (by kernel_rfl) (xs := [.tmp 8]) (by kernel_rfl) (alike_cons (fill_past (by kernel_rfl) (by kernel_rfl)) alike_nil) (gv_val (v := .slice x.A x.l.length x.c) (w' := w1) (by kernel_rfl) ?_))
                exact ⟨rfl, rfl⟩
              · skip
                refine told_when (g := 4) (t := 50) (k := 4) (b := true) rfl rfl (by kernel_rfl) (by kernel_rfl) (by kernel_rfl) ((hd_ 4 (by kernel_rfl)).trans (by kernel_rfl)) (gv_env ((⟨Array.replicate 80 undef, []⟩ : Act).put (some 0) (.slice (some adb) b.length cb)) (by kernel_rfl) (xs := [.tmp 0]) (by kernel_rfl) (alike_cons (fill_past (by kernel_rfl) (by kernel_rfl)) alike_nil) (gv_val (v := .slice (some adb) b.length cb) (w' := w1) (by kernel_rfl) ?_))
                exact ⟨rfl, rfl⟩
              · skip
                refine told_when (g := 4) (t := 50) (k := 4) (b := true) rfl rfl (by kernel_rfl) (by kernel_rfl) (by kernel_rfl) ((hd_ 4 (by kernel_rfl)).trans (by kernel_rfl)) (gv_env ((⟨Array.replicate 80 undef, []⟩ : Act).put (some 60) (.slice (some adb) b.length cb)) (by kernel_rfl) (xs := [.tmp 60]) (by kernel_rfl) (alike_cons (fill_at (k := 14) (by kernel_rfl) (by kernel_rfl) ((hd_ 14 (by kernel_rfl)).trans (by kernel_rfl))) alike_nil) (gv_val (v := .int .i64 (b.length : Nat)) (w' := w1) (by kernel_rfl) ?_))
                exact ⟨rfl, rfl⟩
              · skip
                refine told_when (g := 4) (t := 50) (k := 4) (b := true) rfl rfl (by kernel_rfl) (by kernel_rfl) (by kernel_rfl) ((hd_ 4 (by kernel_rfl)).trans (by kernel_rfl)) (gv_env ((⟨Array.replicate 80 undef, []⟩ : Act).put (some 61) (.int .i64 (b.length : Nat))) (by kernel_rfl) (xs := [.tmp 61, .const (.int .i64 1)]) (by kernel_rfl) (alike_cons (fill_at (k := 15) (by kernel_rfl) (by kernel_rfl) ((hd_ 15 (by kernel_rfl)).trans (by kernel_rfl))) (alike_cons eval_c alike_nil)) (gv_int (k := .i64) (z := IntKind.i64.wrap ((b.length : Nat) - 1)) (z' := ((b.length - 1 : Nat) : Int)) (by kernel_rfl) (wr_eq (by omega) (by omega) (by omega)) ?_))
                exact ⟨rfl, rfl⟩
              · skip
                refine told_when (g := 4) (t := 50) (k := 4) (b := true) rfl rfl (by kernel_rfl) (by kernel_rfl) (by kernel_rfl) ((hd_ 4 (by kernel_rfl)).trans (by kernel_rfl)) (gv_env ((⟨Array.replicate 80 undef, []⟩ : Act).put (some 10) (.int .i64 ((l : Nat) : Int))) (by kernel_rfl) (xs := [.tmp 10]) (by kernel_rfl) (alike_cons (fill_past (by kernel_rfl) (by kernel_rfl)) alike_nil) (gv_val (v := .int .i64 ((l : Nat) : Int)) (w' := w1) (by kernel_rfl) ?_))
                exact ⟨rfl, rfl⟩
              · skip
                refine told_when (g := 4) (t := 50) (k := 4) (b := true) rfl rfl (by kernel_rfl) (by kernel_rfl) (by kernel_rfl) ((hd_ 4 (by kernel_rfl)).trans (by kernel_rfl)) (gv_env (((⟨Array.replicate 80 undef, []⟩ : Act).put (some 62) (.int .i64 ((b.length - 1 : Nat) : Int))).put (some 63) (.int .i64 ((l : Nat) : Int))) (by kernel_rfl) (xs := [.tmp 62, .tmp 63]) (by kernel_rfl) (alike_cons (fill_at (k := 16) (by kernel_rfl) (by kernel_rfl) ((hd_ 16 (by kernel_rfl)).trans (by kernel_rfl))) (alike_cons (fill_at (k := 17) (by kernel_rfl) (by kernel_rfl) ((hd_ 17 (by kernel_rfl)).trans (by kernel_rfl))) alike_nil)) (gv_int (k := .i64) (z := IntKind.i64.wrap (((b.length - 1 : Nat) : Int) - ((l : Nat) : Int))) (z' := ((b.length - 1 - l : Nat) : Int)) (by kernel_rfl) (wr_eq (by omega) (by omega) (by omega)) ?_))
                exact ⟨rfl, rfl⟩
              · skip
                refine told_when (g := 4) (t := 50) (k := 4) (b := true) rfl rfl (by kernel_rfl) (by kernel_rfl) (by kernel_rfl) ((hd_ 4 (by kernel_rfl)).trans (by kernel_rfl)) (gv_env (((⟨Array.replicate 80 undef, []⟩ : Act).put (some 59) (.slice x.A x.l.length x.c)).put (some 64) (.int .i64 ((b.length - 1 - l : Nat) : Int))) (by kernel_rfl) (xs := [.tmp 59, .tmp 64]) (by kernel_rfl) (alike_cons (fill_at (k := 13) (by kernel_rfl) (by kernel_rfl) ((hd_ 13 (by kernel_rfl)).trans (by kernel_rfl))) (alike_cons (fill_at (k := 18) (by kernel_rfl) (by kernel_rfl) ((hd_ 18 (by kernel_rfl)).trans (by kernel_rfl))) alike_nil)) (gv_ixB (e := 5) (sz := 1) (n := x.l.length) (c := x.c) (i := ((b.length - 1 - l : Nat) : Int)) (k := .i64) (ad := adx) (ad' := (adx.add (b.length - 1 - l))) (j := (b.length - 1 - l)) rfl (by kernel_rfl) (by kernel_rfl) (by rw [← hAx]; kernel_rfl) (by kernel_rfl) rfl (by omega) (by rw [Nat.mul_one]) ?_))
                exact ⟨rfl, rfl⟩
              · skip
                have S49 : St F w0 w1 (L) := hPh_
                refine told_when (g := 4) (t := 50) (k := 4) (b := true) rfl rfl (by kernel_rfl) (by kernel_rfl) (by kernel_rfl) ((hd_ 4 (by kernel_rfl)).trans (by kernel_rfl)) (gv_env ((⟨Array.replicate 80 undef, []⟩ : Act).put (some 65) (.pointer (some (adx.add (b.length - 1 - l))))) (by kernel_rfl) (xs := [.tmp 65]) (by kernel_rfl) (alike_cons (fill_at (k := 19) (by kernel_rfl) (by kernel_rfl) ((hd_ 19 (by kernel_rfl)).trans (by kernel_rfl))) alike_nil) (gv_ldR (v := .int .u8 ((x.l.getD (b.length - 1 - l) 0).toNat : Int)) rfl (by kernel_rfl) (by kernel_rfl) ((hxr2.now S49).cell (by omega)) ?_))
                exact ⟨rfl, rfl⟩
              · skip
                refine told_when (g := 4) (t := 50) (k := 4) (b := true) rfl rfl (by kernel_rfl) (by kernel_rfl) (by kernel_rfl) ((hd_ 4 (by kernel_rfl)).trans (by kernel_rfl)) (gv_env (((⟨Array.replicate 80 undef, []⟩ : Act).put (some 58) (.int .u8 ((b.getD (b.length - 1 - l) 0).toNat : Int))).put (some 66) (.int .u8 ((x.l.getD (b.length - 1 - l) 0).toNat : Int))) (by kernel_rfl) (xs := [.tmp 58, .tmp 66]) (by kernel_rfl) (alike_cons (fill_at (k := 12) (by kernel_rfl) (by kernel_rfl) ((hd_ 12 (by kernel_rfl)).trans (by kernel_rfl))) (alike_cons (fill_at (k := 20) (by kernel_rfl) (by kernel_rfl) ((hd_ 20 (by kernel_rfl)).trans (by kernel_rfl))) alike_nil)) (gv_val (v := .bool (((b.getD (b.length - 1 - l) 0).toNat : Int) == ((x.l.getD (b.length - 1 - l) 0).toNat : Int))) (w' := w1) (by kernel_rfl) ?_))
                exact ⟨rfl, rfl⟩
              · skip
                refine told_free rfl rfl (gv_env (((⟨Array.replicate 80 undef, []⟩ : Act).put (some 50) (.bool true)).put (some 67) (.bool (((b.getD (b.length - 1 - l) 0).toNat : Int) == ((x.l.getD (b.length - 1 - l) 0).toNat : Int)))) (by kernel_rfl) (xs := [.tmp 50, .tmp 67, .const (.bool false)]) (by kernel_rfl) (alike_cons (fill_at (k := 4) (by kernel_rfl) (by kernel_rfl) ((hd_ 4 (by kernel_rfl)).trans (by kernel_rfl))) (alike_cons (fill_at (k := 21) (by kernel_rfl) (by kernel_rfl) ((hd_ 21 (by kernel_rfl)).trans (by kernel_rfl))) (alike_cons eval_c alike_nil))) (gv_val (v := .bool (((b.getD (b.length - 1 - l) 0).toNat : Int) == ((x.l.getD (b.length - 1 - l) 0).toNat : Int))) (w' := w1) (by kernel_rfl) ?_))
                exact ⟨rfl, rfl⟩
              · exact absurd hi_ (by omega)
            · intro k_ c2_ vals_ w1 hk_ hPh_ hd_
              exact absurd hk_ (Nat.not_lt_zero _)
            · intro c2_ w1 hPh_
              have S52 : St F w0 w1 (L) := hPh_
              refine wl_frame (fr ([.slice (some adb) b.length cb, .slice A1 C.length c1, ud, ud, J 4, iv ((max f i : Nat) : Int), iv ((kk : Nat) : Int), iv ((j : Nat) : Int), .slice x.A x.l.length x.c, iv ((i : Nat) : Int), iv ((l : Nat) : Int), iv ((j : Nat) : Int), .slice A1 C.length c1, iv (C.length : Nat), tv, J 15, J 16, .slice A1 C.length c1, iv ((j : Nat) : Int), .pointer (some (ad1.add j)), .slice x.A x.l.length x.c, .slice x.A x.l.length x.c, iv (x.l.length : Nat), .slice (some adb) b.length cb, iv (b.length : Nat), fv, iv ((i : Nat) : Int), .slice (some adb) b.length cb, iv (b.length : Nat), tv, tv, .slice (some adb) b.length cb, iv ((i : Nat) : Int), .pointer (some (adb.add i)), .int .u8 ((b.getD (i) 0).toNat : Int), .slice x.A x.l.length x.c, iv ((i : Nat) : Int), .pointer (some (adx.add i)), .int .u8 ((x.l.getD (i) 0).toNat : Int), .bool (((b.getD (i) 0).toNat : Int) == ((x.l.getD (i) 0).toNat : Int)), .bool (((b.getD (i) 0).toNat : Int) == ((x.l.getD (i) 0).toNat : Int)), J 41, J 42, iv ((f : Nat) : Int), iv ((i : Nat) : Int), iv ((max f i : Nat) : Int), iv ((l : Nat) : Int), .slice (some adb) b.length cb, iv (b.length : Nat), tv, tv, .slice (some adb) b.length cb, .slice (some adb) b.length cb, iv (b.length : Nat), iv ((b.length - 1 : Nat) : Int), iv ((l : Nat) : Int), iv ((b.length - 1 - l : Nat) : Int), .pointer (some (adb.add (b.length - 1 - l))), .int .u8 ((b.getD (b.length - 1 - l) 0).toNat : Int), .slice x.A x.l.length x.c, .slice (some adb) b.length cb, iv (b.length : Nat), iv ((b.length - 1 : Nat) : Int), iv ((l : Nat) : Int), iv ((b.length - 1 - l : Nat) : Int), .pointer (some (adx.add (b.length - 1 - l))), .int .u8 ((x.l.getD (b.length - 1 - l) 0).toNat : Int), .bool (((b.getD (b.length - 1 - l) 0).toNat : Int) == ((x.l.getD (b.length - 1 - l) 0).toNat : Int)), .bool (((b.getD (b.length - 1 - l) 0).toNat : Int) == ((x.l.getD (b.length - 1 - l) 0).toNat : Int))] ++ jr J 69 5) 6) (by kernel_rfl) ?_
              refine wl_end (fr ([.slice (some adb) b.length cb, .slice A1 C.length c1, ud, ud, J 4, iv ((max f i : Nat) : Int), iv ((kk : Nat) : Int), iv ((j : Nat) : Int), .slice x.A x.l.length x.c, iv ((i : Nat) : Int), iv ((l : Nat) : Int), iv ((j : Nat) : Int), .slice A1 C.length c1, iv (C.length : Nat), tv, J 15, J 16, .slice A1 C.length c1, iv ((j : Nat) : Int), .pointer (some (ad1.add j)), .slice x.A x.l.length x.c, .slice x.A x.l.length x.c, iv (x.l.length : Nat), .slice (some adb) b.length cb, iv (b.length : Nat), fv, iv ((i : Nat) : Int), .slice (some adb) b.length cb, iv (b.length : Nat), tv, tv, .slice (some adb) b.length cb, iv ((i : Nat) : Int), .pointer (some (adb.add i)), .int .u8 ((b.getD (i) 0).toNat : Int), .slice x.A x.l.length x.c, iv ((i : Nat) : Int), .pointer (some (adx.add i)), .int .u8 ((x.l.getD (i) 0).toNat : Int), .bool (((b.getD (i) 0).toNat : Int) == ((x.l.getD (i) 0).toNat : Int)), .bool (((b.getD (i) 0).toNat : Int) == ((x.l.getD (i) 0).toNat : Int)), J 41, J 42, iv ((f : Nat) : Int), iv ((i : Nat) : Int), iv ((max f i : Nat) : Int), iv ((l : Nat) : Int), .slice (some adb) b.length cb, iv (b.length : Nat), tv, tv, .slice (some adb) b.length cb, .slice (some adb) b.length cb, iv (b.length : Nat), iv ((b.length - 1 : Nat) : Int), iv ((l : Nat) : Int), iv ((b.length - 1 - l : Nat) : Int), .pointer (some (adb.add (b.length - 1 - l))), .int .u8 ((b.getD (b.length - 1 - l) 0).toNat : Int), .slice x.A x.l.length x.c, .slice (some adb) b.length cb, iv (b.length : Nat), iv ((b.length - 1 : Nat) : Int), iv ((l : Nat) : Int), iv ((b.length - 1 - l : Nat) : Int), .pointer (some (adx.add (b.length - 1 - l))), .int .u8 ((x.l.getD (b.length - 1 - l) 0).toNat : Int), .bool (((b.getD (b.length - 1 - l) 0).toNat : Int) == ((x.l.getD (b.length - 1 - l) 0).toNat : Int)), .bool (((b.getD (b.length - 1 - l) 0).toNat : Int) == ((x.l.getD (b.length - 1 - l) 0).toNat : Int))] ++ jr J 69 5) 6) (by kernel_rfl) ?_
              refine then_n ?_
              refine wp_cond_split (t := ((b.getD (b.length - 1 - l) 0).toNat : Int) == ((x.l.getD (b.length - 1 - l) 0).toNat : Int)) (by kernel_rfl) (fun hc53 => ?_) (fun hc53 => ?_)
              · skip
                have heql : b.getD (b.length - 1 - l) 0 = x.l.getD (b.length - 1 - l) 0 := UInt8.toNat_inj.1 (by have h9 : ((b.getD (b.length - 1 - l) 0).toNat : Int) = ((x.l.getD (b.length - 1 - l) 0).toNat : Int) := (by simpa using hc53); omega)
                refine wp_skip ?_
                refine then_n ?_
                refine wp_block ?_
                refine wp_region_lit ?_
                refine pv (iv ((l : Nat) : Int)) ?_
                refine wl_gv rfl (gv_int (k := .i64) (z := IntKind.i64.wrap (((l : Nat) : Int) + 1)) (z' := ((l + 1 : Nat) : Int)) (by kernel_rfl) (wr_eq (by omega) (by omega) (by omega)) ?_)
                refine pv (iv ((l + 1 : Nat) : Int)) ?_
                refine wl_end _ rfl ?_
                refine inb_n ?_
                refine then_n ?_
                exact ⟨l + 1, ⟨(jl [ud, ud, ud, ud, J 4, ud, ud, ud, ud, ud, ud, ud, ud, ud, ud, J 15, J 16, ud, ud, ud, ud, ud, ud, ud, ud, ud, ud, ud, ud, ud, ud, ud, ud, ud, ud, ud, ud, ud, ud, ud, ud, J 41, J 42, ud, ud, ud, iv ((l : Nat) : Int), .slice (some adb) b.length cb, iv (b.length : Nat), tv, tv, .slice (some adb) b.length cb, .slice (some adb) b.length cb, iv (b.length : Nat), iv ((b.length - 1 : Nat) : Int), iv ((l : Nat) : Int), iv ((b.length - 1 - l : Nat) : Int), .pointer (some (adb.add (b.length - 1 - l))), .int .u8 ((b.getD (b.length - 1 - l) 0).toNat : Int), .slice x.A x.l.length x.c, .slice (some adb) b.length cb, iv (b.length : Nat), iv ((b.length - 1 : Nat) : Int), iv ((l : Nat) : Int), iv ((b.length - 1 - l : Nat) : Int), .pointer (some (adx.add (b.length - 1 - l))), .int .u8 ((x.l.getD (b.length - 1 - l) 0).toNat : Int), .bool (((b.getD (b.length - 1 - l) 0).toNat : Int) == ((x.l.getD (b.length - 1 - l) 0).toNat : Int)), .bool (((b.getD (b.length - 1 - l) 0).toNat : Int) == ((x.l.getD (b.length - 1 - l) 0).toNat : Int)), iv ((l : Nat) : Int), iv ((l + 1 : Nat) : Int), J 71, J 72, J 73]), by kernel_rfl, S52, ⟨by omega, by rw [show b.length - (l + 1) = b.length - 1 - l from by omega]; exact drop_grow (by rw [show b.length - 1 - l + 1 = b.length - l from by omega]; exact hI28.2) (by omega) (by omega) heql⟩⟩, (by show b.length - (l + 1) < b.length - l; omega)⟩
              · skip
                have hne : b.getD (b.length - 1 - l) 0 ≠ x.l.getD (b.length - 1 - l) 0 := fun e => absurd hc53 (by rw [e]; simp)
                have h2 : ∀ m, m ≤ b.length → b.drop m = x.l.drop m → b.length ≤ m + l := fun m hm e => by have := drop_stop (by omega) (by omega) hne e; omega
                have hl5 : l ≤ b.length := hI28.1
                refine wp_exit ?_
                refine then_x ?_
                refine then_x ?_
                refine inb_x ?_
                refine then_n ?_
                refine wp_region_lit ?_
                refine pv (iv ((kk : Nat) : Int)) ?_
                refine pv (iv ((l : Nat) : Int)) ?_
                refine wl_gv rfl (gv_int (k := .i64) (z := if ((l : Nat) : Int) > ((kk : Nat) : Int) then ((l : Nat) : Int) else ((kk : Nat) : Int)) (z' := ((max kk l : Nat) : Int)) (by kernel_rfl) (by split <;> omega) ?_)
                refine pv (iv ((max kk l : Nat) : Int)) ?_
                refine wl_end _ rfl ?_
                refine inb_n ?_
                refine then_n ?_
                refine wp_region_lit ?_
                refine pv (iv ((j : Nat) : Int)) ?_
                refine wl_gv rfl (gv_int (k := .i64) (z := IntKind.i64.wrap (((j : Nat) : Int) + 1)) (z' := ((j + 1 : Nat) : Int)) (by kernel_rfl) (wr_eq (by omega) (by omega) (by omega)) ?_)
                refine pv (iv ((j + 1 : Nat) : Int)) ?_
                refine wl_end _ rfl ?_
                refine then_n ?_
                exact ⟨(j + 1, max f i, max kk l), ⟨(jl [ud, ud, ud, ud, J 4, ud, ud, ud, .slice x.A x.l.length x.c, iv ((i : Nat) : Int), iv ((l : Nat) : Int), iv ((j : Nat) : Int), .slice A1 C.length c1, iv (C.length : Nat), tv, iv ((j : Nat) : Int), iv ((j + 1 : Nat) : Int), .slice A1 C.length c1, iv ((j : Nat) : Int), .pointer (some (ad1.add j)), .slice x.A x.l.length x.c, .slice x.A x.l.length x.c, iv (x.l.length : Nat), .slice (some adb) b.length cb, iv (b.length : Nat), fv, iv ((i : Nat) : Int), .slice (some adb) b.length cb, iv (b.length : Nat), tv, tv, .slice (some adb) b.length cb, iv ((i : Nat) : Int), .pointer (some (adb.add i)), .int .u8 ((b.getD (i) 0).toNat : Int), .slice x.A x.l.length x.c, iv ((i : Nat) : Int), .pointer (some (adx.add i)), .int .u8 ((x.l.getD (i) 0).toNat : Int), .bool (((b.getD (i) 0).toNat : Int) == ((x.l.getD (i) 0).toNat : Int)), .bool (((b.getD (i) 0).toNat : Int) == ((x.l.getD (i) 0).toNat : Int)), J 41, J 42, iv ((f : Nat) : Int), iv ((i : Nat) : Int), iv ((max f i : Nat) : Int), iv ((l : Nat) : Int), .slice (some adb) b.length cb, iv (b.length : Nat), tv, tv, .slice (some adb) b.length cb, .slice (some adb) b.length cb, iv (b.length : Nat), iv ((b.length - 1 : Nat) : Int), iv ((l : Nat) : Int), iv ((b.length - 1 - l : Nat) : Int), .pointer (some (adb.add (b.length - 1 - l))), .int .u8 ((b.getD (b.length - 1 - l) 0).toNat : Int), .slice x.A x.l.length x.c, .slice (some adb) b.length cb, iv (b.length : Nat), iv ((b.length - 1 : Nat) : Int), iv ((l : Nat) : Int), iv ((b.length - 1 - l : Nat) : Int), .pointer (some (adx.add (b.length - 1 - l))), .int .u8 ((x.l.getD (b.length - 1 - l) 0).toNat : Int), .bool (((b.getD (b.length - 1 - l) 0).toNat : Int) == ((x.l.getD (b.length - 1 - l) 0).toNat : Int)), .bool (((b.getD (b.length - 1 - l) 0).toNat : Int) == ((x.l.getD (b.length - 1 - l) 0).toNat : Int)), J 69, J 70, iv ((kk : Nat) : Int), iv ((l : Nat) : Int), iv ((max kk l : Nat) : Int)]), by kernel_rfl, S52, ⟨by omega, hFB.step (by rw [List.getElem?_map, hxj]; rfl) h1 h2 hi5 hl5⟩⟩, (by show C.length - (j + 1) < C.length - j; omega)⟩
          · skip
            have h2 : ∀ m, m ≤ b.length → b.drop m = x.l.drop m → b.length ≤ m + l := fun m hm _ => by omega
            have hl5 : l ≤ b.length := hI28.1
            refine wp_region_phu (γ := Unit) 23 [] (fun (c3_ : Unit) (i_ : Nat) => (match i_ with | 0 => .int .i64 ((l : Nat) : Int) | 1 => .slice (some adb) b.length cb | 2 => .int .i64 (b.length : Nat) | 3 => .bool false | 4 => .bool false | 5 => undef | 6 => undef | 7 => undef | 8 => undef | 9 => undef | 10 => undef | 11 => undef | 12 => undef | 13 => undef | 14 => undef | 15 => undef | 16 => undef | 17 => undef | 18 => undef | 19 => undef | 20 => undef | 21 => undef | 22 => .bool false | _ => undef : Value)) (fun (c3_ : Unit) (p_ : Nat) (w_ : World) => (match p_ with  | _ => St F w0 w_ (L) : Prop)) () (by kernel_rfl) (by kernel_rfl) (by kernel_rfl) (by kernel_rfl) (S27.drew) ?_ ?_ ?_
            · intro i_ c3_ p_ vals_ w1 hi_ hiE_ hp_ hk_ hu_ hPh_ hd_
              rcases i_ with _ | _ | _ | _ | _ | _ | _ | _ | _ | _ | _ | _ | _ | _ | _ | _ | _ | _ | _ | _ | _ | _ | _ | i_
              · skip
                refine told_free rfl rfl (gv_env ((⟨Array.replicate 80 undef, []⟩ : Act).put (some 10) (.int .i64 ((l : Nat) : Int))) (by kernel_rfl) (xs := [.tmp 10]) (by kernel_rfl) (alike_cons (fill_past (by kernel_rfl) (by kernel_rfl)) alike_nil) (gv_val (v := .int .i64 ((l : Nat) : Int)) (w' := w1) (by kernel_rfl) ?_))
                exact ⟨rfl, rfl⟩
              · skip
                refine told_free rfl rfl (gv_env ((⟨Array.replicate 80 undef, []⟩ : Act).put (some 0) (.slice (some adb) b.length cb)) (by kernel_rfl) (xs := [.tmp 0]) (by kernel_rfl) (alike_cons (fill_past (by kernel_rfl) (by kernel_rfl)) alike_nil) (gv_val (v := .slice (some adb) b.length cb) (w' := w1) (by kernel_rfl) ?_))
                exact ⟨rfl, rfl⟩
              · skip
                refine told_free rfl rfl (gv_env ((⟨Array.replicate 80 undef, []⟩ : Act).put (some 47) (.slice (some adb) b.length cb)) (by kernel_rfl) (xs := [.tmp 47]) (by kernel_rfl) (alike_cons (fill_at (k := 1) (by kernel_rfl) (by kernel_rfl) ((hd_ 1 (by kernel_rfl)).trans (by kernel_rfl))) alike_nil) (gv_val (v := .int .i64 (b.length : Nat)) (w' := w1) (by kernel_rfl) ?_))
                exact ⟨rfl, rfl⟩
              · skip
                refine told_free rfl rfl (gv_env (((⟨Array.replicate 80 undef, []⟩ : Act).put (some 46) (.int .i64 ((l : Nat) : Int))).put (some 48) (.int .i64 (b.length : Nat))) (by kernel_rfl) (xs := [.tmp 46, .tmp 48]) (by kernel_rfl) (alike_cons (fill_at (k := 0) (by kernel_rfl) (by kernel_rfl) ((hd_ 0 (by kernel_rfl)).trans (by kernel_rfl))) (alike_cons (fill_at (k := 2) (by kernel_rfl) (by kernel_rfl) ((hd_ 2 (by kernel_rfl)).trans (by kernel_rfl))) alike_nil)) (gv_boolT (b := decide ((((l : Nat) : Int) : Int) < (b.length : Nat))) (b' := false) (by kernel_rfl) (by simp; omega) ?_))
                exact ⟨rfl, rfl⟩
              · skip
                refine told_free rfl rfl (gv_env ((⟨Array.replicate 80 undef, []⟩ : Act).put (some 49) (.bool false)) (by kernel_rfl) (xs := [.tmp 49]) (by kernel_rfl) (alike_cons (fill_at (k := 3) (by kernel_rfl) (by kernel_rfl) ((hd_ 3 (by kernel_rfl)).trans (by kernel_rfl))) alike_nil) (gv_val (v := .bool false) (w' := w1) (by kernel_rfl) ?_))
                exact ⟨rfl, rfl⟩
              · skip
                exact told_not (g := 4) (t := 50) (k := 4) (b := true) (b' := false) rfl rfl (by kernel_rfl) (by kernel_rfl) (by kernel_rfl) ((hd_ 4 (by kernel_rfl)).trans (by kernel_rfl)) (by kernel_rfl) ⟨rfl, rfl⟩
              · skip
                exact told_not (g := 4) (t := 50) (k := 4) (b := true) (b' := false) rfl rfl (by kernel_rfl) (by kernel_rfl) (by kernel_rfl) ((hd_ 4 (by kernel_rfl)).trans (by kernel_rfl)) (by kernel_rfl) ⟨rfl, rfl⟩
              · skip
                exact told_not (g := 4) (t := 50) (k := 4) (b := true) (b' := false) rfl rfl (by kernel_rfl) (by kernel_rfl) (by kernel_rfl) ((hd_ 4 (by kernel_rfl)).trans (by kernel_rfl)) (by kernel_rfl) ⟨rfl, rfl⟩
              · skip
                exact told_not (g := 4) (t := 50) (k := 4) (b := true) (b' := false) rfl rfl (by kernel_rfl) (by kernel_rfl) (by kernel_rfl) ((hd_ 4 (by kernel_rfl)).trans (by kernel_rfl)) (by kernel_rfl) ⟨rfl, rfl⟩
              · skip
                exact told_not (g := 4) (t := 50) (k := 4) (b := true) (b' := false) rfl rfl (by kernel_rfl) (by kernel_rfl) (by kernel_rfl) ((hd_ 4 (by kernel_rfl)).trans (by kernel_rfl)) (by kernel_rfl) ⟨rfl, rfl⟩
              · skip
                exact told_not (g := 4) (t := 50) (k := 4) (b := true) (b' := false) rfl rfl (by kernel_rfl) (by kernel_rfl) (by kernel_rfl) ((hd_ 4 (by kernel_rfl)).trans (by kernel_rfl)) (by kernel_rfl) ⟨rfl, rfl⟩
              · skip
                exact told_not (g := 4) (t := 50) (k := 4) (b := true) (b' := false) rfl rfl (by kernel_rfl) (by kernel_rfl) (by kernel_rfl) ((hd_ 4 (by kernel_rfl)).trans (by kernel_rfl)) (by kernel_rfl) ⟨rfl, rfl⟩
              · skip
                exact told_not (g := 4) (t := 50) (k := 4) (b := true) (b' := false) rfl rfl (by kernel_rfl) (by kernel_rfl) (by kernel_rfl) ((hd_ 4 (by kernel_rfl)).trans (by kernel_rfl)) (by kernel_rfl) ⟨rfl, rfl⟩
              · skip
                exact told_not (g := 4) (t := 50) (k := 4) (b := true) (b' := false) rfl rfl (by kernel_rfl) (by kernel_rfl) (by kernel_rfl) ((hd_ 4 (by kernel_rfl)).trans (by kernel_rfl)) (by kernel_rfl) ⟨rfl, rfl⟩
              · skip
                exact told_not (g := 4) (t := 50) (k := 4) (b := true) (b' := false) rfl rfl (by kernel_rfl) (by kernel_rfl) (by kernel_rfl) ((hd_ 4 (by kernel_rfl)).trans (by kernel_rfl)) (by kernel_rfl) ⟨rfl, rfl⟩
              · skip
                exact told_not (g := 4) (t := 50) (k := 4) (b := true) (b' := false) rfl rfl (by kernel_rfl) (by kernel_rfl) (by kernel_rfl) ((hd_ 4 (by kernel_rfl)).trans (by kernel_rfl)) (by kernel_rfl) ⟨rfl, rfl⟩
              · skip
                exact told_not (g := 4) (t := 50) (k := 4) (b := true) (b' := false) rfl rfl (by kernel_rfl) (by kernel_rfl) (by kernel_rfl) ((hd_ 4 (by kernel_rfl)).trans (by kernel_rfl)) (by kernel_rfl) ⟨rfl, rfl⟩
              · skip
                exact told_not (g := 4) (t := 50) (k := 4) (b := true) (b' := false) rfl rfl (by kernel_rfl) (by kernel_rfl) (by kernel_rfl) ((hd_ 4 (by kernel_rfl)).trans (by kernel_rfl)) (by kernel_rfl) ⟨rfl, rfl⟩
              · skip
                exact told_not (g := 4) (t := 50) (k := 4) (b := true) (b' := false) rfl rfl (by kernel_rfl) (by kernel_rfl) (by kernel_rfl) ((hd_ 4 (by kernel_rfl)).trans (by kernel_rfl)) (by kernel_rfl) ⟨rfl, rfl⟩
              · skip
                exact told_not (g := 4) (t := 50) (k := 4) (b := true) (b' := false) rfl rfl (by kernel_rfl) (by kernel_rfl) (by kernel_rfl) ((hd_ 4 (by kernel_rfl)).trans (by kernel_rfl)) (by kernel_rfl) ⟨rfl, rfl⟩
              · skip
                exact told_not (g := 4) (t := 50) (k := 4) (b := true) (b' := false) rfl rfl (by kernel_rfl) (by kernel_rfl) (by kernel_rfl) ((hd_ 4 (by kernel_rfl)).trans (by kernel_rfl)) (by kernel_rfl) ⟨rfl, rfl⟩
              · skip
                exact told_not (g := 4) (t := 50) (k := 4) (b := true) (b' := false) rfl rfl (by kernel_rfl) (by kernel_rfl) (by kernel_rfl) ((hd_ 4 (by kernel_rfl)).trans (by kernel_rfl)) (by kernel_rfl) ⟨rfl, rfl⟩
              · skip
                refine told_free rfl rfl (gv_env (((⟨Array.replicate 80 undef, []⟩ : Act).put (some 50) (.bool false)).put (some 67) (undef)) (by kernel_rfl) (xs := [.tmp 50, .tmp 67, .const (.bool false)]) (by kernel_rfl) (alike_cons (fill_at (k := 4) (by kernel_rfl) (by kernel_rfl) ((hd_ 4 (by kernel_rfl)).trans (by kernel_rfl))) (alike_cons (fill_at (k := 21) (by kernel_rfl) (by kernel_rfl) ((hd_ 21 (by kernel_rfl)).trans (by kernel_rfl))) (alike_cons eval_c alike_nil))) (gv_val (v := .bool false) (w' := w1) (by kernel_rfl) ?_))
                exact ⟨rfl, rfl⟩
              · exact absurd hi_ (by omega)
            · intro k_ c3_ vals_ w1 hk_ hPh_ hd_
              exact absurd hk_ (Nat.not_lt_zero _)
            · intro c3_ w1 hPh_
              have S77 : St F w0 w1 (L) := hPh_
              refine wl_frame (fr ([.slice (some adb) b.length cb, .slice A1 C.length c1, ud, ud, J 4, iv ((max f i : Nat) : Int), iv ((kk : Nat) : Int), iv ((j : Nat) : Int), .slice x.A x.l.length x.c, iv ((i : Nat) : Int), iv ((l : Nat) : Int), iv ((j : Nat) : Int), .slice A1 C.length c1, iv (C.length : Nat), tv, J 15, J 16, .slice A1 C.length c1, iv ((j : Nat) : Int), .pointer (some (ad1.add j)), .slice x.A x.l.length x.c, .slice x.A x.l.length x.c, iv (x.l.length : Nat), .slice (some adb) b.length cb, iv (b.length : Nat), fv, iv ((i : Nat) : Int), .slice (some adb) b.length cb, iv (b.length : Nat), tv, tv, .slice (some adb) b.length cb, iv ((i : Nat) : Int), .pointer (some (adb.add i)), .int .u8 ((b.getD (i) 0).toNat : Int), .slice x.A x.l.length x.c, iv ((i : Nat) : Int), .pointer (some (adx.add i)), .int .u8 ((x.l.getD (i) 0).toNat : Int), .bool (((b.getD (i) 0).toNat : Int) == ((x.l.getD (i) 0).toNat : Int)), .bool (((b.getD (i) 0).toNat : Int) == ((x.l.getD (i) 0).toNat : Int)), J 41, J 42, iv ((f : Nat) : Int), iv ((i : Nat) : Int), iv ((max f i : Nat) : Int), iv ((l : Nat) : Int), .slice (some adb) b.length cb, iv (b.length : Nat), fv, fv, ud, ud, ud, ud, ud, ud, ud, ud, ud, ud, ud, ud, ud, ud, ud, ud, ud, fv] ++ jr J 69 5) 6) (by kernel_rfl) ?_
              refine wl_end (fr ([.slice (some adb) b.length cb, .slice A1 C.length c1, ud, ud, J 4, iv ((max f i : Nat) : Int), iv ((kk : Nat) : Int), iv ((j : Nat) : Int), .slice x.A x.l.length x.c, iv ((i : Nat) : Int), iv ((l : Nat) : Int), iv ((j : Nat) : Int), .slice A1 C.length c1, iv (C.length : Nat), tv, J 15, J 16, .slice A1 C.length c1, iv ((j : Nat) : Int), .pointer (some (ad1.add j)), .slice x.A x.l.length x.c, .slice x.A x.l.length x.c, iv (x.l.length : Nat), .slice (some adb) b.length cb, iv (b.length : Nat), fv, iv ((i : Nat) : Int), .slice (some adb) b.length cb, iv (b.length : Nat), tv, tv, .slice (some adb) b.length cb, iv ((i : Nat) : Int), .pointer (some (adb.add i)), .int .u8 ((b.getD (i) 0).toNat : Int), .slice x.A x.l.length x.c, iv ((i : Nat) : Int), .pointer (some (adx.add i)), .int .u8 ((x.l.getD (i) 0).toNat : Int), .bool (((b.getD (i) 0).toNat : Int) == ((x.l.getD (i) 0).toNat : Int)), .bool (((b.getD (i) 0).toNat : Int) == ((x.l.getD (i) 0).toNat : Int)), J 41, J 42, iv ((f : Nat) : Int), iv ((i : Nat) : Int), iv ((max f i : Nat) : Int), iv ((l : Nat) : Int), .slice (some adb) b.length cb, iv (b.length : Nat), fv, fv, ud, ud, ud, ud, ud, ud, ud, ud, ud, ud, ud, ud, ud, ud, ud, ud, ud, fv] ++ jr J 69 5) 6) (by kernel_rfl) ?_
              refine then_n ?_
              refine wp_cond_false (by kernel_rfl) ?_
              refine wp_exit ?_
              refine then_x ?_
              refine then_x ?_
              refine inb_x ?_
              refine then_n ?_
              refine wp_region_lit ?_
              refine pv (iv ((kk : Nat) : Int)) ?_
              refine pv (iv ((l : Nat) : Int)) ?_
              refine wl_gv rfl (gv_int (k := .i64) (z := if ((l : Nat) : Int) > ((kk : Nat) : Int) then ((l : Nat) : Int) else ((kk : Nat) : Int)) (z' := ((max kk l : Nat) : Int)) (by kernel_rfl) (by split <;> omega) ?_)
              refine pv (iv ((max kk l : Nat) : Int)) ?_
              refine wl_end _ rfl ?_
              refine inb_n ?_
              refine then_n ?_
              refine wp_region_lit ?_
              refine pv (iv ((j : Nat) : Int)) ?_
              refine wl_gv rfl (gv_int (k := .i64) (z := IntKind.i64.wrap (((j : Nat) : Int) + 1)) (z' := ((j + 1 : Nat) : Int)) (by kernel_rfl) (wr_eq (by omega) (by omega) (by omega)) ?_)
              refine pv (iv ((j + 1 : Nat) : Int)) ?_
              refine wl_end _ rfl ?_
              refine then_n ?_
              exact ⟨(j + 1, max f i, max kk l), ⟨(jl [ud, ud, ud, ud, J 4, ud, ud, ud, .slice x.A x.l.length x.c, iv ((i : Nat) : Int), iv ((l : Nat) : Int), iv ((j : Nat) : Int), .slice A1 C.length c1, iv (C.length : Nat), tv, iv ((j : Nat) : Int), iv ((j + 1 : Nat) : Int), .slice A1 C.length c1, iv ((j : Nat) : Int), .pointer (some (ad1.add j)), .slice x.A x.l.length x.c, .slice x.A x.l.length x.c, iv (x.l.length : Nat), .slice (some adb) b.length cb, iv (b.length : Nat), fv, iv ((i : Nat) : Int), .slice (some adb) b.length cb, iv (b.length : Nat), tv, tv, .slice (some adb) b.length cb, iv ((i : Nat) : Int), .pointer (some (adb.add i)), .int .u8 ((b.getD (i) 0).toNat : Int), .slice x.A x.l.length x.c, iv ((i : Nat) : Int), .pointer (some (adx.add i)), .int .u8 ((x.l.getD (i) 0).toNat : Int), .bool (((b.getD (i) 0).toNat : Int) == ((x.l.getD (i) 0).toNat : Int)), .bool (((b.getD (i) 0).toNat : Int) == ((x.l.getD (i) 0).toNat : Int)), J 41, J 42, iv ((f : Nat) : Int), iv ((i : Nat) : Int), iv ((max f i : Nat) : Int), iv ((l : Nat) : Int), .slice (some adb) b.length cb, iv (b.length : Nat), fv, fv, ud, ud, ud, ud, ud, ud, ud, ud, ud, ud, ud, ud, ud, ud, ud, ud, ud, fv, J 69, J 70, iv ((kk : Nat) : Int), iv ((l : Nat) : Int), iv ((max kk l : Nat) : Int)]), by kernel_rfl, S77, ⟨by omega, hFB.step (by rw [List.getElem?_map, hxj]; rfl) h1 h2 hi5 hl5⟩⟩, (by show C.length - (j + 1) < C.length - j; omega)⟩
    · skip
      have h1 : ∀ m, m ≤ b.length → b.take m = x.l.take m → m ≤ i := fun m hm _ => by omega
      have hi5 : i ≤ b.length := hI8.1
      refine wp_region_phu (γ := Unit) 15 [] (fun (c4_ : Unit) (i_ : Nat) => (match i_ with | 0 => .int .i64 ((i : Nat) : Int) | 1 => .slice (some adb) b.length cb | 2 => .int .i64 (b.length : Nat) | 3 => .bool false | 4 => .bool false | 5 => undef | 6 => undef | 7 => undef | 8 => undef | 9 => undef | 10 => undef | 11 => undef | 12 => undef | 13 => undef | 14 => .bool false | _ => undef : Value)) (fun (c4_ : Unit) (p_ : Nat) (w_ : World) => (match p_ with  | _ => St F w0 w_ (L) : Prop)) () (by kernel_rfl) (by kernel_rfl) (by kernel_rfl) (by kernel_rfl) (S7.drew) ?_ ?_ ?_
      · intro i_ c4_ p_ vals_ w1 hi_ hiE_ hp_ hk_ hu_ hPh_ hd_
        rcases i_ with _ | _ | _ | _ | _ | _ | _ | _ | _ | _ | _ | _ | _ | _ | _ | i_
        · skip
          refine told_free rfl rfl (gv_env ((⟨Array.replicate 80 undef, []⟩ : Act).put (some 9) (.int .i64 ((i : Nat) : Int))) (by kernel_rfl) (xs := [.tmp 9]) (by kernel_rfl) (alike_cons (fill_past (by kernel_rfl) (by kernel_rfl)) alike_nil) (gv_val (v := .int .i64 ((i : Nat) : Int)) (w' := w1) (by kernel_rfl) ?_))
          exact ⟨rfl, rfl⟩
        · skip
          refine told_free rfl rfl (gv_env ((⟨Array.replicate 80 undef, []⟩ : Act).put (some 0) (.slice (some adb) b.length cb)) (by kernel_rfl) (xs := [.tmp 0]) (by kernel_rfl) (alike_cons (fill_past (by kernel_rfl) (by kernel_rfl)) alike_nil) (gv_val (v := .slice (some adb) b.length cb) (w' := w1) (by kernel_rfl) ?_))
          exact ⟨rfl, rfl⟩
        · skip
          refine told_free rfl rfl (gv_env ((⟨Array.replicate 80 undef, []⟩ : Act).put (some 27) (.slice (some adb) b.length cb)) (by kernel_rfl) (xs := [.tmp 27]) (by kernel_rfl) (alike_cons (fill_at (k := 1) (by kernel_rfl) (by kernel_rfl) ((hd_ 1 (by kernel_rfl)).trans (by kernel_rfl))) alike_nil) (gv_val (v := .int .i64 (b.length : Nat)) (w' := w1) (by kernel_rfl) ?_))
          exact ⟨rfl, rfl⟩
        · skip
          refine told_free rfl rfl (gv_env (((⟨Array.replicate 80 undef, []⟩ : Act).put (some 26) (.int .i64 ((i : Nat) : Int))).put (some 28) (.int .i64 (b.length : Nat))) (by kernel_rfl) (xs := [.tmp 26, .tmp 28]) (by kernel_rfl) (alike_cons (fill_at (k := 0) (by kernel_rfl) (by kernel_rfl) ((hd_ 0 (by kernel_rfl)).trans (by kernel_rfl))) (alike_cons (fill_at (k := 2) (by kernel_rfl) (by kernel_rfl) ((hd_ 2 (by kernel_rfl)).trans (by kernel_rfl))) alike_nil)) (gv_boolT (b := decide ((((i : Nat) : Int) : Int) < (b.length : Nat))) (b' := false) (by kernel_rfl) (by simp; omega) ?_))
          exact ⟨rfl, rfl⟩
        · skip
          refine told_free rfl rfl (gv_env ((⟨Array.replicate 80 undef, []⟩ : Act).put (some 29) (.bool false)) (by kernel_rfl) (xs := [.tmp 29]) (by kernel_rfl) (alike_cons (fill_at (k := 3) (by kernel_rfl) (by kernel_rfl) ((hd_ 3 (by kernel_rfl)).trans (by kernel_rfl))) alike_nil) (gv_val (v := .bool false) (w' := w1) (by kernel_rfl) ?_))
          exact ⟨rfl, rfl⟩
        · skip
          exact told_not (g := 4) (t := 30) (k := 4) (b := true) (b' := false) rfl rfl (by kernel_rfl) (by kernel_rfl) (by kernel_rfl) ((hd_ 4 (by kernel_rfl)).trans (by kernel_rfl)) (by kernel_rfl) ⟨rfl, rfl⟩
        · skip
          exact told_not (g := 4) (t := 30) (k := 4) (b := true) (b' := false) rfl rfl (by kernel_rfl) (by kernel_rfl) (by kernel_rfl) ((hd_ 4 (by kernel_rfl)).trans (by kernel_rfl)) (by kernel_rfl) ⟨rfl, rfl⟩
        · skip
          exact told_not (g := 4) (t := 30) (k := 4) (b := true) (b' := false) rfl rfl (by kernel_rfl) (by kernel_rfl) (by kernel_rfl) ((hd_ 4 (by kernel_rfl)).trans (by kernel_rfl)) (by kernel_rfl) ⟨rfl, rfl⟩
        · skip
          exact told_not (g := 4) (t := 30) (k := 4) (b := true) (b' := false) rfl rfl (by kernel_rfl) (by kernel_rfl) (by kernel_rfl) ((hd_ 4 (by kernel_rfl)).trans (by kernel_rfl)) (by kernel_rfl) ⟨rfl, rfl⟩
        · skip
          exact told_not (g := 4) (t := 30) (k := 4) (b := true) (b' := false) rfl rfl (by kernel_rfl) (by kernel_rfl) (by kernel_rfl) ((hd_ 4 (by kernel_rfl)).trans (by kernel_rfl)) (by kernel_rfl) ⟨rfl, rfl⟩
        · skip
          exact told_not (g := 4) (t := 30) (k := 4) (b := true) (b' := false) rfl rfl (by kernel_rfl) (by kernel_rfl) (by kernel_rfl) ((hd_ 4 (by kernel_rfl)).trans (by kernel_rfl)) (by kernel_rfl) ⟨rfl, rfl⟩
        · skip
          exact told_not (g := 4) (t := 30) (k := 4) (b := true) (b' := false) rfl rfl (by kernel_rfl) (by kernel_rfl) (by kernel_rfl) ((hd_ 4 (by kernel_rfl)).trans (by kernel_rfl)) (by kernel_rfl) ⟨rfl, rfl⟩
        · skip
          exact told_not (g := 4) (t := 30) (k := 4) (b := true) (b' := false) rfl rfl (by kernel_rfl) (by kernel_rfl) (by kernel_rfl) ((hd_ 4 (by kernel_rfl)).trans (by kernel_rfl)) (by kernel_rfl) ⟨rfl, rfl⟩
        · skip
          exact told_not (g := 4) (t := 30) (k := 4) (b := true) (b' := false) rfl rfl (by kernel_rfl) (by kernel_rfl) (by kernel_rfl) ((hd_ 4 (by kernel_rfl)).trans (by kernel_rfl)) (by kernel_rfl) ⟨rfl, rfl⟩
        · skip
          refine told_free rfl rfl (gv_env (((⟨Array.replicate 80 undef, []⟩ : Act).put (some 30) (.bool false)).put (some 39) (undef)) (by kernel_rfl) (xs := [.tmp 30, .tmp 39, .const (.bool false)]) (by kernel_rfl) (alike_cons (fill_at (k := 4) (by kernel_rfl) (by kernel_rfl) ((hd_ 4 (by kernel_rfl)).trans (by kernel_rfl))) (alike_cons (fill_at (k := 13) (by kernel_rfl) (by kernel_rfl) ((hd_ 13 (by kernel_rfl)).trans (by kernel_rfl))) (alike_cons eval_c alike_nil))) (gv_val (v := .bool false) (w' := w1) (by kernel_rfl) ?_))
          exact ⟨rfl, rfl⟩
        · exact absurd hi_ (by omega)
      · intro k_ c4_ vals_ w1 hk_ hPh_ hd_
        exact absurd hk_ (Nat.not_lt_zero _)
      · intro c4_ w1 hPh_
        have S93 : St F w0 w1 (L) := hPh_
        refine wl_frame (fr ([.slice (some adb) b.length cb, .slice A1 C.length c1, ud, ud, J 4, iv ((f : Nat) : Int), iv ((kk : Nat) : Int), iv ((j : Nat) : Int), .slice x.A x.l.length x.c, iv ((i : Nat) : Int), J 10, iv ((j : Nat) : Int), .slice A1 C.length c1, iv (C.length : Nat), tv, J 15, J 16, .slice A1 C.length c1, iv ((j : Nat) : Int), .pointer (some (ad1.add j)), .slice x.A x.l.length x.c, .slice x.A x.l.length x.c, iv (x.l.length : Nat), .slice (some adb) b.length cb, iv (b.length : Nat), fv, iv ((i : Nat) : Int), .slice (some adb) b.length cb, iv (b.length : Nat), fv, fv, ud, ud, ud, ud, ud, ud, ud, ud, ud, fv] ++ jr J 41 33) 6) (by kernel_rfl) ?_
        refine wl_end (fr ([.slice (some adb) b.length cb, .slice A1 C.length c1, ud, ud, J 4, iv ((f : Nat) : Int), iv ((kk : Nat) : Int), iv ((j : Nat) : Int), .slice x.A x.l.length x.c, iv ((i : Nat) : Int), J 10, iv ((j : Nat) : Int), .slice A1 C.length c1, iv (C.length : Nat), tv, J 15, J 16, .slice A1 C.length c1, iv ((j : Nat) : Int), .pointer (some (ad1.add j)), .slice x.A x.l.length x.c, .slice x.A x.l.length x.c, iv (x.l.length : Nat), .slice (some adb) b.length cb, iv (b.length : Nat), fv, iv ((i : Nat) : Int), .slice (some adb) b.length cb, iv (b.length : Nat), fv, fv, ud, ud, ud, ud, ud, ud, ud, ud, ud, fv] ++ jr J 41 33) 6) (by kernel_rfl) ?_
        refine then_n ?_
        refine wp_cond_false (by kernel_rfl) ?_
        refine wp_exit ?_
        refine then_x ?_
        refine then_x ?_
        refine inb_x ?_
        refine then_n ?_
        refine wp_seq ?_
        refine wp_region_lit ?_
        refine pv (iv ((f : Nat) : Int)) ?_
        refine pv (iv ((i : Nat) : Int)) ?_
        refine wl_gv rfl (gv_int (k := .i64) (z := if ((i : Nat) : Int) > ((f : Nat) : Int) then ((i : Nat) : Int) else ((f : Nat) : Int)) (z' := ((max f i : Nat) : Int)) (by kernel_rfl) (by split <;> omega) ?_)
        refine pv (iv ((max f i : Nat) : Int)) ?_
        refine wl_end _ rfl ?_
        refine then_n ?_
        refine wp_seq ?_
        refine wp_region_lit ?_
        refine pv (iv 0) ?_
        refine wl_end _ rfl ?_
        refine then_n ?_
        refine wp_seq ?_
        refine wp_block ?_
        refine wp_loop_g (G := Nat) (fun (g_ : Nat) (a_ : Act) (w_ : World) => ∃ J : Nat → Value, a_ = (fr ([.slice (some adb) b.length cb, .slice A1 C.length c1, ud, ud, J 4, iv ((max f i : Nat) : Int), iv ((kk : Nat) : Int), iv ((j : Nat) : Int), .slice x.A x.l.length x.c, iv ((i : Nat) : Int), iv ((g_ : Nat) : Int), iv ((j : Nat) : Int), .slice A1 C.length c1, iv (C.length : Nat), tv, J 15, J 16, .slice A1 C.length c1, iv ((j : Nat) : Int), .pointer (some (ad1.add j)), .slice x.A x.l.length x.c, .slice x.A x.l.length x.c, iv (x.l.length : Nat), .slice (some adb) b.length cb, iv (b.length : Nat), fv, iv ((i : Nat) : Int), .slice (some adb) b.length cb, iv (b.length : Nat), fv, fv, ud, ud, ud, ud, ud, ud, ud, ud, ud, fv, J 41, J 42, iv ((f : Nat) : Int), iv ((i : Nat) : Int), iv ((max f i : Nat) : Int)] ++ jr J 46 28) 6) ∧ St F w0 w_ (L) ∧ (g_ ≤ b.length ∧ b.drop (b.length - g_) = x.l.drop (b.length - g_))) (fun g_ => b.length - g_) 0 ⟨(jl [ud, ud, ud, ud, J 4, ud, ud, ud, ud, ud, ud, ud, ud, ud, ud, J 15, J 16, ud, ud, ud, ud, ud, ud, ud, ud, ud, ud, ud, ud, ud, ud, ud, ud, ud, ud, ud, ud, ud, ud, ud, ud, J 41, J 42, ud, ud, ud, J 46, J 47, J 48, J 49, J 50, J 51, J 52, J 53, J 54, J 55, J 56, J 57, J 58, J 59, J 60, J 61, J 62, J 63, J 64, J 65, J 66, J 67, J 68, J 69, J 70, J 71, J 72, J 73]), by kernel_rfl, S93, ⟨Nat.zero_le _, by rw [Nat.sub_zero, List.drop_of_length_le (Nat.le_refl _), List.drop_of_length_le (by omega)]⟩⟩ ?_
        rintro l a_ w94 ⟨J, rfl, S95, hI96⟩
        skip
        have S95 : St F w0 w94 (L) := S95
        have hI96 : (l ≤ b.length ∧ b.drop (b.length - l) = x.l.drop (b.length - l)) := hI96
        refine wp_seq ?_
        refine wp_seq ?_
        by_cases hlb : l < b.length
        · skip
          refine wp_region_phu (γ := Unit) 23 [] (fun (c5_ : Unit) (i_ : Nat) => (match i_ with | 0 => .int .i64 ((l : Nat) : Int) | 1 => .slice (some adb) b.length cb | 2 => .int .i64 (b.length : Nat) | 3 => .bool true | 4 => .bool true | 5 => .slice (some adb) b.length cb | 6 => .slice (some adb) b.length cb | 7 => .int .i64 (b.length : Nat) | 8 => .int .i64 ((b.length - 1 : Nat) : Int) | 9 => .int .i64 ((l : Nat) : Int) | 10 => .int .i64 ((b.length - 1 - l : Nat) : Int) | 11 => .pointer (some (adb.add (b.length - 1 - l))) | 12 => .int .u8 ((b.getD (b.length - 1 - l) 0).toNat : Int) | 13 => .slice x.A x.l.length x.c | 14 => .slice (some adb) b.length cb | 15 => .int .i64 (b.length : Nat) | 16 => .int .i64 ((b.length - 1 : Nat) : Int) | 17 => .int .i64 ((l : Nat) : Int) | 18 => .int .i64 ((b.length - 1 - l : Nat) : Int) | 19 => .pointer (some (adx.add (b.length - 1 - l))) | 20 => .int .u8 ((x.l.getD (b.length - 1 - l) 0).toNat : Int) | 21 => .bool (((b.getD (b.length - 1 - l) 0).toNat : Int) == ((x.l.getD (b.length - 1 - l) 0).toNat : Int)) | 22 => .bool (((b.getD (b.length - 1 - l) 0).toNat : Int) == ((x.l.getD (b.length - 1 - l) 0).toNat : Int)) | _ => undef : Value)) (fun (c5_ : Unit) (p_ : Nat) (w_ : World) => (match p_ with  | _ => St F w0 w_ (L) : Prop)) () (by kernel_rfl) (by kernel_rfl) (by kernel_rfl) (by kernel_rfl) (S95.drew) ?_ ?_ ?_
          · intro i_ c5_ p_ vals_ w1 hi_ hiE_ hp_ hk_ hu_ hPh_ hd_
            rcases i_ with _ | _ | _ | _ | _ | _ | _ | _ | _ | _ | _ | _ | _ | _ | _ | _ | _ | _ | _ | _ | _ | _ | _ | i_
            · skip
              refine told_free rfl rfl (gv_env ((⟨Array.replicate 80 undef, []⟩ : Act).put (some 10) (.int .i64 ((l : Nat) : Int))) (by kernel_rfl) (xs := [.tmp 10]) (by kernel_rfl) (alike_cons (fill_past (by kernel_rfl) (by kernel_rfl)) alike_nil) (gv_val (v := .int .i64 ((l : Nat) : Int)) (w' := w1) (by kernel_rfl) ?_))
              exact ⟨rfl, rfl⟩
            · skip
              refine told_free rfl rfl (gv_env ((⟨Array.replicate 80 undef, []⟩ : Act).put (some 0) (.slice (some adb) b.length cb)) (by kernel_rfl) (xs := [.tmp 0]) (by kernel_rfl) (alike_cons (fill_past (by kernel_rfl) (by kernel_rfl)) alike_nil) (gv_val (v := .slice (some adb) b.length cb) (w' := w1) (by kernel_rfl) ?_))
              exact ⟨rfl, rfl⟩
            · skip
              refine told_free rfl rfl (gv_env ((⟨Array.replicate 80 undef, []⟩ : Act).put (some 47) (.slice (some adb) b.length cb)) (by kernel_rfl) (xs := [.tmp 47]) (by kernel_rfl) (alike_cons (fill_at (k := 1) (by kernel_rfl) (by kernel_rfl) ((hd_ 1 (by kernel_rfl)).trans (by kernel_rfl))) alike_nil) (gv_val (v := .int .i64 (b.length : Nat)) (w' := w1) (by kernel_rfl) ?_))
              exact ⟨rfl, rfl⟩
            · skip
              refine told_free rfl rfl (gv_env (((⟨Array.replicate 80 undef, []⟩ : Act).put (some 46) (.int .i64 ((l : Nat) : Int))).put (some 48) (.int .i64 (b.length : Nat))) (by kernel_rfl) (xs := [.tmp 46, .tmp 48]) (by kernel_rfl) (alike_cons (fill_at (k := 0) (by kernel_rfl) (by kernel_rfl) ((hd_ 0 (by kernel_rfl)).trans (by kernel_rfl))) (alike_cons (fill_at (k := 2) (by kernel_rfl) (by kernel_rfl) ((hd_ 2 (by kernel_rfl)).trans (by kernel_rfl))) alike_nil)) (gv_boolT (b := decide ((((l : Nat) : Int) : Int) < (b.length : Nat))) (b' := true) (by kernel_rfl) (by simp; omega) ?_))
              exact ⟨rfl, rfl⟩
            · skip
              refine told_free rfl rfl (gv_env ((⟨Array.replicate 80 undef, []⟩ : Act).put (some 49) (.bool true)) (by kernel_rfl) (xs := [.tmp 49]) (by kernel_rfl) (alike_cons (fill_at (k := 3) (by kernel_rfl) (by kernel_rfl) ((hd_ 3 (by kernel_rfl)).trans (by kernel_rfl))) alike_nil) (gv_val (v := .bool true) (w' := w1) (by kernel_rfl) ?_))
              exact ⟨rfl, rfl⟩
            · skip
              refine told_when (g := 4) (t := 50) (k := 4) (b := true) rfl rfl (by kernel_rfl) (by kernel_rfl) (by kernel_rfl) ((hd_ 4 (by kernel_rfl)).trans (by kernel_rfl)) (gv_env ((⟨Array.replicate 80 undef, []⟩ : Act).put (some 0) (.slice (some adb) b.length cb)) (by kernel_rfl) (xs := [.tmp 0]) (by kernel_rfl) (alike_cons (fill_past (by kernel_rfl) (by kernel_rfl)) alike_nil) (gv_val (v := .slice (some adb) b.length cb) (w' := w1) (by kernel_rfl) ?_))
              exact ⟨rfl, rfl⟩
            · skip
              refine told_when (g := 4) (t := 50) (k := 4) (b := true) rfl rfl (by kernel_rfl) (by kernel_rfl) (by kernel_rfl) ((hd_ 4 (by kernel_rfl)).trans (by kernel_rfl)) (gv_env ((⟨Array.replicate 80 undef, []⟩ : Act).put (some 0) (.slice (some adb) b.length cb)) (by kernel_rfl) (xs := [.tmp 0]) (by kernel_rfl) (alike_cons (fill_past (by kernel_rfl) (by kernel_rfl)) alike_nil) (gv_val (v := .slice (some adb) b.length cb) (w' := w1) (by kernel_rfl) ?_))
              exact ⟨rfl, rfl⟩
            · skip
              refine told_when (g := 4) (t := 50) (k := 4) (b := true) rfl rfl (by kernel_rfl) (by kernel_rfl) (by kernel_rfl) ((hd_ 4 (by kernel_rfl)).trans (by kernel_rfl)) (gv_env ((⟨Array.replicate 80 undef, []⟩ : Act).put (some 52) (.slice (some adb) b.length cb)) (by kernel_rfl) (xs := [.tmp 52]) (by kernel_rfl) (alike_cons (fill_at (k := 6) (by kernel_rfl) (by kernel_rfl) ((hd_ 6 (by kernel_rfl)).trans (by kernel_rfl))) alike_nil) (gv_val (v := .int .i64 (b.length : Nat)) (w' := w1) (by kernel_rfl) ?_))
              exact ⟨rfl, rfl⟩
            · skip
              refine told_when (g := 4) (t := 50) (k := 4) (b := true) rfl rfl (by kernel_rfl) (by kernel_rfl) (by kernel_rfl) ((hd_ 4 (by kernel_rfl)).trans (by kernel_rfl)) (gv_env ((⟨Array.replicate 80 undef, []⟩ : Act).put (some 53) (.int .i64 (b.length : Nat))) (by kernel_rfl) (xs := [.tmp 53, .const (.int .i64 1)]) (by kernel_rfl) (alike_cons (fill_at (k := 7) (by kernel_rfl) (by kernel_rfl) ((hd_ 7 (by kernel_rfl)).trans (by kernel_rfl))) (alike_cons eval_c alike_nil)) (gv_int (k := .i64) (z := IntKind.i64.wrap ((b.length : Nat) - 1)) (z' := ((b.length - 1 : Nat) : Int)) (by kernel_rfl) (wr_eq (by omega) (by omega) (by omega)) ?_))
              exact ⟨rfl, rfl⟩
            · skip
              refine told_when (g := 4) (t := 50) (k := 4) (b := true) rfl rfl (by kernel_rfl) (by kernel_rfl) (by kernel_rfl) ((hd_ 4 (by kernel_rfl)).trans (by kernel_rfl)) (gv_env ((⟨Array.replicate 80 undef, []⟩ : Act).put (some 10) (.int .i64 ((l : Nat) : Int))) (by kernel_rfl) (xs := [.tmp 10]) (by kernel_rfl) (alike_cons (fill_past (by kernel_rfl) (by kernel_rfl)) alike_nil) (gv_val (v := .int .i64 ((l : Nat) : Int)) (w' := w1) (by kernel_rfl) ?_))
              exact ⟨rfl, rfl⟩
            · skip
              refine told_when (g := 4) (t := 50) (k := 4) (b := true) rfl rfl (by kernel_rfl) (by kernel_rfl) (by kernel_rfl) ((hd_ 4 (by kernel_rfl)).trans (by kernel_rfl)) (gv_env (((⟨Array.replicate 80 undef, []⟩ : Act).put (some 54) (.int .i64 ((b.length - 1 : Nat) : Int))).put (some 55) (.int .i64 ((l : Nat) : Int))) (by kernel_rfl) (xs := [.tmp 54, .tmp 55]) (by kernel_rfl) (alike_cons (fill_at (k := 8) (by kernel_rfl) (by kernel_rfl) ((hd_ 8 (by kernel_rfl)).trans (by kernel_rfl))) (alike_cons (fill_at (k := 9) (by kernel_rfl) (by kernel_rfl) ((hd_ 9 (by kernel_rfl)).trans (by kernel_rfl))) alike_nil)) (gv_int (k := .i64) (z := IntKind.i64.wrap (((b.length - 1 : Nat) : Int) - ((l : Nat) : Int))) (z' := ((b.length - 1 - l : Nat) : Int)) (by kernel_rfl) (wr_eq (by omega) (by omega) (by omega)) ?_))
              exact ⟨rfl, rfl⟩
            · skip
              refine told_when (g := 4) (t := 50) (k := 4) (b := true) rfl rfl (by kernel_rfl) (by kernel_rfl) (by kernel_rfl) ((hd_ 4 (by kernel_rfl)).trans (by kernel_rfl)) (gv_env (((⟨Array.replicate 80 undef, []⟩ : Act).put (some 51) (.slice (some adb) b.length cb)).put (some 56) (.int .i64 ((b.length - 1 - l : Nat) : Int))) (by kernel_rfl) (xs := [.tmp 51, .tmp 56]) (by kernel_rfl) (alike_cons (fill_at (k := 5) (by kernel_rfl) (by kernel_rfl) ((hd_ 5 (by kernel_rfl)).trans (by kernel_rfl))) (alike_cons (fill_at (k := 10) (by kernel_rfl) (by kernel_rfl) ((hd_ 10 (by kernel_rfl)).trans (by kernel_rfl))) alike_nil)) (gv_ixB (e := 5) (sz := 1) (n := b.length) (c := cb) (i := ((b.length - 1 - l : Nat) : Int)) (k := .i64) (ad := adb) (ad' := (adb.add (b.length - 1 - l))) (j := (b.length - 1 - l)) rfl (by kernel_rfl) (by kernel_rfl) (by kernel_rfl) (by kernel_rfl) rfl (by omega) (by rw [Nat.mul_one]) ?_))
              exact ⟨rfl, rfl⟩
            · skip
              have S109 : St F w0 w1 (L) := hPh_
              refine told_when (g := 4) (t := 50) (k := 4) (b := true) rfl rfl (by kernel_rfl) (by kernel_rfl) (by kernel_rfl) ((hd_ 4 (by kernel_rfl)).trans (by kernel_rfl)) (gv_env ((⟨Array.replicate 80 undef, []⟩ : Act).put (some 57) (.pointer (some (adb.add (b.length - 1 - l))))) (by kernel_rfl) (xs := [.tmp 57]) (by kernel_rfl) (alike_cons (fill_at (k := 11) (by kernel_rfl) (by kernel_rfl) ((hd_ 11 (by kernel_rfl)).trans (by kernel_rfl))) alike_nil) (gv_ldR (v := .int .u8 ((b.getD (b.length - 1 - l) 0).toNat : Int)) rfl (by kernel_rfl) (by kernel_rfl) ((hb.now S109).cell (by omega)) ?_))
              exact ⟨rfl, rfl⟩
            · skip
              refine told_when (g := 4) (t := 50) (k := 4) (b := true) rfl rfl (by kernel_rfl) (by kernel_rfl) (by kernel_rfl) ((hd_ 4 (by kernel_rfl)).trans (by kernel_rfl)) (gv_env ((⟨Array.replicate 80 undef, []⟩ : Act).put (some 8) (.slice x.A x.l.length x.c)) (by kernel_rfl) (xs := [.tmp 8]) (by kernel_rfl) (alike_cons (fill_past (by kernel_rfl) (by kernel_rfl)) alike_nil) (gv_val (v := .slice x.A x.l.length x.c) (w' := w1) (by kernel_rfl) ?_))
              exact ⟨rfl, rfl⟩
            · skip
              refine told_when (g := 4) (t := 50) (k := 4) (b := true) rfl rfl (by kernel_rfl) (by kernel_rfl) (by kernel_rfl) ((hd_ 4 (by kernel_rfl)).trans (by kernel_rfl)) (gv_env ((⟨Array.replicate 80 undef, []⟩ : Act).put (some 0) (.slice (some adb) b.length cb)) (by kernel_rfl) (xs := [.tmp 0]) (by kernel_rfl) (alike_cons (fill_past (by kernel_rfl) (by kernel_rfl)) alike_nil) (gv_val (v := .slice (some adb) b.length cb) (w' := w1) (by kernel_rfl) ?_))
              exact ⟨rfl, rfl⟩
            · skip
              refine told_when (g := 4) (t := 50) (k := 4) (b := true) rfl rfl (by kernel_rfl) (by kernel_rfl) (by kernel_rfl) ((hd_ 4 (by kernel_rfl)).trans (by kernel_rfl)) (gv_env ((⟨Array.replicate 80 undef, []⟩ : Act).put (some 60) (.slice (some adb) b.length cb)) (by kernel_rfl) (xs := [.tmp 60]) (by kernel_rfl) (alike_cons (fill_at (k := 14) (by kernel_rfl) (by kernel_rfl) ((hd_ 14 (by kernel_rfl)).trans (by kernel_rfl))) alike_nil) (gv_val (v := .int .i64 (b.length : Nat)) (w' := w1) (by kernel_rfl) ?_))
              exact ⟨rfl, rfl⟩
            · skip
              refine told_when (g := 4) (t := 50) (k := 4) (b := true) rfl rfl (by kernel_rfl) (by kernel_rfl) (by kernel_rfl) ((hd_ 4 (by kernel_rfl)).trans (by kernel_rfl)) (gv_env ((⟨Array.replicate 80 undef, []⟩ : Act).put (some 61) (.int .i64 (b.length : Nat))) (by kernel_rfl) (xs := [.tmp 61, .const (.int .i64 1)]) (by kernel_rfl) (alike_cons (fill_at (k := 15) (by kernel_rfl) (by kernel_rfl) ((hd_ 15 (by kernel_rfl)).trans (by kernel_rfl))) (alike_cons eval_c alike_nil)) (gv_int (k := .i64) (z := IntKind.i64.wrap ((b.length : Nat) - 1)) (z' := ((b.length - 1 : Nat) : Int)) (by kernel_rfl) (wr_eq (by omega) (by omega) (by omega)) ?_))
              exact ⟨rfl, rfl⟩
            · skip
              refine told_when (g := 4) (t := 50) (k := 4) (b := true) rfl rfl (by kernel_rfl) (by kernel_rfl) (by kernel_rfl) ((hd_ 4 (by kernel_rfl)).trans (by kernel_rfl)) (gv_env ((⟨Array.replicate 80 undef, []⟩ : Act).put (some 10) (.int .i64 ((l : Nat) : Int))) (by kernel_rfl) (xs := [.tmp 10]) (by kernel_rfl) (alike_cons (fill_past (by kernel_rfl) (by kernel_rfl)) alike_nil) (gv_val (v := .int .i64 ((l : Nat) : Int)) (w' := w1) (by kernel_rfl) ?_))
              exact ⟨rfl, rfl⟩
            · skip
              refine told_when (g := 4) (t := 50) (k := 4) (b := true) rfl rfl (by kernel_rfl) (by kernel_rfl) (by kernel_rfl) ((hd_ 4 (by kernel_rfl)).trans (by kernel_rfl)) (gv_env (((⟨Array.replicate 80 undef, []⟩ : Act).put (some 62) (.int .i64 ((b.length - 1 : Nat) : Int))).put (some 63) (.int .i64 ((l : Nat) : Int))) (by kernel_rfl) (xs := [.tmp 62, .tmp 63]) (by kernel_rfl) (alike_cons (fill_at (k := 16) (by kernel_rfl) (by kernel_rfl) ((hd_ 16 (by kernel_rfl)).trans (by kernel_rfl))) (alike_cons (fill_at (k := 17) (by kernel_rfl) (by kernel_rfl) ((hd_ 17 (by kernel_rfl)).trans (by kernel_rfl))) alike_nil)) (gv_int (k := .i64) (z := IntKind.i64.wrap (((b.length - 1 : Nat) : Int) - ((l : Nat) : Int))) (z' := ((b.length - 1 - l : Nat) : Int)) (by kernel_rfl) (wr_eq (by omega) (by omega) (by omega)) ?_))
              exact ⟨rfl, rfl⟩
            · skip
              refine told_when (g := 4) (t := 50) (k := 4) (b := true) rfl rfl (by kernel_rfl) (by kernel_rfl) (by kernel_rfl) ((hd_ 4 (by kernel_rfl)).trans (by kernel_rfl)) (gv_env (((⟨Array.replicate 80 undef, []⟩ : Act).put (some 59) (.slice x.A x.l.length x.c)).put (some 64) (.int .i64 ((b.length - 1 - l : Nat) : Int))) (by kernel_rfl) (xs := [.tmp 59, .tmp 64]) (by kernel_rfl) (alike_cons (fill_at (k := 13) (by kernel_rfl) (by kernel_rfl) ((hd_ 13 (by kernel_rfl)).trans (by kernel_rfl))) (alike_cons (fill_at (k := 18) (by kernel_rfl) (by kernel_rfl) ((hd_ 18 (by kernel_rfl)).trans (by kernel_rfl))) alike_nil)) (gv_ixB (e := 5) (sz := 1) (n := x.l.length) (c := x.c) (i := ((b.length - 1 - l : Nat) : Int)) (k := .i64) (ad := adx) (ad' := (adx.add (b.length - 1 - l))) (j := (b.length - 1 - l)) rfl (by kernel_rfl) (by kernel_rfl) (by rw [← hAx]; kernel_rfl) (by kernel_rfl) rfl (by omega) (by rw [Nat.mul_one]) ?_))
              exact ⟨rfl, rfl⟩
            · skip
              have S117 : St F w0 w1 (L) := hPh_
              refine told_when (g := 4) (t := 50) (k := 4) (b := true) rfl rfl (by kernel_rfl) (by kernel_rfl) (by kernel_rfl) ((hd_ 4 (by kernel_rfl)).trans (by kernel_rfl)) (gv_env ((⟨Array.replicate 80 undef, []⟩ : Act).put (some 65) (.pointer (some (adx.add (b.length - 1 - l))))) (by kernel_rfl) (xs := [.tmp 65]) (by kernel_rfl) (alike_cons (fill_at (k := 19) (by kernel_rfl) (by kernel_rfl) ((hd_ 19 (by kernel_rfl)).trans (by kernel_rfl))) alike_nil) (gv_ldR (v := .int .u8 ((x.l.getD (b.length - 1 - l) 0).toNat : Int)) rfl (by kernel_rfl) (by kernel_rfl) ((hxr2.now S117).cell (by omega)) ?_))
              exact ⟨rfl, rfl⟩
            · skip
              refine told_when (g := 4) (t := 50) (k := 4) (b := true) rfl rfl (by kernel_rfl) (by kernel_rfl) (by kernel_rfl) ((hd_ 4 (by kernel_rfl)).trans (by kernel_rfl)) (gv_env (((⟨Array.replicate 80 undef, []⟩ : Act).put (some 58) (.int .u8 ((b.getD (b.length - 1 - l) 0).toNat : Int))).put (some 66) (.int .u8 ((x.l.getD (b.length - 1 - l) 0).toNat : Int))) (by kernel_rfl) (xs := [.tmp 58, .tmp 66]) (by kernel_rfl) (alike_cons (fill_at (k := 12) (by kernel_rfl) (by kernel_rfl) ((hd_ 12 (by kernel_rfl)).trans (by kernel_rfl))) (alike_cons (fill_at (k := 20) (by kernel_rfl) (by kernel_rfl) ((hd_ 20 (by kernel_rfl)).trans (by kernel_rfl))) alike_nil)) (gv_val (v := .bool (((b.getD (b.length - 1 - l) 0).toNat : Int) == ((x.l.getD (b.length - 1 - l) 0).toNat : Int))) (w' := w1) (by kernel_rfl) ?_))
              exact ⟨rfl, rfl⟩
            · skip
              refine told_free rfl rfl (gv_env (((⟨Array.replicate 80 undef, []⟩ : Act).put (some 50) (.bool true)).put (some 67) (.bool (((b.getD (b.length - 1 - l) 0).toNat : Int) == ((x.l.getD (b.length - 1 - l) 0).toNat : Int)))) (by kernel_rfl) (xs := [.tmp 50, .tmp 67, .const (.bool false)]) (by kernel_rfl) (alike_cons (fill_at (k := 4) (by kernel_rfl) (by kernel_rfl) ((hd_ 4 (by kernel_rfl)).trans (by kernel_rfl))) (alike_cons (fill_at (k := 21) (by kernel_rfl) (by kernel_rfl) ((hd_ 21 (by kernel_rfl)).trans (by kernel_rfl))) (alike_cons eval_c alike_nil))) (gv_val (v := .bool (((b.getD (b.length - 1 - l) 0).toNat : Int) == ((x.l.getD (b.length - 1 - l) 0).toNat : Int))) (w' := w1) (by kernel_rfl) ?_))
              exact ⟨rfl, rfl⟩
            · exact absurd hi_ (by omega)
          · intro k_ c5_ vals_ w1 hk_ hPh_ hd_
            exact absurd hk_ (Nat.not_lt_zero _)
          · intro c5_ w1 hPh_
            have S120 : St F w0 w1 (L) := hPh_
            refine wl_frame (fr ([.slice (some adb) b.length cb, .slice A1 C.length c1, ud, ud, J 4, iv ((max f i : Nat) : Int), iv ((kk : Nat) : Int), iv ((j : Nat) : Int), .slice x.A x.l.length x.c, iv ((i : Nat) : Int), iv ((l : Nat) : Int), iv ((j : Nat) : Int), .slice A1 C.length c1, iv (C.length : Nat), tv, J 15, J 16, .slice A1 C.length c1, iv ((j : Nat) : Int), .pointer (some (ad1.add j)), .slice x.A x.l.length x.c, .slice x.A x.l.length x.c, iv (x.l.length : Nat), .slice (some adb) b.length cb, iv (b.length : Nat), fv, iv ((i : Nat) : Int), .slice (some adb) b.length cb, iv (b.length : Nat), fv, fv, ud, ud, ud, ud, ud, ud, ud, ud, ud, fv, J 41, J 42, iv ((f : Nat) : Int), iv ((i : Nat) : Int), iv ((max f i : Nat) : Int), iv ((l : Nat) : Int), .slice (some adb) b.length cb, iv (b.length : Nat), tv, tv, .slice (some adb) b.length cb, .slice (some adb) b.length cb, iv (b.length : Nat), iv ((b.length - 1 : Nat) : Int), iv ((l : Nat) : Int), iv ((b.length - 1 - l : Nat) : Int), .pointer (some (adb.add (b.length - 1 - l))), .int .u8 ((b.getD (b.length - 1 - l) 0).toNat : Int), .slice x.A x.l.length x.c, .slice (some adb) b.length cb, iv (b.length : Nat), iv ((b.length - 1 : Nat) : Int), iv ((l : Nat) : Int), iv ((b.length - 1 - l : Nat) : Int), .pointer (some (adx.add (b.length - 1 - l))), .int .u8 ((x.l.getD (b.length - 1 - l) 0).toNat : Int), .bool (((b.getD (b.length - 1 - l) 0).toNat : Int) == ((x.l.getD (b.length - 1 - l) 0).toNat : Int)), .bool (((b.getD (b.length - 1 - l) 0).toNat : Int) == ((x.l.getD (b.length - 1 - l) 0).toNat : Int))] ++ jr J 69 5) 6) (by kernel_rfl) ?_
            refine wl_end (fr ([.slice (some adb) b.length cb, .slice A1 C.length c1, ud, ud, J 4, iv ((max f i : Nat) : Int), iv ((kk : Nat) : Int), iv ((j : Nat) : Int), .slice x.A x.l.length x.c, iv ((i : Nat) : Int), iv ((l : Nat) : Int), iv ((j : Nat) : Int), .slice A1 C.length c1, iv (C.length : Nat), tv, J 15, J 16, .slice A1 C.length c1, iv ((j : Nat) : Int), .pointer (some (ad1.add j)), .slice x.A x.l.length x.c, .slice x.A x.l.length x.c, iv (x.l.length : Nat), .slice (some adb) b.length cb, iv (b.length : Nat), fv, iv ((i : Nat) : Int), .slice (some adb) b.length cb, iv (b.length : Nat), fv, fv, ud, ud, ud, ud, ud, ud, ud, ud, ud, fv, J 41, J 42, iv ((f : Nat) : Int), iv ((i : Nat) : Int), iv ((max f i : Nat) : Int), iv ((l : Nat) : Int), .slice (some adb) b.length cb, iv (b.length : Nat), tv, tv, .slice (some adb) b.length cb, .slice (some adb) b.length cb, iv (b.length : Nat), iv ((b.length - 1 : Nat) : Int), iv ((l : Nat) : Int), iv ((b.length - 1 - l : Nat) : Int), .pointer (some (adb.add (b.length - 1 - l))), .int .u8 ((b.getD (b.length - 1 - l) 0).toNat : Int), .slice x.A x.l.length x.c, .slice (some adb) b.length cb, iv (b.length : Nat), iv ((b.length - 1 : Nat) : Int), iv ((l : Nat) : Int), iv ((b.length - 1 - l : Nat) : Int), .pointer (some (adx.add (b.length - 1 - l))), .int .u8 ((x.l.getD (b.length - 1 - l) 0).toNat : Int), .bool (((b.getD (b.length - 1 - l) 0).toNat : Int) == ((x.l.getD (b.length - 1 - l) 0).toNat : Int)), .bool (((b.getD (b.length - 1 - l) 0).toNat : Int) == ((x.l.getD (b.length - 1 - l) 0).toNat : Int))] ++ jr J 69 5) 6) (by kernel_rfl) ?_
            refine then_n ?_
            refine wp_cond_split (t := ((b.getD (b.length - 1 - l) 0).toNat : Int) == ((x.l.getD (b.length - 1 - l) 0).toNat : Int)) (by kernel_rfl) (fun hc121 => ?_) (fun hc121 => ?_)
            · skip
              have heql : b.getD (b.length - 1 - l) 0 = x.l.getD (b.length - 1 - l) 0 := UInt8.toNat_inj.1 (by have h9 : ((b.getD (b.length - 1 - l) 0).toNat : Int) = ((x.l.getD (b.length - 1 - l) 0).toNat : Int) := (by simpa using hc121); omega)
              refine wp_skip ?_
              refine then_n ?_
              refine wp_block ?_
              refine wp_region_lit ?_
              refine pv (iv ((l : Nat) : Int)) ?_
              refine wl_gv rfl (gv_int (k := .i64) (z := IntKind.i64.wrap (((l : Nat) : Int) + 1)) (z' := ((l + 1 : Nat) : Int)) (by kernel_rfl) (wr_eq (by omega) (by omega) (by omega)) ?_)
              refine pv (iv ((l + 1 : Nat) : Int)) ?_
              refine wl_end _ rfl ?_
              refine inb_n ?_
              refine then_n ?_
              exact ⟨l + 1, ⟨(jl [ud, ud, ud, ud, J 4, ud, ud, ud, ud, ud, ud, ud, ud, ud, ud, J 15, J 16, ud, ud, ud, ud, ud, ud, ud, ud, ud, ud, ud, ud, ud, ud, ud, ud, ud, ud, ud, ud, ud, ud, ud, ud, J 41, J 42, ud, ud, ud, iv ((l : Nat) : Int), .slice (some adb) b.length cb, iv (b.length : Nat), tv, tv, .slice (some adb) b.length cb, .slice (some adb) b.length cb, iv (b.length : Nat), iv ((b.length - 1 : Nat) : Int), iv ((l : Nat) : Int), iv ((b.length - 1 - l : Nat) : Int), .pointer (some (adb.add (b.length - 1 - l))), .int .u8 ((b.getD (b.length - 1 - l) 0).toNat : Int), .slice x.A x.l.length x.c, .slice (some adb) b.length cb, iv (b.length : Nat), iv ((b.length - 1 : Nat) : Int), iv ((l : Nat) : Int), iv ((b.length - 1 - l : Nat) : Int), .pointer (some (adx.add (b.length - 1 - l))), .int .u8 ((x.l.getD (b.length - 1 - l) 0).toNat : Int), .bool (((b.getD (b.length - 1 - l) 0).toNat : Int) == ((x.l.getD (b.length - 1 - l) 0).toNat : Int)), .bool (((b.getD (b.length - 1 - l) 0).toNat : Int) == ((x.l.getD (b.length - 1 - l) 0).toNat : Int)), iv ((l : Nat) : Int), iv ((l + 1 : Nat) : Int), J 71, J 72, J 73]), by kernel_rfl, S120, ⟨by omega, by rw [show b.length - (l + 1) = b.length - 1 - l from by omega]; exact drop_grow (by rw [show b.length - 1 - l + 1 = b.length - l from by omega]; exact hI96.2) (by omega) (by omega) heql⟩⟩, (by show b.length - (l + 1) < b.length - l; omega)⟩
            · skip
              have hne : b.getD (b.length - 1 - l) 0 ≠ x.l.getD (b.length - 1 - l) 0 := fun e => absurd hc121 (by rw [e]; simp)
              have h2 : ∀ m, m ≤ b.length → b.drop m = x.l.drop m → b.length ≤ m + l := fun m hm e => by have := drop_stop (by omega) (by omega) hne e; omega
              have hl5 : l ≤ b.length := hI96.1
              refine wp_exit ?_
              refine then_x ?_
              refine then_x ?_
              refine inb_x ?_
              refine then_n ?_
              refine wp_region_lit ?_
              refine pv (iv ((kk : Nat) : Int)) ?_
              refine pv (iv ((l : Nat) : Int)) ?_
              refine wl_gv rfl (gv_int (k := .i64) (z := if ((l : Nat) : Int) > ((kk : Nat) : Int) then ((l : Nat) : Int) else ((kk : Nat) : Int)) (z' := ((max kk l : Nat) : Int)) (by kernel_rfl) (by split <;> omega) ?_)
              refine pv (iv ((max kk l : Nat) : Int)) ?_
              refine wl_end _ rfl ?_
              refine inb_n ?_
              refine then_n ?_
              refine wp_region_lit ?_
              refine pv (iv ((j : Nat) : Int)) ?_
              refine wl_gv rfl (gv_int (k := .i64) (z := IntKind.i64.wrap (((j : Nat) : Int) + 1)) (z' := ((j + 1 : Nat) : Int)) (by kernel_rfl) (wr_eq (by omega) (by omega) (by omega)) ?_)
              refine pv (iv ((j + 1 : Nat) : Int)) ?_
              refine wl_end _ rfl ?_
              refine then_n ?_
              exact ⟨(j + 1, max f i, max kk l), ⟨(jl [ud, ud, ud, ud, J 4, ud, ud, ud, .slice x.A x.l.length x.c, iv ((i : Nat) : Int), iv ((l : Nat) : Int), iv ((j : Nat) : Int), .slice A1 C.length c1, iv (C.length : Nat), tv, iv ((j : Nat) : Int), iv ((j + 1 : Nat) : Int), .slice A1 C.length c1, iv ((j : Nat) : Int), .pointer (some (ad1.add j)), .slice x.A x.l.length x.c, .slice x.A x.l.length x.c, iv (x.l.length : Nat), .slice (some adb) b.length cb, iv (b.length : Nat), fv, iv ((i : Nat) : Int), .slice (some adb) b.length cb, iv (b.length : Nat), fv, fv, ud, ud, ud, ud, ud, ud, ud, ud, ud, fv, J 41, J 42, iv ((f : Nat) : Int), iv ((i : Nat) : Int), iv ((max f i : Nat) : Int), iv ((l : Nat) : Int), .slice (some adb) b.length cb, iv (b.length : Nat), tv, tv, .slice (some adb) b.length cb, .slice (some adb) b.length cb, iv (b.length : Nat), iv ((b.length - 1 : Nat) : Int), iv ((l : Nat) : Int), iv ((b.length - 1 - l : Nat) : Int), .pointer (some (adb.add (b.length - 1 - l))), .int .u8 ((b.getD (b.length - 1 - l) 0).toNat : Int), .slice x.A x.l.length x.c, .slice (some adb) b.length cb, iv (b.length : Nat), iv ((b.length - 1 : Nat) : Int), iv ((l : Nat) : Int), iv ((b.length - 1 - l : Nat) : Int), .pointer (some (adx.add (b.length - 1 - l))), .int .u8 ((x.l.getD (b.length - 1 - l) 0).toNat : Int), .bool (((b.getD (b.length - 1 - l) 0).toNat : Int) == ((x.l.getD (b.length - 1 - l) 0).toNat : Int)), .bool (((b.getD (b.length - 1 - l) 0).toNat : Int) == ((x.l.getD (b.length - 1 - l) 0).toNat : Int)), J 69, J 70, iv ((kk : Nat) : Int), iv ((l : Nat) : Int), iv ((max kk l : Nat) : Int)]), by kernel_rfl, S120, ⟨by omega, hFB.step (by rw [List.getElem?_map, hxj]; rfl) h1 h2 hi5 hl5⟩⟩, (by show C.length - (j + 1) < C.length - j; omega)⟩
        · skip
          have h2 : ∀ m, m ≤ b.length → b.drop m = x.l.drop m → b.length ≤ m + l := fun m hm _ => by omega
          have hl5 : l ≤ b.length := hI96.1
          refine wp_region_phu (γ := Unit) 23 [] (fun (c6_ : Unit) (i_ : Nat) => (match i_ with | 0 => .int .i64 ((l : Nat) : Int) | 1 => .slice (some adb) b.length cb | 2 => .int .i64 (b.length : Nat) | 3 => .bool false | 4 => .bool false | 5 => undef | 6 => undef | 7 => undef | 8 => undef | 9 => undef | 10 => undef | 11 => undef | 12 => undef | 13 => undef | 14 => undef | 15 => undef | 16 => undef | 17 => undef | 18 => undef | 19 => undef | 20 => undef | 21 => undef | 22 => .bool false | _ => undef : Value)) (fun (c6_ : Unit) (p_ : Nat) (w_ : World) => (match p_ with  | _ => St F w0 w_ (L) : Prop)) () (by kernel_rfl) (by kernel_rfl) (by kernel_rfl) (by kernel_rfl) (S95.drew) ?_ ?_ ?_
          · intro i_ c6_ p_ vals_ w1 hi_ hiE_ hp_ hk_ hu_ hPh_ hd_
            rcases i_ with _ | _ | _ | _ | _ | _ | _ | _ | _ | _ | _ | _ | _ | _ | _ | _ | _ | _ | _ | _ | _ | _ | _ | i_
            · skip
              refine told_free rfl rfl (gv_env ((⟨Array.replicate 80 undef, []⟩ : Act).put (some 10) (.int .i64 ((l : Nat) : Int))) (by kernel_rfl) (xs := [.tmp 10]) (by kernel_rfl) (alike_cons (fill_past (by kernel_rfl) (by kernel_rfl)) alike_nil) (gv_val (v := .int .i64 ((l : Nat) : Int)) (w' := w1) (by kernel_rfl) ?_))
              exact ⟨rfl, rfl⟩
            · skip
              refine told_free rfl rfl (gv_env ((⟨Array.replicate 80 undef, []⟩ : Act).put (some 0) (.slice (some adb) b.length cb)) (by kernel_rfl) (xs := [.tmp 0]) (by kernel_rfl) (alike_cons (fill_past (by kernel_rfl) (by kernel_rfl)) alike_nil) (gv_val (v := .slice (some adb) b.length cb) (w' := w1) (by kernel_rfl) ?_))
              exact ⟨rfl, rfl⟩
            · skip
              refine told_free rfl rfl (gv_env ((⟨Array.replicate 80 undef, []⟩ : Act).put (some 47) (.slice (some adb) b.length cb)) (by kernel_rfl) (xs := [.tmp 47]) (by kernel_rfl) (alike_cons (fill_at (k := 1) (by kernel_rfl) (by kernel_rfl) ((hd_ 1 (by kernel_rfl)).trans (by kernel_rfl))) alike_nil) (gv_val (v := .int .i64 (b.length : Nat)) (w' := w1) (by kernel_rfl) ?_))
              exact ⟨rfl, rfl⟩
            · skip
              refine told_free rfl rfl (gv_env (((⟨Array.replicate 80 undef, []⟩ : Act).put (some 46) (.int .i64 ((l : Nat) : Int))).put (some 48) (.int .i64 (b.length : Nat))) (by kernel_rfl) (xs := [.tmp 46, .tmp 48]) (by kernel_rfl) (alike_cons (fill_at (k := 0) (by kernel_rfl) (by kernel_rfl) ((hd_ 0 (by kernel_rfl)).trans (by kernel_rfl))) (alike_cons (fill_at (k := 2) (by kernel_rfl) (by kernel_rfl) ((hd_ 2 (by kernel_rfl)).trans (by kernel_rfl))) alike_nil)) (gv_boolT (b := decide ((((l : Nat) : Int) : Int) < (b.length : Nat))) (b' := false) (by kernel_rfl) (by simp; omega) ?_))
              exact ⟨rfl, rfl⟩
            · skip
              refine told_free rfl rfl (gv_env ((⟨Array.replicate 80 undef, []⟩ : Act).put (some 49) (.bool false)) (by kernel_rfl) (xs := [.tmp 49]) (by kernel_rfl) (alike_cons (fill_at (k := 3) (by kernel_rfl) (by kernel_rfl) ((hd_ 3 (by kernel_rfl)).trans (by kernel_rfl))) alike_nil) (gv_val (v := .bool false) (w' := w1) (by kernel_rfl) ?_))
              exact ⟨rfl, rfl⟩
            · skip
              exact told_not (g := 4) (t := 50) (k := 4) (b := true) (b' := false) rfl rfl (by kernel_rfl) (by kernel_rfl) (by kernel_rfl) ((hd_ 4 (by kernel_rfl)).trans (by kernel_rfl)) (by kernel_rfl) ⟨rfl, rfl⟩
            · skip
              exact told_not (g := 4) (t := 50) (k := 4) (b := true) (b' := false) rfl rfl (by kernel_rfl) (by kernel_rfl) (by kernel_rfl) ((hd_ 4 (by kernel_rfl)).trans (by kernel_rfl)) (by kernel_rfl) ⟨rfl, rfl⟩
            · skip
              exact told_not (g := 4) (t := 50) (k := 4) (b := true) (b' := false) rfl rfl (by kernel_rfl) (by kernel_rfl) (by kernel_rfl) ((hd_ 4 (by kernel_rfl)).trans (by kernel_rfl)) (by kernel_rfl) ⟨rfl, rfl⟩
            · skip
              exact told_not (g := 4) (t := 50) (k := 4) (b := true) (b' := false) rfl rfl (by kernel_rfl) (by kernel_rfl) (by kernel_rfl) ((hd_ 4 (by kernel_rfl)).trans (by kernel_rfl)) (by kernel_rfl) ⟨rfl, rfl⟩
            · skip
              exact told_not (g := 4) (t := 50) (k := 4) (b := true) (b' := false) rfl rfl (by kernel_rfl) (by kernel_rfl) (by kernel_rfl) ((hd_ 4 (by kernel_rfl)).trans (by kernel_rfl)) (by kernel_rfl) ⟨rfl, rfl⟩
            · skip
              exact told_not (g := 4) (t := 50) (k := 4) (b := true) (b' := false) rfl rfl (by kernel_rfl) (by kernel_rfl) (by kernel_rfl) ((hd_ 4 (by kernel_rfl)).trans (by kernel_rfl)) (by kernel_rfl) ⟨rfl, rfl⟩
            · skip
              exact told_not (g := 4) (t := 50) (k := 4) (b := true) (b' := false) rfl rfl (by kernel_rfl) (by kernel_rfl) (by kernel_rfl) ((hd_ 4 (by kernel_rfl)).trans (by kernel_rfl)) (by kernel_rfl) ⟨rfl, rfl⟩
            · skip
              exact told_not (g := 4) (t := 50) (k := 4) (b := true) (b' := false) rfl rfl (by kernel_rfl) (by kernel_rfl) (by kernel_rfl) ((hd_ 4 (by kernel_rfl)).trans (by kernel_rfl)) (by kernel_rfl) ⟨rfl, rfl⟩
            · skip
              exact told_not (g := 4) (t := 50) (k := 4) (b := true) (b' := false) rfl rfl (by kernel_rfl) (by kernel_rfl) (by kernel_rfl) ((hd_ 4 (by kernel_rfl)).trans (by kernel_rfl)) (by kernel_rfl) ⟨rfl, rfl⟩
            · skip
              exact told_not (g := 4) (t := 50) (k := 4) (b := true) (b' := false) rfl rfl (by kernel_rfl) (by kernel_rfl) (by kernel_rfl) ((hd_ 4 (by kernel_rfl)).trans (by kernel_rfl)) (by kernel_rfl) ⟨rfl, rfl⟩
            · skip
              exact told_not (g := 4) (t := 50) (k := 4) (b := true) (b' := false) rfl rfl (by kernel_rfl) (by kernel_rfl) (by kernel_rfl) ((hd_ 4 (by kernel_rfl)).trans (by kernel_rfl)) (by kernel_rfl) ⟨rfl, rfl⟩
            · skip
              exact told_not (g := 4) (t := 50) (k := 4) (b := true) (b' := false) rfl rfl (by kernel_rfl) (by kernel_rfl) (by kernel_rfl) ((hd_ 4 (by kernel_rfl)).trans (by kernel_rfl)) (by kernel_rfl) ⟨rfl, rfl⟩
            · skip
              exact told_not (g := 4) (t := 50) (k := 4) (b := true) (b' := false) rfl rfl (by kernel_rfl) (by kernel_rfl) (by kernel_rfl) ((hd_ 4 (by kernel_rfl)).trans (by kernel_rfl)) (by kernel_rfl) ⟨rfl, rfl⟩
            · skip
              exact told_not (g := 4) (t := 50) (k := 4) (b := true) (b' := false) rfl rfl (by kernel_rfl) (by kernel_rfl) (by kernel_rfl) ((hd_ 4 (by kernel_rfl)).trans (by kernel_rfl)) (by kernel_rfl) ⟨rfl, rfl⟩
            · skip
              exact told_not (g := 4) (t := 50) (k := 4) (b := true) (b' := false) rfl rfl (by kernel_rfl) (by kernel_rfl) (by kernel_rfl) ((hd_ 4 (by kernel_rfl)).trans (by kernel_rfl)) (by kernel_rfl) ⟨rfl, rfl⟩
            · skip
              exact told_not (g := 4) (t := 50) (k := 4) (b := true) (b' := false) rfl rfl (by kernel_rfl) (by kernel_rfl) (by kernel_rfl) ((hd_ 4 (by kernel_rfl)).trans (by kernel_rfl)) (by kernel_rfl) ⟨rfl, rfl⟩
            · skip
              exact told_not (g := 4) (t := 50) (k := 4) (b := true) (b' := false) rfl rfl (by kernel_rfl) (by kernel_rfl) (by kernel_rfl) ((hd_ 4 (by kernel_rfl)).trans (by kernel_rfl)) (by kernel_rfl) ⟨rfl, rfl⟩
            · skip
              refine told_free rfl rfl (gv_env (((⟨Array.replicate 80 undef, []⟩ : Act).put (some 50) (.bool false)).put (some 67) (undef)) (by kernel_rfl) (xs := [.tmp 50, .tmp 67, .const (.bool false)]) (by kernel_rfl) (alike_cons (fill_at (k := 4) (by kernel_rfl) (by kernel_rfl) ((hd_ 4 (by kernel_rfl)).trans (by kernel_rfl))) (alike_cons (fill_at (k := 21) (by kernel_rfl) (by kernel_rfl) ((hd_ 21 (by kernel_rfl)).trans (by kernel_rfl))) (alike_cons eval_c alike_nil))) (gv_val (v := .bool false) (w' := w1) (by kernel_rfl) ?_))
              exact ⟨rfl, rfl⟩
            · exact absurd hi_ (by omega)
          · intro k_ c6_ vals_ w1 hk_ hPh_ hd_
            exact absurd hk_ (Nat.not_lt_zero _)
          · intro c6_ w1 hPh_
            have S145 : St F w0 w1 (L) := hPh_
            refine wl_frame (fr ([.slice (some adb) b.length cb, .slice A1 C.length c1, ud, ud, J 4, iv ((max f i : Nat) : Int), iv ((kk : Nat) : Int), iv ((j : Nat) : Int), .slice x.A x.l.length x.c, iv ((i : Nat) : Int), iv ((l : Nat) : Int), iv ((j : Nat) : Int), .slice A1 C.length c1, iv (C.length : Nat), tv, J 15, J 16, .slice A1 C.length c1, iv ((j : Nat) : Int), .pointer (some (ad1.add j)), .slice x.A x.l.length x.c, .slice x.A x.l.length x.c, iv (x.l.length : Nat), .slice (some adb) b.length cb, iv (b.length : Nat), fv, iv ((i : Nat) : Int), .slice (some adb) b.length cb, iv (b.length : Nat), fv, fv, ud, ud, ud, ud, ud, ud, ud, ud, ud, fv, J 41, J 42, iv ((f : Nat) : Int), iv ((i : Nat) : Int), iv ((max f i : Nat) : Int), iv ((l : Nat) : Int), .slice (some adb) b.length cb, iv (b.length : Nat), fv, fv, ud, ud, ud, ud, ud, ud, ud, ud, ud, ud, ud, ud, ud, ud, ud, ud, ud, fv] ++ jr J 69 5) 6) (by kernel_rfl) ?_
            refine wl_end (fr ([.slice (some adb) b.length cb, .slice A1 C.length c1, ud, ud, J 4, iv ((max f i : Nat) : Int), iv ((kk : Nat) : Int), iv ((j : Nat) : Int), .slice x.A x.l.length x.c, iv ((i : Nat) : Int), iv ((l : Nat) : Int), iv ((j : Nat) : Int), .slice A1 C.length c1, iv (C.length : Nat), tv, J 15, J 16, .slice A1 C.length c1, iv ((j : Nat) : Int), .pointer (some (ad1.add j)), .slice x.A x.l.length x.c, .slice x.A x.l.length x.c, iv (x.l.length : Nat), .slice (some adb) b.length cb, iv (b.length : Nat), fv, iv ((i : Nat) : Int), .slice (some adb) b.length cb, iv (b.length : Nat), fv, fv, ud, ud, ud, ud, ud, ud, ud, ud, ud, fv, J 41, J 42, iv ((f : Nat) : Int), iv ((i : Nat) : Int), iv ((max f i : Nat) : Int), iv ((l : Nat) : Int), .slice (some adb) b.length cb, iv (b.length : Nat), fv, fv, ud, ud, ud, ud, ud, ud, ud, ud, ud, ud, ud, ud, ud, ud, ud, ud, ud, fv] ++ jr J 69 5) 6) (by kernel_rfl) ?_
            refine then_n ?_
            refine wp_cond_false (by kernel_rfl) ?_
            refine wp_exit ?_
            refine then_x ?_
            refine then_x ?_
            refine inb_x ?_
            refine then_n ?_
            refine wp_region_lit ?_
            refine pv (iv ((kk : Nat) : Int)) ?_
            refine pv (iv ((l : Nat) : Int)) ?_
            refine wl_gv rfl (gv_int (k := .i64) (z := if ((l : Nat) : Int) > ((kk : Nat) : Int) then ((l : Nat) : Int) else ((kk : Nat) : Int)) (z' := ((max kk l : Nat) : Int)) (by kernel_rfl) (by split <;> omega) ?_)
            refine pv (iv ((max kk l : Nat) : Int)) ?_
            refine wl_end _ rfl ?_
            refine inb_n ?_
            refine then_n ?_
            refine wp_region_lit ?_
            refine pv (iv ((j : Nat) : Int)) ?_
            refine wl_gv rfl (gv_int (k := .i64) (z := IntKind.i64.wrap (((j : Nat) : Int) + 1)) (z' := ((j + 1 : Nat) : Int)) (by kernel_rfl) (wr_eq (by omega) (by omega) (by omega)) ?_)
            refine pv (iv ((j + 1 : Nat) : Int)) ?_
            refine wl_end _ rfl ?_
            refine then_n ?_
            exact ⟨(j + 1, max f i, max kk l), ⟨(jl [ud, ud, ud, ud, J 4, ud, ud, ud, .slice x.A x.l.length x.c, iv ((i : Nat) : Int), iv ((l : Nat) : Int), iv ((j : Nat) : Int), .slice A1 C.length c1, iv (C.length : Nat), tv, iv ((j : Nat) : Int), iv ((j + 1 : Nat) : Int), .slice A1 C.length c1, iv ((j : Nat) : Int), .pointer (some (ad1.add j)), .slice x.A x.l.length x.c, .slice x.A x.l.length x.c, iv (x.l.length : Nat), .slice (some adb) b.length cb, iv (b.length : Nat), fv, iv ((i : Nat) : Int), .slice (some adb) b.length cb, iv (b.length : Nat), fv, fv, ud, ud, ud, ud, ud, ud, ud, ud, ud, fv, J 41, J 42, iv ((f : Nat) : Int), iv ((i : Nat) : Int), iv ((max f i : Nat) : Int), iv ((l : Nat) : Int), .slice (some adb) b.length cb, iv (b.length : Nat), fv, fv, ud, ud, ud, ud, ud, ud, ud, ud, ud, ud, ud, ud, ud, ud, ud, ud, ud, fv, J 69, J 70, iv ((kk : Nat) : Int), iv ((l : Nat) : Int), iv ((max kk l : Nat) : Int)]), by kernel_rfl, S145, ⟨by omega, hFB.step (by rw [List.getElem?_map, hxj]; rfl) h1 h2 hi5 hl5⟩⟩, (by show C.length - (j + 1) < C.length - j; omega)⟩
  · skip
    obtain ⟨hj, hFB⟩ := hI3
    have hje : j = (C.map (·.l)).length := by rw [List.length_map]; omega
    have hfin := FB.end' (hje ▸ hFB) hb5 hs (fun c hc => by obtain ⟨y, hy, rfl⟩ := List.mem_map.1 hc; exact hx5 y hy)
    have hf5 := hFB.f5
    have hk5 := hFB.k5
    refine wl_end _ rfl ?_
    refine then_n ?_
    refine wp_cond_false (by kernel_rfl) ?_
    refine wp_exit ?_
    refine then_x ?_
    refine then_x ?_
    refine inb_x ?_
    refine then_n ?_
    refine wp_seq ?_
    refine wp_region_lit ?_
    refine pv (iv ((f : Nat) : Int)) ?_
    refine pv (iv ((kk : Nat) : Int)) ?_
    refine wl_gv rfl (gv_int (k := .i64) (z := IntKind.i64.wrap (((f : Nat) : Int) + ((kk : Nat) : Int))) (z' := ((f : Nat) : Int) + ((kk : Nat) : Int)) (by kernel_rfl) (wr_ok (by omega) (by omega)) ?_)
    refine pv (.slice (some adb) b.length cb) ?_
    refine pv (iv (b.length : Nat)) ?_
    refine wl_gv rfl (gv_dec (p := (((f : Nat) : Int) + ((kk : Nat) : Int) : Int) ≥ (b.length : Nat)) (by kernel_rfl) (fun _ => ?_) (fun hd146 => False.elim (by omega)))
    refine pv tv ?_
    refine wl_end _ rfl ?_
    refine then_n ?_
    refine wp_ret ?_
    refine bodyPost_ret (v := .bool true) (results_t1 rfl (by kernel_rfl)) rfl ?_
    exact ⟨rfl, S2⟩
theorem begin_may {F : Nat → Prop} {w0 w : World} {L M0 : List Ast} {ad : Addr} {l : List UInt8} {ca m : Nat} (S : St F w0 w L) (hr : RoT F w0 M0 (some ad) l) (hl : l.length = 512 * m) (h1 : 1 ≤ m) (hm : m ≤ 4294967296) (hca : l.length ≤ ca) :
    Calls Try.prog 42 #[.slice (some ad) l.length ca] w fun e w' => ∃ (v : Value) (M : List ME), e = .returned v ∧ M.map (fun m => m.C.map (·.l)) = (secs l m).map (fun l => [l]) ∧ (∀ m ∈ M, ∀ x ∈ m.C, RoT F w0 M0 x.A x.l) ∧ St F w0 w' (vec 52 1 v M.length (M.map ME.v) :: stars (M.map ME.ast) :: L) := by
  refine wp_enter (fr [.slice (some ad) l.length ca] 22) Try.func42 rfl (by kernel_rfl) ?_
  refine wp_seq ?_
  refine wp_region_lit ?_
  refine pv (.slice none 0 0) ?_
  refine wl_end _ rfl ?_
  refine then_n ?_
  refine wp_seq ?_
  refine wp_region_lit ?_
  refine pv (.slice (some ad) l.length ca) ?_
  refine wl_gv rfl (gv_call (args := #[.slice (some ad) l.length ca]) rfl Try.func34 (by kernel_rfl) rfl rfl (by kernel_rfl) ?_)
  refine Calls.mono (cut_all (M := M0) S hr hl hm hca) ?_
  rintro _ w1 ⟨v_, E, rfl, hEa, hEb, S2⟩
  have hEc : E.length = m := by have := congrArg List.length hEa; rw [List.length_map, length_secs] at this; exact this
  obtain ⟨gn, cn, jn, rfl, hcn, _, _, S2'⟩ := St.vec_open S2 (by omega)
  refine ⟨_, rfl, ?_⟩
  refine pv (sl gn 0 E.length cn) ?_
  refine wl_end _ rfl ?_
  refine then_n ?_
  refine wp_seq ?_
  refine wp_region_lit ?_
  refine pv (.slice none 0 0) ?_
  refine wl_end _ rfl ?_
  refine then_n ?_
  refine wp_seq ?_
  refine wp_seq ?_
  refine wp_region_lit ?_
  refine pv (iv 0) ?_
  refine wl_end _ rfl ?_
  refine then_n ?_
  refine wp_block ?_
  have S3 : St F w0 w1 (stars (([] : List ME).map ME.ast) :: row gn ((E.map Hd.val ++ jn).toArray) 31 :: L) := St.star_nil S2'
  have S4 : St F w0 w1 (vec 52 1 (.slice none 0 0) ([] : List ME).length (([] : List ME).map ME.v) :: stars (([] : List ME).map ME.ast) :: row gn ((E.map Hd.val ++ jn).toArray) 31 :: L) := St.vec_nil S3
  refine wp_loop_g (G := Nat × Value × List ME) (fun (g_ : Nat × Value × List ME) (a_ : Act) (w_ : World) => ∃ J : Nat → Value, a_ = (fr ([.slice (some ad) l.length ca, ud, .slice none 0 0, sl gn 0 E.length cn, g_.2.1, iv ((g_.1 : Nat) : Int), .slice (some ad) l.length ca, sl gn 0 E.length cn] ++ jr J 8 14) 1) ∧ St F w0 w_ (vec 52 1 g_.2.1 g_.2.2.length (g_.2.2.map ME.v) :: stars (g_.2.2.map ME.ast) :: row gn ((E.map Hd.val ++ jn).toArray) 31 :: L) ∧ (g_.1 ≤ E.length ∧ g_.2.2.length = g_.1 ∧ g_.2.2.map (fun m => m.C.map (·.l)) = ((secs l m).take g_.1).map (fun l => [l]) ∧ (∀ m ∈ g_.2.2, ∀ x ∈ m.C, RoT F w0 M0 x.A x.l))) (fun g_ => E.length - g_.1) (0, .slice none 0 0, []) ⟨(jl []), by kernel_rfl, S4, ⟨Nat.zero_le _, rfl, rfl, fun q hq => (by cases hq)⟩⟩ ?_
  rintro ⟨i, v, M⟩ a_ w5 ⟨J, rfl, S6, hI7⟩
  skip
  have S6 : St F w0 w5 (vec 52 1 v M.length (M.map ME.v) :: stars (M.map ME.ast) :: row gn ((E.map Hd.val ++ jn).toArray) 31 :: L) := S6
  have hI7 : (i ≤ E.length ∧ M.length = i ∧ M.map (fun m => m.C.map (·.l)) = ((secs l m).take i).map (fun l => [l]) ∧ (∀ m ∈ M, ∀ x ∈ m.C, RoT F w0 M0 x.A x.l)) := hI7
  refine wp_seq ?_
  refine wp_seq ?_
  refine wp_region_lit ?_
  refine pv (iv ((i : Nat) : Int)) ?_
  refine pv (sl gn 0 E.length cn) ?_
  refine pv (iv (E.length : Nat)) ?_
  refine wl_gv rfl (gv_dec (p := (((i : Nat) : Int) : Int) < (E.length : Nat)) (by kernel_rfl) (fun hb8 => ?_) (fun hb8 => ?_))
  · skip
    obtain ⟨x, hx⟩ : ∃ x, E[i]? = some x := ⟨_, List.getElem?_eq_getElem (by omega)⟩
    refine wl_end _ rfl ?_
    refine then_n ?_
    refine wp_cond_true (by kernel_rfl) ?_
    refine wp_skip ?_
    refine then_n ?_
    refine wp_seq ?_
    refine wp_block ?_
    refine wp_region_lit ?_
    refine pv v ?_
    refine pv (sl gn 0 E.length cn) ?_
    refine pv (iv ((i : Nat) : Int)) ?_
    refine wl_gv rfl (gv_ixE (e := 31) (sz := 1) (g := gn) (off := 0) (n := E.length) (c := cn) (i := ((i : Nat) : Int)) (k := .i64) (j := i) (off' := i) rfl (by kernel_rfl) (by kernel_rfl) (by kernel_rfl) (by kernel_rfl) rfl (by omega) (by omega) ?_)
    refine wl_gv rfl (gv_ldR (v := Hd.val x) rfl (by kernel_rfl) (by kernel_rfl) (((S6.blk 2 rfl).cell i).trans (hd_at hx)) ?_)
    refine wl_gv rfl (gv_slit (e := 31) (sz := 1) (z := .slice none 0 0) (by_ := 24) (vs := #[(0, .slice x.A x.l.length x.c)]) (cells := #[.slice x.A x.l.length x.c]) S6 rfl (by kernel_rfl) ⟨by kernel_rfl⟩ (by kernel_rfl) (by kernel_rfl) (by kernel_rfl) (by kernel_rfl) (fun g9 w10 hg11 S12 => ?_))
    refine wl_gv rfl (gv_slit (e := 52) (sz := 1) (z := .slice none 0 0) (by_ := 24) (vs := #[(0, .slice (some ⟨g9, 0, none⟩) 1 1)]) (cells := #[.slice (some ⟨g9, 0, none⟩) 1 1]) S12 rfl (by kernel_rfl) ⟨by kernel_rfl⟩ (by kernel_rfl) (by kernel_rfl) (by kernel_rfl) (by kernel_rfl) (fun g13 w14 hg15 S16 => ?_))
    have S17 : St F w0 w14 (row g13 #[.slice (some ⟨g9, 0, none⟩) 1 1] 52 :: vec 52 1 v M.length (M.map ME.v) :: row g9 #[.slice x.A x.l.length x.c] 31 :: stars (M.map ME.ast) :: row gn ((E.map Hd.val ++ jn).toArray) 31 :: L) := St.permT [row g13 #[.slice (some ⟨g9, 0, none⟩) 1 1] 52, row g9 #[.slice x.A x.l.length x.c] 31, vec 52 1 v M.length (M.map ME.v), stars (M.map ME.ast), row gn ((E.map Hd.val ++ jn).toArray) 31] [0, 2, 1, 3, 4] (by decide) rfl S16
    refine wl_gv rfl (gv_append (e := 52) (sz := 1) (n := M.length) (v := v) (vals := (M.map ME.v)) (z := .slice none 0 0) (by_ := 24) (m := 1) (c' := 1) (ad := ⟨g13, 0, none⟩) (news := [.slice (some ⟨g9, 0, none⟩) 1 1]) (St.swap S17) rfl (by kernel_rfl) ⟨by kernel_rfl⟩ rfl (by kernel_rfl) (by kernel_rfl) (by decide) rfl (row_news (S17.blk 0 rfl)) (by intro u hu; simp at hu; subst hu; rfl) (by omega) (by omega) (fun v19 w18 S20 => ?_))
    refine pv v19 ?_
    refine wl_end _ rfl ?_
    refine inb_n ?_
    refine then_n ?_
    refine wp_region_lit ?_
    refine pv (iv ((i : Nat) : Int)) ?_
    refine wl_gv rfl (gv_int (k := .i64) (z := IntKind.i64.wrap (((i : Nat) : Int) + 1)) (z' := ((i + 1 : Nat) : Int)) (by kernel_rfl) (wr_eq (by omega) (by omega) (by omega)) ?_)
    refine pv (iv ((i + 1 : Nat) : Int)) ?_
    refine wl_end (fr [.slice (some ad) l.length ca, ud, .slice none 0 0, sl gn 0 E.length cn, v19, iv ((i + 1 : Nat) : Int), .slice (some ad) l.length ca, sl gn 0 E.length cn, iv ((i : Nat) : Int), sl gn 0 E.length cn, iv (E.length : Nat), tv, iv ((i : Nat) : Int), iv ((i + 1 : Nat) : Int), v, sl gn 0 E.length cn, iv ((i : Nat) : Int), po gn i, .slice x.A x.l.length x.c, sl g9 0 1 1, sl g13 0 1 1, v19] 1) (by kernel_rfl) ?_
    refine then_n ?_
    have S21 : St F w0 w18 (row g9 #[.slice x.A x.l.length x.c] 31 :: stars (M.map ME.ast) :: vec 52 1 v19 (M.length + 1) (M.map ME.v ++ [.slice (some ⟨g9, 0, none⟩) 1 1]) :: row gn ((E.map Hd.val ++ jn).toArray) 31 :: L) := St.permT [vec 52 1 v19 (M.length + 1) (M.map ME.v ++ [.slice (some ⟨g9, 0, none⟩) 1 1]), row g13 #[.slice (some ⟨g9, 0, none⟩) 1 1] 52, row g9 #[.slice x.A x.l.length x.c] 31, stars (M.map ME.ast), row gn ((E.map Hd.val ++ jn).toArray) 31] [2, 3, 0, 4] (by decide) rfl S20
    have S22 : St F w0 w18 (ME.ast (⟨.slice (some ⟨g9, 0, none⟩) 1 1, [x]⟩ : ME) :: stars (M.map ME.ast) :: vec 52 1 v19 (M.length + 1) (M.map ME.v ++ [.slice (some ⟨g9, 0, none⟩) 1 1]) :: row gn ((E.map Hd.val ++ jn).toArray) 31 :: L) := St.vec_mk (vals := [Hd.val x]) (junk := []) S21 (Nat.le_refl _) rfl rfl
    have S23 : St F w0 w18 (stars ((M ++ [(⟨.slice (some ⟨g9, 0, none⟩) 1 1, [x]⟩ : ME)]).map ME.ast) :: vec 52 1 v19 (M.length + 1) (M.map ME.v ++ [.slice (some ⟨g9, 0, none⟩) 1 1]) :: row gn ((E.map Hd.val ++ jn).toArray) 31 :: L) := St.may_add S22
    have S24 : St F w0 w18 (vec 52 1 v19 (M.length + 1) (M.map ME.v ++ [.slice (some ⟨g9, 0, none⟩) 1 1]) :: stars ((M ++ [(⟨.slice (some ⟨g9, 0, none⟩) 1 1, [x]⟩ : ME)]).map ME.ast) :: row gn ((E.map Hd.val ++ jn).toArray) 31 :: L) := St.permT [stars ((M ++ [(⟨.slice (some ⟨g9, 0, none⟩) 1 1, [x]⟩ : ME)]).map ME.ast), vec 52 1 v19 (M.length + 1) (M.map ME.v ++ [.slice (some ⟨g9, 0, none⟩) 1 1]), row gn ((E.map Hd.val ++ jn).toArray) 31] [1, 0, 2] (by decide) rfl S23
    have hv9 : M.map ME.v ++ [.slice (some ⟨g9, 0, none⟩) 1 1] = (M ++ [(⟨.slice (some ⟨g9, 0, none⟩) 1 1, [x]⟩ : ME)]).map ME.v := by rw [List.map_append]; rfl
    have hn9 : M.length + 1 = (M ++ [(⟨.slice (some ⟨g9, 0, none⟩) 1 1, [x]⟩ : ME)]).length := by rw [List.length_append]; rfl
    rw [hv9, hn9] at S24
    have htk : ((secs l m).take (i + 1)).map (fun l => [l]) = ((secs l m).take i).map (fun l => [l]) ++ [[x.l]] := by rw [List.take_add_one, ← hEa, List.getElem?_map, hx, List.map_append]; rfl
    exact ⟨(i + 1, v19, M ++ [⟨.slice (some ⟨g9, 0, none⟩) 1 1, [x]⟩]), ⟨(jl [ud, ud, ud, ud, ud, ud, ud, ud, iv ((i : Nat) : Int), sl gn 0 E.length cn, iv (E.length : Nat), tv, iv ((i : Nat) : Int), iv ((i + 1 : Nat) : Int), v, sl gn 0 E.length cn, iv ((i : Nat) : Int), po gn i, .slice x.A x.l.length x.c, sl g9 0 1 1, sl g13 0 1 1, v19]), by kernel_rfl, S24, ⟨by omega, by rw [List.length_append]; show M.length + 1 = i + 1; omega, by rw [List.map_append, hI7.2.2.1]; exact htk.symm, fun q hq y hy => (List.mem_append.1 hq).elim (fun h => hI7.2.2.2 q h y hy) (fun h => by rw [List.mem_singleton] at h; subst h; rw [List.mem_singleton] at hy; subst hy; exact hEb _ (List.mem_of_getElem? hx))⟩⟩, (by show E.length - (i + 1) < E.length - i; omega)⟩
  · skip
    refine wl_end _ rfl ?_
    refine then_n ?_
    refine wp_cond_false (by kernel_rfl) ?_
    refine wp_exit ?_
    refine then_x ?_
    refine then_x ?_
    refine inb_x ?_
    refine then_n ?_
    refine wp_seq ?_
    refine wp_region_lit ?_
    refine pv v ?_
    refine pv v ?_
    refine wl_end _ rfl ?_
    refine then_n ?_
    refine wp_ret ?_
    refine bodyPost_ret (v := v) (results_t1 rfl (by kernel_rfl)) rfl ?_
    have hie : i = E.length := by omega
    have htk : (secs l m).take i = secs l m := List.take_of_length_le (by rw [length_secs]; omega)
    rw [htk] at hI7
    have S25 : St F w0 w5 (vec 52 1 v M.length (M.map ME.v) :: stars (M.map ME.ast) :: L) := St.permT [vec 52 1 v M.length (M.map ME.v), stars (M.map ME.ast), row gn ((E.map Hd.val ++ jn).toArray) 31] [0, 1] (by decide) rfl S6
    exact ⟨_, M, rfl, hI7.2.2.1, hI7.2.2.2, S25⟩
theorem RoV.may {F : Nat → Prop} {w0 : World} {L : List Ast} {M : List ME} {m : ME} {A : Option Addr} {c : Nat} (j : Nat) (hj : L[j]? = some (stars (M.map ME.ast))) (hm : m ∈ M) (hv : m.v = .slice A m.C.length c) : RoV F w0 L A (m.C.map Hd.val) := ⟨fun w' L' S => by
  have h1 : (L' ++ L)[L'.length + j]? = some (stars (M.map ME.ast)) := by rw [List.getElem?_append_right (by omega)]; simpa using hj
  have S1 := (S.mem _ h1).star_mem (List.mem_map.2 ⟨m, hm, rfl⟩)
  have S2 : St F w0 w' [vec 31 1 (.slice A m.C.length c) m.C.length (m.C.map Hd.val)] := by rw [← hv]; exact S1
  exact St.vec_rd S2 0 rfl⟩
theorem St.may_v {F : Nat → Prop} {w0 w : World} {L : List Ast} {M : List ME} {m : ME} (S : St F w0 w L) (j : Nat) (hj : L[j]? = some (stars (M.map ME.ast))) (hm : m ∈ M) : ∃ A c, m.v = .slice A m.C.length c := by
  have S1 : St F w0 w [m.ast] := (S.mem _ hj).star_mem (List.mem_map.2 ⟨m, hm, rfl⟩)
  exact St.vec_val (L := []) S1
theorem _root_.Go.Vel.RdB.cells {w : World} {ad : Addr} {l : List UInt8} (h : RdB w (some ad) l) (h0 : 0 < l.length) : ∀ j u, (l.map bv)[j]? = some u → w.cell? (ad.add j) = some u := by
  obtain ⟨ad', e, hc⟩ := h h0
  cases e; exact hc
theorem joined_all {F : Nat → Prop} {w0 w : World} {L : List Ast} {gm cm : Nat} {jk : List Value} {M : List ME} (S : St F w0 w (row gm (M.map ME.v ++ jk).toArray 52 :: stars (M.map ME.ast) :: L)) (hro : ∀ m ∈ M, ∀ x ∈ m.C, RoT F w0 L x.A x.l) (h5 : ∀ m ∈ M, ∃ x r, m.C = x :: r ∧ x.l.length = 512) (hM : M.length ≤ 2048) {n : Nat} (hn : n = M.length) :
    Calls Try.prog 43 #[.slice (some ⟨gm, 0, none⟩) n cm] w fun e w' => ∃ v, e = .returned v ∧ (heads M).length = 512 * M.length ∧ St F w0 w' (vec 5 1 v (heads M).length ((heads M).map bv) :: row gm (M.map ME.v ++ jk).toArray 52 :: stars (M.map ME.ast) :: L) := by
  subst hn
  have hhl : ∀ N : List ME, (∀ m ∈ N, ∃ x r, m.C = x :: r ∧ x.l.length = 512) → (heads N).length = 512 * N.length := fun N hN => by
    unfold heads
    rw [flat_len (fun y hy => by obtain ⟨m, hm, rfl⟩ := List.mem_map.1 hy; obtain ⟨x, r, e, hx⟩ := hN m hm; rw [e]; exact hx), List.length_map]
  refine wp_enter (fr [sl gm 0 M.length cm] 19) Try.func43 rfl (by kernel_rfl) ?_
  refine wp_seq ?_
  refine wp_region_lit ?_
  refine pv (.slice none 0 0) ?_
  refine wl_end _ rfl ?_
  refine then_n ?_
  refine wp_seq ?_
  refine wp_region_lit ?_
  refine pv (.slice none 0 0) ?_
  refine wl_end _ rfl ?_
  refine then_n ?_
  refine wp_seq ?_
  refine wp_seq ?_
  refine wp_region_lit ?_
  refine pv (iv 0) ?_
  refine wl_end _ rfl ?_
  refine then_n ?_
  refine wp_block ?_
  have S1 : St F w0 w (vec 5 1 (.slice none 0 0) 0 [] :: row gm ((M.map ME.v ++ jk).toArray) 52 :: stars (M.map ME.ast) :: L) := St.vec_nil S
  refine wp_loop_g (G := Nat × Value) (fun (g_ : Nat × Value) (a_ : Act) (w_ : World) => ∃ J : Nat → Value, a_ = (fr ([sl gm 0 M.length cm, ud, .slice none 0 0, g_.2, iv ((g_.1 : Nat) : Int)] ++ jr J 5 14) 1) ∧ St F w0 w_ (vec 5 1 g_.2 (512 * g_.1) ((heads (M.take g_.1)).map bv) :: row gm ((M.map ME.v ++ jk).toArray) 52 :: stars (M.map ME.ast) :: L) ∧ (g_.1 ≤ M.length)) (fun g_ => M.length - g_.1) (0, .slice none 0 0) ⟨(jl []), by kernel_rfl, S1, Nat.zero_le _⟩ ?_
  rintro ⟨i, v⟩ a_ w2 ⟨J, rfl, S3, hI4⟩
  skip
  have S3 : St F w0 w2 (vec 5 1 v (512 * i) ((heads (M.take i)).map bv) :: row gm ((M.map ME.v ++ jk).toArray) 52 :: stars (M.map ME.ast) :: L) := S3
  have hI4 : (i ≤ M.length) := hI4
  refine wp_seq ?_
  refine wp_seq ?_
  refine wp_region_lit ?_
  refine pv (iv ((i : Nat) : Int)) ?_
  refine pv (sl gm 0 M.length cm) ?_
  refine pv (iv (M.length : Nat)) ?_
  refine wl_gv rfl (gv_dec (p := (((i : Nat) : Int) : Int) < (M.length : Nat)) (by kernel_rfl) (fun hb5 => ?_) (fun hb5 => ?_))
  · skip
    obtain ⟨m, hm⟩ : ∃ m, M[i]? = some m := ⟨_, List.getElem?_eq_getElem (by omega)⟩
    have hmm := List.mem_of_getElem? hm
    obtain ⟨x, r, hC, hx5⟩ := h5 m hmm
    obtain ⟨Am, cmm, hmv⟩ := St.may_v S3 2 rfl hmm
    have hmc : m.C.length = r.length + 1 := by rw [hC]; rfl
    obtain ⟨ad1, hAd1, hr1⟩ := (RoV.may 2 rfl hmm hmv).out _ [] S3 (by rw [List.length_map]; omega)
    have hxr := hro m hmm x (by rw [hC]; exact List.mem_cons_self)
    obtain ⟨adx, hAx⟩ := (hxr.more.more.more.now S3).at (k := 0) (by omega)
    refine wl_end _ rfl ?_
    refine then_n ?_
    refine wp_cond_true (by kernel_rfl) ?_
    refine wp_skip ?_
    refine then_n ?_
    refine wp_seq ?_
    refine wp_block ?_
    refine wp_region_lit ?_
    refine pv v ?_
    refine pv (sl gm 0 M.length cm) ?_
    refine pv (iv ((i : Nat) : Int)) ?_
    refine wl_gv rfl (gv_ixE (e := 52) (sz := 1) (g := gm) (off := 0) (n := M.length) (c := cm) (i := ((i : Nat) : Int)) (k := .i64) (j := i) (off' := i) rfl (by kernel_rfl) (by kernel_rfl) (by kernel_rfl) (by kernel_rfl) rfl (by omega) (by omega) ?_)
    refine wl_gv rfl (gv_ldR (v := .slice Am m.C.length cmm) rfl (by kernel_rfl) (by kernel_rfl) (((S3.blk 1 rfl).cell i).trans ((me_at hm).trans (congrArg some hmv))) ?_)
    refine wl_gv rfl (gv_ixB (e := 31) (sz := 1) (n := m.C.length) (c := cmm) (i := 0) (k := .i64) (ad := ad1) (ad' := (ad1.add 0)) (j := 0) rfl (by kernel_rfl) (by kernel_rfl) (by rw [← hAd1]; kernel_rfl) (by kernel_rfl) rfl (by omega) (by rw [Nat.mul_one]) ?_)
    refine wl_gv rfl (gv_ldR (v := Hd.val x) rfl (by kernel_rfl) (by kernel_rfl) (hr1 0 _ (by rw [hC]; rfl)) ?_)
    refine wl_gv rfl (gv_append (e := 5) (sz := 1) (n := 512 * i) (v := v) (vals := (heads (M.take i)).map bv) (z := .int .u8 0) (by_ := 1) (m := x.l.length) (c' := x.c) (ad := adx) (news := x.l.map bv) S3 rfl (by kernel_rfl) ⟨by kernel_rfl⟩ rfl (by kernel_rfl) (by rw [← hAx]; kernel_rfl) (by omega) (by rw [List.length_map, Nat.mul_one]) ((hAx ▸ hxr.more.more.more.now S3).cells (by omega)) (bvs_one x.l) (by omega) (by omega) (fun v7 w6 S8 => ?_))
    have hhe : (heads (M.take i)).map bv ++ x.l.map bv = (heads (M.take (i + 1))).map bv := by unfold heads; rw [List.take_add_one, hm, List.map_append, List.flatten_append, List.map_append]; simp [hC]
    rw [hhe, show 512 * i + x.l.length = 512 * (i + 1) from by omega] at S8
    refine pv v7 ?_
    refine wl_end _ rfl ?_
    refine inb_n ?_
    refine then_n ?_
    refine wp_region_lit ?_
    refine pv (iv ((i : Nat) : Int)) ?_
    refine wl_gv rfl (gv_int (k := .i64) (z := IntKind.i64.wrap (((i : Nat) : Int) + 1)) (z' := ((i + 1 : Nat) : Int)) (by kernel_rfl) (wr_eq (by omega) (by omega) (by omega)) ?_)
    refine pv (iv ((i + 1 : Nat) : Int)) ?_
    refine wl_end _ rfl ?_
    refine then_n ?_
    exact ⟨(i + 1, v7), ⟨(jl [ud, ud, ud, ud, ud, iv ((i : Nat) : Int), sl gm 0 M.length cm, iv (M.length : Nat), tv, iv ((i : Nat) : Int), iv ((i + 1 : Nat) : Int), v, sl gm 0 M.length cm, iv ((i : Nat) : Int), po gm i, .slice Am m.C.length cmm, .pointer (some (ad1.add 0)), .slice x.A x.l.length x.c, v7]), by kernel_rfl, S8, (by omega)⟩, (by show M.length - (i + 1) < M.length - i; omega)⟩
  · skip
    refine wl_end _ rfl ?_
    refine then_n ?_
    refine wp_cond_false (by kernel_rfl) ?_
    refine wp_exit ?_
    refine then_x ?_
    refine then_x ?_
    refine inb_x ?_
    refine then_n ?_
    refine wp_seq ?_
    refine wp_region_lit ?_
    refine pv v ?_
    refine pv v ?_
    refine wl_end _ rfl ?_
    refine then_n ?_
    refine wp_ret ?_
    refine bodyPost_ret (v := v) (results_t1 rfl (by kernel_rfl)) rfl ?_
    have hie : i = M.length := by omega
    have htk : M.take i = M := List.take_of_length_le (by omega)
    rw [htk, show 512 * i = (heads M).length from by rw [hhl M h5, hie]] at S3
    exact ⟨_, rfl, hhl M h5, S3⟩
theorem torn_all {F : Nat → Prop} {w0 w : World} {L : List Ast} {gd gm cm : Nat} {s : Dsk} {jk : List Value} {M : List ME} (S : St F w0 w (PDisk gd s :: row gm (M.map ME.v ++ jk).toArray 52 :: stars (M.map ME.ast) :: L)) (hro : ∀ m ∈ M, ∀ x ∈ m.C, RoT F w0 L x.A x.l) (hl : M.length = s.last.length) (hsp : ∀ k m, M[k]? = some m → Splices (m.C.map (·.l)) (s.last.getD k [])) (h5 : ∀ m ∈ M, ∀ x ∈ m.C, x.l.length = 512) (hCm : ∀ m ∈ M, m.C.length ≤ 4611686018427387904) {n : Nat} (hn : n = M.length) :
    Calls Try.prog 44 #[.pointer (some ⟨gd, 0, none⟩), .slice (some ⟨gm, 0, none⟩) n cm] w fun e w' => e = .returned (.bool true) ∧ St F w0 w' (PDisk gd s :: row gm (M.map ME.v ++ jk).toArray 52 :: stars (M.map ME.ast) :: L) := by
  subst hn
  refine wp_enter (fr [pq gd, sl gm 0 M.length cm] 31) Try.func44 rfl (by kernel_rfl) ?_
  refine wp_seq ?_
  refine wp_region_lit ?_
  refine pv fv ?_
  refine wl_end _ rfl ?_
  refine then_n ?_
  refine wp_seq ?_
  refine wp_region_lit ?_
  refine pv (pq gd) ?_
  refine wl_gv rfl (gv_call (args := #[.pointer (some ⟨gd, 0, none⟩)]) rfl Try.func25 (by kernel_rfl) rfl rfl (by kernel_rfl) ?_)
  obtain ⟨h4a, h4b⟩ := St.pd_small S
  obtain ⟨h4c, _⟩ := St.pd_n1 S
  have h4d := flat_len h4a
  refine Calls.mono (pd_image S) ?_
  rintro _ w1 ⟨v_, rfl, S2⟩
  obtain ⟨gi3, rfl, S2'⟩ := St.bytes_open S2 (by omega)
  refine ⟨_, rfl, ?_⟩
  refine pv (sl gi3 0 s.last.flatten.length s.last.flatten.length) ?_
  refine wl_end _ rfl ?_
  refine then_n ?_
  refine wp_seq ?_
  refine wp_region_lit ?_
  refine pv (sl gi3 0 s.last.flatten.length s.last.flatten.length) ?_
  refine wl_gv rfl (gv_call (args := #[.slice (some ⟨gi3, 0, none⟩) s.last.flatten.length s.last.flatten.length]) rfl Try.func34 (by kernel_rfl) rfl rfl (by kernel_rfl) ?_)
  have S7 : St F w0 w1 (PDisk gd s :: row gm ((M.map ME.v ++ jk).toArray) 52 :: stars (M.map ME.ast) :: row gi3 (bvs s.last.flatten) 5 :: L) := St.permT [row gi3 (bvs s.last.flatten) 5, PDisk gd s, row gm ((M.map ME.v ++ jk).toArray) 52, stars (M.map ME.ast)] [1, 2, 3, 0] (by decide) rfl S2'
  refine Calls.mono (cut_all (M := row gi3 (bvs s.last.flatten) 5 :: L) (l := s.last.flatten) (m := s.last.length) S7 (RoT.item 0 rfl 0 s.last.flatten.length _ (by rw [List.drop_zero, List.take_length])) h4d (by omega) (Nat.le_refl _)) ?_
  rintro _ w5 ⟨v_, E, rfl, hEa, hEb, S6⟩
  have hEc : E.length = s.last.length := by have := congrArg List.length hEa; rw [List.length_map, length_secs] at this; exact this
  obtain ⟨gn, cn, jn, rfl, hcn, _, _, S6'⟩ := St.vec_open S6 (by omega)
  rw [secs_of_flat h4a] at hEa
  refine ⟨_, rfl, ?_⟩
  refine pv (sl gn 0 E.length cn) ?_
  refine wl_end _ rfl ?_
  refine then_n ?_
  refine wp_seq ?_
  refine wp_seq ?_
  refine wp_region_lit ?_
  refine pv (sl gn 0 E.length cn) ?_
  refine pv (iv (E.length : Nat)) ?_
  refine pv (sl gm 0 M.length cm) ?_
  refine pv (iv (M.length : Nat)) ?_
  refine wl_gv rfl (gv_ne (x := (E.length : Nat)) (y := (M.length : Nat)) (by kernel_rfl) (fun hd8 => False.elim (by omega)) (fun _ => ?_))
  refine wl_end _ rfl ?_
  refine then_n ?_
  refine wp_cond_false (by kernel_rfl) ?_
  refine wp_skip ?_
  refine then_n ?_
  refine wp_seq ?_
  refine wp_seq ?_
  refine wp_region_lit ?_
  refine pv (iv 0) ?_
  refine wl_end _ rfl ?_
  refine then_n ?_
  refine wp_block ?_
  refine wp_loop_g (G := Nat) (fun (g_ : Nat) (a_ : Act) (w_ : World) => ∃ J : Nat → Value, a_ = (fr ([pq gd, sl gm 0 M.length cm, ud, ud, J 4, sl gi3 0 s.last.flatten.length s.last.flatten.length, sl gn 0 E.length cn, iv ((g_ : Nat) : Int), pq gd, sl gi3 0 s.last.flatten.length s.last.flatten.length, sl gi3 0 s.last.flatten.length s.last.flatten.length, sl gn 0 E.length cn, sl gn 0 E.length cn, iv (E.length : Nat), sl gm 0 M.length cm, iv (M.length : Nat), fv] ++ jr J 17 16) 0) ∧ St F w0 w_ (row gn ((E.map Hd.val ++ jn).toArray) 31 :: PDisk gd s :: row gm ((M.map ME.v ++ jk).toArray) 52 :: stars (M.map ME.ast) :: row gi3 (bvs s.last.flatten) 5 :: L) ∧ (g_ ≤ M.length)) (fun g_ => M.length - g_) 0 ⟨(jl [ud, ud, ud, ud, fv]), by kernel_rfl, S6', Nat.zero_le _⟩ ?_
  rintro k a_ w9 ⟨J, rfl, S10, hI11⟩
  skip
  have S10 : St F w0 w9 (row gn ((E.map Hd.val ++ jn).toArray) 31 :: PDisk gd s :: row gm ((M.map ME.v ++ jk).toArray) 52 :: stars (M.map ME.ast) :: row gi3 (bvs s.last.flatten) 5 :: L) := S10
  have hI11 : (k ≤ M.length) := hI11
  refine wp_seq ?_
  refine wp_seq ?_
  refine wp_region_lit ?_
  refine pv (iv ((k : Nat) : Int)) ?_
  refine pv (sl gm 0 M.length cm) ?_
  refine pv (iv (M.length : Nat)) ?_
  refine wl_gv rfl (gv_dec (p := (((k : Nat) : Int) : Int) < (M.length : Nat)) (by kernel_rfl) (fun hb12 => ?_) (fun hb12 => ?_))
  · skip
    have hkl : k < M.length := by omega
    obtain ⟨m, hm⟩ : ∃ m, M[k]? = some m := ⟨_, List.getElem?_eq_getElem hkl⟩
    have hmm := List.mem_of_getElem? hm
    obtain ⟨y, hy⟩ : ∃ y, E[k]? = some y := ⟨_, List.getElem?_eq_getElem (by omega)⟩
    have hym := List.mem_of_getElem? hy
    obtain ⟨Am, cmm, hmv⟩ := St.may_v S10 3 rfl hmm
    have hyl : y.l = s.last.getD k [] := by rw [List.getD_eq_getElem?_getD, ← hEa, List.getElem?_map, hy]; rfl
    have hy5 : y.l.length = 512 := by rw [hyl]; exact h4a _ (List.mem_of_getElem? (mem_getD (by omega)))
    have hyr : RoT F w0 (row gn ((E.map Hd.val ++ jn).toArray) 31 :: PDisk gd s :: row gm ((M.map ME.v ++ jk).toArray) 52 :: stars (M.map ME.ast) :: row gi3 (bvs s.last.flatten) 5 :: L) y.A y.l := (RoT.more (RoT.more (RoT.more (RoT.more (hEb y hym)))))
    obtain ⟨ady, hAy⟩ := (hyr.now S10).at (k := 0) (by omega)
    have hyr2 : RoT F w0 (row gn ((E.map Hd.val ++ jn).toArray) 31 :: PDisk gd s :: row gm ((M.map ME.v ++ jk).toArray) 52 :: stars (M.map ME.ast) :: row gi3 (bvs s.last.flatten) 5 :: L) (some ady) y.l := hAy ▸ hyr
    have hxr : ∀ x ∈ m.C, RoT F w0 (row gn ((E.map Hd.val ++ jn).toArray) 31 :: PDisk gd s :: row gm ((M.map ME.v ++ jk).toArray) 52 :: stars (M.map ME.ast) :: row gi3 (bvs s.last.flatten) 5 :: L) x.A x.l := fun x hx => (RoT.more (RoT.more (RoT.more (RoT.more (RoT.more (hro m hmm x hx))))))
    have hsl : Splices (m.C.map (·.l)) y.l := by rw [hyl]; exact hsp k m hm
    refine wl_end _ rfl ?_
    refine then_n ?_
    refine wp_cond_true (by kernel_rfl) ?_
    refine wp_skip ?_
    refine then_n ?_
    refine wp_seq ?_
    refine wp_block ?_
    refine wp_seq ?_
    refine wp_region_phu (γ := Unit) 10 [8] (fun (c_ : Unit) (i_ : Nat) => (match i_ with | 0 => .slice (some ⟨gn, 0, none⟩) E.length cn | 1 => .int .i64 ((k : Nat) : Int) | 2 => .pointer (some ⟨gn, k, none⟩) | 3 => .slice (some ady) y.l.length y.c | 4 => .slice (some ⟨gm, 0, none⟩) M.length cm | 5 => .int .i64 ((k : Nat) : Int) | 6 => .pointer (some ⟨gm, k, none⟩) | 7 => .slice Am m.C.length cmm | 8 => .bool true | 9 => .bool false | _ => undef : Value)) (fun (c_ : Unit) (p_ : Nat) (w_ : World) => (match p_ with | 0 => St F w0 w_ (row gn ((E.map Hd.val ++ jn).toArray) 31 :: PDisk gd s :: row gm ((M.map ME.v ++ jk).toArray) 52 :: stars (M.map ME.ast) :: row gi3 (bvs s.last.flatten) 5 :: L) | _ => St F w0 w_ (row gn ((E.map Hd.val ++ jn).toArray) 31 :: PDisk gd s :: row gm ((M.map ME.v ++ jk).toArray) 52 :: stars (M.map ME.ast) :: row gi3 (bvs s.last.flatten) 5 :: L) : Prop)) () (by kernel_rfl) (by kernel_rfl) (by kernel_rfl) (by kernel_rfl) (S10.drew) ?_ ?_ ?_
    · intro i_ c_ p_ vals_ w1 hi_ hiE_ hp_ hk_ hu_ hPh_ hd_
      rcases i_ with _ | _ | _ | _ | _ | _ | _ | _ | _ | _ | i_
      · skip
        refine told_free rfl rfl (gv_env ((⟨Array.replicate 33 undef, []⟩ : Act).put (some 6) (.slice (some ⟨gn, 0, none⟩) E.length cn)) (by kernel_rfl) (xs := [.tmp 6]) (by kernel_rfl) (alike_cons (fill_past (by kernel_rfl) (by kernel_rfl)) alike_nil) (gv_val (v := .slice (some ⟨gn, 0, none⟩) E.length cn) (w' := w1) (by kernel_rfl) ?_))
        exact ⟨rfl, rfl⟩
      · skip
        refine told_free rfl rfl (gv_env ((⟨Array.replicate 33 undef, []⟩ : Act).put (some 7) (.int .i64 ((k : Nat) : Int))) (by kernel_rfl) (xs := [.tmp 7]) (by kernel_rfl) (alike_cons (fill_past (by kernel_rfl) (by kernel_rfl)) alike_nil) (gv_val (v := .int .i64 ((k : Nat) : Int)) (w' := w1) (by kernel_rfl) ?_))
        exact ⟨rfl, rfl⟩
      · skip
        refine told_free rfl rfl (gv_env (((⟨Array.replicate 33 undef, []⟩ : Act).put (some 23) (.slice (some ⟨gn, 0, none⟩) E.length cn)).put (some 24) (.int .i64 ((k : Nat) : Int))) (by kernel_rfl) (xs := [.tmp 23, .tmp 24]) (by kernel_rfl) (alike_cons (fill_at (k := 0) (by kernel_rfl) (by kernel_rfl) ((hd_ 0 (by kernel_rfl)).trans (by kernel_rfl))) (alike_cons (fill_at (k := 1) (by kernel_rfl) (by kernel_rfl) ((hd_ 1 (by kernel_rfl)).trans (by kernel_rfl))) alike_nil)) (gv_ixE (e := 31) (sz := 1) (g := gn) (off := 0) (n := E.length) (c := cn) (i := ((k : Nat) : Int)) (k := .i64) (j := k) (off' := k) rfl (by kernel_rfl) (by kernel_rfl) (by kernel_rfl) (by kernel_rfl) rfl (by omega) (by omega) ?_))
        exact ⟨rfl, rfl⟩
      · skip
        rcases p_ with _ | _ | p_
        · skip
          have S16 : St F w0 w1 (row gn ((E.map Hd.val ++ jn).toArray) 31 :: PDisk gd s :: row gm ((M.map ME.v ++ jk).toArray) 52 :: stars (M.map ME.ast) :: row gi3 (bvs s.last.flatten) 5 :: L) := hPh_
          refine told_free rfl rfl (gv_env ((⟨Array.replicate 33 undef, []⟩ : Act).put (some 25) (.pointer (some ⟨gn, k, none⟩))) (by kernel_rfl) (xs := [.tmp 25]) (by kernel_rfl) (alike_cons (fill_at (k := 2) (by kernel_rfl) (by kernel_rfl) ((hd_ 2 (by kernel_rfl)).trans (by kernel_rfl))) alike_nil) (gv_ldR (v := .slice (some ady) y.l.length y.c) rfl (by kernel_rfl) (by kernel_rfl) (((S16.blk 0 rfl).cell k).trans ((hd_at hy).trans (by unfold Hd.val; rw [hAy]))) ?_))
          exact ⟨rfl, rfl⟩
        · skip
          exact absurd (hu_ 0 (by decide) (by kernel_rfl)) (by decide)
        · exact absurd hp_ (by simp)
      · skip
        refine told_free rfl rfl (gv_env ((⟨Array.replicate 33 undef, []⟩ : Act).put (some 1) (.slice (some ⟨gm, 0, none⟩) M.length cm)) (by kernel_rfl) (xs := [.tmp 1]) (by kernel_rfl) (alike_cons (fill_past (by kernel_rfl) (by kernel_rfl)) alike_nil) (gv_val (v := .slice (some ⟨gm, 0, none⟩) M.length cm) (w' := w1) (by kernel_rfl) ?_))
        exact ⟨rfl, rfl⟩
      · skip
        refine told_free rfl rfl (gv_env ((⟨Array.replicate 33 undef, []⟩ : Act).put (some 7) (.int .i64 ((k : Nat) : Int))) (by kernel_rfl) (xs := [.tmp 7]) (by kernel_rfl) (alike_cons (fill_past (by kernel_rfl) (by kernel_rfl)) alike_nil) (gv_val (v := .int .i64 ((k : Nat) : Int)) (w' := w1) (by kernel_rfl) ?_))
        exact ⟨rfl, rfl⟩
      · skip
        refine told_free rfl rfl (gv_env (((⟨Array.replicate 33 undef, []⟩ : Act).put (some 27) (.slice (some ⟨gm, 0, none⟩) M.length cm)).put (some 28) (.int .i64 ((k : Nat) : Int))) (by kernel_rfl) (xs := [.tmp 27, .tmp 28]) (by kernel_rfl) (alike_cons (fill_at (k := 4) (by kernel_rfl) (by kernel_rfl) ((hd_ 4 (by kernel_rfl)).trans (by kernel_rfl))) (alike_cons (fill_at (k := 5) (by kernel_rfl) (by kernel_rfl) ((hd_ 5 (by kernel_rfl)).trans (by kernel_rfl))) alike_nil)) (gv_ixE (e := 52) (sz := 1) (g := gm) (off := 0) (n := M.length) (c := cm) (i := ((k : Nat) : Int)) (k := .i64) (j := k) (off' := k) rfl (by kernel_rfl) (by kernel_rfl) (by kernel_rfl) (by kernel_rfl) rfl (by omega) (by omega) ?_))
        exact ⟨rfl, rfl⟩
      · skip
        rcases p_ with _ | _ | p_
        · skip
          have S20 : St F w0 w1 (row gn ((E.map Hd.val ++ jn).toArray) 31 :: PDisk gd s :: row gm ((M.map ME.v ++ jk).toArray) 52 :: stars (M.map ME.ast) :: row gi3 (bvs s.last.flatten) 5 :: L) := hPh_
          refine told_free rfl rfl (gv_env ((⟨Array.replicate 33 undef, []⟩ : Act).put (some 29) (.pointer (some ⟨gm, k, none⟩))) (by kernel_rfl) (xs := [.tmp 29]) (by kernel_rfl) (alike_cons (fill_at (k := 6) (by kernel_rfl) (by kernel_rfl) ((hd_ 6 (by kernel_rfl)).trans (by kernel_rfl))) alike_nil) (gv_ldR (v := .slice Am m.C.length cmm) rfl (by kernel_rfl) (by kernel_rfl) (((S20.blk 2 rfl).cell k).trans ((me_at hm).trans (congrArg some hmv))) ?_))
          exact ⟨rfl, rfl⟩
        · skip
          exact absurd (hu_ 0 (by decide) (by kernel_rfl)) (by decide)
        · exact absurd hp_ (by simp)
      · skip
        exact absurd hiE_ (by decide)
      · skip
        refine told_free rfl rfl (gv_env ((⟨Array.replicate 33 undef, []⟩ : Act).put (some 31) (.bool true)) (by kernel_rfl) (xs := [.tmp 31]) (by kernel_rfl) (alike_cons (fill_at (k := 8) (by kernel_rfl) (by kernel_rfl) ((hd_ 8 (by kernel_rfl)).trans (by kernel_rfl))) alike_nil) (gv_val (v := .bool false) (w' := w1) (by kernel_rfl) ?_))
        exact ⟨rfl, rfl⟩
      · exact absurd hi_ (by omega)
    · intro k_ c_ vals_ w1 hk_ hPh_ hd_
      rcases k_ with _ | k_
      · skip
        have S22 : St F w0 w1 (row gn ((E.map Hd.val ++ jn).toArray) 31 :: PDisk gd s :: row gm ((M.map ME.v ++ jk).toArray) 52 :: stars (M.map ME.ast) :: row gi3 (bvs s.last.flatten) 5 :: L) := hPh_
        refine told_free rfl rfl (gv_env (((⟨Array.replicate 33 undef, []⟩ : Act).put (some 26) (.slice (some ady) y.l.length y.c)).put (some 30) (.slice Am m.C.length cmm)) (by kernel_rfl) (xs := [.func 74, .tmp 26, .tmp 30]) (by kernel_rfl) (alike_cons eval_fn (alike_cons (fill_at (k := 3) (by kernel_rfl) (by kernel_rfl) ((hd_ 3 (by kernel_rfl)).trans (by kernel_rfl))) (alike_cons (fill_at (k := 7) (by kernel_rfl) (by kernel_rfl) ((hd_ 7 (by kernel_rfl)).trans (by kernel_rfl))) alike_nil))) (gv_call (args := #[.slice (some ady) y.l.length y.c, .slice Am m.C.length cmm]) rfl Try.func74 (by kernel_rfl) rfl rfl (by kernel_rfl) ?_))
        refine Calls.mono (spliced_all S22 hyr2 (RoV.may 3 rfl hmm hmv) hxr hy5 (h5 m hmm) hsl (hCm m hmm)) ?_
        rintro _ w23 ⟨rfl, S24⟩
        refine ⟨_, rfl, ?_⟩
        refine ⟨(), rfl, ?_, S24⟩
        intro i_ hi_ hne_ hdp_
        rcases i_ with _ | _ | _ | _ | _ | _ | _ | _ | _ | _ | i_
        · rfl
        · rfl
        · rfl
        · rfl
        · rfl
        · rfl
        · rfl
        · rfl
        · exact absurd rfl hne_
        · exact (dep_no hdp_ (by kernel_rfl)).elim
        · exact absurd hi_ (by omega)
      · exact absurd hk_ (by simp)
    · intro c_ w1 hPh_
      have S25 : St F w0 w1 (row gn ((E.map Hd.val ++ jn).toArray) 31 :: PDisk gd s :: row gm ((M.map ME.v ++ jk).toArray) 52 :: stars (M.map ME.ast) :: row gi3 (bvs s.last.flatten) 5 :: L) := hPh_
      refine wl_frame (fr [pq gd, sl gm 0 M.length cm, ud, ud, J 4, sl gi3 0 s.last.flatten.length s.last.flatten.length, sl gn 0 E.length cn, iv ((k : Nat) : Int), pq gd, sl gi3 0 s.last.flatten.length s.last.flatten.length, sl gi3 0 s.last.flatten.length s.last.flatten.length, sl gn 0 E.length cn, sl gn 0 E.length cn, iv (E.length : Nat), sl gm 0 M.length cm, iv (M.length : Nat), fv, iv ((k : Nat) : Int), sl gm 0 M.length cm, iv (M.length : Nat), tv, J 21, J 22, sl gn 0 E.length cn, iv ((k : Nat) : Int), po gn k, .slice (some ady) y.l.length y.c, sl gm 0 M.length cm, iv ((k : Nat) : Int), po gm k, .slice Am m.C.length cmm, tv, fv] 0) (by kernel_rfl) ?_
      refine wl_end (fr [pq gd, sl gm 0 M.length cm, ud, ud, J 4, sl gi3 0 s.last.flatten.length s.last.flatten.length, sl gn 0 E.length cn, iv ((k : Nat) : Int), pq gd, sl gi3 0 s.last.flatten.length s.last.flatten.length, sl gi3 0 s.last.flatten.length s.last.flatten.length, sl gn 0 E.length cn, sl gn 0 E.length cn, iv (E.length : Nat), sl gm 0 M.length cm, iv (M.length : Nat), fv, iv ((k : Nat) : Int), sl gm 0 M.length cm, iv (M.length : Nat), tv, J 21, J 22, sl gn 0 E.length cn, iv ((k : Nat) : Int), po gn k, .slice (some ady) y.l.length y.c, sl gm 0 M.length cm, iv ((k : Nat) : Int), po gm k, .slice Am m.C.length cmm, tv, fv] 0) (by kernel_rfl) ?_
      refine then_n ?_
      refine wp_cond_false (by kernel_rfl) ?_
      refine wp_skip ?_
      refine inb_n ?_
      refine then_n ?_
      refine wp_region_lit ?_
      refine pv (iv ((k : Nat) : Int)) ?_
      refine wl_gv rfl (gv_int (k := .i64) (z := IntKind.i64.wrap (((k : Nat) : Int) + 1)) (z' := ((k + 1 : Nat) : Int)) (by kernel_rfl) (wr_eq (by omega) (by omega) (by omega)) ?_)
      refine pv (iv ((k + 1 : Nat) : Int)) ?_
      refine wl_end _ rfl ?_
      refine then_n ?_
      exact ⟨k + 1, ⟨(jl [ud, ud, ud, ud, J 4, ud, ud, ud, ud, ud, ud, ud, ud, ud, ud, ud, ud, iv ((k : Nat) : Int), sl gm 0 M.length cm, iv (M.length : Nat), tv, iv ((k : Nat) : Int), iv ((k + 1 : Nat) : Int), sl gn 0 E.length cn, iv ((k : Nat) : Int), po gn k, .slice (some ady) y.l.length y.c, sl gm 0 M.length cm, iv ((k : Nat) : Int), po gm k, .slice Am m.C.length cmm, tv, fv]), by kernel_rfl, S25, (by omega)⟩, (by show M.length - (k + 1) < M.length - k; omega)⟩
  · skip
    refine wl_end _ rfl ?_
    refine then_n ?_
    refine wp_cond_false (by kernel_rfl) ?_
    refine wp_exit ?_
    refine then_x ?_
    refine then_x ?_
    refine inb_x ?_
    refine then_n ?_
    refine wp_seq ?_
    refine wp_region_lit ?_
    refine pv tv ?_
    refine wl_end _ rfl ?_
    refine then_n ?_
    refine wp_ret ?_
    refine bodyPost_ret (v := .bool true) (results_t1 rfl (by kernel_rfl)) rfl ?_
    have S26 : St F w0 w9 (PDisk gd s :: row gm ((M.map ME.v ++ jk).toArray) 52 :: stars (M.map ME.ast) :: L) := St.permT [row gn ((E.map Hd.val ++ jn).toArray) 31, PDisk gd s, row gm ((M.map ME.v ++ jk).toArray) 52, stars (M.map ME.ast), row gi3 (bvs s.last.flatten) 5] [1, 2, 3] (by decide) rfl S10
    exact ⟨rfl, S26⟩
end Go.Proofs
