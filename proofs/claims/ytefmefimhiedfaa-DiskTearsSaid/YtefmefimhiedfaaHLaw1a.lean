/- Same and Twin of the laws and of the document. -/
import Derived.Test.YtefmefimhiedfaaHDsk
import Derived.Test.YtefmefimhiedfaaHReg
open Go Go.RowKit Go.Proofs.YtefmefimhiedfaaW.PrintWords Go.Proofs.YtefmefimhiedfaaW.PrintMore
namespace Go.Proofs
open Go.Vel
set_option linter.unusedVariables false
set_option maxRecDepth 100000
set_option maxHeartbeats 4000000
attribute [local irreducible] gives wpList Code.wp

theorem byte_eq {a b : List UInt8} {k : Nat} (h : ¬ ((a.getD k 0).toNat : Int) = ((b.getD k 0).toNat : Int)) : a ≠ b := fun e => h (by rw [e])
theorem bytes_ext {a b : List UInt8} (hl : a.length = b.length) (h : ∀ m, m < a.length → ((a.getD m 0).toNat : Int) = ((b.getD m 0).toNat : Int)) : a = b := by
  apply List.ext_getElem hl
  intro m h1 h2
  have := h m h1
  rw [List.getD_eq_getElem?_getD, List.getD_eq_getElem?_getD, List.getElem?_eq_getElem h1, List.getElem?_eq_getElem h2] at this
  simp only [Option.getD_some] at this
  exact UInt8.toNat_inj.1 (by omega)

theorem same_spec {F : Nat → Prop} {w0 w : World} {L : List Ast} {A B : Option Addr} {a b : List UInt8} {ca cb : Nat} (S : St F w0 w L) (hx : RoT F w0 L A a) (hy : RoT F w0 L B b) (hm : a.length ≤ 9223372036854775807) (hm2 : b.length ≤ 9223372036854775807) :
    Calls Try.prog 28 #[.slice A a.length ca, .slice B b.length cb] w fun e w' => e = .returned (.bool (decide (a = b))) ∧ St F w0 w' L := by
  refine wp_enter (fr [.slice A a.length ca, .slice B b.length cb] 24) Try.func28 rfl (by kernel_rfl) ?_
  refine wp_seq ?_
  refine wp_region_lit ?_
  refine pv fv ?_
  refine wl_end (fr [.slice A a.length ca, .slice B b.length cb, ud, ud, fv] 21) (by kernel_rfl) ?_
  refine then_n ?_
  refine wp_seq ?_
  refine wp_seq ?_
  refine wp_region_lit ?_
  refine pv (.slice A a.length ca) ?_
  refine pv (iv (a.length : Nat)) ?_
  refine pv (.slice B b.length cb) ?_
  refine pv (iv (b.length : Nat)) ?_
  refine wl_gv rfl (gv_ne (x := (a.length : Nat)) (y := (b.length : Nat)) (by kernel_rfl) (fun hb1 => ?_) (fun hb1 => ?_))
  · skip
    have hlen : ¬ a.length = b.length := fun e => hb1 (by rw [e])
    refine wl_end (fr [.slice A a.length ca, .slice B b.length cb, ud, ud, fv, ud, .slice A a.length ca, iv (a.length : Nat), .slice B b.length cb, iv (b.length : Nat), tv] 15) (by kernel_rfl) ?_
    refine then_n ?_
    refine wp_cond_true (by kernel_rfl) ?_
    refine wp_seq ?_
    refine wp_region_lit ?_
    refine pv fv ?_
    refine wl_end (fr [.slice A a.length ca, .slice B b.length cb, ud, ud, fv, ud, .slice A a.length ca, iv (a.length : Nat), .slice B b.length cb, iv (b.length : Nat), tv] 15) (by kernel_rfl) ?_
    refine then_n ?_
    refine wp_ret ?_
    refine then_r ?_
    refine bodyPost_ret (v := .bool false) (results_t1 rfl (by kernel_rfl)) rfl ?_
    exact ⟨by rw [decide_eq_false (fun e => hlen (by rw [e]))], S⟩
  · skip
    have hlen : a.length = b.length := Int.ofNat.inj hb1
    refine wl_end (fr [.slice A a.length ca, .slice B b.length cb, ud, ud, fv, ud, .slice A a.length ca, iv (a.length : Nat), .slice B b.length cb, iv (b.length : Nat), fv] 15) (by kernel_rfl) ?_
    refine then_n ?_
    refine wp_cond_false (by kernel_rfl) ?_
    refine wp_skip ?_
    refine then_n ?_
    refine wp_seq ?_
    refine wp_seq ?_
    refine wp_region_lit ?_
    refine pv (iv 0) ?_
    refine wl_end (fr [.slice A a.length ca, .slice B b.length cb, ud, ud, fv, iv 0, .slice A a.length ca, iv (a.length : Nat), .slice B b.length cb, iv (b.length : Nat), fv] 15) (by kernel_rfl) ?_
    refine then_n ?_
    refine wp_block ?_
    refine wp_loop_g (G := Nat) (fun (g_ : Nat) (a_ : Act) (w_ : World) => ∃ J : Nat → Value, a_ = (fr [.slice A a.length ca, .slice B b.length cb, ud, ud, J 4, iv ((g_ : Nat) : Int), .slice A a.length ca, iv (a.length : Nat), .slice B b.length cb, iv (b.length : Nat), fv, J 11, J 12, J 13, J 14, J 15, J 16, J 17, J 18, J 19, J 20, J 21, J 22, J 23, J 24, J 25] 0) ∧ St F w0 w_ (L) ∧ (g_ ≤ a.length ∧ ∀ m, m < g_ → ((a.getD m 0).toNat : Int) = ((b.getD m 0).toNat : Int))) (fun g_ => a.length - g_) 0 ⟨(jl [ud, ud, ud, ud, fv]), by kernel_rfl, S, ⟨Nat.zero_le _, fun m h => absurd h (Nat.not_lt_zero _)⟩⟩ ?_
    rintro k a_ w2 ⟨J, rfl, S3, hI4⟩
    skip
    have S3 : St F w0 w2 (L) := S3
    have hI4 : (k ≤ a.length ∧ ∀ m, m < k → ((a.getD m 0).toNat : Int) = ((b.getD m 0).toNat : Int)) := hI4
    refine wp_seq ?_
    refine wp_seq ?_
    refine wp_region_lit ?_
    refine pv (iv ((k : Nat) : Int)) ?_
    refine pv (.slice A a.length ca) ?_
    refine pv (iv (a.length : Nat)) ?_
    refine wl_gv rfl (gv_dec (p := (((k : Nat) : Int) : Int) < (a.length : Nat)) (by kernel_rfl) (fun hb5 => ?_) (fun hb5 => ?_))
    · skip
      have hk : k < a.length := by omega
      obtain ⟨ada, rfl⟩ := (hx.now S3).at hk
      obtain ⟨adb, rfl⟩ := (hy.now S3).at (hlen ▸ hk)
      refine wl_end (fr [.slice (some ada) a.length ca, .slice (some adb) b.length cb, ud, ud, J 4, iv ((k : Nat) : Int), .slice (some ada) a.length ca, iv (a.length : Nat), .slice (some adb) b.length cb, iv (b.length : Nat), fv, iv ((k : Nat) : Int), .slice (some ada) a.length ca, iv (a.length : Nat), tv, J 15, J 16, J 17, J 18, J 19, J 20, J 21, J 22, J 23, J 24, J 25] 0) (by kernel_rfl) ?_
      refine then_n ?_
      refine wp_cond_true (by kernel_rfl) ?_
      refine wp_skip ?_
      refine then_n ?_
      refine wp_seq ?_
      refine wp_block ?_
      refine wp_seq ?_
      refine wp_region_phu (γ := Unit) 9 [] (fun (c_ : Unit) (i_ : Nat) => (match i_ with | 0 => .slice (some ada) a.length ca | 1 => .int .i64 ((k : Nat) : Int) | 2 => .pointer (some (ada.add k)) | 3 => .int .u8 ((a.getD k 0).toNat : Int) | 4 => .slice (some adb) b.length cb | 5 => .int .i64 ((k : Nat) : Int) | 6 => .pointer (some (adb.add k)) | 7 => .int .u8 ((b.getD k 0).toNat : Int) | 8 => .bool (((a.getD k 0).toNat : Int) != ((b.getD k 0).toNat : Int)) | _ => undef : Value)) (fun (c_ : Unit) (p_ : Nat) (w_ : World) => (match p_ with  | _ => St F w0 w_ (L) : Prop)) () (by kernel_rfl) (by kernel_rfl) (by kernel_rfl) (by kernel_rfl) (S3.drew) ?_ ?_ ?_
      · intro i_ c_ p_ vals_ w1 hi_ hiE_ hp_ hk_ hu_ hPh_ hd_
        rcases i_ with _ | _ | _ | _ | _ | _ | _ | _ | _ | i_
        · skip
          refine told_free rfl rfl (gv_env ((⟨Array.replicate 26 undef, []⟩ : Act).put (some 0) (.slice (some ada) a.length ca)) (by kernel_rfl) (xs := [.tmp 0]) (by kernel_rfl) (alike_cons (fill_past (by kernel_rfl) (by kernel_rfl)) alike_nil) (gv_val (v := .slice (some ada) a.length ca) (w' := w1) (by kernel_rfl) ?_))
          exact ⟨rfl, rfl⟩
        · skip
          refine told_free rfl rfl (gv_env ((⟨Array.replicate 26 undef, []⟩ : Act).put (some 5) (.int .i64 ((k : Nat) : Int))) (by kernel_rfl) (xs := [.tmp 5]) (by kernel_rfl) (alike_cons (fill_past (by kernel_rfl) (by kernel_rfl)) alike_nil) (gv_val (v := .int .i64 ((k : Nat) : Int)) (w' := w1) (by kernel_rfl) ?_))
          exact ⟨rfl, rfl⟩
        · skip
          refine told_free rfl rfl (gv_env (((⟨Array.replicate 26 undef, []⟩ : Act).put (some 17) (.slice (some ada) a.length ca)).put (some 18) (.int .i64 ((k : Nat) : Int))) (by kernel_rfl) (xs := [.tmp 17, .tmp 18]) (by kernel_rfl) (alike_cons (fill_at (k := 0) (by kernel_rfl) (by kernel_rfl) ((hd_ 0 (by kernel_rfl)).trans (by kernel_rfl))) (alike_cons (fill_at (k := 1) (by kernel_rfl) (by kernel_rfl) ((hd_ 1 (by kernel_rfl)).trans (by kernel_rfl))) alike_nil)) (gv_ixB (e := 5) (sz := 1) (n := a.length) (c := ca) (i := ((k : Nat) : Int)) (k := .i64) (ad := ada) (ad' := (ada.add k)) (j := k) rfl (by kernel_rfl) (by kernel_rfl) (by kernel_rfl) (by kernel_rfl) rfl hk (by rw [Nat.mul_one]) ?_))
          exact ⟨rfl, rfl⟩
        · skip
          have S9 : St F w0 w1 (L) := hPh_
          refine told_free rfl rfl (gv_env ((⟨Array.replicate 26 undef, []⟩ : Act).put (some 19) (.pointer (some (ada.add k)))) (by kernel_rfl) (xs := [.tmp 19]) (by kernel_rfl) (alike_cons (fill_at (k := 2) (by kernel_rfl) (by kernel_rfl) ((hd_ 2 (by kernel_rfl)).trans (by kernel_rfl))) alike_nil) (gv_ldR (v := .int .u8 ((a.getD k 0).toNat : Int)) rfl (by kernel_rfl) (by kernel_rfl) ((hx.now S9).cell hk) ?_))
          exact ⟨rfl, rfl⟩
        · skip
          refine told_free rfl rfl (gv_env ((⟨Array.replicate 26 undef, []⟩ : Act).put (some 1) (.slice (some adb) b.length cb)) (by kernel_rfl) (xs := [.tmp 1]) (by kernel_rfl) (alike_cons (fill_past (by kernel_rfl) (by kernel_rfl)) alike_nil) (gv_val (v := .slice (some adb) b.length cb) (w' := w1) (by kernel_rfl) ?_))
          exact ⟨rfl, rfl⟩
        · skip
          refine told_free rfl rfl (gv_env ((⟨Array.replicate 26 undef, []⟩ : Act).put (some 5) (.int .i64 ((k : Nat) : Int))) (by kernel_rfl) (xs := [.tmp 5]) (by kernel_rfl) (alike_cons (fill_past (by kernel_rfl) (by kernel_rfl)) alike_nil) (gv_val (v := .int .i64 ((k : Nat) : Int)) (w' := w1) (by kernel_rfl) ?_))
          exact ⟨rfl, rfl⟩
        · skip
          refine told_free rfl rfl (gv_env (((⟨Array.replicate 26 undef, []⟩ : Act).put (some 21) (.slice (some adb) b.length cb)).put (some 22) (.int .i64 ((k : Nat) : Int))) (by kernel_rfl) (xs := [.tmp 21, .tmp 22]) (by kernel_rfl) (alike_cons (fill_at (k := 4) (by kernel_rfl) (by kernel_rfl) ((hd_ 4 (by kernel_rfl)).trans (by kernel_rfl))) (alike_cons (fill_at (k := 5) (by kernel_rfl) (by kernel_rfl) ((hd_ 5 (by kernel_rfl)).trans (by kernel_rfl))) alike_nil)) (gv_ixB (e := 5) (sz := 1) (n := b.length) (c := cb) (i := ((k : Nat) : Int)) (k := .i64) (ad := adb) (ad' := (adb.add k)) (j := k) rfl (by kernel_rfl) (by kernel_rfl) (by kernel_rfl) (by kernel_rfl) rfl (hlen ▸ hk) (by rw [Nat.mul_one]) ?_))
          exact ⟨rfl, rfl⟩
        · skip
          have S13 : St F w0 w1 (L) := hPh_
          refine told_free rfl rfl (gv_env ((⟨Array.replicate 26 undef, []⟩ : Act).put (some 23) (.pointer (some (adb.add k)))) (by kernel_rfl) (xs := [.tmp 23]) (by kernel_rfl) (alike_cons (fill_at (k := 6) (by kernel_rfl) (by kernel_rfl) ((hd_ 6 (by kernel_rfl)).trans (by kernel_rfl))) alike_nil) (gv_ldR (v := .int .u8 ((b.getD k 0).toNat : Int)) rfl (by kernel_rfl) (by kernel_rfl) ((hy.now S13).cell (hlen ▸ hk)) ?_))
          exact ⟨rfl, rfl⟩
        · skip
          refine told_free rfl rfl (gv_env (((⟨Array.replicate 26 undef, []⟩ : Act).put (some 20) (.int .u8 ((a.getD k 0).toNat : Int))).put (some 24) (.int .u8 ((b.getD k 0).toNat : Int))) (by kernel_rfl) (xs := [.tmp 20, .tmp 24]) (by kernel_rfl) (alike_cons (fill_at (k := 3) (by kernel_rfl) (by kernel_rfl) ((hd_ 3 (by kernel_rfl)).trans (by kernel_rfl))) (alike_cons (fill_at (k := 7) (by kernel_rfl) (by kernel_rfl) ((hd_ 7 (by kernel_rfl)).trans (by kernel_rfl))) alike_nil)) (gv_val (v := .bool (((a.getD k 0).toNat : Int) != ((b.getD k 0).toNat : Int))) (w' := w1) (by kernel_rfl) ?_))
          exact ⟨rfl, rfl⟩
        · exact absurd hi_ (by omega)
      · intro k_ c_ vals_ w1 hk_ hPh_ hd_
        exact absurd hk_ (Nat.not_lt_zero _)
      · intro c_ w1 hPh_
        have S15 : St F w0 w1 (L) := hPh_
        refine wl_frame (fr [.slice (some ada) a.length ca, .slice (some adb) b.length cb, ud, ud, J 4, iv ((k : Nat) : Int), .slice (some ada) a.length ca, iv (a.length : Nat), .slice (some adb) b.length cb, iv (b.length : Nat), fv, iv ((k : Nat) : Int), .slice (some ada) a.length ca, iv (a.length : Nat), tv, J 15, J 16, .slice (some ada) a.length ca, iv ((k : Nat) : Int), .pointer (some (ada.add k)), .int .u8 ((a.getD k 0).toNat : Int), .slice (some adb) b.length cb, iv ((k : Nat) : Int), .pointer (some (adb.add k)), .int .u8 ((b.getD k 0).toNat : Int), .bool (((a.getD k 0).toNat : Int) != ((b.getD k 0).toNat : Int))] 0) (by kernel_rfl) ?_
        refine wl_end (fr [.slice (some ada) a.length ca, .slice (some adb) b.length cb, ud, ud, J 4, iv ((k : Nat) : Int), .slice (some ada) a.length ca, iv (a.length : Nat), .slice (some adb) b.length cb, iv (b.length : Nat), fv, iv ((k : Nat) : Int), .slice (some ada) a.length ca, iv (a.length : Nat), tv, J 15, J 16, .slice (some ada) a.length ca, iv ((k : Nat) : Int), .pointer (some (ada.add k)), .int .u8 ((a.getD k 0).toNat : Int), .slice (some adb) b.length cb, iv ((k : Nat) : Int), .pointer (some (adb.add k)), .int .u8 ((b.getD k 0).toNat : Int), .bool (((a.getD k 0).toNat : Int) != ((b.getD k 0).toNat : Int))] 0) (by kernel_rfl) ?_
        refine then_n ?_
        refine wp_cond_split (t := ((a.getD k 0).toNat : Int) != ((b.getD k 0).toNat : Int)) (by kernel_rfl) (fun hc16 => ?_) (fun hc16 => ?_)
        · skip
          refine wp_seq ?_
          refine wp_region_lit ?_
          refine pv fv ?_
          refine wl_end (fr [.slice (some ada) a.length ca, .slice (some adb) b.length cb, ud, ud, fv, iv ((k : Nat) : Int), .slice (some ada) a.length ca, iv (a.length : Nat), .slice (some adb) b.length cb, iv (b.length : Nat), fv, iv ((k : Nat) : Int), .slice (some ada) a.length ca, iv (a.length : Nat), tv, J 15, J 16, .slice (some ada) a.length ca, iv ((k : Nat) : Int), .pointer (some (ada.add k)), .int .u8 ((a.getD k 0).toNat : Int), .slice (some adb) b.length cb, iv ((k : Nat) : Int), .pointer (some (adb.add k)), .int .u8 ((b.getD k 0).toNat : Int), .bool (((a.getD k 0).toNat : Int) != ((b.getD k 0).toNat : Int))] 0) (by kernel_rfl) ?_
          refine then_n ?_
          refine wp_ret ?_
          refine inb_r ?_
          refine then_r ?_
          refine then_r ?_
          refine inb_r ?_
          refine then_r ?_
          refine bodyPost_ret (v := .bool false) (results_t1 rfl (by kernel_rfl)) rfl ?_
          exact ⟨by rw [decide_eq_false (byte_eq (by simpa using hc16))], S15⟩
        · skip
          have heqk : ((a.getD k 0).toNat : Int) = ((b.getD k 0).toNat : Int) := by simpa using hc16
          refine wp_skip ?_
          refine inb_n ?_
          refine then_n ?_
          refine wp_region_lit ?_
          refine pv (iv ((k : Nat) : Int)) ?_
          refine wl_gv rfl (gv_int (k := .i64) (z := IntKind.i64.wrap (((k : Nat) : Int) + 1)) (z' := ((k : Nat) : Int) + 1) (by kernel_rfl) (wr_ok (by omega) (by omega)) ?_)
          refine pv (iv (((k : Nat) : Int) + 1)) ?_
          refine wl_end (fr [.slice (some ada) a.length ca, .slice (some adb) b.length cb, ud, ud, J 4, iv (((k : Nat) : Int) + 1), .slice (some ada) a.length ca, iv (a.length : Nat), .slice (some adb) b.length cb, iv (b.length : Nat), fv, iv ((k : Nat) : Int), .slice (some ada) a.length ca, iv (a.length : Nat), tv, iv ((k : Nat) : Int), iv (((k : Nat) : Int) + 1), .slice (some ada) a.length ca, iv ((k : Nat) : Int), .pointer (some (ada.add k)), .int .u8 ((a.getD k 0).toNat : Int), .slice (some adb) b.length cb, iv ((k : Nat) : Int), .pointer (some (adb.add k)), .int .u8 ((b.getD k 0).toNat : Int), .bool (((a.getD k 0).toNat : Int) != ((b.getD k 0).toNat : Int))] 0) (by kernel_rfl) ?_
          refine then_n ?_
          exact ⟨k + 1, ⟨(jl [ud, ud, ud, ud, J 4, ud, ud, ud, ud, ud, ud, iv ((k : Nat) : Int), .slice (some ada) a.length ca, iv (a.length : Nat), tv, iv ((k : Nat) : Int), iv (((k : Nat) : Int) + 1), .slice (some ada) a.length ca, iv ((k : Nat) : Int), .pointer (some (ada.add k)), .int .u8 ((a.getD k 0).toNat : Int), .slice (some adb) b.length cb, iv ((k : Nat) : Int), .pointer (some (adb.add k)), .int .u8 ((b.getD k 0).toNat : Int), .bool (((a.getD k 0).toNat : Int) != ((b.getD k 0).toNat : Int))]), by kernel_rfl, S15, ⟨by omega, fun m hm => (Nat.lt_succ_iff_lt_or_eq.1 hm).elim (hI4.2 m) (fun e => e ▸ heqk)⟩⟩, (by show a.length - (k + 1) < a.length - k; omega)⟩
    · skip
      have hke : k = a.length := by omega
      refine wl_end (fr [.slice A a.length ca, .slice B b.length cb, ud, ud, J 4, iv ((k : Nat) : Int), .slice A a.length ca, iv (a.length : Nat), .slice B b.length cb, iv (b.length : Nat), fv, iv ((k : Nat) : Int), .slice A a.length ca, iv (a.length : Nat), fv, J 15, J 16, J 17, J 18, J 19, J 20, J 21, J 22, J 23, J 24, J 25] 0) (by kernel_rfl) ?_
      refine then_n ?_
      refine wp_cond_false (by kernel_rfl) ?_
      refine wp_exit ?_
      refine then_x ?_
      refine then_x ?_
      refine inb_x ?_
      refine then_n ?_
      refine wp_seq ?_
      refine wp_region_lit ?_
      refine pv tv ?_
      refine wl_end (fr [.slice A a.length ca, .slice B b.length cb, ud, ud, tv, iv ((k : Nat) : Int), .slice A a.length ca, iv (a.length : Nat), .slice B b.length cb, iv (b.length : Nat), fv, iv ((k : Nat) : Int), .slice A a.length ca, iv (a.length : Nat), fv, J 15, J 16, J 17, J 18, J 19, J 20, J 21, J 22, J 23, J 24, J 25] 0) (by kernel_rfl) ?_
      refine then_n ?_
      refine wp_ret ?_
      refine bodyPost_ret (v := .bool true) (results_t1 rfl (by kernel_rfl)) rfl ?_
      exact ⟨by rw [decide_eq_true (bytes_ext hlen (fun m hm => hI4.2 m (by omega)))], S3⟩
theorem same_b {F : Nat → Prop} {w0 w : World} {L : List Ast} {A B : Option Addr} {a b : List UInt8} {ca cb : Nat} {t : Bool} (ht : decide (a = b) = t) (S : St F w0 w L) (hx : RoT F w0 L A a) (hy : RoT F w0 L B b) (hm : a.length ≤ 9223372036854775807) (hm2 : b.length ≤ 9223372036854775807) :
    Calls Try.prog 28 #[.slice A a.length ca, .slice B b.length cb] w fun e w' => e = .returned (.bool t) ∧ St F w0 w' L := ht ▸ same_spec S hx hy hm hm2
end Go.Proofs
