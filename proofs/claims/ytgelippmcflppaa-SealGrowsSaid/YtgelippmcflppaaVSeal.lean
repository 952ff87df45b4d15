/- seal.turn, seal.Seal by the walk: for every two slices of bytes Seal returns what the pure sealF says, in new memory; nothing that was there turns. -/
import Derived.Test.YtgelippmcflppaaVSplice
import Derived.Test.YtgelippmcflppaaVGv
open Go Go.RowKit Go.Proofs.YtgelippmcflppaaW.PrintWords Go.Proofs.YtgelippmcflppaaW.PrintMore
namespace Go.Proofs
open Go.Vel
theorem turn_found {x y : UInt8} {k : Nat} (hk : k ≤ 2) (h1 : (k : Int) ≠ x.toNat) (h2 : (k : Int) ≠ y.toNat) (h3 : 1 ≤ k → (x.toNat : Int) = 0 ∨ (y.toNat : Int) = 0) (h4 : 2 ≤ k → (x.toNat : Int) = 1 ∨ (y.toNat : Int) = 1) : (k : Int) = (turnOf x y).toNat := by
  have e0 : ∀ z : UInt8, (0 : UInt8) ≠ z ↔ z.toNat ≠ 0 := fun z => by rw [ne_eq, ← UInt8.toNat_inj]; simp; omega
  have e1 : ∀ z : UInt8, (1 : UInt8) ≠ z ↔ z.toNat ≠ 1 := fun z => by rw [ne_eq, ← UInt8.toNat_inj]; simp; omega
  unfold turnOf
  simp only [e0, e1]
  split
  · have : k = 0 := by omega
    subst this; rfl
  · split
    · have : k = 1 := by omega
      subst this; rfl
    · have : k = 2 := by omega
      subst this; rfl
set_option maxHeartbeats 400000 in
theorem turn_any (w : World) (x y : UInt8) : Calls Try.prog 41 #[.int .u8 x.toNat, .int .u8 y.toNat] w fun e w' => e = .returned (.int .u8 (turnOf x y).toNat) ∧ w = w' := by
  have hx := x.toNat_lt
  have hy := y.toNat_lt
  obtain ⟨X, hX⟩ : ∃ X : Int, X = (x.toNat : Int) := ⟨_, rfl⟩
  obtain ⟨Y, hY⟩ : ∃ Y : Int, Y = (y.toNat : Int) := ⟨_, rfl⟩
  have hX2 : 0 ≤ X ∧ X < 256 := by omega
  have hY2 : 0 ≤ Y ∧ Y < 256 := by omega
  have HF : Aside0 (∀ k : Nat, k ≤ 2 → (k : Int) ≠ X → (k : Int) ≠ Y → (1 ≤ k → X = 0 ∨ Y = 0) → (2 ≤ k → X = 1 ∨ Y = 1) → (k : Int) = (turnOf x y).toNat) := ⟨fun k a b c d e => turn_found a (hX ▸ b) (hY ▸ c) (hX ▸ hY ▸ d) (hX ▸ hY ▸ e)⟩
  rw [← hX, ← hY]
  generalize (turnOf x y).toNat = tn at *
  clear hX hY hx hy
  obtain ⟨hX0, hX1⟩ := hX2
  obtain ⟨hY0, hY1⟩ := hY2
  go_enter Try.func41, Try.ntmps41
  go_wp2
  go_loop [6] (fun i => ∃ k : Nat, k ≤ 2 ∧ i = .int .u8 k ∧ (1 ≤ k → X = 0 ∨ Y = 0) ∧ (2 ≤ k → X = 1 ∨ Y = 1)) (fun i => 3 - (intOf i).toNat)
  case atStart => exact ⟨0, by omega, rfl, by omega, by omega⟩
  case round =>
    obtain ⟨k, hk, rfl, h1, h2⟩ := hrel
    have hk3 : (k : Int) < 3 := by omega
    by_cases hkx : (k : Int) = X
    · have b1 : ((k : Int) != X) = false := by simpa using hkx
      have H1 := Aside0.mk h1
      have H2 := Aside0.mk h2
      have HX := Aside0.mk hkx
      clear hkx h1 h2
      go_wp2
      exact ⟨⟨k + 1, by have := HX.out; have := H1.out; have := H2.out; omega, by go_num, by have := HX.out; have := H1.out; omega, by have := HX.out; have := H1.out; have := H2.out; omega⟩, by simp [intOf]; omega⟩
    · by_cases hky : (k : Int) = Y
      · have b1 : ((k : Int) != X) = true := by simpa using hkx
        have b2 : ((k : Int) != Y) = false := by simpa using hky
        have H1 := Aside0.mk h1
        have H2 := Aside0.mk h2
        have HY := Aside0.mk hky
        clear hkx hky h1 h2
        go_wp2
        exact ⟨⟨k + 1, by have := HY.out; have := H1.out; have := H2.out; omega, by go_num, by have := HY.out; have := H1.out; omega, by have := HY.out; have := H1.out; have := H2.out; omega⟩, by simp [intOf]; omega⟩
      · have b1 : ((k : Int) != X) = true := by simpa using hkx
        have b2 : ((k : Int) != Y) = true := by simpa using hky
        have HE := Aside0.mk (HF.out k hk hkx hky h1 h2)
        clear hkx hky h1 h2
        go_wp2
        go_ret
        exact ⟨by rw [← HE.out]; rfl, rfl⟩
/-- What each of the first operations of Seal's drawing region leaves. -/
def SealS (w0 : World) (L : List Value) (i : Nat) (v : Value) (w : World) : Prop :=
  if i = 9 then ∃ g, v = .pointer (some ⟨g, 0, none⟩) ∧ w0.heap.size ≤ g ∧ Blk w g (bvs zeros512) 91 else v = L.getD i undef
theorem SealS.val {w0 : World} {L : List Value} {i : Nat} {v : Value} {w : World} (hi : i ≠ 9) (h : SealS w0 L i v w) : v = L.getD i undef := by
  unfold SealS at h
  rwa [if_neg hi] at h
theorem look2 {f : Operand → Value} {x y : Operand} {u v : Value} (h1 : f x = u) (h2 : f y = v) : (#[x, y] : Array Operand).map f = #[u, v] := by
  subst h1 h2; simp
set_option maxHeartbeats 1000000 in
set_option maxRecDepth 100000 in
theorem seal_any (w : World) (A0 : Option Addr) (c0 : Nat) (a : List UInt8) (A1 : Option Addr) (c1 : Nat) (b : List UInt8) (hr0 : Kd.C (Kd.int .u8) w A0 (ofB a).length (ofB a)) (hr1 : Kd.C (Kd.int .u8) w A1 (ofB b).length (ofB b)) :
    Calls Try.prog 24 #[.slice A0 (ofB a).length c0, .slice A1 (ofB b).length c1] w (Ret2 (ofB (sealF a b).1) (sealF a b).2 w) := by
  have HR0 := Aside0.mk hr0
  have HR1 := Aside0.mk hr1
  clear hr0 hr1
  by_cases ha : a.length = 512
  · have ha' : ((((ofB a).length : Nat) : Int) != 512) = false := by rw [len_ofB, ha]; rfl
    have Ha := Aside0.mk ha
    clear ha
    by_cases hb : 504 < b.length
    · have e : sealF a b = ([], 7) := by simp [sealF, Ha.out, hb]
      rw [e]
      have hb' : (504 : Int) < ((ofB b).length : Int) := by rw [len_ofB]; omega
      clear e hb
      go_enter Try.func24, Try.ntmps24
      go_wp2
      go_ret2
      exact ⟨_, rfl, V_nil, Below.refl _ _⟩
    · have e : sealF a b = (form (turnOf (a.getD 0 0) (a.getD 511 0)) b, 0) := by simp [sealF, Ha.out, hb]
      rw [e]
      have hb' : ((ofB b).length : Int) ≤ 504 := by rw [len_ofB]; omega
      have Hb := Aside0.mk (show b.length ≤ 504 by omega)
      clear e hb
      obtain ⟨ad, e, hx0⟩ := C_byte HR0.out (Below.refl _ _) 0 (by rw [len_ofB, Ha.out]; decide)
      obtain ⟨ad', e', hx1⟩ := C_byte HR0.out (Below.refl _ _) 511 (by rw [len_ofB, Ha.out]; decide)
      rw [e] at e'
      cases e'
      cases e
      have HX0 := Aside0.mk hx0
      have HX1 := Aside0.mk hx1
      clear hx0 hx1
      go_enter Try.func24, Try.ntmps24
      go_wp2
      refine wp_region_told 10 (fun w1 => Below w.heap.size w w1) (SealS w [.slice (some ad) (ofB a).length c0, .pointer (some (ad.add 0)), .int .u8 (a.getD 0 0).toNat, .slice (some ad) (ofB a).length c0, .pointer (some (ad.add 511)), .int .u8 (a.getD 511 0).toNat, .int .u8 (turnOf (a.getD 0 0) (a.getD 511 0)).toNat, .slice A1 (ofB b).length c1, .agg (bvs (form (turnOf (a.getD 0 0) (a.getD 511 0)) b))]) (by kernel_rfl) (by kernel_rfl) (by kernel_rfl) (Below.refl _ _).drew ?_ ?_ ?_
      · intro i v w1 w2 hb h
        unfold SealS at *
        split at h
        · obtain ⟨g, h1, h2, h3⟩ := h
          rw [if_pos (by assumption)]
          exact ⟨g, h1, h2, h3.below hb⟩
        · rw [if_neg (by assumption)]; exact h
      · intro i vals w1 hi hc hd
        have D : ∀ k, k ≠ 9 → waitsAt _ i k = true → vals k = _ := fun k hk hw => SealS.val hk (hd k hw)
        rcases i with _ | _ | _ | _ | _ | _ | _ | _ | _ | _ | i
        rotate_right 1
        · exact absurd hi (Nat.not_lt.2 (Nat.le_add_left 10 i))
        · exact StepOK.move (x := .tmp 0) (.free (by kernel_rfl)) hc ((look_miss (by kernel_rfl) (by kernel_rfl)).trans rfl) rfl
        · refine StepOK.at (T := 31) (x := .tmp 15) (y := .const (.int .i64 0)) (k := 0) (.free (by kernel_rfl)) hc (by kernel_rfl) (by kernel_rfl) ((look_hit (k := 0) (by kernel_rfl) (by kernel_rfl)).trans (D 0 (by decide) (by kernel_rfl))) (look_const (by kernel_rfl)) ?_ rfl
          rw [len_ofB, Ha.out]; decide
        · exact StepOK.load (T := 5) (x := .tmp 16) (.free (by kernel_rfl)) hc rfl Try.underlying5 ((look_hit (k := 1) (by kernel_rfl) (by kernel_rfl)).trans (D 1 (by decide) (by kernel_rfl))) (cell_below hc HX0.out) rfl
        · exact StepOK.move (x := .tmp 0) (.free (by kernel_rfl)) hc ((look_miss (by kernel_rfl) (by kernel_rfl)).trans rfl) rfl
        · refine StepOK.at (T := 31) (x := .tmp 18) (y := .const (.int .i64 511)) (k := 511) (.free (by kernel_rfl)) hc (by kernel_rfl) (by kernel_rfl) ((look_hit (k := 3) (by kernel_rfl) (by kernel_rfl)).trans (D 3 (by decide) (by kernel_rfl))) (look_const (by kernel_rfl)) ?_ rfl
          rw [len_ofB, Ha.out]; decide
        · exact StepOK.load (T := 5) (x := .tmp 19) (.free (by kernel_rfl)) hc rfl Try.underlying5 ((look_hit (k := 4) (by kernel_rfl) (by kernel_rfl)).trans (D 4 (by decide) (by kernel_rfl))) (cell_below hc HX1.out) rfl
        · refine StepOK.call (f := 41) (xs := #[.tmp 17, .tmp 20]) (ts := #[5, 5]) (fn := Try.f41) (.free (by kernel_rfl)) (by kernel_rfl) (by kernel_rfl) rfl (look2 ((look_hit (k := 2) (by kernel_rfl) (by kernel_rfl)).trans (D 2 (by decide) (by kernel_rfl))) ((look_hit (k := 5) (by kernel_rfl) (by kernel_rfl)).trans (D 5 (by decide) (by kernel_rfl)))) (Calls.mono (turn_any w1 _ _) ?_)
          rintro _ _ ⟨rfl, rfl⟩
          exact ⟨_, rfl, Below.refl _ _, hc, rfl⟩
        · exact StepOK.move (x := .tmp 1) (.free (by kernel_rfl)) hc ((look_miss (by kernel_rfl) (by kernel_rfl)).trans rfl) rfl
        · refine StepOK.call (f := 40) (xs := #[.tmp 21, .tmp 22]) (ts := #[5, 31]) (fn := Try.f40) (.free (by kernel_rfl)) (by kernel_rfl) (by kernel_rfl) rfl (look2 ((look_hit (k := 6) (by kernel_rfl) (by kernel_rfl)).trans (D 6 (by decide) (by kernel_rfl))) ((look_hit (k := 7) (by kernel_rfl) (by kernel_rfl)).trans (D 7 (by decide) (by kernel_rfl)))) (Calls.mono (lay_any w1 _ _ _ _ Hb.out (Kd.C_below HR1.out hc)) ?_)
          rintro _ w2 ⟨rfl, hb2⟩
          exact ⟨_, rfl, hb2, hc.trans (hb2.mono hc.size), rfl⟩
        · refine StepOK.alloc (T := 91) (.free (by kernel_rfl)) agg50 (fun g w' hB hg hw => ⟨hc.trans (hw.mono hc.size), ?_⟩)
          exact ⟨g, rfl, Nat.le_trans hc.size hg, hB⟩
      · intro vals w1 hc hS
        obtain ⟨g, e9, hg, hB⟩ : ∃ g, vals 9 = .pointer (some ⟨g, 0, none⟩) ∧ w.heap.size ≤ g ∧ Blk w1 g (bvs zeros512) 91 := hS 9 (by decide)
        have e8 : vals 8 = .agg (bvs (form (turnOf (a.getD 0 0) (a.getD 511 0)) b)) := SealS.val (by decide) (hS 8 (by decide))
        refine wl_store_row (T := 91) (x := .tmp 6) (y := .tmp 23) rfl rfl agg50 ((fill_hit (k := 9) (by kernel_rfl) (Nat.le_of_ble_eq_true (by kernel_rfl))).trans e9) ((fill_hit (k := 8) (by kernel_rfl) (Nat.le_of_ble_eq_true (by kernel_rfl))).trans e8) hB (by rw [size_bvs, size_bvs, length_form _ Hb.out]; rfl) rfl (bvs_one _) ?_
        intro w2 hB2 hO2
        have HB2 := Aside0.mk hB2
        have HO2 := Aside0.mk hO2
        have HC := Aside0.mk hc
        clear hB2 hO2 hB hc hS
        refine wl_frame ⟨#[.slice (some ad) (ofB a).length c0, .slice A1 (ofB b).length c1, undef, undef, .slice none 0 0, .int .i64 0, vals 9, .bool false, .slice (some ad) (ofB a).length c0, .int .i64 (ofB a).length, .bool false, .bool (decide (504 < ((ofB b).length : Int))), .slice A1 (ofB b).length c1, .int .i64 (ofB b).length, .bool (decide (504 < ((ofB b).length : Int))), vals 0, vals 1, vals 2, vals 3, vals 4, vals 5, vals 6, vals 7, vals 8, undef], []⟩ (by kernel_rfl) ?_
        rw [e9]
        clear e9 e8
        go_wp2
        go_ret2
        refine ⟨_, rfl, V_of_blk HB2.out hg 0 512 512 ?_ (by decide) (Nat.le_refl _) ?_, HC.out.trans (HO2.out.below hg)⟩
        · rw [length_form _ Hb.out]; decide
        · rw [List.drop_zero, List.take_of_length_le (Nat.le_of_eq (length_form _ Hb.out))]
  · have e : sealF a b = ([], 2) := by simp [sealF, ha]
    rw [e]
    have ha' : ((((ofB a).length : Nat) : Int) != 512) = true := by rw [len_ofB, bne_iff_ne]; omega
    clear ha e
    go_enter Try.func24, Try.ntmps24
    go_wp2
    go_ret2
    exact ⟨_, rfl, V_nil, Below.refl _ _⟩
end Go.Proofs
