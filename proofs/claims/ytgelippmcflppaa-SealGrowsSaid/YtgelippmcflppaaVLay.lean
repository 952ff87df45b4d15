/- seal.lay by the walk: for every turn and every body of at most 504 bytes it returns the sector of that form; nothing that was there turns. -/
import Derived.Test.YtgelippmcflppaaVSum
import Derived.Test.YtgelippmcflppaaVSpec
import Derived.StillTailTactics
open Go Go.RowKit Go.Proofs.YtgelippmcflppaaW.PrintWords Go.Proofs.YtgelippmcflppaaW.PrintMore
namespace Go.Proofs
open Go.Vel
def zeros512 : List UInt8 := List.replicate 512 0
theorem agg50 : Agg Try.prog 91 (bvs zeros512) := ⟨⟨_, Try.underlying91, rfl⟩, by kernel_rfl, by kernel_rfl⟩
theorem size5 : (Try.prog.info? 5).map (·.size) = some 1 := by kernel_rfl
theorem info5 : (Try.prog.info? 5).map (fun i => (i.zero, i.size, i.bytes)) = some (some (.int .u8 0), 1, 1) := by kernel_rfl
/-- The first k bytes of a sum laid from place 3 on. -/
def setS (L : List UInt8) (q : BitVec 32) : Nat → List UInt8
  | 0 => L
  | k + 1 => (setS L q k).set (3 + k) ((le4 q).getD k 0)
theorem length_setS (L : List UInt8) (q : BitVec 32) (k : Nat) : (setS L q k).length = L.length := by
  induction k with
  | zero => rfl
  | succ k ih => simp [setS, ih]
theorem le4_n (q : BitVec 32) : (((le4 q).getD 0 0).toNat : Int) = (q.toNat : Int) % 256 ∧ (((le4 q).getD 1 0).toNat : Int) = (q.toNat : Int) / 256 % 256 ∧ (((le4 q).getD 2 0).toNat : Int) = (q.toNat : Int) / 65536 % 256 ∧ (((le4 q).getD 3 0).toNat : Int) = (q.toNat : Int) / 16777216 % 256 := by
  have h : ∀ n : Nat, ((UInt8.ofNat (n % 256)).toNat : Int) = (n : Int) % 256 := fun n => by
    rw [UInt8.toNat_ofNat', Nat.mod_eq_of_lt (by omega)]; omega
  refine ⟨h _, (h _).trans (by omega), (h _).trans (by omega), (h _).trans (by omega)⟩
set_option maxHeartbeats 4000000 in
set_option maxRecDepth 100000 in
theorem lay_any (w : World) (A : Option Addr) (c : Nat) (t : UInt8) (b : List UInt8) (hb : b.length ≤ 504) (hr : Kd.C (Kd.int .u8) w A (ofB b).length (ofB b)) : Calls Try.prog 40 #[.int .u8 t.toNat, .slice A (ofB b).length c] w fun e w' => e = .returned (.agg (bvs (form t b))) ∧ Below w.heap.size w w' := by
  have HR := Aside0.mk hr
  clear hr
  have tok1 : True := trivial
  have hl : ((ofB b).length : Int) ≤ 504 := by rw [len_ofB]; omega
  obtain ⟨b1, hb1⟩ : ∃ b1, b1 = UInt8.ofNat (b.length % 256) := ⟨_, rfl⟩
  obtain ⟨b2, hb2⟩ : ∃ b2, b2 = UInt8.ofNat (b.length / 256) := ⟨_, rfl⟩
  have Hb1 : Aside0 (((ofB b).length : Int) % 256 = (b1.toNat : Int)) := ⟨by rw [hb1, len_ofB, UInt8.toNat_ofNat', Nat.mod_eq_of_lt (by omega)]; omega⟩
  have Hb2 : Aside0 (((ofB b).length : Int) / 256 = (b2.toNat : Int)) := ⟨by rw [hb2, len_ofB, UInt8.toNat_ofNat', Nat.mod_eq_of_lt (by omega)]; omega⟩
  go_enter Try.func40, Try.ntmps40
  go_wp2_with (first
    | (have _t := tok1; refine wl_alloc rfl rfl agg50 ?_; intro g4 w1 hB4 hg4 hw1; have HB4 := Aside0.mk hB4; have HW1 := Aside0.mk hw1; clear tok1 hB4 hw1)
    | (refine wl_alloc rfl rfl agg50 ?_; intro g5 w2 hB5 hg5 hw2; have HB := Aside0.mk hB5; have HO := Aside0.mk (Only.refl g5 w2); have HW := Aside0.mk (HW1.out.trans (hw2.mono HW1.out.size)); have HW2 := Aside0.mk hw2; have Hg := Aside0.mk (Nat.le_trans HW1.out.size hg5); clear hB5 hw2)
    | (refine wl_store_byte (b := t) rfl rfl size5 rfl rfl rfl HB.out (by simp [zeros512]) ?_; intro w3 hB3 hO3; replace HB := Aside0.mk hB3; replace HO := Aside0.mk (HO.out.trans hO3); clear hB3 hO3)
    | (refine wl_store_byte (b := b1) rfl rfl size5 rfl rfl Hb1.out HB.out (by simp [zeros512]) ?_; intro w3 hB3 hO3; replace HB := Aside0.mk hB3; replace HO := Aside0.mk (HO.out.trans hO3); clear hB3 hO3)
    | (refine wl_store_byte (b := b2) rfl rfl size5 rfl rfl Hb2.out HB.out (by simp [zeros512]) ?_; intro w3 hB3 hO3; replace HB := Aside0.mk hB3; replace HO := Aside0.mk (HO.out.trans hO3); clear hB3 hO3)
    | (refine wl_copy rfl rfl Try.underlying31 size5 rfl rfl (len_ofB b) HB.out (Kd.C_below HR.out (HW.out.trans (HO.out.below Hg.out))) (by simp [zeros512]) ?_; intro w3 nc hB3 hO3; replace HB := Aside0.mk hB3; replace HO := Aside0.mk (HO.out.trans hO3); clear hB3 hO3))
  obtain ⟨L, hL⟩ : ∃ L, L = t :: b1 :: b2 :: 0 :: 0 :: 0 :: 0 :: (b ++ (List.replicate (504 - b.length) 0 ++ [t])) := ⟨_, rfl⟩
  have eL : splice ((((zeros512.set 0 t).set 511 t).set 1 b1).set 2 b2) 7 (b.take 504) = L := by
    rw [List.take_of_length_le hb, hL]
    exact lay_body 504 t b1 b2 b hb
  rw [eL] at HB
  have HLl : Aside0 (L.length = 512) := ⟨by rw [hL]; simp; omega⟩
  have HLt : Aside0 ((L.drop 1).take 2 ++ (L.drop 7).take 504 = text b) := ⟨by rw [hL, lay_text t b1 b2 b 504 hb, hb1, hb2]; rfl⟩
  have HLs : Aside0 (∀ s0 s1 s2 s3, le4 (crc (text b)) = [s0, s1, s2, s3] → (((L.set 3 s0).set 4 s1).set 5 s2).set 6 s3 = form t b) := ⟨by
    intro s0 s1 s2 s3 hs
    rw [hL, lay_sum, form_eq t b s0 s1 s2 s3 hs, hb1, hb2]⟩
  have HC1 := Aside0.mk (HB.out.C 1 2 (by rw [HLl.out]; decide) (by decide))
  have HC2 := Aside0.mk (HB.out.C 7 504 (by rw [HLl.out]; decide) (by decide))
  have HX1 : Aside0 (((L.drop 1).take 2).length = 2) := ⟨by rw [List.length_take, List.length_drop, HLl.out]; decide⟩
  have HX2 : Aside0 (((L.drop 7).take 504).length = 504) := ⟨by rw [List.length_take, List.length_drop, HLl.out]; decide⟩
  generalize (L.drop 1).take 2 = X1 at *
  generalize (L.drop 7).take 504 = X2 at *
  clear hL eL hb1 hb2
  go_still_tail 2, (by kernel_rfl)
  go_wp2_with (first
    | (refine wl_append_grow rfl rfl Try.underlying31 info5 rfl rfl HX1.out.symm HX2.out.symm (Kd.C_drew HC1.out) (Kd.C_drew HC2.out) (by rw [HX1.out]; decide) (by rw [HX2.out]; decide) (by rw [HX1.out, HX2.out]; decide) (by rw [HX1.out, HX2.out]; decide) ?_; intro A1 c1 w4 hc1 hcap hw4; have HC3 := Aside0.mk hc1; have HW4 := Aside0.mk hw4; clear hc1 hcap hw4)
    | (go_at_call 49; refine (sum_any _ _ _ _ HC3.out).mono ?_; rintro e w5 ⟨rfl, hw5⟩; have HW5 := Aside0.mk hw5; clear hw5))
  have HW4b := Aside0.mk (show Below w3.heap.size w3 w4 from ((Below.refl _ _).drew).trans HW4.out)
  have HB5 := Aside0.mk ((HB.out.below HW4b.out).below HW5.out)
  obtain ⟨q, hq⟩ : ∃ q, q = crc (X1 ++ X2) := ⟨_, rfl⟩
  rw [← hq]
  have Hq := Aside0.mk (show q = crc (text b) by rw [hq, HLt.out])
  clear hq
  have hql : (q.toNat : Int) < 4294967296 := by have := q.isLt; omega
  obtain ⟨qn, hqn⟩ : ∃ qn : Nat, qn = q.toNat := ⟨_, rfl⟩
  have Hn := Aside0.mk (le4_n q)
  rw [← hqn] at hql Hn ⊢
  clear hqn
  go_loopw [28] (fun v28 wr => ∃ k : Nat, k ≤ 4 ∧ v28 = .int .i64 k ∧ Aside0 (Blk wr g5 (bvs (setS L q k)) 91) ∧ Aside0 (Only g5 w5 wr)) (fun v28 _ => 4 - (intOf v28).toNat)
  case atStart => exact ⟨0, Nat.zero_le _, rfl, HB5, ⟨Only.refl _ _⟩⟩
  case round =>
    obtain ⟨k, hk, rfl, HBk, HOk⟩ := hrel
    by_cases hlt : k < 4
    · have hlt' : (k : Int) < 4 := by omega
      have hsz : Aside0 ((setS L q k).length = 512) := ⟨by rw [length_setS, HLl.out]⟩
      have h0123 : k = 0 ∨ k = 1 ∨ k = 2 ∨ k = 3 := by omega
      clear hlt
      rcases h0123 with rfl | rfl | rfl | rfl
      all_goals
        have HQ := Aside0.mk hql
        clear hql hlt' hk
      · go_wp2_with (refine wl_store_byte (b := (le4 q).getD 0 0) rfl rfl size5 rfl rfl ?hn HBk.out (by rw [hsz.out]; decide) ?_; (case hn => exact Hn.out.1.symm); intro w6 hB6 hO6; have HB6 := Aside0.mk hB6; have HO6 := Aside0.mk (HOk.out.trans hO6); clear hB6 hO6)
        exact ⟨⟨1, by omega, by first | rfl | simp, HB6, HO6⟩, by simp [intOf]⟩
      · go_wp2_with (refine wl_store_byte (b := (le4 q).getD 1 0) rfl rfl size5 rfl rfl ?hn HBk.out (by rw [hsz.out]; decide) ?_; (case hn => exact Hn.out.2.1.symm); intro w6 hB6 hO6; have HB6 := Aside0.mk hB6; have HO6 := Aside0.mk (HOk.out.trans hO6); clear hB6 hO6)
        exact ⟨⟨2, by omega, by first | rfl | simp, HB6, HO6⟩, by simp [intOf]⟩
      · go_wp2_with (refine wl_store_byte (b := (le4 q).getD 2 0) rfl rfl size5 rfl rfl ?hn HBk.out (by rw [hsz.out]; decide) ?_; (case hn => exact Hn.out.2.2.1.symm); intro w6 hB6 hO6; have HB6 := Aside0.mk hB6; have HO6 := Aside0.mk (HOk.out.trans hO6); clear hB6 hO6)
        exact ⟨⟨3, by omega, by first | rfl | simp, HB6, HO6⟩, by simp [intOf]⟩
      · go_wp2_with (refine wl_store_byte (b := (le4 q).getD 3 0) rfl rfl size5 rfl rfl ?hn HBk.out (by rw [hsz.out]; decide) ?_; (case hn => exact Hn.out.2.2.2.symm); intro w6 hB6 hO6; have HB6 := Aside0.mk hB6; have HO6 := Aside0.mk (HOk.out.trans hO6); clear hB6 hO6)
        exact ⟨⟨4, by omega, by first | rfl | simp, HB6, HO6⟩, by simp [intOf]⟩
    · have hge : ¬ ((k : Int) < 4) := by omega
      have HQ := Aside0.mk hql
      have e4 : k = 4 := by omega
      have hsF : setS L q k = form t b := by
        rw [e4]
        have := HLs.out ((le4 q).getD 0 0) ((le4 q).getD 1 0) ((le4 q).getD 2 0) ((le4 q).getD 3 0) (by rw [← Hq.out]; rfl)
        exact this
      rw [hsF] at HBk
      have HF := Aside0.mk (length_form t hb)
      have HB4r := Aside0.mk (HOk.out.blk (((HO.out.blk (HB4.out.below HW2.out) (show g4 ≠ g5 by have := HB4.out.lt; omega)).below HW4b.out).below HW5.out) (show g4 ≠ g5 by have := HB4.out.lt; omega))
      clear hql e4 hsF hk
      go_wp2_with (first
        | (refine wl_load_row rfl rfl agg50 rfl HBk.out (by rw [size_bvs, size_bvs, HF.out]; rfl) ?_)
        | (refine wl_store_row rfl rfl agg50 rfl rfl HB4r.out (by rw [size_bvs, size_bvs, HF.out]; rfl) rfl (bvs_one _) ?_; intro w7 hB7 hO7; have HB7 := Aside0.mk hB7; have HO7 := Aside0.mk hO7; clear hB7 hO7))
      refine bodyPost_ret (v := .agg (bvs (form t b))) ?_ rfl ⟨rfl, ?_⟩
      · exact results_cell_row (P := Try.prog) rfl _ _ g4 91 (bvs (form t b)) (0, 0) _ rfl HB7.out.out Try.underlying91 rfl (by rw [size_bvs, length_form t hb]; kernel_rfl)
      · have b3 : Below w.heap.size w w3 := HW.out.trans (HO.out.below Hg.out)
        have b4 : Below w.heap.size w w4 := b3.trans (HW4b.out.mono b3.size)
        have b5 : Below w.heap.size w w5 := b4.trans (HW5.out.mono b4.size)
        exact (b5.trans (HOk.out.below Hg.out)).trans (HO7.out.below hg4)
end Go.Proofs
