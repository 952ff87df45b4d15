/- seal.Splice by the walk: for every two slices of bytes and every cut it returns what the pure spliceF says, in new memory; nothing that was there turns. -/
import Derived.Test.YtdimpgfegdnhaaaVLay
open Go Go.RowKit Go.Proofs.YtdimpgfegdnhaaaW.PrintWords Go.Proofs.YtdimpgfegdnhaaaW.PrintMore
namespace Go.Proofs
open Go.Vel
set_option maxHeartbeats 1000000 in
set_option maxRecDepth 100000 in
theorem splice_any (w : World) (A0 : Option Addr) (c0 : Nat) (a : List UInt8) (A1 : Option Addr) (c1 : Nat) (b : List UInt8) (cut : Int) (hr0 : Kd.C (Kd.int .u8) w A0 (ofB a).length (ofB a)) (hr1 : Kd.C (Kd.int .u8) w A1 (ofB b).length (ofB b)) :
    Calls Try.prog 53 #[.slice A0 (ofB a).length c0, .slice A1 (ofB b).length c1, .int .i64 cut] w (Ret2 (ofB (spliceF a b cut).1) (spliceF a b cut).2 w) := by
  have HR0 := Aside0.mk hr0
  have HR1 := Aside0.mk hr1
  clear hr0 hr1
  by_cases h1 : a.length = 512 ∧ b.length = 512
  · obtain ⟨ha, hb⟩ := h1
    have ha' : ((((ofB a).length : Nat) : Int) != 512) = false := by rw [len_ofB, ha]; rfl
    have hb' : ((((ofB b).length : Nat) : Int) != 512) = false := by rw [len_ofB, hb]; rfl
    have hlb : 512 ≤ (ofB b).length := by rw [len_ofB, hb]; exact Nat.le_refl _
    have Ha := Aside0.mk ha
    have Hb := Aside0.mk hb
    clear ha hb
    by_cases h2 : cut < 0
    · have e : spliceF a b cut = ([], 1) := by simp [spliceF, Ha.out, Hb.out, h2]
      rw [e]
      have h2d : decide (cut < 0) = true := decide_eq_true h2
      clear e
      go_enter Try.func53, Try.ntmps53
      go_wp2
      go_ret2
      exact ⟨_, rfl, V_nil, Below.refl _ _⟩
    · by_cases h3 : 512 < cut
      · have e : spliceF a b cut = ([], 1) := by simp [spliceF, Ha.out, Hb.out, h3]
        rw [e]
        have h2d : decide (cut < 0) = false := decide_eq_false h2
        have h3d : decide (512 < cut) = true := decide_eq_true h3
        clear e
        go_enter Try.func53, Try.ntmps53
        go_wp2
        go_ret2
        exact ⟨_, rfl, V_nil, Below.refl _ _⟩
      · have e : spliceF a b cut = (a.take cut.toNat ++ b.drop cut.toNat, 0) := by simp [spliceF, Ha.out, Hb.out, h2, h3]
        rw [e]
        have h2d : decide (cut < 0) = false := decide_eq_false h2
        have h3d : decide (512 < cut) = false := decide_eq_false h3
        have h20 : 0 ≤ cut := by omega
        have h30 : cut ≤ 512 := by omega
        obtain ⟨m, rfl⟩ := Int.eq_ofNat_of_zero_le h20
        have hm : m ≤ 512 := by omega
        rw [Int.toNat_natCast]
        clear e h2 h3 h20 h2d
        go_enter Try.func53, Try.ntmps53
        go_wp2_with (first
          | (refine wl_arrayPtr rfl rfl Try.underlying78 rfl hlb ?_)
          | (refine wl_load_bytes rfl rfl agg50 rfl HR1.out (by rw [Hb.out]; decide) (by rw [Hb.out]; decide) ?_)
          | (refine wl_alloc rfl rfl agg50 ?_; intro g w1 hB hg hw; have HB := Aside0.mk hB; have HW := Aside0.mk hw; clear hB hw)
          | (refine wl_store_row rfl rfl agg50 rfl rfl HB.out (by rw [size_bvs, size_bvs, Hb.out]; rfl) rfl (bvs_one _) ?_; intro w2 hB2 hO2; have HB2 := Aside0.mk hB2; have HO2 := Aside0.mk hO2; clear hB2 hO2)
          | (refine wl_copy rfl rfl Try.underlying22 size5 rfl rfl (len_ofB a) HB2.out (Kd.C_below HR0.out (HW.out.trans (HO2.out.below hg))) (by rw [Hb.out]; omega) ?_; intro w3 nc hB3 hO3; have HB3 := Aside0.mk hB3; have HO3 := Aside0.mk hO3; clear hB3 hO3))
        go_ret2
        refine ⟨_, rfl, V_of_blk HB3.out hg 0 512 512 ?_ (by decide) (Nat.le_refl _) ?_, (HW.out.trans (HO2.out.below hg)).trans (HO3.out.below hg)⟩
        · have hl : (splice b 0 (a.take m)).length = b.length := length_splice _ _ _ (by rw [Hb.out, List.length_take]; omega)
          rw [hl, Hb.out]; decide
        · have hl : (splice b 0 (a.take m)).length = 512 := by rw [length_splice _ _ _ (by rw [Hb.out, List.length_take]; omega), Hb.out]
          rw [List.drop_zero, List.take_of_length_le (Nat.le_of_eq hl)]
          simp [splice, Ha.out]
          rw [Hb.out]; omega
  · have e : spliceF a b cut = ([], 2) := by
      have : a.length ≠ 512 ∨ b.length ≠ 512 := by omega
      simp only [spliceF]; rw [if_pos this]
    rw [e]
    clear e
    by_cases ha : a.length = 512
    · have ha' : ((((ofB a).length : Nat) : Int) != 512) = false := by rw [len_ofB, ha]; rfl
      have hb' : ((((ofB b).length : Nat) : Int) != 512) = true := by rw [len_ofB, bne_iff_ne]; omega
      clear ha h1
      go_enter Try.func53, Try.ntmps53
      go_wp2
      go_ret2
      exact ⟨_, rfl, V_nil, Below.refl _ _⟩
    · have ha' : ((((ofB a).length : Nat) : Int) != 512) = true := by rw [len_ofB, bne_iff_ne]; omega
      clear ha h1
      go_enter Try.func53, Try.ntmps53
      go_wp2
      go_ret2
      exact ⟨_, rfl, V_nil, Below.refl _ _⟩
end Go.Proofs
