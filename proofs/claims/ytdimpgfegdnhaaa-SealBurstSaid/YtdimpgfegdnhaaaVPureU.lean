/- The law SealBurst, in plain Lean. -/
import Derived.Test.YtdimpgfegdnhaaaVPureT
open Go Go.RowKit Go.Proofs.Ytdimpgfegdnhaaa.P Go.Proofs.Ytdimpgfegdnhaaa.Ext Go.Proofs.YtdimpgfegdnhaaaW.PrintWords Go.Proofs.YtdimpgfegdnhaaaW.PrintLast
namespace Go.Proofs.Ytdimpgfegdnhaaa.PureA
open Go.Vel
def byteOf (v : Int) : UInt8 := UInt8.ofNat (v % 256).toNat
theorem byteOf_num (v : Int) : ((byteOf v).toNat : Int) = v % 256 := by
  unfold byteOf
  rw [UInt8.toNat_ofNat', Nat.mod_eq_of_lt (by omega)]; omega
theorem set_step (s : List UInt8) (p : Nat) (v : Int) : (ofB s).set p (Go.bits .xor .u8 (rd (ofB s) (p : Int)) (v % 256)) = ofB (step s p (byteOf v)) := by
  rw [rd_ofB, ← byteOf_num, bits_xor8]
  unfold ofB step
  rw [List.map_set]
theorem burst_l (x2 : Nat) (hx : x2 ≤ 500) (x3 : Int) (s m : List UInt8) (hm : m.length = 512) (i : Nat) (hi : i < 4) (R : Bool) (H : Ev (fun k => Go.Proofs.Ytdimpgfegdnhaaa.P.vellumlaw3_SealBurst.l0 k (x2 : Int) x3 (ofB s) (ofB (step m (7 + x2 + i) (byteOf (shr .i64 x3 ((8 * i : Nat) : Int))))) ((i + 1 : Nat) : Int)) R) :
    Ev (fun k => vellumlaw3_SealBurst.l0 k (x2 : Int) x3 (ofB s) (ofB m) (i : Int)) R := by
  refine Ev.step (fun k => ?_) H
  have e1 : wrap64 ((wrap64 (7 + (x2 : Int))) + (i : Int)) = ((7 + x2 + i : Nat) : Int) := by unfold wrap64; omega
  have e2 : wrap64 (8 * (i : Int)) = ((8 * i : Nat) : Int) := by unfold wrap64; omega
  simp only [vellumlaw3_SealBurst.l0]
  rw [if_pos (by omega), e1, e2, if_pos (by omega), if_pos (by rw [len_ofB]; omega), if_pos (by omega), Int.toNat_natCast, set_step, wrap_succ (by omega)]
theorem ends_ok (s : List UInt8) (hs : s.length = 512) (he : s.getD 0 0 = s.getD 511 0) (x : UInt8) : (step s 0 x = s) ∨ (openF (step s 0 x) = ([], 30) ∧ openF (step s 511 x) = ([], 30)) := by
  by_cases hx : x = 0
  · left; rw [hx, step_zero]
  · right
    have hne : s.getD 0 0 ^^^ x ≠ s.getD 0 0 := fun h => hx (by
      have := congrArg (s.getD 0 0 ^^^ ·) h
      simp only [xor_back8, xor_zero8] at this
      exact this)
    have g : ∀ p r : Nat, p < 512 → (step s p x).getD r 0 = if p = r then s.getD p 0 ^^^ x else s.getD r 0 := by
      intro p r hp
      unfold step
      rw [List.getD_eq_getElem?_getD, List.getElem?_set]
      by_cases h : p = r
      · rw [if_pos h, if_pos h, if_pos (by omega)]; rfl
      · rw [if_neg h, if_neg h, ← List.getD_eq_getElem?_getD]
    constructor
    · refine open_ends _ (by rw [length_step]; exact hs) ?_
      rw [g 0 0 (by decide), g 0 511 (by decide), if_pos rfl, if_neg (by decide), ← he]
      exact hne
    · refine open_ends _ (by rw [length_step]; exact hs) ?_
      rw [g 511 0 (by decide), g 511 511 (by decide), if_neg (by decide), if_pos rfl, ← he]
      exact hne.symm
theorem burst_j2 (s : List UInt8) (hs : s.length = 512) (he : s.getD 0 0 = s.getD 511 0) (x3 : Int) : Ev (fun k => vellumlaw3_SealBurst.j2 k x3 (ofB s) false) true := by
  have e0 : (ofB s).set (0 : Int).toNat (Go.bits .xor .u8 (rd (ofB s) 0) (x3 % 256)) = ofB (step s 0 (byteOf x3)) := set_step s 0 x3
  have e5 : (ofB s).set (511 : Int).toNat (Go.bits .xor .u8 (rd (ofB s) 511) (x3 % 256)) = ofB (step s 511 (byteOf x3)) := set_step s 511 x3
  have l0 := length_step s 0 (byteOf x3)
  have l5 := length_step s 511 (byteOf x3)
  refine Ev.step (fun k => vellumlaw3_SealBurst.j2.eq_2 ..) (Ev_no (by decide) ?_)
  refine Ev.bind (twin_ev s (by omega)) (Ev_yes (by rw [len_ofB]; omega) (Ev.bind (Ev_told rfl) ?_))
  rw [e0]
  refine Ev.bind (twin_ev _ (by omega)) (Ev.bind (Ev_told (ext_Open _)) (Ev.bind (twin_ev s (by omega)) (Ev_yes (by rw [len_ofB]; omega) ?_)))
  rw [e5]
  refine Ev.bind (twin_ev _ (by omega)) (Ev.bind (Ev_told (ext_Open _)) ?_)
  by_cases h : step s 0 (byteOf x3) = s
  · rw [h]
    exact Ev.bind (same_yes _ (small (by omega))) (Ev_yes rfl (Ev.now _))
  · obtain ⟨h1, h2⟩ := (ends_ok s hs he (byteOf x3)).resolve_left h
    rw [h1, h2]
    exact Ev.bind (same_no (by omega) h) (Ev_no (by decide) (Ev.bind (Ev_told rfl) (Ev_yes rfl (Ev.bind (Ev_told rfl) (Ev.now _)))))
theorem burst_ok (a b : List UInt8) (at_ word_ : Int) : Ev (fun k => vellumlaw3_SealBurst.f k (ofB a) (ofB b) at_ word_) true := by
  have hS := length_sectorB a
  have hb : (b.take 504).length ≤ 504 := by rw [List.length_take]; omega
  unfold vellumlaw3_SealBurst.f
  refine Ev.bind (sector_ev a) (Ev.bind (upTo_ev b 504 (by decide)) (Ev.bind (whole_ok _ _ hS hb) ?_))
  obtain ⟨s, hs⟩ : ∃ s, s = form (turnOf ((sectorB a).getD 0 0) ((sectorB a).getD 511 0)) (b.take 504) := ⟨_, rfl⟩
  have hl : s.length = 512 := by rw [hs]; exact length_form _ hb
  have hv := syn_form (turnOf ((sectorB a).getD 0 0) ((sectorB a).getD 511 0)) (b.take 504) hb
  have he : s.getD 0 0 = s.getD 511 0 := by rw [hs, form_end _ _ hb]; rfl
  rw [← hs] at hv ⊢
  clear hs hS hb
  have fin : ∀ n : Nat, n ≤ 500 → Ev (fun k => vellumlaw3_SealBurst.j0 k (n : Int) word_ (ofB s)) true := by
    intro n hn
    refine Ev.step (fun k => vellumlaw3_SealBurst.j0.eq_2 ..) (Ev.bind (twin_ev s (by omega)) ?_)
    refine burst_l n hn word_ s s hl 0 (by decide) _ (burst_l n hn word_ s _ (by simp only [length_step]; exact hl) 1 (by decide) _ (burst_l n hn word_ s _ (by simp only [length_step]; exact hl) 2 (by decide) _ (burst_l n hn word_ s _ (by simp only [length_step]; exact hl) 3 (by decide) _ ?_)))
    have hB := burst s hl hv n hn (byteOf (shr .i64 word_ ((8 * 0 : Nat) : Int))) (byteOf (shr .i64 word_ ((8 * 1 : Nat) : Int))) (byteOf (shr .i64 word_ ((8 * 2 : Nat) : Int))) (byteOf (shr .i64 word_ ((8 * 3 : Nat) : Int)))
    have hL : (step (step (step (step s (7 + n + 0) (byteOf (shr .i64 word_ ((8 * 0 : Nat) : Int)))) (7 + n + 1) (byteOf (shr .i64 word_ ((8 * 1 : Nat) : Int)))) (7 + n + 2) (byteOf (shr .i64 word_ ((8 * 2 : Nat) : Int)))) (7 + n + 3) (byteOf (shr .i64 word_ ((8 * 3 : Nat) : Int)))).length = 512 := by simp only [length_step]; exact hl
    change _ ∨ _ at hB
    rw [show 7 + n + 0 = 7 + n from rfl] at hL ⊢
    generalize step (step (step (step s (7 + n) (byteOf (shr .i64 word_ ((8 * 0 : Nat) : Int)))) (7 + n + 1) (byteOf (shr .i64 word_ ((8 * 1 : Nat) : Int)))) (7 + n + 2) (byteOf (shr .i64 word_ ((8 * 2 : Nat) : Int)))) (7 + n + 3) (byteOf (shr .i64 word_ ((8 * 3 : Nat) : Int))) = m at *
    refine Ev.step (f := fun k => (vellumlaw3_twin.f k (ofB m)).bind fun t269 => ((seal_Open.f t269).bind fun bt272 => ((vellumlaw3_same.f k (ofB m) (ofB s)).bind fun t276 => (if t276 = true then (vellumlaw3_SealBurst.j2 k word_ (ofB s) false) else ((vellumlaw3_num.f bt272.2).bind fun t277 => (vellumlaw3_SealBurst.j2 k word_ (ofB s) (t277 != 30))))))) (fun k => ?_) ?_
    · simp only [vellumlaw3_SealBurst.l0]
      rw [if_neg (by omega)]
    · refine Ev.bind (twin_ev m (by omega)) (Ev.bind (Ev_told (ext_Open m)) ?_)
      by_cases hms : m = s
      · rw [hms]
        exact Ev.bind (same_yes _ (small (by omega))) (Ev_yes rfl (burst_j2 s hl he word_))
      · rw [hB.resolve_left hms]
        exact Ev.bind (same_no (by omega) hms) (Ev_no (by decide) (Ev.bind (Ev_told rfl) (burst_j2 s hl he word_)))
  have h1 := Int.emod_nonneg at_ (show (501 : Int) ≠ 0 by decide)
  have h2 := Int.emod_lt_of_pos at_ (show (0 : Int) < 501 by decide)
  have h3 : Int.tmod at_ 501 = at_ % 501 ∨ Int.tmod at_ 501 = at_ % 501 - 501 := by
    rcases Int.le_total 0 at_ with h | h
    · left; exact Int.tmod_eq_emod_of_nonneg h
    · rw [Int.tmod_eq_emod]
      split
      · left; omega
      · right; simp
  refine Ev_yes (by rw [len_ofB]; omega) ?_
  by_cases hneg : Int.tmod at_ 501 < 0
  · have e : wrap64 (Int.tmod at_ 501 + 501) = ((Int.tmod at_ 501 + 501).toNat : Int) := by unfold wrap64; omega
    refine Ev_yes hneg ?_
    rw [e]; exact fin _ (by omega)
  · have e : Int.tmod at_ 501 = ((Int.tmod at_ 501).toNat : Int) := by omega
    refine Ev_no hneg ?_
    rw [e]; exact fin _ (by omega)
end Go.Proofs.Ytdimpgfegdnhaaa.PureA
