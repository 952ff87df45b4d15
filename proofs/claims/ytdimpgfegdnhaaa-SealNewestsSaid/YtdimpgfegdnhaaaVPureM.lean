/- The law SealNewests, in plain Lean. -/
import Derived.Test.YtdimpgfegdnhaaaVPureN
open Go Go.RowKit Go.Proofs.Ytdimpgfegdnhaaa.P Go.Proofs.Ytdimpgfegdnhaaa.Ext Go.Proofs.YtdimpgfegdnhaaaW.PrintWords Go.Proofs.YtdimpgfegdnhaaaW.PrintLast
namespace Go.Proofs.Ytdimpgfegdnhaaa.PureA
open Go.Vel
def byteM (v : Int) : UInt8 := UInt8.ofNat (v % 256).toNat
theorem byteM_num (v : Int) : v % 256 = ((byteM v).toNat : Int) := by
  unfold byteM
  rw [UInt8.toNat_ofNat', Nat.mod_eq_of_lt (by omega)]; omega
theorem set_byteM (s : List UInt8) (i : Nat) (v : Int) : (ofB s).set i (v % 256) = ofB (s.set i (byteM v)) := by
  rw [byteM_num]
  unfold ofB
  rw [List.map_set]
theorem made_l1 (l : List UInt8) (hll : l.length ≤ 140737488351232) (a0 a1 a2 : Int) : ∀ (m i : Nat) (x3 : List UInt8), i + m = l.length → x3.length + m < 140737488355328 → ∃ b : List UInt8, b.length < 140737488355328 ∧ Ev (fun k => vellumlaw3_made.l1 k (ofB x3) (i : Int) a0 a1 a2 (ofB l)) (ofB b)
  | 0, i, x3, h, hx => by
    have hs := length_sectorB []
    refine ⟨(sealF (((sectorB []).set 0 (byteM a2)).set 511 (byteM a2)) (x3.take 504)).1, ?_, ?_⟩
    · have hl : (((sectorB []).set 0 (byteM a2)).set 511 (byteM a2)).length = 512 := by simp only [List.length_set]; exact hs
      unfold sealF
      rw [if_neg (by simp only [hl]; decide), if_neg (by rw [List.length_take]; omega)]
      simp only []
      rw [length_form _ (by rw [List.length_take]; omega)]; decide
    · refine Ev.step (f := fun k => (vellumlaw3_sector.f k ([] : List Int)).bind fun t171 => (if 0 < (t171.length : Int) then (if 511 < (t171.length : Int) then ((vellumlaw3_upTo.f k (ofB x3) 504).bind fun t176 => ((vellumref3_Seal.f k ((t171.set (0 : Int).toNat ((a2) % 256)).set (511 : Int).toNat ((a2) % 256)) t176).bind fun bt179 => (some bt179.1))) else (none)) else (none))) (fun k => ?_) (Ev.bind (sector_ev []) (Ev_yes (by rw [len_ofB]; omega) (Ev_yes (by rw [len_ofB]; omega) (Ev.bind (upTo_ev x3 504 (by decide)) ?_))))
      · simp only [vellumlaw3_made.l1]
        rw [if_neg (by rw [len_ofB]; omega)]
      · have z0 : (0 : Int).toNat = 0 := rfl
        have z5 : (511 : Int).toNat = 511 := rfl
        rw [z0, z5, set_byteM, set_byteM]
        generalize ((sectorB []).set 0 (byteM a2)).set 511 (byteM a2) = S
        exact Ev.bind (sealR_ev S (x3.take 504)) (Ev.now _)
  | m + 1, i, x3, h, hx => by
    obtain ⟨b, hb, ev⟩ := made_l1 l hll a0 a1 a2 m (i + 1) (x3 ++ [l.getD i 0]) (by omega) (by simp; omega)
    refine ⟨b, hb, Ev.step (fun k => ?_) ev⟩
    simp only [vellumlaw3_made.l1]
    rw [if_pos (by rw [len_ofB]; omega), if_pos (by omega), if_pos (by rw [len_ofB]; omega), rd_ofB, ofB_snoc, wrap_succ (by omega)]
theorem made_j2 (l : List UInt8) (hll : l.length ≤ 140737488351232) (a0 a1 a2 : Int) (x3 : List UInt8) (hx : x3.length + l.length < 140737488355328) : ∃ b : List UInt8, b.length < 140737488355328 ∧ Ev (fun k => vellumlaw3_made.j2 k (ofB x3) a0 a1 a2 (ofB l)) (ofB b) := by
  obtain ⟨b, hb, ev⟩ := made_l1 l hll a0 a1 a2 l.length 0 x3 (by omega) hx
  exact ⟨b, hb, Ev.step (fun k => vellumlaw3_made.j2.eq_2 ..) ev⟩
theorem made_l0 (l : List UInt8) (hll : l.length ≤ 140737488351232) (a0 a1 a2 : Int) : ∀ (m j : Nat) (x3 : List UInt8) (x4 : Int), j + m = 8 → x3.length + m + l.length < 140737488355328 → ∃ b : List UInt8, b.length < 140737488355328 ∧ Ev (fun k => vellumlaw3_made.l0 k (ofB x3) x4 (j : Int) a0 a1 a2 (ofB l)) (ofB b)
  | 0, j, x3, x4, h, hx => by
    obtain ⟨b, hb, ev⟩ := made_j2 l hll a0 a1 a2 x3 (by omega)
    refine ⟨b, hb, Ev.step (fun k => ?_) ev⟩
    simp only [vellumlaw3_made.l0]
    rw [if_neg (by omega)]
  | m + 1, j, x3, x4, h, hx => by
    obtain ⟨b, hb, ev⟩ := made_l0 l hll a0 a1 a2 m (j + 1) (x3 ++ [byteM (Go.bits .and .i64 x4 255)]) (x4 / 256) (by omega) (by simp; omega)
    refine ⟨b, hb, Ev.step (fun k => ?_) ev⟩
    simp only [vellumlaw3_made.l0]
    rw [if_pos (by omega), if_pos (by rw [len_ofB]; omega), byteM_num, ofB_snoc, wrap_succ (by omega)]
theorem made_ev (l : List UInt8) (a0 a1 a2 : Int) (hll : l.length ≤ 140737488351232) : ∃ b : List UInt8, b.length < 140737488355328 ∧ Ev (fun k => vellumlaw3_made.f k a0 a1 a2 (ofB l)) (ofB b) := by
  unfold vellumlaw3_made.f
  by_cases h0 : a0 = 0
  · exact ⟨l, by omega, Ev_yes h0 (Ev.bind (twin_ev l (by omega)) (Ev.now _))⟩
  · have jt : ∃ b : List UInt8, b.length < 140737488355328 ∧ Ev (fun k => vellumlaw3_made.j0 k true a0 a1 a2 (ofB l)) (ofB b) :=
      ⟨sectorB l, by rw [length_sectorB]; decide, Ev.step (fun k => vellumlaw3_made.j0.eq_2 ..) (Ev_yes rfl (Ev.bind (sector_ev l) (Ev.now _)))⟩
    have jf : ∃ b : List UInt8, b.length < 140737488355328 ∧ Ev (fun k => vellumlaw3_made.j0 k false a0 a1 a2 (ofB l)) (ofB b) := by
      by_cases h3 : a0 = 3
      · obtain ⟨b, hb, ev⟩ := made_l0 l hll a0 a1 a2 8 0 [] a1 (by omega) (by simp; omega)
        exact ⟨b, hb, Ev.step (fun k => vellumlaw3_made.j0.eq_2 ..) (Ev_no (by decide) (Ev_yes h3 ev))⟩
      · obtain ⟨b, hb, ev⟩ := made_j2 l hll a0 a1 a2 [] (by simp; omega)
        exact ⟨b, hb, Ev.step (fun k => vellumlaw3_made.j0.eq_2 ..) (Ev_no (by decide) (Ev_no h3 ev))⟩
    by_cases h2 : a0 = 2
    · obtain ⟨b, hb, ev⟩ := jf
      exact ⟨b, hb, Ev_no h0 (Ev_yes h2 ev)⟩
    · have hj : ∀ x : Bool, ∃ b : List UInt8, b.length < 140737488355328 ∧ Ev (fun k => vellumlaw3_made.j0 k x a0 a1 a2 (ofB l)) (ofB b) := fun x => by
        cases x
        · exact jf
        · exact jt
      obtain ⟨b, hb, ev⟩ := hj (a0 != 3)
      exact ⟨b, hb, Ev_no h0 (Ev_no h2 ev)⟩
theorem ext_Newest (a b : List UInt8) : seal_Newest.f (ofB a) (ofB b) = some (((newestF a b).1 : Int), ((newestF a b).2.1 : Int), ofB (newestF a b).2.2.1, ((newestF a b).2.2.2 : Int)) := by simp [seal_Newest.f, isB_ofB, toB_ofB]
theorem small_newest (a b : List UInt8) : (ofB (newestF a b).2.2.1).length < 4611686018427387904 := by
  have hr : ∀ s, (readF s).2.length < 140737488355328 := fun s => by
    have := openF_len s
    unfold readF
    split
    · decide
    · split
      · decide
      · simp only [List.length_drop]; omega
  apply small
  unfold newestF
  split
  · split
    · decide
    · split
      · have := hr b; simp only []; omega
      · have := hr a; simp only []; omega
  · decide
theorem newest_ok (a b : List UInt8) (ha : a.length < 140737488355328) (hb : b.length < 140737488355328) : Ev (fun k => vellumlaw3_newest.f k (ofB a) (ofB b)) true := by
  unfold vellumlaw3_newest.f
  exact Ev.bind (twin_ev a ha) (Ev.bind (twin_ev b hb) (Ev.bind (Ev_told (ext_Newest a b)) (Ev.bind (newestR_ev a b) (Ev_yes rfl (Ev_yes rfl (Ev.bind (same_yes _ (small_newest _ _)) (Ev_yes rfl (Ev.bind (Ev_told rfl) (Ev_yes rfl (Ev.bind (same_yes _ (small (by omega))) (Ev_yes rfl (Ev.bind (same_yes _ (small (by omega))) (Ev.now _)))))))))))))
theorem read_form (t : UInt8) (b : List UInt8) (ht : t.toNat ≤ 2) (hb : b.length ≤ 504) (h8 : 8 ≤ b.length) (h1 : leN (b.take 8) ≠ 0) (h2 : leN (b.take 8) ≤ 9223372036854775807) : readF (form t b) = (leN (b.take 8), b.drop 8) := by
  unfold readF
  rw [openF_form t b ht hb, if_neg (by simp only []; omega), if_neg (by simp only []; omega)]
theorem first_ok : Ev (fun k => vellumlaw3_first.f k) true := by
  have hS := length_sectorB []
  obtain ⟨b7, h7⟩ : ∃ b : List UInt8, b = [7, 0, 0, 0, 0, 0, 0, 0] := ⟨_, rfl⟩
  obtain ⟨b9, h9⟩ : ∃ b : List UInt8, b = [9, 0, 0, 0, 0, 0, 0, 0, 65] := ⟨_, rfl⟩
  have l7 : b7.length ≤ 504 := by rw [h7]; decide
  have l9 : b9.length ≤ 504 := by rw [h9]; decide
  have ht := (turn_ne ((sectorB []).getD 0 0) ((sectorB []).getD 511 0)).2.2
  have s7 : sealF (sectorB []) b7 = (form (turnOf ((sectorB []).getD 0 0) ((sectorB []).getD 511 0)) b7, 0) := by unfold sealF; rw [if_neg (by rw [hS]; decide), if_neg (by omega)]
  have s9 : sealF (sectorB []) b9 = (form (turnOf ((sectorB []).getD 0 0) ((sectorB []).getD 511 0)) b9, 0) := by unfold sealF; rw [if_neg (by rw [hS]; decide), if_neg (by omega)]
  have x7 := ext_Seal (sectorB []) b7
  have x9 := ext_Seal (sectorB []) b9
  rw [s7] at x7
  rw [s9] at x9
  generalize turnOf ((sectorB []).getD 0 0) ((sectorB []).getD 511 0) = t at *
  have r7 := read_form t b7 ht l7 (by rw [h7]; decide) (by rw [h7]; decide) (by rw [h7]; decide)
  have r9 := read_form t b9 ht l9 (by rw [h9]; decide) (by rw [h9]; decide) (by rw [h9]; decide)
  have e7 : leN (b7.take 8) = 7 := by rw [h7]; decide
  have e9 : leN (b9.take 8) = 9 := by rw [h9]; decide
  have d9 : b9.drop 8 = [65] := by rw [h9]; rfl
  rw [e7] at r7
  rw [e9, d9] at r9
  have f7 := length_form t l7
  have f9 := length_form t l9
  have nw : newestF (form t b7) (form t b9) = (1, 9, [65], 0) := by
    unfold newestF
    rw [if_pos ⟨f7, f9⟩, r7, r9]; rfl
  have xn := ext_Newest (form t b7) (form t b9)
  rw [nw] at xn
  have i7 : ([7, 0, 0, 0, 0, 0, 0, 0] : List Int) = ofB b7 := by rw [h7]; rfl
  have i9 : ([9, 0, 0, 0, 0, 0, 0, 0, 65] : List Int) = ofB b9 := by rw [h9]; rfl
  unfold vellumlaw3_first.f
  rw [i7, i9]
  refine Ev.bind (sector_ev []) (Ev.bind (Ev_told x7) (Ev.bind (sector_ev []) (Ev.bind (Ev_told x9) (Ev.bind (Ev_told rfl) (Ev_yes rfl (Ev.bind (Ev_told rfl) ?_))))))
  refine Ev.step (fun k => vellumlaw3_first.j0.eq_2 ..) (Ev_no (show ¬ ((0 : Int) != 0) = true by decide) (Ev.bind (Ev_told xn) (Ev.bind (Ev_told rfl) (Ev_yes rfl (Ev_yes rfl (Ev_yes rfl (Ev.bind (same_yes _ (by decide)) (Ev.now _))))))))
theorem newests_ok (a0 a1 a2 : Int) (l : List UInt8) (c0 c1 c2 : Int) (m : List UInt8) (hl : l.length ≤ 140737488351232) (hm : m.length ≤ 140737488351232) : Ev (fun k => vellumlaw3_SealNewests.f k a0 a1 a2 (ofB l) c0 c1 c2 (ofB m)) true := by
  obtain ⟨x, hx, ex⟩ := made_ev l a0 a1 a2 hl
  obtain ⟨y, hy, ey⟩ := made_ev m c0 c1 c2 hm
  unfold vellumlaw3_SealNewests.f
  exact Ev.bind ex (Ev.bind ey (Ev.bind (newest_ok x y hx hy) (Ev_yes rfl (Ev.bind (newest_ok y x hy hx) (Ev_yes rfl (Ev.bind (newest_ok x x hx hx) (Ev_yes rfl (Ev.bind first_ok (Ev.now _)))))))))
end Go.Proofs.Ytdimpgfegdnhaaa.PureA
