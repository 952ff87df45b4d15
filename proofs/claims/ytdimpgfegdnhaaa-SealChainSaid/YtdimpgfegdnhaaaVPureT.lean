/- The laws SealTorn and SealRot, in plain Lean. -/
import Derived.Test.YtdimpgfegdnhaaaVPureW
import Derived.Test.YtdimpgfegdnhaaaVSyn
open Go Go.RowKit Go.Proofs.Ytdimpgfegdnhaaa.P Go.Proofs.Ytdimpgfegdnhaaa.Ext Go.Proofs.YtdimpgfegdnhaaaW.PrintWords Go.Proofs.YtdimpgfegdnhaaaW.PrintLast
namespace Go.Proofs.Ytdimpgfegdnhaaa.PureA
open Go.Vel
theorem cutOf_ev (a : Int) : ∃ c : Nat, c ≤ 512 ∧ vellumlaw3_cutOf.f a = some (c : Int) := by
  have h1 := Int.emod_nonneg a (show (513 : Int) ≠ 0 by decide)
  have h2 := Int.emod_lt_of_pos a (show (0 : Int) < 513 by decide)
  have h3 : Int.tmod a 513 = a % 513 ∨ Int.tmod a 513 = a % 513 - 513 := by
    rcases Int.le_total 0 a with h | h
    · left; exact Int.tmod_eq_emod_of_nonneg h
    · rw [Int.tmod_eq_emod]
      split
      · left; omega
      · right; simp
  unfold vellumlaw3_cutOf.f
  split
  · refine ⟨(Int.tmod a 513 + 513).toNat, by omega, ?_⟩
    have : wrap64 (Int.tmod a 513 + 513) = ((Int.tmod a 513 + 513).toNat : Int) := by unfold wrap64; omega
    rw [this]
  · exact ⟨(Int.tmod a 513).toNat, by omega, by congr 1; omega⟩
theorem mix_l (a b : List UInt8) (c : Nat) (hc : c ≤ 512) (ha : a.length = 512) (hb : b.length = 512) : ∀ m i, i + m = 512 → Ev (fun k => vellumlaw3_mix.l0 k (ofB a) (ofB b) (c : Int) (ofB ((a.take c ++ b.drop c).take i)) (i : Int)) (ofB (a.take c ++ b.drop c))
  | 0, i, h => by
    refine Ev.step (f := fun _ => some _) (fun k => ?_) (Ev.now _)
    simp only [vellumlaw3_mix.l0]
    rw [if_neg (by omega), List.take_of_length_le (by simp; omega)]
  | m + 1, i, h => by
    have ih := mix_l a b c hc ha hb m (i + 1) (by omega)
    have hS : (a.take c ++ b.drop c).length = 512 := by simp; omega
    have ht := take_snoc (b := a.take c ++ b.drop c) (i := i) (by omega)
    have hlt := len_take (b := a.take c ++ b.drop c) (i := i) (by omega)
    by_cases hi : i < c
    · have e : rd (ofB (a.take c ++ b.drop c)) (i : Int) = rd (ofB a) (i : Int) := by
        rw [rd_ofB, rd_ofB, List.getD_eq_getElem?_getD, List.getD_eq_getElem?_getD, List.getElem?_append_left (by simp; omega), List.getElem?_take_of_lt hi]
      rw [e] at ht
      refine Ev.step (f := fun k => vellumlaw3_mix.j1 k (ofB a) (ofB b) (c : Int) (ofB ((a.take c ++ b.drop c).take i)) (i : Int) true) (fun k => ?_) (Ev.step (fun k => ?_) ih)
      · simp only [vellumlaw3_mix.l0]
        rw [if_pos (by omega), if_pos (by omega), decide_eq_true (by rw [len_ofB]; omega)]
      · simp only [vellumlaw3_mix.j1]
        rw [if_pos trivial, if_pos (by omega), if_pos (by rw [len_ofB]; omega), if_pos (by rw [hlt]; omega), ht, wrap_succ (by omega)]
    · have e : rd (ofB (a.take c ++ b.drop c)) (i : Int) = rd (ofB b) (i : Int) := by
        rw [rd_ofB, rd_ofB, List.getD_eq_getElem?_getD, List.getD_eq_getElem?_getD, List.getElem?_append_right (by simp; omega), List.getElem?_drop]
        have : c + (i - (a.take c).length) = i := by rw [List.length_take]; omega
        rw [this]
      rw [e] at ht
      refine Ev.step (f := fun k => vellumlaw3_mix.j1 k (ofB a) (ofB b) (c : Int) (ofB ((a.take c ++ b.drop c).take i)) (i : Int) false) (fun k => ?_) (Ev.step (fun k => ?_) ih)
      · simp only [vellumlaw3_mix.l0]
        rw [if_pos (by omega), if_neg (by omega)]
      · simp only [vellumlaw3_mix.j1]
        rw [if_neg (by decide), if_pos (by rw [len_ofB]; omega), if_pos (by omega), if_pos (by rw [hlt]; omega), ht, wrap_succ (by omega)]
theorem mix_ev (a b : List UInt8) (c : Nat) (hc : c ≤ 512) (ha : a.length = 512) (hb : b.length = 512) : Ev (fun k => vellumlaw3_mix.f k (ofB a) (ofB b) (c : Int)) (ofB (a.take c ++ b.drop c)) := mix_l a b c hc ha hb 512 0 (by omega)
theorem same_no {a b : List UInt8} (ha : a.length < 4611686018427387904) (h : a ≠ b) : Ev (fun k => vellumlaw3_same.f k (ofB a) (ofB b)) false := by
  have := same_ev (ofB a) (ofB b) (small ha)
  rwa [decide_eq_false (fun e => h (ofB_inj e))] at this
theorem told_ok (m a b : List UInt8) (hm : m.length = 512) (h : m = a ∨ m = b ∨ openF m = ([], 30)) : Ev (fun k => vellumlaw3_told.f k (ofB m) (ofB a) (ofB b)) true := by
  unfold vellumlaw3_told.f
  refine Ev.bind (twin_ev m (by omega)) (Ev.bind (Ev_told (ext_Open m)) ?_)
  by_cases h1 : m = a
  · subst h1
    exact Ev.bind (same_yes _ (small (by omega))) (Ev_yes rfl (Ev.now _))
  · refine Ev.bind (same_no (by omega) h1) (Ev_no (by decide) ?_)
    by_cases h2 : m = b
    · subst h2
      exact Ev.bind (same_yes _ (small (by omega))) (Ev_yes rfl (Ev.now _))
    · refine Ev.bind (same_no (by omega) h2) (Ev_no (by decide) ?_)
      have h3 : openF m = ([], 30) := by
        rcases h with h | h | h
        · exact absurd h h1
        · exact absurd h h2
        · exact h
      rw [h3]
      exact Ev.bind (Ev_told rfl) (Ev.now _)
theorem mix_is (a b : List UInt8) (c : Nat) (hc : c ≤ 512) (ha : a.length = 512) (hb : b.length = 512) (h : a.getD 0 0 ≠ b.getD 511 0) : (a.take c ++ b.drop c) = b ∨ (a.take c ++ b.drop c) = a ∨ openF (a.take c ++ b.drop c) = ([], 30) := by
  rcases Nat.eq_zero_or_pos c with h0 | h0
  · left; rw [h0]; simp
  · rcases Nat.lt_or_ge c 512 with h5 | h5
    · right; right
      refine open_ends _ (by simp; omega) ?_
      have e0 : (a.take c ++ b.drop c).getD 0 0 = a.getD 0 0 := by
        rw [List.getD_eq_getElem?_getD, List.getD_eq_getElem?_getD, List.getElem?_append_left (by simp; omega), List.getElem?_take_of_lt h0]
      have e1 : (a.take c ++ b.drop c).getD 511 0 = b.getD 511 0 := by
        rw [List.getD_eq_getElem?_getD, List.getD_eq_getElem?_getD, List.getElem?_append_right (by simp; omega), List.getElem?_drop]
        have : c + (511 - (a.take c).length) = 511 := by rw [List.length_take]; omega
        rw [this]
      rw [e0, e1]; exact h
    · right; left
      rw [List.take_of_length_le (by omega), List.drop_of_length_le (by omega), List.append_nil]
/-- What lies there, and the sector that is sealed over it. -/
theorem over_mixes (o b : List UInt8) (c : Nat) (hc : c ≤ 512) (ho : o.length = 512) (hb : b.length ≤ 504) (s : List UInt8) (hs : s = form (turnOf (o.getD 0 0) (o.getD 511 0)) b) :
    s.length = 512 ∧ (let m := o.take c ++ s.drop c; m = o ∨ m = s ∨ openF m = ([], 30)) ∧ (let m := s.take c ++ o.drop c; m = o ∨ m = s ∨ openF m = ([], 30)) := by
  obtain ⟨n0, n1, n2⟩ := turn_ne (o.getD 0 0) (o.getD 511 0)
  have hl : s.length = 512 := by rw [hs]; exact length_form _ hb
  have e0 : s.getD 0 0 = turnOf (o.getD 0 0) (o.getD 511 0) := by rw [hs]; rfl
  have e1 : s.getD 511 0 = turnOf (o.getD 0 0) (o.getD 511 0) := by rw [hs]; exact form_end _ b hb
  refine ⟨hl, ?_, ?_⟩
  · rcases mix_is o s c hc ho hl (by rw [e1]; exact n0.symm) with h | h | h
    · exact .inr (.inl h)
    · exact .inl h
    · exact .inr (.inr h)
  · rcases mix_is s o c hc hl ho (by rw [e0]; exact n1) with h | h | h
    · exact .inl h
    · exact .inr (.inl h)
    · exact .inr (.inr h)
theorem torn_ok (a b : List UInt8) (cut : Int) : Ev (fun k => vellumlaw3_SealTorn.f k (ofB a) (ofB b) cut) true := by
  have hS := length_sectorB a
  have hb : (b.take 504).length ≤ 504 := by rw [List.length_take]; omega
  obtain ⟨c, hc, hcut⟩ := cutOf_ev cut
  unfold vellumlaw3_SealTorn.f
  refine Ev.bind (sector_ev a) (Ev.bind (upTo_ev b 504 (by decide)) (Ev.bind (whole_ok _ _ hS hb) ?_))
  obtain ⟨s, hs⟩ : ∃ s, s = form (turnOf ((sectorB a).getD 0 0) ((sectorB a).getD 511 0)) (b.take 504) := ⟨_, rfl⟩
  obtain ⟨hl, m1, m2⟩ := over_mixes (sectorB a) (b.take 504) c hc hS hb s hs
  rw [← hs]
  refine Ev_yes (by rw [len_ofB]; omega) (Ev.bind (Ev_told hcut) (Ev.bind (mix_ev _ _ c hc hS hl) (Ev.bind (told_ok _ _ _ (by simp; omega) m1) (Ev_yes rfl (Ev.bind (mix_ev _ _ c hc hl hS) (Ev.bind (told_ok _ _ _ (by simp; omega) m2) (Ev.now _)))))))
theorem bits_xor8 (a b : UInt8) : Go.bits .xor .u8 (a.toNat : Int) (b.toNat : Int) = ((a ^^^ b).toNat : Int) := by
  have ha := a.toNat_lt
  have hb := b.toNat_lt
  have hc := (a ^^^ b).toNat_lt
  show IntKind.u8.wrap ((BitVec.ofInt 8 (a.toNat : Int) ^^^ BitVec.ofInt 8 (b.toNat : Int)).toNat : Int) = _
  rw [BitVec.toNat_xor]
  have f1 : (BitVec.ofInt 8 (a.toNat : Int)).toNat = a.toNat := by simp
  have f2 : (BitVec.ofInt 8 (b.toNat : Int)).toNat = b.toNat := by simp
  rw [f1, f2, ← UInt8.toNat_xor, IntKind.wrap_u8]
  omega
theorem shl_bit (j : Nat) (hj : j < 8) : shl .u8 1 (j : Int) = (((UInt8.ofNat (2 ^ j)).toNat : Nat) : Int) := by
  have h : j = 0 ∨ j = 1 ∨ j = 2 ∨ j = 3 ∨ j = 4 ∨ j = 5 ∨ j = 6 ∨ j = 7 := by omega
  rcases h with rfl | rfl | rfl | rfl | rfl | rfl | rfl | rfl <;> rfl
/-- A bit of the bytes 1 to 510 is turned over. -/
theorem turned_ev (s : List UInt8) (hs : s.length = 512) (bit : Int) : ∃ p j : Nat, 1 ≤ p ∧ p ≤ 510 ∧ j < 8 ∧ Ev (fun k => vellumlaw3_turned.f k (ofB s) bit) (ofB (flip s p j)) := by
  have fin : ∀ n : Nat, n < 4080 → ∃ p j : Nat, 1 ≤ p ∧ p ≤ 510 ∧ j < 8 ∧ Ev (fun k => (vellumlaw3_twin.f k (ofB s)).bind fun t201 => (if 0 ≤ (wrap64 (1 + (wrap64 (Int.tdiv (n : Int) 8)))) then (if (wrap64 (1 + (wrap64 (Int.tdiv (n : Int) 8)))) < (t201.length : Int) then (if 0 ≤ (Int.tmod (n : Int) 8) then (some (t201.set ((wrap64 (1 + (wrap64 (Int.tdiv (n : Int) 8)))) : Int).toNat (Go.bits .xor .u8 (rd t201 (wrap64 (1 + (wrap64 (Int.tdiv (n : Int) 8))))) (shl .u8 1 (Int.tmod (n : Int) 8))))) else (none)) else (none)) else (none))) (ofB (flip s p j)) := by
    intro n hn
    refine ⟨1 + n / 8, n % 8, by omega, by omega, by omega, ?_⟩
    have e1 : wrap64 (1 + (wrap64 (Int.tdiv (n : Int) 8))) = ((1 + n / 8 : Nat) : Int) := by
      rw [Int.tdiv_eq_ediv_of_nonneg (by omega)]; unfold wrap64; omega
    have e2 : Int.tmod (n : Int) 8 = ((n % 8 : Nat) : Int) := by rw [Int.tmod_eq_emod_of_nonneg (by omega)]; omega
    rw [e1, e2]
    refine Ev.bind (twin_ev s (by omega)) (Ev_yes (by omega) (Ev_yes (by rw [len_ofB]; omega) (Ev_yes (by omega) ?_)))
    have e3 : Go.bits .xor .u8 (rd (ofB s) ((1 + n / 8 : Nat) : Int)) (shl .u8 1 ((n % 8 : Nat) : Int)) = (((s.getD (1 + n / 8) 0 ^^^ UInt8.ofNat (2 ^ (n % 8))).toNat : Nat) : Int) := by
      rw [rd_ofB]
      generalize s.getD (1 + n / 8) 0 = x
      have hj : n % 8 < 8 := by omega
      rw [shl_bit _ hj, bits_xor8]
    have e4 : (ofB s).set (((1 + n / 8 : Nat) : Int)).toNat (((s.getD (1 + n / 8) 0 ^^^ UInt8.ofNat (2 ^ (n % 8))).toNat : Nat) : Int) = ofB (flip s (1 + n / 8) (n % 8)) := by
      unfold ofB flip
      rw [List.map_set, Int.toNat_natCast]
    rw [e3, e4]
    exact Ev.now _
  have h1 := Int.emod_nonneg bit (show (4080 : Int) ≠ 0 by decide)
  have h2 := Int.emod_lt_of_pos bit (show (0 : Int) < 4080 by decide)
  have h3 : Int.tmod bit 4080 = bit % 4080 ∨ Int.tmod bit 4080 = bit % 4080 - 4080 := by
    rcases Int.le_total 0 bit with h | h
    · left; exact Int.tmod_eq_emod_of_nonneg h
    · rw [Int.tmod_eq_emod]
      split
      · left; omega
      · right; simp
  unfold vellumlaw3_turned.f
  by_cases hneg : Int.tmod bit 4080 < 0
  · have e : wrap64 (Int.tmod bit 4080 + 4080) = ((Int.tmod bit 4080 + 4080).toNat : Int) := by unfold wrap64; omega
    obtain ⟨p, j, p1, p2, p3, p4⟩ := fin (Int.tmod bit 4080 + 4080).toNat (by omega)
    refine ⟨p, j, p1, p2, p3, Ev_yes hneg ?_⟩
    rw [e]; exact p4
  · have e : Int.tmod bit 4080 = ((Int.tmod bit 4080).toNat : Int) := by omega
    obtain ⟨p, j, p1, p2, p3, p4⟩ := fin (Int.tmod bit 4080).toNat (by omega)
    refine ⟨p, j, p1, p2, p3, Ev_no hneg ?_⟩
    rw [← e] at p4; exact p4
theorem rot_ok (a b : List UInt8) (one two three : Int) : Ev (fun k => vellumlaw3_SealRot.f k (ofB a) (ofB b) one two three) true := by
  have hS := length_sectorB a
  have hb : (b.take 504).length ≤ 504 := by rw [List.length_take]; omega
  unfold vellumlaw3_SealRot.f
  refine Ev.bind (sector_ev a) (Ev.bind (upTo_ev b 504 (by decide)) (Ev.bind (whole_ok _ _ hS hb) ?_))
  obtain ⟨s, hs⟩ : ∃ s, s = form (turnOf ((sectorB a).getD 0 0) ((sectorB a).getD 511 0)) (b.take 504) := ⟨_, rfl⟩
  have hl : s.length = 512 := by rw [hs]; exact length_form _ hb
  have hv := syn_form (turnOf ((sectorB a).getD 0 0) ((sectorB a).getD 511 0)) (b.take 504) hb
  rw [← hs] at hv ⊢
  obtain ⟨p, j, p1, p2, p3, t1⟩ := turned_ev s hl one
  obtain ⟨p', j', p1', p2', p3', t2⟩ := turned_ev (flip s p j) (by rw [length_flip, hl]) two
  obtain ⟨p'', j'', p1'', p2'', p3'', t3⟩ := turned_ev (flip (flip s p j) p' j') (by rw [length_flip, length_flip, hl]) three
  have o1 := ext_Open (flip s p j)
  rw [rot_one s hl hv p1 p2 p3] at o1
  have o3 := ext_Open (flip (flip (flip s p j) p' j') p'' j'')
  rw [rot_three s hl hv p1 p2 p3 p1' p2' p3' p1'' p2'' p3''] at o3
  have o2 := rot_two s hl hv p1 p2 p3 p1' p2' p3'
  have l1 := length_flip s p j
  have l2 := length_flip (flip s p j) p' j'
  have l3 := length_flip (flip (flip s p j) p' j') p'' j''
  generalize flip (flip (flip s p j) p' j') p'' j'' = c at *
  generalize flip (flip s p j) p' j' = b2 at *
  generalize flip s p j = a2 at *
  refine Ev_yes (by rw [len_ofB]; omega) (Ev.bind t1 (Ev.bind t2 (Ev.bind t3 (Ev.bind (twin_ev a2 (by omega)) (Ev.bind (Ev_told o1) (Ev.bind (twin_ev b2 (by omega)) (Ev.bind (Ev_told (ext_Open b2)) (Ev.bind (twin_ev c (by omega)) (Ev.bind (Ev_told o3) (Ev.bind (Ev_told rfl) (Ev_yes rfl (Ev.bind (Ev_told rfl) ?_))))))))))))
  by_cases hq : openF b2 = ([], 30)
  · rw [hq]
    exact Ev_yes rfl (Ev.bind (Ev_told rfl) (Ev.now _))
  · have hb2 : b2 = s := o2.resolve_left hq
    by_cases hq2 : ((openF b2).2 : Int) = 30
    · exact Ev_yes hq2 (Ev.bind (Ev_told rfl) (Ev.now _))
    · refine Ev_no hq2 ?_
      rw [hb2]
      exact Ev.bind (same_yes _ (small (by omega))) (Ev_yes rfl (Ev.bind (Ev_told rfl) (Ev.now _)))
end Go.Proofs.Ytdimpgfegdnhaaa.PureA
