/- What a sealed sector's checksum tells, in plain Lean: a sector that opens is the form of a body; one, two or three bits turned, or four neighbouring bytes changed, are told; a mixture of two sectors whose ends differ is torn. -/
import Derived.Test.YtdimpgfegdnhaaaVOpen
namespace Go.Proofs
open Go Go.Vel
theorem open_or (s : List UInt8) (hs : s.length = 512) : openF s = ([], 30) ∨ ∃ b, b.length ≤ 504 ∧ s = form (s.getD 0 0) b := by
  rw [openF_at hs rfl rfl]
  split
  · exact .inl rfl
  · rename_i h
    split
    · rename_i h2
      exact .inr ⟨_, by rw [List.length_take]; omega, h2⟩
    · exact .inl rfl
theorem form_end (t : UInt8) (b : List UInt8) (hb : b.length ≤ 504) : (form t b).getD 511 0 = t := by
  have hl := length_text hb
  have e : form t b = (t :: ((text b).take 2 ++ (le4 (crc (text b)) ++ (text b).drop 2))) ++ [t] := by unfold form; simp
  have h511 : (t :: ((text b).take 2 ++ (le4 (crc (text b)) ++ (text b).drop 2))).length = 511 := by simp [length_le4]; omega
  rw [e, List.getD_eq_getElem?_getD, List.getElem?_append_right (by omega), h511]
  rfl
theorem open_ends (s : List UInt8) (hs : s.length = 512) (h : s.getD 0 0 ≠ s.getD 511 0) : openF s = ([], 30) := by
  rcases open_or s hs with h1 | ⟨b, hb, h1⟩
  · exact h1
  · exfalso
    apply h
    have := form_end (s.getD 0 0) b hb
    rw [← h1] at this
    exact this.symm
/-- Where in the sector the checksum's k-th byte stands. -/
def pos (k : Nat) : Nat := if k < 2 then k + 1 else if k < 506 then k + 5 else k - 503
theorem pos_inj {j k : Nat} (hj : j < 510) (hk : k < 510) (h : pos j = pos k) : j = k := by
  unfold pos at h
  repeat' split at h
  all_goals omega
theorem pos_onto {p : Nat} (h1 : 1 ≤ p) (h2 : p ≤ 510) : ∃ q, q < 510 ∧ pos q = p := by
  unfold pos
  by_cases a : p < 3
  · exact ⟨p - 1, by omega, by rw [if_pos (by omega)]; omega⟩
  · by_cases b : p < 7
    · exact ⟨p + 503, by omega, by rw [if_neg (by omega), if_neg (by omega)]; omega⟩
    · exact ⟨p - 5, by omega, by rw [if_neg (by omega), if_pos (by omega)]; omega⟩
theorem pos_lt {k : Nat} (h : k < 510) : pos k < 512 := by
  unfold pos
  repeat' split
  all_goals omega
/-- What the checksum is taken over, and the checksum. -/
def word (s : List UInt8) : List UInt8 := (List.range 510).map fun k => s.getD (pos k) 0
theorem length_word (s : List UInt8) : (word s).length = 510 := by simp [word]
theorem word_get (s : List UInt8) {k : Nat} (h : k < 510) : (word s)[k]? = some (s.getD (pos k) 0) := by
  unfold word
  rw [List.getElem?_map, List.getElem?_range h]; rfl
theorem word_form (t : UInt8) (b : List UInt8) (hb : b.length ≤ 504) : word (form t b) = text b ++ le4 (crc (text b)) := by
  have hl := length_text hb
  have h4 := length_le4 (crc (text b))
  unfold form
  generalize le4 (crc (text b)) = S at *
  generalize text b = X at *
  apply List.ext_getElem?
  intro k
  by_cases hk : k < 510
  · rw [word_get _ hk, List.getD_eq_getElem?_getD]
    have hx : ∀ l : List UInt8, ∀ i, i < l.length → some (l[i]?.getD 0) = l[i]? := fun l i hi => by rw [List.getElem?_eq_getElem hi]; rfl
    rw [hx _ _ (by have := pos_lt hk; simp only [List.length_cons, List.length_append, List.length_take, List.length_drop, List.length_nil]; omega)]
    unfold pos
    by_cases h2 : k < 2
    · rw [if_pos h2, List.getElem?_cons_succ, List.getElem?_append_left (by rw [List.length_take]; omega), List.getElem?_take_of_lt h2, List.getElem?_append_left (by omega)]
    · rw [if_neg h2]
      by_cases h5 : k < 506
      · rw [if_pos h5, show k + 5 = (k + 4) + 1 from rfl, List.getElem?_cons_succ, List.getElem?_append_right (by rw [List.length_take]; omega), List.getElem?_append_right (by rw [List.length_take]; omega), List.getElem?_append_left (by rw [List.length_take, List.length_drop]; omega), List.getElem?_drop, List.getElem?_append_left (by omega), List.length_take, h4, show 2 + (k + 4 - min 2 X.length - 4) = k by omega]
      · rw [if_neg h5]
        obtain ⟨j, rfl⟩ : ∃ j, k = 506 + j := ⟨k - 506, by omega⟩
        rw [show 506 + j - 503 = (j + 2) + 1 by omega, List.getElem?_cons_succ, List.getElem?_append_right (by rw [List.length_take]; omega), List.getElem?_append_left (by rw [List.length_take]; omega), List.getElem?_append_right (by omega), List.length_take, hl, show j + 2 - min 2 506 = 506 + j - 506 by omega]
  · rw [List.getElem?_eq_none (by rw [length_word]; omega), List.getElem?_eq_none (by rw [List.length_append]; omega)]
def syn (s : List UInt8) : BitVec 32 := raw (BitVec.ofNat 32 4294967295) (word s)
set_option maxRecDepth 100000 in
theorem le4_not (r : BitVec 32) : le4 (~~~ r) = dif (le4 r) [255, 255, 255, 255] := by
  have hr := r.isLt
  have e : (~~~ r).toNat = 4294967295 - r.toNat := by rw [BitVec.toNat_not]
  have key : ∀ n : Nat, n < 256 → UInt8.ofNat (255 - n) = UInt8.ofNat n ^^^ 255 := by decide
  unfold le4 dif
  rw [e]
  generalize r.toNat = n at *
  have a0 : (4294967295 - n) % 256 = 255 - n % 256 := by omega
  have a1 : (4294967295 - n) / 256 % 256 = 255 - n / 256 % 256 := by omega
  have a2 : (4294967295 - n) / 65536 % 256 = 255 - n / 65536 % 256 := by omega
  have a3 : (4294967295 - n) / 16777216 % 256 = 255 - n / 16777216 % 256 := by omega
  rw [a0, a1, a2, a3, key _ (Nat.mod_lt _ (by decide)), key _ (Nat.mod_lt _ (by decide)), key _ (Nat.mod_lt _ (by decide)), key _ (Nat.mod_lt _ (by decide))]
  rfl
theorem syn_form (t : UInt8) (b : List UInt8) (hb : b.length ≤ 504) : syn (form t b) = raw (BitVec.ofNat 32 0) [255, 255, 255, 255] := by
  unfold syn
  rw [word_form t b hb, raw_append]
  unfold crc
  generalize raw (BitVec.ofNat 32 4294967295) (text b) = R
  have h := raw_dif (le4 R) [255, 255, 255, 255] R (BitVec.ofNat 32 0) rfl
  rw [raw_le4, ← le4_not] at h
  simpa using h.symm
theorem syn_of_open {s : List UInt8} (hs : s.length = 512) (h : openF s ≠ ([], 30)) : syn s = raw (BitVec.ofNat 32 0) [255, 255, 255, 255] := by
  rcases open_or s hs with h1 | ⟨b, hb, h1⟩
  · exact absurd h1 h
  · have := syn_form (s.getD 0 0) b hb
    rwa [← h1] at this
theorem syn_dif (s s' : List UInt8) : syn s ^^^ syn s' = raw (BitVec.ofNat 32 0) (dif (word s) (word s')) := by
  unfold syn
  rw [raw_dif _ _ _ _ (by rw [length_word, length_word])]
  simp
theorem xor_zero8 (a : UInt8) : a ^^^ a = 0 := by simp
theorem xor_back8 (a x : UInt8) : a ^^^ (a ^^^ x) = x := by rw [← UInt8.xor_assoc]; simp
theorem syn_set (s : List UInt8) (hs : s.length = 512) {q : Nat} (hq : q < 510) (x : UInt8) : syn (s.set (pos q) (s.getD (pos q) 0 ^^^ x)) = syn s ^^^ raw (BitVec.ofNat 32 0) (unit 510 q x) := by
  have e : dif (word s) (word (s.set (pos q) (s.getD (pos q) 0 ^^^ x))) = unit 510 q x := by
    unfold dif unit
    apply List.ext_getElem?
    intro k
    rw [List.getElem?_zipWith]
    by_cases hk : k < 510
    · have hp := pos_lt hq
      rw [word_get _ hk, word_get _ hk, List.getElem?_set]
      by_cases hkq : q = k
      · subst hkq
        rw [if_pos rfl, if_pos (by rw [List.length_replicate]; exact hq)]
        have : (s.set (pos q) (s.getD (pos q) 0 ^^^ x)).getD (pos q) 0 = s.getD (pos q) 0 ^^^ x := by
          rw [List.getD_eq_getElem?_getD, List.getElem?_set_self (by omega)]; rfl
        rw [this]
        show some (s.getD (pos q) 0 ^^^ (s.getD (pos q) 0 ^^^ x)) = some x
        rw [xor_back8]
      · rw [if_neg hkq, List.getElem?_replicate, if_pos hk]
        have : (s.set (pos q) (s.getD (pos q) 0 ^^^ x)).getD (pos k) 0 = s.getD (pos k) 0 := by
          rw [List.getD_eq_getElem?_getD, List.getElem?_set_ne (fun h => hkq (pos_inj hq hk h)), ← List.getD_eq_getElem?_getD]
        rw [this]
        show some (s.getD (pos k) 0 ^^^ s.getD (pos k) 0) = some 0
        rw [xor_zero8]
    · rw [List.getElem?_eq_none (l := word s) (by rw [length_word]; omega), List.getElem?_eq_none (l := (List.replicate 510 (0 : UInt8)).set q x) (by rw [List.length_set, List.length_replicate]; omega)]
  have h := syn_dif s (s.set (pos q) (s.getD (pos q) 0 ^^^ x))
  rw [e] at h
  rw [← h, xself]
/-- One bit of the bytes 1 to 510 turned over. -/
def flip (s : List UInt8) (p j : Nat) : List UInt8 := s.set p (s.getD p 0 ^^^ UInt8.ofNat (2 ^ j))
theorem length_flip (s : List UInt8) (p j : Nat) : (flip s p j).length = s.length := by simp [flip]
theorem syn_flip (s : List UInt8) (hs : s.length = 512) {q j : Nat} (hq : q < 510) : syn (flip s (pos q) j) = syn s ^^^ raw (BitVec.ofNat 32 0) (unit 510 q (UInt8.ofNat (2 ^ j))) := syn_set s hs hq _
theorem par_one : par (BitVec.ofNat 32 1) = true := by decide
theorem par_bit {q j : Nat} (hq : q < 510) (hj : j < 8) : par (raw (BitVec.ofNat 32 0) (unit 510 q (UInt8.ofNat (2 ^ j)))) = true := by
  rw [raw_bit hq hj, par_mk, par_one]
theorem par_nought : par (BitVec.ofNat 32 0) = false := by decide
theorem eq_of_xor {a b : BitVec 32} (h : a ^^^ b = a) : b = BitVec.ofNat 32 0 := by
  have := congrArg (a ^^^ ·) h
  simp only [xself, BitVec.xor_self] at this
  exact this
/-- A sealed sector with one bit turned over is torn. -/
theorem rot_one (s : List UInt8) (hs : s.length = 512) (hv : syn s = raw (BitVec.ofNat 32 0) [255, 255, 255, 255]) {p j : Nat} (h1 : 1 ≤ p) (h2 : p ≤ 510) (hj : j < 8) : openF (flip s p j) = ([], 30) := by
  obtain ⟨q, hq, rfl⟩ := pos_onto h1 h2
  apply Classical.byContradiction
  intro h
  have e := syn_of_open (by rw [length_flip, hs]) h
  rw [syn_flip s hs hq, hv] at e
  have := par_bit hq hj
  rw [eq_of_xor e, par_nought] at this
  cases this
theorem flip_back (s : List UInt8) (p j : Nat) : flip (flip s p j) p j = s := by
  unfold flip
  rw [List.set_set]
  by_cases hp : p < s.length
  · have : (s.set p (s.getD p 0 ^^^ UInt8.ofNat (2 ^ j))).getD p 0 = s.getD p 0 ^^^ UInt8.ofNat (2 ^ j) := by
      rw [List.getD_eq_getElem?_getD, List.getElem?_set_self hp]; rfl
    rw [this, UInt8.xor_assoc, UInt8.xor_self, UInt8.xor_zero, List.getD_eq_getElem?_getD, List.getElem?_eq_getElem hp]
    simp
  · rw [List.set_eq_of_length_le (by omega)]
/-- Two bits turned over are told, or are one and the same. -/
theorem rot_two (s : List UInt8) (hs : s.length = 512) (hv : syn s = raw (BitVec.ofNat 32 0) [255, 255, 255, 255]) {p p' j j' : Nat} (h1 : 1 ≤ p) (h2 : p ≤ 510) (hj : j < 8) (h1' : 1 ≤ p') (h2' : p' ≤ 510) (hj' : j' < 8) : openF (flip (flip s p j) p' j') = ([], 30) ∨ flip (flip s p j) p' j' = s := by
  obtain ⟨q, hq, rfl⟩ := pos_onto h1 h2
  obtain ⟨q', hq', rfl⟩ := pos_onto h1' h2'
  apply Classical.byContradiction
  intro h
  have h0 : openF (flip (flip s (pos q) j) (pos q') j') ≠ ([], 30) := fun e => h (.inl e)
  have e := syn_of_open (by rw [length_flip, length_flip, hs]) h0
  rw [syn_flip _ (by rw [length_flip, hs]) hq', syn_flip s hs hq, hv, BitVec.xor_assoc] at e
  have e2 := eq_of_xor e
  have e3 : raw (BitVec.ofNat 32 0) (unit 510 q (UInt8.ofNat (2 ^ j))) = raw (BitVec.ofNat 32 0) (unit 510 q' (UInt8.ofNat (2 ^ j'))) := by
    have := congrArg (raw (BitVec.ofNat 32 0) (unit 510 q (UInt8.ofNat (2 ^ j))) ^^^ ·) e2
    simp only [xself] at this
    rw [this]; simp
  obtain ⟨rfl, rfl⟩ := two_bits (Nat.le_refl _) hq hq' hj hj' e3
  exact h (.inr (flip_back _ _ _))
theorem rot_three (s : List UInt8) (hs : s.length = 512) (hv : syn s = raw (BitVec.ofNat 32 0) [255, 255, 255, 255]) {p p' p'' j j' j'' : Nat} (h1 : 1 ≤ p) (h2 : p ≤ 510) (hj : j < 8) (h1' : 1 ≤ p') (h2' : p' ≤ 510) (hj' : j' < 8) (h1'' : 1 ≤ p'') (h2'' : p'' ≤ 510) (hj'' : j'' < 8) : openF (flip (flip (flip s p j) p' j') p'' j'') = ([], 30) := by
  obtain ⟨q, hq, rfl⟩ := pos_onto h1 h2
  obtain ⟨q', hq', rfl⟩ := pos_onto h1' h2'
  obtain ⟨q'', hq'', rfl⟩ := pos_onto h1'' h2''
  apply Classical.byContradiction
  intro h
  have e := syn_of_open (by rw [length_flip, length_flip, length_flip, hs]) h
  rw [syn_flip _ (by rw [length_flip, length_flip, hs]) hq'', syn_flip _ (by rw [length_flip, hs]) hq', syn_flip s hs hq, hv, BitVec.xor_assoc, BitVec.xor_assoc] at e
  have e2 := congrArg par (eq_of_xor e)
  rw [par_xor, par_xor, par_bit hq hj, par_bit hq' hj', par_bit hq'' hj'', par_nought] at e2
  cases e2
/-- A byte changed by xor. -/
def step (s : List UInt8) (p : Nat) (x : UInt8) : List UInt8 := s.set p (s.getD p 0 ^^^ x)
theorem length_step (s : List UInt8) (p : Nat) (x : UInt8) : (step s p x).length = s.length := by simp [step]
theorem step_zero (s : List UInt8) (p : Nat) : step s p 0 = s := by
  unfold step
  by_cases hp : p < s.length
  · rw [UInt8.xor_zero, List.getD_eq_getElem?_getD, List.getElem?_eq_getElem hp]
    simp
  · rw [List.set_eq_of_length_le (by omega)]
theorem raw_four (a b c d : UInt8) : raw (BitVec.ofNat 32 0) [a, b, c, d] = mk 32 (ex a) ^^^ mk 24 (ex b) ^^^ mk 16 (ex c) ^^^ mk 8 (ex d) := by
  show upd (upd (upd (upd (BitVec.ofNat 32 0) a) b) c) d = _
  unfold upd
  simp only [mk_xor, ← mk_add, BitVec.zero_xor]
theorem four_zero {a b c d : UInt8} (h : raw (BitVec.ofNat 32 0) [a, b, c, d] = BitVec.ofNat 32 0) : a = 0 ∧ b = 0 ∧ c = 0 ∧ d = 0 := by
  have ha := a.toNat_lt
  have hb := b.toNat_lt
  have hc := c.toNat_lt
  have hd := d.toNat_lt
  obtain ⟨r, hr⟩ : ∃ r : BitVec 32, r = BitVec.ofNat 32 (a.toNat + 256 * b.toNat + 65536 * c.toNat + 16777216 * d.toNat) := ⟨_, rfl⟩
  have hn : r.toNat = a.toNat + 256 * b.toNat + 65536 * c.toNat + 16777216 * d.toNat := by rw [hr, BitVec.toNat_ofNat, Nat.mod_eq_of_lt (by omega)]
  have e : le4 r = [a, b, c, d] := by
    unfold le4
    rw [hn]
    have e0 : (a.toNat + 256 * b.toNat + 65536 * c.toNat + 16777216 * d.toNat) % 256 = a.toNat := by omega
    have e1 : (a.toNat + 256 * b.toNat + 65536 * c.toNat + 16777216 * d.toNat) / 256 % 256 = b.toNat := by omega
    have e2 : (a.toNat + 256 * b.toNat + 65536 * c.toNat + 16777216 * d.toNat) / 65536 % 256 = c.toNat := by omega
    have e3 : (a.toNat + 256 * b.toNat + 65536 * c.toNat + 16777216 * d.toNat) / 16777216 % 256 = d.toNat := by omega
    rw [e0, e1, e2, e3]
    simp
  have h1 := raw_dif (le4 r) (List.replicate 4 0) (BitVec.ofNat 32 0) r rfl
  have hz : dif (le4 r) (List.replicate 4 0) = le4 r := by
    rw [e]; simp [dif, List.replicate]
  rw [hz, BitVec.zero_xor, raw_le4, e, h, BitVec.zero_xor] at h1
  have h2 := raw_eq_zero_of_zeros h1
  rw [h2] at hn
  have h3 : a.toNat + 256 * b.toNat + 65536 * c.toNat + 16777216 * d.toNat = 0 := hn.symm
  refine ⟨UInt8.toNat_inj.1 ?_, UInt8.toNat_inj.1 ?_, UInt8.toNat_inj.1 ?_, UInt8.toNat_inj.1 ?_⟩
  · show a.toNat = 0; omega
  · show b.toNat = 0; omega
  · show c.toNat = 0; omega
  · show d.toNat = 0; omega
theorem syn_step (s : List UInt8) (hs : s.length = 512) {q : Nat} (hq : q < 510) (x : UInt8) : syn (step s (pos q) x) = syn s ^^^ mk (8 * (510 - q)) (ex x) := by
  rw [← raw_unit x hq]; exact syn_set s hs hq x
/-- Four neighbouring bytes of 7 to 510, changed in any way, are told. -/
theorem burst (s : List UInt8) (hs : s.length = 512) (hv : syn s = raw (BitVec.ofNat 32 0) [255, 255, 255, 255]) (at_ : Nat) (ha : at_ ≤ 500) (a b c d : UInt8) :
    step (step (step (step s (7 + at_) a) (7 + at_ + 1) b) (7 + at_ + 2) c) (7 + at_ + 3) d = s ∨ openF (step (step (step (step s (7 + at_) a) (7 + at_ + 1) b) (7 + at_ + 2) c) (7 + at_ + 3) d) = ([], 30) := by
  have p : ∀ i, i < 4 → pos (2 + at_ + i) = 7 + at_ + i := by
    intro i hi
    unfold pos
    rw [if_neg (by omega), if_pos (by omega)]; omega
  have p0 := p 0 (by omega)
  have p1 := p 1 (by omega)
  have p2 := p 2 (by omega)
  have p3 := p 3 (by omega)
  rw [Nat.add_zero, Nat.add_zero] at p0
  apply Classical.byContradiction
  intro h
  have h0 : openF (step (step (step (step s (7 + at_) a) (7 + at_ + 1) b) (7 + at_ + 2) c) (7 + at_ + 3) d) ≠ ([], 30) := fun e => h (.inr e)
  have e := syn_of_open (by simp only [length_step]; exact hs) h0
  rw [← p3, ← p2, ← p1, ← p0] at e
  rw [syn_step _ (by simp only [length_step]; exact hs) (by omega), syn_step _ (by simp only [length_step]; exact hs) (by omega), syn_step _ (by simp only [length_step]; exact hs) (by omega), syn_step _ hs (by omega), hv] at e
  simp only [BitVec.xor_assoc] at e
  have e2 := eq_of_xor e
  have k0 : 8 * (510 - (2 + at_)) = 32 + 8 * (504 - at_) := by omega
  have k1 : 8 * (510 - (2 + at_ + 1)) = 24 + 8 * (504 - at_) := by omega
  have k2 : 8 * (510 - (2 + at_ + 2)) = 16 + 8 * (504 - at_) := by omega
  have k3 : 8 * (510 - (2 + at_ + 3)) = 8 + 8 * (504 - at_) := by omega
  rw [k0, k1, k2, k3, mk_add, mk_add, mk_add, mk_add, ← mk_xor, ← mk_xor, ← mk_xor] at e2
  have e3 := mk_eq_zero e2
  have e4 := raw_four a b c d
  simp only [BitVec.xor_assoc] at e4
  rw [e3] at e4
  obtain ⟨rfl, rfl, rfl, rfl⟩ := four_zero e4
  exact h (.inl (by simp only [step_zero]))
end Go.Proofs
