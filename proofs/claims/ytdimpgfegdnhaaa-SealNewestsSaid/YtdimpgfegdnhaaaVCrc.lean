/- The CRC32C register in plain Lean: linear, four bits at a time by a table, the parity of all bits, the order of its polynomial. No condition; nothing of a program. -/
namespace Go
end Go
/-- One bit of the register. -/
def Go.Vel.m1 (r : BitVec 32) : BitVec 32 := (r >>> 1) ^^^ (if r.getLsbD 0 = true then BitVec.ofNat 32 2197175160 else (BitVec.ofNat 32 0))
namespace Go.Vel
theorem xlc (a b c : BitVec 32) : a ^^^ (b ^^^ c) = b ^^^ (a ^^^ c) := by
  rw [← BitVec.xor_assoc, BitVec.xor_comm a b, BitVec.xor_assoc]
theorem xself (a b : BitVec 32) : a ^^^ (a ^^^ b) = b := by rw [← BitVec.xor_assoc]; simp
/-- So many bits. -/
def mk : Nat → BitVec 32 → BitVec 32
  | 0, r => r
  | k + 1, r => mk k (m1 r)

theorem m1_xor (a b : BitVec 32) : m1 (a ^^^ b) = m1 a ^^^ m1 b := by
  unfold m1
  rw [BitVec.ushiftRight_xor_distrib, BitVec.getLsbD_xor]
  cases a.getLsbD 0 <;> cases b.getLsbD 0 <;> simp [BitVec.xor_assoc]
  · rw [BitVec.xor_comm]
  · rw [BitVec.xor_comm (b >>> 1), xself]

theorem m1_zero : m1 (BitVec.ofNat 32 0) = (BitVec.ofNat 32 0) := by decide
theorem mk_zero (k : Nat) : mk k (BitVec.ofNat 32 0) = (BitVec.ofNat 32 0) := by
  induction k with
  | zero => rfl
  | succ k ih => simp [mk, m1_zero, ih]
theorem mk_xor (k : Nat) : ∀ a b : BitVec 32, mk k (a ^^^ b) = mk k a ^^^ mk k b := by
  induction k with
  | zero => intros; rfl
  | succ k ih => intro a b; simp [mk, m1_xor, ih]
theorem mk_add (j : Nat) : ∀ (k : Nat) (r : BitVec 32), mk (k + j) r = mk j (mk k r) := by
  intro k
  induction k with
  | zero => intro r; simp [mk]
  | succ k ih => intro r; rw [Nat.add_right_comm]; simp [mk, ih]
theorem mk_succ' (k : Nat) (r : BitVec 32) : mk (k + 1) r = m1 (mk k r) := mk_add 1 k r

/-- The register's top bit tells the low bit that went out. -/
theorem m1_inj {a b : BitVec 32} (h : m1 a = m1 b) : a = b := by
  have h31 : (m1 a).getLsbD 31 = (m1 b).getLsbD 31 := by rw [h]
  have h0 : a.getLsbD 0 = b.getLsbD 0 := by
    unfold m1 at h31
    simp only [BitVec.getLsbD_xor, BitVec.getLsbD_ushiftRight] at h31
    rw [BitVec.getLsbD_of_ge a (1 + 31) (by decide), BitVec.getLsbD_of_ge b (1 + 31) (by decide)] at h31
    have t : (BitVec.ofNat 32 2197175160).getLsbD 31 = true := by decide
    have f : (BitVec.ofNat 32 0).getLsbD 31 = false := by decide
    cases ha : a.getLsbD 0 <;> cases hb : b.getLsbD 0 <;> rw [ha, hb] at h31 <;> first | rfl | (rw [if_neg (by decide), if_pos rfl, t, f] at h31; cases h31) | (rw [if_pos rfl, if_neg (by decide), t, f] at h31; cases h31)
  unfold m1 at h
  rw [h0] at h
  have h' := congrArg (· ^^^ (if b.getLsbD 0 = true then BitVec.ofNat 32 2197175160 else (BitVec.ofNat 32 0))) h
  simp only [BitVec.xor_assoc, BitVec.xor_self, BitVec.xor_zero] at h'
  apply BitVec.eq_of_getLsbD_eq
  intro i hi
  cases i with
  | zero => exact h0
  | succ i =>
    have := congrArg (·.getLsbD i) h'
    simpa [BitVec.getLsbD_ushiftRight, Nat.add_comm] using this
theorem mk_inj (k : Nat) : ∀ {a b : BitVec 32}, mk k a = mk k b → a = b := by
  induction k with
  | zero => intro a b h; exact h
  | succ k ih => intro a b h; exact m1_inj (ih h)
theorem mk_eq_zero {k : Nat} {a : BitVec 32} (h : mk k a = (BitVec.ofNat 32 0)) : a = (BitVec.ofNat 32 0) := mk_inj k (h.trans (mk_zero k).symm)

/-- A byte as a register. -/
def ex (b : UInt8) : BitVec 32 := BitVec.ofNat 32 b.toNat
theorem ex_xor (a b : UInt8) : ex (a ^^^ b) = ex a ^^^ ex b := by
  unfold ex
  apply BitVec.eq_of_toNat_eq
  have ha := a.toNat_lt
  have hb := b.toNat_lt
  have hab := (a ^^^ b).toNat_lt
  simp only [BitVec.toNat_xor, BitVec.toNat_ofNat]
  rw [Nat.mod_eq_of_lt (by omega), Nat.mod_eq_of_lt (by omega), Nat.mod_eq_of_lt (by omega)]
  simp
theorem ex_inj {a b : UInt8} (h : ex a = ex b) : a = b := by
  unfold ex at h
  have h' := congrArg BitVec.toNat h
  have ha := a.toNat_lt
  have hb := b.toNat_lt
  simp only [BitVec.toNat_ofNat] at h'
  rw [Nat.mod_eq_of_lt (by omega), Nat.mod_eq_of_lt (by omega)] at h'
  exact UInt8.toNat_inj.1 h'

/-- A byte joins the register. -/
def upd (r : BitVec 32) (b : UInt8) : BitVec 32 := mk 8 (r ^^^ ex b)
def raw (r : BitVec 32) (l : List UInt8) : BitVec 32 := l.foldl upd r
/-- CRC32C. -/
def crc (l : List UInt8) : BitVec 32 := ~~~ raw (BitVec.ofNat 32 4294967295) l

theorem raw_append (r : BitVec 32) (a b : List UInt8) : raw r (a ++ b) = raw (raw r a) b := List.foldl_append ..
theorem raw_cons (r : BitVec 32) (x : UInt8) (l : List UInt8) : raw r (x :: l) = raw (upd r x) l := rfl
theorem upd_xor (r s : BitVec 32) (a b : UInt8) : upd (r ^^^ s) (a ^^^ b) = upd r a ^^^ upd s b := by
  unfold upd
  rw [ex_xor, ← mk_xor]
  congr 1
  rw [BitVec.xor_assoc, BitVec.xor_assoc, xlc s]
/-- The differences of two rows of one length. -/
def dif (a b : List UInt8) : List UInt8 := List.zipWith (· ^^^ ·) a b
theorem raw_dif : ∀ (a b : List UInt8) (r s : BitVec 32), a.length = b.length → raw r a ^^^ raw s b = raw (r ^^^ s) (dif a b)
  | [], [], _, _, _ => rfl
  | x :: a, y :: b, r, s, h => by
    rw [raw_cons, raw_cons, raw_dif a b _ _ (by simpa using h)]
    show _ = raw (upd (r ^^^ s) (x ^^^ y)) (dif a b)
    rw [upd_xor]
  | [], _ :: _, _, _, h => by simp at h
  | _ :: _, [], _, _, h => by simp at h
theorem not_xor_not (a b : BitVec 32) : ~~~ a ^^^ ~~~ b = a ^^^ b := by
  apply BitVec.eq_of_getLsbD_eq; intro i hi; simp [hi]
theorem crc_dif (a b : List UInt8) (h : a.length = b.length) : crc a ^^^ crc b = raw (BitVec.ofNat 32 0) (dif a b) := by
  unfold crc
  rw [not_xor_not, raw_dif a b _ _ h]
  simp
theorem ex_zero : ex 0 = (BitVec.ofNat 32 0) := by decide
theorem raw_zeros (n : Nat) : ∀ r, raw r (List.replicate n 0) = mk (8 * n) r := by
  induction n with
  | zero => intro r; rfl
  | succ n ih =>
    intro r
    rw [List.replicate_succ, raw_cons, ih]
    unfold upd
    rw [ex_zero, BitVec.xor_zero, ← mk_add]
    congr 1
    omega
theorem raw_eq_zero_of_zeros {n : Nat} {r : BitVec 32} (h : raw r (List.replicate n 0) = (BitVec.ofNat 32 0)) : r = (BitVec.ofNat 32 0) := by
  rw [raw_zeros] at h; exact mk_eq_zero h
end Go.Vel

namespace Go.Vel
/-! ### four bits at once -/
theorem m1_even {r : BitVec 32} (h : r.getLsbD 0 = false) : m1 r = r >>> 1 := by
  unfold m1; rw [h, if_neg (by decide)]; simp
def tab16 : List Nat := [0, 274646895, 549293790, 820201905, 1098587580, 1361435347, 1640403810, 1905808397, 2197175160, 2460548119, 2722870694, 2987750089, 3280807620, 3553878443, 3811616794, 4084100981]
def nib (r : BitVec 32) : BitVec 32 := (r >>> 4) ^^^ BitVec.ofNat 32 (tab16.getD (r.toNat % 16) 0)
theorem mk4_high (r : BitVec 32) : mk 4 ((r >>> 4) <<< 4) = r >>> 4 := by
  have h : ∀ k, k < 4 → (((r >>> 4) <<< 4) >>> k).getLsbD 0 = false := by
    intro k hk; simp; omega
  have e : ∀ k, k < 4 → m1 (((r >>> 4) <<< 4) >>> k) = ((r >>> 4) <<< 4) >>> (k + 1) := by
    intro k hk
    rw [m1_even (h k hk), ← BitVec.shiftRight_add]
  have e0 := e 0 (by omega)
  rw [BitVec.ushiftRight_zero] at e0
  show m1 (m1 (m1 (m1 _))) = _
  rw [e0, e 1 (by omega), e 2 (by omega), e 3 (by omega)]
  apply BitVec.eq_of_getLsbD_eq; intro i hi
  simp
  intro h; have := BitVec.lt_of_getLsbD h; omega
theorem split4 (r : BitVec 32) : r = ((r >>> 4) <<< 4) ^^^ BitVec.ofNat 32 (r.toNat % 16) := by
  apply BitVec.eq_of_getLsbD_eq; intro i hi
  have h16 : (16 : Nat) = 2 ^ 4 := rfl
  rw [BitVec.getLsbD_xor, BitVec.getLsbD_ofNat, h16, Nat.testBit_mod_two_pow]
  simp only [BitVec.getLsbD_shiftLeft, BitVec.getLsbD_ushiftRight]
  by_cases h4 : i < 4
  · simp [h4, hi, BitVec.getLsbD]
  · have : 4 + (i - 4) = i := by omega
    simp [h4, hi, this]
theorem mk4_low : ∀ k, k < 16 → mk 4 (BitVec.ofNat 32 k) = BitVec.ofNat 32 (tab16.getD k 0) := by decide
theorem mk4 (r : BitVec 32) : mk 4 r = nib r := by
  conv => lhs; rw [split4 r]
  rw [mk_xor, mk4_high, mk4_low _ (Nat.mod_lt _ (by decide))]
  rfl
theorem upd_nib (r : BitVec 32) (b : UInt8) : upd r b = nib (nib (r ^^^ ex b)) := by
  unfold upd; rw [show 8 = 4 + 4 from rfl, mk_add, mk4, mk4]

/-! ### parity -/
def xorN : Nat → (Nat → Bool) → Bool
  | 0, _ => false
  | n + 1, f => (xorN n f) ^^ f n
theorem xorN_xor (n : Nat) (f g : Nat → Bool) : xorN n (fun i => f i ^^ g i) = (xorN n f ^^ xorN n g) := by
  induction n with
  | zero => rfl
  | succ n ih => simp only [xorN, ih]; cases xorN n f <;> cases xorN n g <;> cases f n <;> cases g n <;> rfl
theorem xorN_shift (n : Nat) (f : Nat → Bool) : (xorN n (fun i => f (i + 1)) ^^ f 0) = xorN (n + 1) f := by
  induction n with
  | zero => simp [xorN]
  | succ n ih =>
    simp only [xorN] at ih ⊢
    rw [← ih]
    cases xorN n (fun i => f (i + 1)) <;> cases f 0 <;> cases f (n + 1) <;> rfl
def par (r : BitVec 32) : Bool := xorN 32 r.getLsbD
theorem par_xor (a b : BitVec 32) : par (a ^^^ b) = (par a ^^ par b) := by
  unfold par
  rw [← xorN_xor]
  congr 1
  funext i
  simp
theorem par_shift (r : BitVec 32) : (par (r >>> 1) ^^ r.getLsbD 0) = par r := by
  unfold par
  have h := xorN_shift 32 r.getLsbD
  have e : (fun i => r.getLsbD (i + 1)) = (r >>> 1).getLsbD := by funext i; simp [Nat.add_comm]
  rw [e] at h
  rw [h]
  show (xorN 32 r.getLsbD ^^ r.getLsbD 32) = _
  simp
theorem par_m1 (r : BitVec 32) : par (m1 r) = par r := by
  unfold m1
  rw [par_xor, ← par_shift r]
  cases r.getLsbD 0
  · rw [if_neg (by decide)]; congr 1
  · rw [if_pos rfl]; congr 1
theorem par_mk (k : Nat) : ∀ r, par (mk k r) = par r := by
  induction k with
  | zero => intro r; rfl
  | succ k ih => intro r; simp [mk, ih, par_m1]
theorem par_not (r : BitVec 32) : par (~~~ r) = par r := by
  have : ~~~ r = r ^^^ BitVec.ofNat 32 4294967295 := by
    apply BitVec.eq_of_getLsbD_eq; intro i hi
    rw [BitVec.getLsbD_xor, BitVec.getLsbD_not, BitVec.getLsbD_ofNat]
    have : Nat.testBit 4294967295 i = true := by
      rw [show 4294967295 = 2 ^ 32 - 1 from rfl, Nat.testBit_two_pow_sub_one]; simpa using hi
    simp [hi, this]
  rw [this, par_xor]
  have : par (BitVec.ofNat 32 4294967295) = false := by decide
  rw [this, Bool.xor_false]
/-- The parity of all bits of a row. -/
def parL (l : List UInt8) : Bool := l.foldl (fun b x => b ^^ par (ex x)) false
theorem parL_fold (l : List UInt8) : ∀ b, l.foldl (fun b x => b ^^ par (ex x)) b = (b ^^ parL l) := by
  induction l with
  | nil => intro b; simp [parL]
  | cons x l ih =>
    intro b
    unfold parL
    simp only [List.foldl_cons]
    rw [ih, ih]
    cases b <;> cases par (ex x) <;> cases parL l <;> rfl
theorem parL_append (a b : List UInt8) : parL (a ++ b) = (parL a ^^ parL b) := by
  show (a ++ b).foldl _ false = _
  rw [List.foldl_append, parL_fold]; rfl
theorem parL_cons (x : UInt8) (l : List UInt8) : parL (x :: l) = (par (ex x) ^^ parL l) := by
  show List.foldl _ _ l = _
  rw [parL_fold]; simp
theorem par_raw (l : List UInt8) : ∀ r, par (raw r l) = (par r ^^ parL l) := by
  induction l with
  | nil => intro r; simp [raw, parL]
  | cons x l ih =>
    intro r
    rw [raw_cons, ih, parL_cons]
    unfold upd
    rw [par_mk, par_xor, Bool.xor_assoc]
theorem par_crc (l : List UInt8) : par (crc l) = parL l := by
  unfold crc
  rw [par_not, par_raw]
  have : par (BitVec.ofNat 32 4294967295) = false := by decide
  rw [this, Bool.false_xor]

/-! ### the four bytes of the sum -/
def le4 (r : BitVec 32) : List UInt8 := [UInt8.ofNat (r.toNat % 256), UInt8.ofNat (r.toNat / 256 % 256), UInt8.ofNat (r.toNat / 65536 % 256), UInt8.ofNat (r.toNat / 16777216 % 256)]
theorem ex_ofNat {n : Nat} (h : n < 256) : ex (UInt8.ofNat n) = BitVec.ofNat 32 n := by
  unfold ex
  rw [UInt8.toNat_ofNat', Nat.mod_eq_of_lt (by omega)]
theorem split8 (r : BitVec 32) : r = ((r >>> 8) <<< 8) ^^^ BitVec.ofNat 32 (r.toNat % 256) := by
  apply BitVec.eq_of_getLsbD_eq; intro i hi
  have h16 : (256 : Nat) = 2 ^ 8 := rfl
  rw [BitVec.getLsbD_xor, BitVec.getLsbD_ofNat, h16, Nat.testBit_mod_two_pow]
  simp only [BitVec.getLsbD_shiftLeft, BitVec.getLsbD_ushiftRight]
  by_cases h4 : i < 8
  · simp [h4, hi, BitVec.getLsbD]
  · have : 8 + (i - 8) = i := by omega
    simp [h4, hi, this]
theorem mk8_high (r : BitVec 32) : mk 8 ((r >>> 8) <<< 8) = r >>> 8 := by
  have h : ∀ k, k < 8 → (((r >>> 8) <<< 8) >>> k).getLsbD 0 = false := by
    intro k hk; simp; omega
  have e : ∀ k, k < 8 → m1 (((r >>> 8) <<< 8) >>> k) = ((r >>> 8) <<< 8) >>> (k + 1) := by
    intro k hk
    rw [m1_even (h k hk), ← BitVec.shiftRight_add]
  have e0 := e 0 (by omega)
  rw [BitVec.ushiftRight_zero] at e0
  show m1 (m1 (m1 (m1 (m1 (m1 (m1 (m1 _))))))) = _
  rw [e0, e 1 (by omega), e 2 (by omega), e 3 (by omega), e 4 (by omega), e 5 (by omega), e 6 (by omega), e 7 (by omega)]
  apply BitVec.eq_of_getLsbD_eq; intro i hi
  simp
  intro h; have := BitVec.lt_of_getLsbD h; omega
/-- A byte that is the register's lowest shifts it out. -/
theorem upd_low (r : BitVec 32) : upd r (UInt8.ofNat (r.toNat % 256)) = r >>> 8 := by
  unfold upd
  rw [ex_ofNat (Nat.mod_lt _ (by decide))]
  conv => lhs; rw [split8 r]
  have e : ∀ a b : BitVec 32, a ^^^ b ^^^ b = a := fun a b => by rw [BitVec.xor_assoc, BitVec.xor_self, BitVec.xor_zero]
  have e2 : (r >>> 8 <<< 8 ^^^ BitVec.ofNat 32 (r.toNat % 256)).toNat % 256 = r.toNat % 256 := by rw [← split8 r]
  rw [e2, e, mk8_high]
theorem raw_le4 (r : BitVec 32) : raw r (le4 r) = BitVec.ofNat 32 0 := by
  have h1 : (r >>> 8).toNat = r.toNat / 256 := by simp [BitVec.toNat_ushiftRight, Nat.shiftRight_eq_div_pow]
  have h2 : (r >>> 8 >>> 8).toNat = r.toNat / 65536 := by simp [BitVec.toNat_ushiftRight, Nat.shiftRight_eq_div_pow]
  have h3 : (r >>> 8 >>> 8 >>> 8).toNat = r.toNat / 16777216 := by simp [BitVec.toNat_ushiftRight, Nat.shiftRight_eq_div_pow]
  have h4 : (r >>> 8 >>> 8 >>> 8 >>> 8).toNat = 0 := by
    have := r.isLt
    simp [BitVec.toNat_ushiftRight, Nat.shiftRight_eq_div_pow]; omega
  show upd (upd (upd (upd r _) _) _) _ = _
  rw [upd_low, ← h1, upd_low, ← h2, upd_low, ← h3, upd_low]
  exact BitVec.eq_of_toNat_eq h4
theorem parL_le4 (r : BitVec 32) : parL (le4 r) = par r := by
  have h := par_raw (le4 r) r
  rw [raw_le4] at h
  have : par (BitVec.ofNat 32 0) = false := by decide
  rw [this] at h
  revert h
  cases par r <;> cases parL (le4 r) <;> decide

/-! ### a row with one bit -/
/-- Rows of zeros but for one byte. -/
def unit (n i : Nat) (x : UInt8) : List UInt8 := (List.replicate n 0).set i x
theorem mk_bit (j : Nat) (h : j < 8) : mk j (BitVec.ofNat 32 (2 ^ j)) = BitVec.ofNat 32 1 := by
  have : ∀ j, j < 8 → mk j (BitVec.ofNat 32 (2 ^ j)) = BitVec.ofNat 32 1 := by decide
  exact this j h
theorem raw_zero_zeros (n : Nat) : raw (BitVec.ofNat 32 0) (List.replicate n 0) = BitVec.ofNat 32 0 := by
  rw [raw_zeros, mk_zero]
theorem unit_eq {n i : Nat} (x : UInt8) (h : i < n) : unit n i x = List.replicate i 0 ++ x :: List.replicate (n - i - 1) 0 := by
  unfold unit
  apply List.ext_getElem?
  intro k
  simp only [List.getElem?_set, List.getElem?_replicate, List.getElem?_append, List.length_replicate, List.getElem?_cons]
  by_cases hk : i = k
  · subst hk; simp [h]
  · by_cases hlt : k < i
    · simp [hk, hlt]; omega
    · have : ¬ (k - i = 0) := by omega
      simp [hk, hlt, this]
      by_cases hn : k < n
      · simp [hn]; omega
      · simp [hn]; omega
theorem raw_unit {n i : Nat} (x : UInt8) (h : i < n) : raw (BitVec.ofNat 32 0) (unit n i x) = mk (8 * (n - i)) (ex x) := by
  rw [unit_eq x h, raw_append, raw_zero_zeros, raw_cons]
  unfold upd
  rw [raw_zeros, ← mk_add, BitVec.zero_xor]
  congr 1
  omega
theorem raw_bit {n i j : Nat} (h : i < n) (hj : j < 8) : raw (BitVec.ofNat 32 0) (unit n i (UInt8.ofNat (2 ^ j))) = mk (8 * (n - i) - j) (BitVec.ofNat 32 1) := by
  rw [raw_unit _ h, ← mk_bit j hj, ← mk_add]
  have : 2 ^ j < 256 := Nat.lt_of_lt_of_le (Nat.pow_lt_pow_right (by decide) hj) (by decide)
  rw [ex_ofNat this]
  congr 1
  omega

/-- The register comes back to 1 after no fewer than 4080 bits. (By reckoning.) -/
def far : Nat → Nat → Bool
  | 0, _ => true
  | k + 1, r => let s := Nat.xor (r / 2) (if r % 2 = 1 then 2197175160 else 0); s != 1 && far k s
theorem far_spec : ∀ (k : Nat) (r : BitVec 32), far k r.toNat = true → ∀ d, 0 < d → d ≤ k → mk d r ≠ BitVec.ofNat 32 1 := by
  intro k
  induction k with
  | zero => intro r _ d h1 h2; omega
  | succ k ih =>
    intro r h d h1 h2
    have e : (m1 r).toNat = Nat.xor (r.toNat / 2) (if r.toNat % 2 = 1 then 2197175160 else 0) := by
      unfold m1
      rw [BitVec.toNat_xor, BitVec.toNat_ushiftRight, Nat.shiftRight_eq_div_pow]
      have : (r.getLsbD 0 = true) ↔ r.toNat % 2 = 1 := by simp [BitVec.getLsbD, Nat.testBit_zero]
      by_cases hc : r.toNat % 2 = 1
      · rw [if_pos (this.2 hc), if_pos hc]; rfl
      · rw [if_neg (fun hh => hc (this.1 hh)), if_neg hc]; rfl
    simp only [far, Bool.and_eq_true] at h
    rw [← e] at h
    obtain ⟨d', rfl⟩ : ∃ d', d = d' + 1 := ⟨d - 1, by omega⟩
    by_cases h0 : d' = 0
    · subst h0
      intro hh
      have : (m1 r).toNat = 1 := by
        have := congrArg BitVec.toNat hh
        simpa [mk] using this
      simp [this] at h
    · exact ih (m1 r) h.2 d' (by omega) (by omega)
set_option maxRecDepth 1000000 in
theorem far_4080 : far 4080 1 = true := by decide +kernel
theorem order_big (d : Nat) (h1 : 0 < d) (h2 : d ≤ 4080) : mk d (BitVec.ofNat 32 1) ≠ BitVec.ofNat 32 1 :=
  far_spec 4080 (BitVec.ofNat 32 1) (by have e : (BitVec.ofNat 32 1).toNat = 1 := by decide
                                        rw [e]; exact far_4080) d h1 h2
/-- Two bits turned are told. -/
theorem two_bits {n a b i j : Nat} (hn : n ≤ 510) (ha : a < n) (hb : b < n) (hi : i < 8) (hj : j < 8)
    (h : raw (BitVec.ofNat 32 0) (unit n a (UInt8.ofNat (2 ^ i))) = raw (BitVec.ofNat 32 0) (unit n b (UInt8.ofNat (2 ^ j)))) : a = b ∧ i = j := by
  rw [raw_bit ha hi, raw_bit hb hj] at h
  have key : ∀ p q : Nat, p ≤ 4080 → q ≤ 4080 → mk p (BitVec.ofNat 32 1) = mk q (BitVec.ofNat 32 1) → p ≤ q → p = q := by
    intro p q hp hq he hle
    by_cases hlt : p = q
    · exact hlt
    · exfalso
      obtain ⟨d, rfl⟩ : ∃ d, q = d + p := ⟨q - p, by omega⟩
      rw [mk_add] at he
      exact order_big d (by omega) (by omega) (mk_inj p he).symm
  have : 8 * (n - a) - i = 8 * (n - b) - j := by
    rcases Nat.le_total (8 * (n - a) - i) (8 * (n - b) - j) with hle | hle
    · exact key _ _ (by omega) (by omega) h hle
    · exact (key _ _ (by omega) (by omega) h.symm hle).symm
  omega
end Go.Vel
