/- Sealed sectors in plain Lean: the form of a sector, sealing, opening, splicing, and how the form comes out byte by byte. -/
import Derived.Test.YtgelippmcflppaaVCrc
namespace Go.Vel
/-- What the checksum is taken over: bytes 1, 2 and 7 to 510 of a sealed sector. -/
def text (body : List UInt8) : List UInt8 := UInt8.ofNat (body.length % 256) :: UInt8.ofNat (body.length / 256) :: (body ++ List.replicate (504 - body.length) 0)
/-- The sector with that turn and body. -/
def form (t : UInt8) (body : List UInt8) : List UInt8 := t :: ((text body).take 2 ++ (le4 (crc (text body)) ++ ((text body).drop 2 ++ [t])))
def turnOf (a b : UInt8) : UInt8 := if (0 : UInt8) ≠ a ∧ (0 : UInt8) ≠ b then 0 else if (1 : UInt8) ≠ a ∧ (1 : UInt8) ≠ b then 1 else 2
def sealF (old body : List UInt8) : List UInt8 × Nat :=
  if old.length ≠ 512 then ([], 2) else if 504 < body.length then ([], 7) else (form (turnOf (old.getD 0 0) (old.getD 511 0)) body, 0)
def openF (s : List UInt8) : List UInt8 × Nat :=
  if s.length ≠ 512 then ([], 2) else
  if 2 < (s.getD 0 0).toNat ∨ 504 < (s.getD 1 0).toNat + 256 * (s.getD 2 0).toNat then ([], 30) else
  if s = form (s.getD 0 0) ((s.drop 7).take ((s.getD 1 0).toNat + 256 * (s.getD 2 0).toNat)) then ((s.drop 7).take ((s.getD 1 0).toNat + 256 * (s.getD 2 0).toNat), 0) else ([], 30)
theorem length_text {body : List UInt8} (h : body.length ≤ 504) : (text body).length = 506 := by simp [text]; omega
theorem length_le4 (r : BitVec 32) : (le4 r).length = 4 := rfl
theorem length_form {body : List UInt8} (t : UInt8) (h : body.length ≤ 504) : (form t body).length = 512 := by
  have := length_text h
  simp only [form, List.length_cons, List.length_append, List.length_take, List.length_drop, length_le4, List.length_nil]
  omega
/-- The list splice. -/
def splice' (L : List UInt8) (off : Nat) (cs : List UInt8) : List UInt8 := L.take off ++ (cs ++ L.drop (off + cs.length))
theorem zeros8 (m : Nat) (t : UInt8) : ((List.replicate (m + 8) (0 : UInt8)).set 0 t).set (m + 7) t = t :: 0 :: 0 :: 0 :: 0 :: 0 :: 0 :: (List.replicate m 0 ++ [t]) := by
  have e : List.replicate (m + 8) (0 : UInt8) = 0 :: 0 :: 0 :: 0 :: 0 :: 0 :: 0 :: (List.replicate m 0 ++ [0]) := by
    rw [show m + 8 = (m + 1) + 7 from rfl]
    simp only [List.replicate_succ, ← List.replicate_succ']
  rw [e]
  simp only [List.set_cons_zero, List.set_cons_succ]
  rw [List.set_append_right _ _ (by simp)]
  simp
/-- The sector with its sum still missing. -/
theorem lay_body (m : Nat) (t b1 b2 : UInt8) (body : List UInt8) (h : body.length ≤ m) :
    splice' ((((List.replicate (m + 8) 0).set 0 t).set (m + 7) t |>.set 1 b1).set 2 b2) 7 body = t :: b1 :: b2 :: 0 :: 0 :: 0 :: 0 :: (body ++ (List.replicate (m - body.length) 0 ++ [t])) := by
  rw [zeros8]
  simp only [splice', List.set_cons_zero, List.set_cons_succ, List.take_succ_cons, List.take_zero, List.cons_append, List.nil_append]
  have e3 : 7 + body.length = body.length + 7 := by omega
  rw [e3]
  simp only [List.drop_succ_cons, List.drop_append, List.drop_replicate]
  have e4 : body.length - (List.replicate m (0 : UInt8)).length = 0 := by simp; omega
  rw [e4]
  rfl
theorem lay_sum (t b1 b2 s0 s1 s2 s3 : UInt8) (r : List UInt8) :
    ((((t :: b1 :: b2 :: 0 :: 0 :: 0 :: 0 :: r : List UInt8).set 3 s0).set 4 s1).set 5 s2).set 6 s3 = t :: b1 :: b2 :: s0 :: s1 :: s2 :: s3 :: r := rfl
theorem form_eq (t : UInt8) (body : List UInt8) (s0 s1 s2 s3 : UInt8) (hs : le4 (crc (text body)) = [s0, s1, s2, s3]) :
    form t body = t :: UInt8.ofNat (body.length % 256) :: UInt8.ofNat (body.length / 256) :: s0 :: s1 :: s2 :: s3 :: (body ++ (List.replicate (504 - body.length) 0 ++ [t])) := by
  unfold form
  rw [hs]
  simp [text]
theorem lay_text (t b1 b2 : UInt8) (body : List UInt8) (m : Nat) (h : body.length ≤ m) :
    ((t :: b1 :: b2 :: 0 :: 0 :: 0 :: 0 :: (body ++ (List.replicate (m - body.length) 0 ++ [t])) : List UInt8).drop 1).take 2 ++ ((t :: b1 :: b2 :: 0 :: 0 :: 0 :: 0 :: (body ++ (List.replicate (m - body.length) 0 ++ [t]))).drop 7).take m
      = b1 :: b2 :: (body ++ List.replicate (m - body.length) 0) := by
  simp only [List.drop_succ_cons, List.drop_zero, List.take_succ_cons, List.take_zero, List.cons_append, List.nil_append]
  rw [← List.append_assoc, List.take_left' (by simp; omega)]
end Go.Vel
