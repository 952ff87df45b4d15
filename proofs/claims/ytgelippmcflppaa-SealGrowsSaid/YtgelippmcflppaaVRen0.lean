/- seal.Renew in plain Lean; what it reads of the pair. -/
import Derived.Test.YtgelippmcflppaaVNewest
import Derived.Test.YtgelippmcflppaaVMake
open Go Go.RowKit Go.Proofs.YtgelippmcflppaaW.PrintWords Go.Proofs.YtgelippmcflppaaW.PrintMore
namespace Go.Proofs
open Go.Vel
/-- A number's eight bytes, the lowest first. -/
def le8 (no : Int) : List UInt8 := (List.range 8).map fun i => UInt8.ofNat ((no / 2 ^ (8 * i)) % 256).toNat
/-- Slot, sector, error. -/
def renewF (l r : List UInt8) (no : Int) (data : List UInt8) : Nat × List UInt8 × Nat :=
  if ¬ (l.length = 512 ∧ r.length = 512) then (0, [], 2)
  else if no < 1 then (0, [], 1)
  else if 496 < data.length then (0, [], 7)
  else if (newestF l r).2.2.2 = 0 ∧ no ≤ ((newestF l r).2.1 : Int) then (0, [], 31)
  else if (newestF l r).2.2.2 = 0 ∧ (newestF l r).1 = 0 then (1, (sealF r (le8 no ++ data)).1, (sealF r (le8 no ++ data)).2)
  else (0, (sealF l (le8 no ++ data)).1, (sealF l (le8 no ++ data)).2)
theorem results_tmp3 {P : Program} {fn : Func} {p q r : Tmp} (h : fn.results = #[.tmp p, .tmp q, .tmp r]) (tmps : Array Value) (w : World) {a b c : Value} (ha : tmps.getD p undef = a) (hb : tmps.getD q undef = b) (hc : tmps.getD r undef = c) :
    (results fn tmps).run P w = .ok (.tuple #[a, b, c]) w := by
  have ha' : tmps[p]?.getD undef = a := by simpa using ha
  have hb' : tmps[q]?.getD undef = b := by simpa using hb
  have hc' : tmps[r]?.getD undef = c := by simpa using hc
  simp [results, h, ha', hb', hc']
/-- What Renew reads of the pair. -/
structure PairOK (l r : List UInt8) (m n : Nat) (sl : Int) : Prop where
  len : l.length = 512 ∧ r.length = 512
  hm : m = (readF l).1
  hn : n = (readF r).1
  hsl : slotF m n = sl
theorem pair_told {l r : List UInt8} {m n : Nat} {sl : Int} (h : PairOK l r m n sl) (w : World) : RetPair l r w = fun e w' => ∃ v0 v1 : Value, e = .returned (.tuple #[.agg #[.int .i64 (m : Int), v0, .int .i64 (n : Int), v1], .int .i64 sl, .int .i64 0]) ∧ isV w' w v0 (readF l).2 ∧ isV w' w v1 (readF r).2 ∧ Below w.heap.size w w' := by
  funext e w'; unfold RetPair; rw [if_pos h.len, ← h.hm, ← h.hn, h.hsl]
theorem slot_three (m n : Nat) : slotF m n = -1 ∨ slotF m n = 0 ∨ slotF m n = 1 := by
  unfold slotF
  split
  · exact .inl rfl
  · split
    · exact .inr (.inr rfl)
    · exact .inr (.inl rfl)
theorem newest_none {l r : List UInt8} {m n : Nat} (h : PairOK l r m n (-1)) : newestF l r = (0, 0, [], 30) := by
  have hs := h.hsl
  unfold slotF at hs
  unfold newestF
  rw [if_pos h.len, ← h.hm, ← h.hn]
  split at hs
  · rename_i hz; rw [if_pos hz]
  · split at hs <;> cases hs
theorem newest_left {l r : List UInt8} {m n : Nat} (h : PairOK l r m n 0) : newestF l r = (0, m, (readF l).2, 0) := by
  have hs := h.hsl
  unfold slotF at hs
  unfold newestF
  rw [if_pos h.len, ← h.hm, ← h.hn]
  split at hs
  · cases hs
  · rename_i hz
    split at hs
    · cases hs
    · rename_i hlt; rw [if_neg hz, if_neg hlt]
theorem newest_right {l r : List UInt8} {m n : Nat} (h : PairOK l r m n 1) : newestF l r = (1, n, (readF r).2, 0) := by
  have hs := h.hsl
  unfold slotF at hs
  unfold newestF
  rw [if_pos h.len, ← h.hm, ← h.hn]
  split at hs
  · cases hs
  · rename_i hz
    split at hs
    · rename_i hlt; rw [if_neg hz, if_pos hlt]
    · cases hs
theorem renew_mid {l r : List UInt8} {no : Int} {d : List UInt8} (h : l.length = 512 ∧ r.length = 512) (h1 : ¬ no < 1) (h2 : ¬ 496 < d.length) : renewF l r no d = if (newestF l r).2.2.2 = 0 ∧ no ≤ ((newestF l r).2.1 : Int) then (0, [], 31)
  else if (newestF l r).2.2.2 = 0 ∧ (newestF l r).1 = 0 then (1, (sealF r (le8 no ++ d)).1, (sealF r (le8 no ++ d)).2)
  else (0, (sealF l (le8 no ++ d)).1, (sealF l (le8 no ++ d)).2) := by
  unfold renewF
  rw [if_neg (fun hh => hh h), if_neg h1, if_neg h2]
end Go.Proofs
