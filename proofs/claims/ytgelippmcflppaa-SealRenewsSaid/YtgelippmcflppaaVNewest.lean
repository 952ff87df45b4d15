/- seal.Newest by the walk. -/
import Derived.Test.YtgelippmcflppaaVPair
import Derived.StillTailTactics
open Go Go.RowKit Go.Proofs.YtgelippmcflppaaW.PrintWords Go.Proofs.YtgelippmcflppaaW.PrintMore
namespace Go.Proofs
open Go.Vel
/-- Slot, number, data, error. -/
def newestF (l r : List UInt8) : Nat × Nat × List UInt8 × Nat :=
  if l.length = 512 ∧ r.length = 512 then
    if (readF l).1 = 0 ∧ (readF r).1 = 0 then (0, 0, [], 30) else if (readF l).1 < (readF r).1 then (1, (readF r).1, (readF r).2, 0) else (0, (readF l).1, (readF l).2, 0)
  else (0, 0, [], 2)
theorem results_tmp4 {P : Program} {fn : Func} {p q r t : Tmp} (h : fn.results = #[.tmp p, .tmp q, .tmp r, .tmp t]) (tmps : Array Value) (w : World) {a b c d : Value} (ha : tmps.getD p undef = a) (hb : tmps.getD q undef = b) (hc : tmps.getD r undef = c) (hd : tmps.getD t undef = d) :
    (results fn tmps).run P w = .ok (.tuple #[a, b, c, d]) w := by
  have ha' : tmps[p]?.getD undef = a := by simpa using ha
  have hb' : tmps[q]?.getD undef = b := by simpa using hb
  have hc' : tmps[r]?.getD undef = c := by simpa using hc
  have hd' : tmps[t]?.getD undef = d := by simpa using hd
  simp [results, h, ha', hb', hc', hd']
end Go.Proofs
