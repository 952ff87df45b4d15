-- PRINTED BY print.sh 35421559b90ae4d0a3588c463048766b98c2df88dd9212a6774a882060cdf62d: not written by this session
-- PRINTED WORDS (module Derived/Print/More.lean): go-gate-2's additions: an AI agent of Go's test side, Tue Nov 17 2026; no person has read it. Lean checks it.
import Derived.Test.YtgelippmcflppaaWWords
import Derived.Test.YtgelippmcflppaaWLast
import Derived.Test.YtgelippmcflppaaWQPut
import Derived.Test.YtgelippmcflppaaWApart
import Derived.Test.YtgelippmcflppaaWZeros
import Derived.Test.YtgelippmcflppaaWFoot
import Derived.Test.YtgelippmcflppaaWKept
import Derived.Test.YtgelippmcflppaaWNEv
namespace Go.Proofs.YtgelippmcflppaaW.PrintMore
open Go.RowKit Go.Proofs.YtgelippmcflppaaW.PrintWords
namespace Kd
open Go.Proofs.YtgelippmcflppaaW.PrintWords.Kd
end Kd

namespace Kd
open Go.Proofs.YtgelippmcflppaaW.PrintWords.Kd
section
end
end Kd
end Go.Proofs.YtgelippmcflppaaW.PrintMore
namespace Go.Proofs.YtgelippmcflppaaW.PrintWords
open Go.RowKit
section
end
namespace Kd
section
variable {α : Type} {d : Kd α} {e base : Nat} {ok : Nat → Prop} {W w1 : World} {v : Value} {xs : List α}
end
section
variable {α : Type} {d : Kd α} {e base g n cap : Nat} {ok oki okp : Nat → Prop} {W : World} {xs : List α} {i : Int} {c : List Value}
end
section
end
end Kd
end Go.Proofs.YtgelippmcflppaaW.PrintWords
namespace Go.Proofs.YtgelippmcflppaaW.PrintWords
open Go.RowKit
namespace Kd
/-- A row that is only read, told by its value: its form, its length, what it leads to (in ok). e and base say nothing; they make it as the others are. -/
def V {α : Type} (d : Kd α) (_e : Nat) (W : World) (_base : Nat) (ok : Nat → Prop) (v : Value) (xs : List α) : Prop := ∃ A c, v = .slice A xs.length c ∧ xs.length ≤ c ∧ F d W ok A xs.length xs
section
end
end Kd
end Go.Proofs.YtgelippmcflppaaW.PrintWords
