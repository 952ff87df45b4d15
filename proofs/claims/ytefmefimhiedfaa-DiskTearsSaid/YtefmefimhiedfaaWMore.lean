-- PRINTED BY print.sh 35421559b90ae4d0a3588c463048766b98c2df88dd9212a6774a882060cdf62d: not written by this session
-- PRINTED WORDS (module Derived/Print/More.lean): go-gate-2's additions: an AI agent of Go's test side, Tue Nov 17 2026; no person has read it. Lean checks it.
import Derived.Test.YtefmefimhiedfaaWWords
import Derived.Test.YtefmefimhiedfaaWLast
import Derived.Test.YtefmefimhiedfaaWQPut
import Derived.Test.YtefmefimhiedfaaWApart
import Derived.Test.YtefmefimhiedfaaWZeros
import Derived.Test.YtefmefimhiedfaaWFoot
import Derived.Test.YtefmefimhiedfaaWKept
import Derived.Test.YtefmefimhiedfaaWNEv
namespace Go.Proofs.YtefmefimhiedfaaW.PrintMore
open Go.RowKit Go.Proofs.YtefmefimhiedfaaW.PrintWords
namespace Kd
open Go.Proofs.YtefmefimhiedfaaW.PrintWords.Kd
end Kd

namespace Kd
open Go.Proofs.YtefmefimhiedfaaW.PrintWords.Kd
section
end
end Kd
end Go.Proofs.YtefmefimhiedfaaW.PrintMore
namespace Go.Proofs.YtefmefimhiedfaaW.PrintWords
open Go.RowKit
section
end
namespace Kd
section
end
section
end
section
end
end Kd
end Go.Proofs.YtefmefimhiedfaaW.PrintWords
namespace Go.Proofs.YtefmefimhiedfaaW.PrintWords
open Go.RowKit
namespace Kd
section
end
end Kd
end Go.Proofs.YtefmefimhiedfaaW.PrintWords
