-- PRINTED BY print.sh 35421559b90ae4d0a3588c463048766b98c2df88dd9212a6774a882060cdf62d: not written by this session
import Derived.Test.YtgelippmcflppaaWFoot
/-! ### 45. What a call keeps: all but the blocks of S (the rows that it was given to write) and what is new since -/
namespace Go.Proofs.YtgelippmcflppaaW.PrintWords
open Go.RowKit
section
end
namespace Kd
section
end
end Kd
end Go.Proofs.YtgelippmcflppaaW.PrintWords
