/- The walk of the reference's Join. -/
import Derived.Test.YtilengooiffikaaDoorWJoin
import Derived.Maps.AppendAt
import Derived.Deep.DeepMust
import Derived.Test.YtilengooiffikaaDoorBytes
namespace Go.Proofs.YtilengooiffikaaDoor
open Go.RowKit
abbrev bC (l : List UInt8) : List Value := Lib.byteCells l
end Go.Proofs.YtilengooiffikaaDoor
