/- The walk of the reference's Join. -/
import Derived.Test.YtifanmggfoicfaaDoorWJoin
import Derived.Maps.AppendAt
import Derived.Deep.DeepMust
import Derived.Test.YtifanmggfoicfaaDoorBytes
namespace Go.Proofs.YtifanmggfoicfaaDoor
open Go.RowKit
abbrev bC (l : List UInt8) : List Value := Lib.byteCells l
end Go.Proofs.YtifanmggfoicfaaDoor
