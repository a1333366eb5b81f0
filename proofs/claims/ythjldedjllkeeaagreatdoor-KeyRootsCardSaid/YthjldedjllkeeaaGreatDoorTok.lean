/- What the walks read of the world's tables. -/
import Derived.Test.YthjldedjllkeeaaGreatDoorWMap
namespace Go.Proofs.YthjldedjllkeeaaGreatDoor
open Go.RowKit
structure TOk (w : World) : Prop where
  tab : TabOk w
  tz : w.cell? ⟨7, 15, none⟩ = some (.int .u8 4)
theorem TOk.ext {w w' : World} (h : TOk w) (k : Ext w w') : TOk w' := ⟨h.tab.all w' k, k.cell h.tz⟩
end Go.Proofs.YthjldedjllkeeaaGreatDoor
