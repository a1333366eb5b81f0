/- hash.Sum, Of: where the fields' walks lie. -/
import Derived.Test.YthjldedjllkeeaaGreatDoorWRow
