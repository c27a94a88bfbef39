import Derived.Shelf.SlicesE.Compact
import Derived.Test.YtlgoaohklggcdaaGreatDoorProg
/- The seat lacks what is laid here elsewhere. -/
