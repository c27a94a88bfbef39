import Derived.Shelf.SlicesE.Compact
import Derived.Test.YtmngghglcgmkeaaGreatDoorProg
/- The seat lacks what is laid here elsewhere. -/
