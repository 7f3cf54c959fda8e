/- Nothing is laid here. -/
import Derived.Ground.SlsfProg
import Derived.Ground.NamesProg
import Derived.Shelf.SlSortCmp.WholeK
import Derived.Test.YthdilellcaebfaaGreatDoorProg
