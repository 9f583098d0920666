
/- The two tables of unicode/utf8 stand: what the walks ask of a world, and that later worlds keep it. -/
import Derived.Test.YtmpnblibbcocpaaDoorShelfU
import Derived.Test.YtmpnblibbcocpaaDoorFrame
namespace Go.Proofs.YtmpnblibbcocpaaDoor
open Go.ChangeShapes Go.WideShapes Go.ChangeAt Go.RowKit Go.Shelf

def TabsU (W : World) : Prop := Lib.Utf8Tabs 0 1 W
theorem TabsU.below {W W' : World} (h : TabsU W) (hb : Below W.heap.size W W') : TabsU W' := Utf8Tabs_below h hb
theorem TabsU.to {B : Nat} {W W' : World} (h : TabsU W) (hb : Below B W W') (hB : W.heap.size ≤ B) : TabsU W' := h.below (hb.mono hB)

end Go.Proofs.YtmpnblibbcocpaaDoor
