
/- Widths and the document's shifts: what each function returns, for every number of 64 bits. -/
import Derived.Test.YtbghbfgbpdppeaaDoorIntsB
namespace Go.Proofs.YtbghbfgbpdppeaaDoor
open Go.ChangeShapes Go.WideShapes Go.ChangeAt Go.RowKit

end Go.Proofs.YtbghbfgbpdppeaaDoor
