/- Nothing: utf8.ValidString is not called at this seat. -/
import Derived.Test.YtbghbfgbpdppeaaGreatDoorProg
namespace Go.Proofs.YtbghbfgbpdppeaaGreatDoor
end Go.Proofs.YtbghbfgbpdppeaaGreatDoor
