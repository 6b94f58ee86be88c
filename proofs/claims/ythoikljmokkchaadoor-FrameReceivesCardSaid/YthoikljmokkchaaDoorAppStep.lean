/- Append to a row of the call's own, as one step of a region that draws. -/
import Derived.Test.YthoikljmokkchaaDoorBase
import Derived.Deep.RegionHeldLaw
namespace Go.Proofs.YthoikljmokkchaaDoor
open Go.RowKit
end Go.Proofs.YthoikljmokkchaaDoor
