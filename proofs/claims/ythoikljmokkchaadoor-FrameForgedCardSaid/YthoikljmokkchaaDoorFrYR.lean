/- Frame: Decode of the reference. -/
import Derived.Test.YthoikljmokkchaaDoorFrY
import Derived.Test.YthoikljmokkchaaDoorWireRef
namespace Go.Proofs.YthoikljmokkchaaDoor
open Go.RowKit
attribute [local go_sem ↓] Go.wp_at_zero Go.wp_at_succ
end Go.Proofs.YthoikljmokkchaaDoor
