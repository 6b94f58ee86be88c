/- Frame: signed, the frames of the histories. -/
import Derived.Test.YthoikljmokkchaaDoorFrMid
import Derived.Test.YthoikljmokkchaaDoorFrU
import Derived.Test.YthoikljmokkchaaDoorOpenF
import Derived.Deep.DrawnRows
namespace Go.Proofs.YthoikljmokkchaaDoor
open Go.RowKit
attribute [local go_sem ↓] Go.wp_at_zero Go.wp_at_succ
end Go.Proofs.YthoikljmokkchaaDoor
