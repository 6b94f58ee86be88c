/- Frame: the law of decoding. -/
import Derived.Test.YthoikljmokkchaaDoorFrYR
import Derived.Test.YthoikljmokkchaaDoorFrSM
import Derived.Test.YthoikljmokkchaaDoorFrV
import Derived.Test.YthoikljmokkchaaDoorCrcAll
namespace Go.Proofs.YthoikljmokkchaaDoor
open Go.RowKit
attribute [local go_sem ↓] Go.wp_at_zero Go.wp_at_succ
end Go.Proofs.YthoikljmokkchaaDoor
