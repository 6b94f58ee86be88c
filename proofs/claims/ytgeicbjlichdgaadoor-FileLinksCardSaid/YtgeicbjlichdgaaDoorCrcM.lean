/- The walk of the law CrcSum. -/
import Derived.Test.YtgeicbjlichdgaaDoorCrcL
namespace Go.Proofs.YtgeicbjlichdgaaDoor.Cr
open Go.RowKit
attribute [local go_sem ↓] Go.wp_at_zero Go.wp_at_succ
end Go.Proofs.YtgeicbjlichdgaaDoor.Cr
