/- Frame: a frame that moved the ladder does not move it again. -/
import Derived.Test.YthoikljmokkchaaDoorFrRcv
namespace Go.Proofs.YthoikljmokkchaaDoor
open Go.RowKit
end Go.Proofs.YthoikljmokkchaaDoor
