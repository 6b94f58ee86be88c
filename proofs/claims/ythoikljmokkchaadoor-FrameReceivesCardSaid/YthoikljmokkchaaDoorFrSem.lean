/- Frame: regions that lay a call's results down as a frame and a sender. -/
import Derived.Test.YthoikljmokkchaaDoorTwoAll
import Derived.Test.YthoikljmokkchaaDoorFrMid
namespace Go.Proofs.YthoikljmokkchaaDoor
open Go.RowKit
end Go.Proofs.YthoikljmokkchaaDoor
