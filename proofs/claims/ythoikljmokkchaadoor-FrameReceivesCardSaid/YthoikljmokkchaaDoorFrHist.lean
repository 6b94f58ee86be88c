/- Frames: FrPE, FrPF, FrPG: walks and plain facts. -/
import Derived.Test.YthoikljmokkchaaDoorFrPlain
import Derived.Test.YthoikljmokkchaaDoorFrZ
import Derived.Test.YthoikljmokkchaaDoorFrRcv
namespace Go.Proofs.YthoikljmokkchaaDoor
open Go.RowKit
structure WM where
  s : Sd
  r : Rv
  fs : List Fr
  rp : List Rp
  gt : List (List Nat)
end Go.Proofs.YthoikljmokkchaaDoor
namespace Go.Proofs.YthoikljmokkchaaDoor
open Go.RowKit
end Go.Proofs.YthoikljmokkchaaDoor
namespace Go.Proofs.YthoikljmokkchaaDoor
open Go.RowKit
end Go.Proofs.YthoikljmokkchaaDoor
