/- Frame: a region whose two results are known: a frame and a ladder. -/
import Derived.Test.YthoikljmokkchaaDoorTwoAll
import Derived.Test.YthoikljmokkchaaDoorFrMid
namespace Go.Proofs.YthoikljmokkchaaDoor
open Go.RowKit
section
variable {c m x0 x1 f s sf ss tC tM t0 t1 tF tS : Nat} {vl rest : List Value} {TF TS : TypeId} {zF zS X Y : Array Value} {l : List Oper} {n : Nat}
end
end Go.Proofs.YthoikljmokkchaaDoor
