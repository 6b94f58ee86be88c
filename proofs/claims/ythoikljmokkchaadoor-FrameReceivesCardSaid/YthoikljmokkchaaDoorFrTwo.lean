/- Frame: the region of an emitted frame. -/
import Derived.Test.YthoikljmokkchaaDoorTwoAll
import Derived.Test.YthoikljmokkchaaDoorFrWrl
namespace Go.Proofs.YthoikljmokkchaaDoor
open Go.RowKit
section
variable {c m x0 x1 f s sf ss tC tM t0 t1 tF tS : Nat} {vl rest : List Value} {F : Fr} {S : Sd} {l : List Oper} {n : Nat}
end
end Go.Proofs.YthoikljmokkchaaDoor
