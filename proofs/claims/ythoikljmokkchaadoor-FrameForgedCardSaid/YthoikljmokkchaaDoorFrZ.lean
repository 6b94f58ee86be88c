/- Frame: signed, the frames of the histories. -/
import Derived.Test.YthoikljmokkchaaDoorFrMid
import Derived.Test.YthoikljmokkchaaDoorFrU
import Derived.Test.YthoikljmokkchaaDoorOpenF
import Derived.Deep.DrawnRows
namespace Go.Proofs.YthoikljmokkchaaDoor
open Go.RowKit
attribute [local go_sem ↓] Go.wp_at_zero Go.wp_at_succ
theorem around_K (n m : Int) (w : World) (h0 : -9223372036854775808 ≤ n) (h1 : n ≤ 9223372036854775807) (h2 : 1 ≤ m) (h3 : m ≤ 1000000000000000) : Calls Tryd.prog 22 #[.int .i64 n, .int .i64 m] w fun e w' => e = .returned (.int .i64 (around n m)) ∧ Keeps (fun _ => False) w w' :=
  (Around_any n m w h0 h1 h2 h3).mono (fun e w' h => ⟨h.1, by rw [← h.2]; exact Keeps.refl _ _⟩)
end Go.Proofs.YthoikljmokkchaaDoor
