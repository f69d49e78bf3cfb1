/- The example calls of package clock's laws: 'awake' returns true. -/
import Derived.Test.YtbdddgaakekbhaaBase
namespace Go.Proofs.Ytbdddgaakekbhaa
open Go.ChangeShapes Go.WideShapes Go.ChangeAt Go.RowKit

set_option maxHeartbeats 1000000 in
theorem awake_any (w : World) : Calls Try.prog 10 #[] w fun e w' => e = .returned (.bool true) ∧ Below w.heap.size w w' := by
  go_enter Try.func10, Try.ntmps10
  go_wp2
  go_ret
  exact ⟨rfl, by go_grown⟩
end Go.Proofs.Ytbdddgaakekbhaa
