/- The walk of the law Names. -/
import Derived.Test.YtdpapkcibpcmjaaRows1
namespace Go.Proofs.Ytdpapkcibpcmjaa
open Go.RowKit
set_option maxRecDepth 100000
set_option maxHeartbeats 1000000 in
theorem walk_names (w : World) :
    Calls Try.prog 3 #[] w fun e w' => e = .returned (.bool true) ∧ Below w.heap.size w w' := by
  go_enter Try.func3, Try.ntmps3
  go_wp2
  go_rounds 21
  go_rounds 11
  go_rounds 19
  go_rounds 15
  go_ret
  exact ⟨rfl, by go_grown⟩
end Go.Proofs.Ytdpapkcibpcmjaa
