/- (Step).Of. -/
import Derived.Test.YtnmfmjlpfhdgeaaLeaf
import Derived.Test.YtnmfmjlpfhdgeaaRest
namespace Go.Proofs.Ytnmfmjlpfhdgeaa
open Go.RowKit
set_option linter.unusedVariables false

theorem step_info : (Try.prog.info? 45).map (·.size) = some 45 := by kernel_rfl
/-- As many cells as a step has. -/
def cs_len (cs : List Value) : Prop := cs.length = 45

/-- (Step).Of: its Kind as a number from 0 to n - 1. -/
theorem step_Of (cs : List Value) (k n : Int) (w : World) (h0 : cs[0]? = some (.int .i64 k)) (hk : -9223372036854775808 ≤ k) (hk' : k ≤ 9223372036854775807) (hn : 1 ≤ n) (hn' : n ≤ 4294967296) :
    Calls Try.prog 6 #[.agg cs.toArray, .int .i64 n] w fun e w' => e = .returned (.int .i64 (k % n)) ∧ Below w.heap.size w w' := by
  have hb := Blk.new w 45 cs
  have hc := hb.at_ h0
  clear h0 hb
  go_enter Try.func6, Try.ntmps6
  go_wp2_with (go_at_call 11; refine (ref_Rest _ _ _ (by omega) (by omega) (by omega) (by omega)).mono ?_; rintro e w' ⟨rfl, rfl⟩)
  go_ret
  exact ⟨rfl, by go_grown⟩
end Go.Proofs.Ytnmfmjlpfhdgeaa
