/- IpRead of less than 20 bytes: both sides. -/
import Derived.Test.YthjigajielhkfaaIpRd0
namespace Go.Proofs.Ythjigajielhkfaa
open Go.RowKit
set_option linter.unusedVariables false

set_option maxRecDepth 100000 in
theorem ip_Read_short (s : ByteArray) (w : World) (h8 : s.size < 20) :
    Calls Try.prog 15 #[.string s] w fun e w' => e = .returned (.tuple #[.agg zeroPkt.toArray, .int .i64 3]) ∧ Below w.heap.size w w' := by
  go_enter Try.func15, Try.ntmps15
  go_wp2
  exact bodyPost_ret (v := .tuple #[.agg zeroPkt.toArray, .int .i64 3]) (by simp [results, Try.results15, go_sem, zeroPkt, pktC]) rfl ⟨rfl, by go_grown⟩
set_option maxRecDepth 100000 in
theorem ref_IpRead_short (s : ByteArray) (w : World) (h8 : s.size < 20) :
    Calls Try.prog 16 #[.string s] w fun e w' => e = .returned (.tuple #[.agg zeroPkt.toArray, .int .i64 3]) ∧ Below w.heap.size w w' := by
  go_enter Try.func16, Try.ntmps16
  go_wp2
  exact bodyPost_ret (v := .tuple #[.agg zeroPkt.toArray, .int .i64 3]) (by simp [results, Try.results16, go_sem, zeroPkt, pktC]) rfl ⟨rfl, by go_grown⟩
end Go.Proofs.Ythjigajielhkfaa
