/- The law HashSips: its walk. -/
import Derived.Test.YtdpapkcibpcmjaaHashRefSip
namespace Go.Proofs.Ytdpapkcibpcmjaa
open Go.RowKit
set_option linter.unusedVariables false

theorem walk_hashSips (k0 k1 : Int) (s : ByteArray) (h0 : 0 ≤ k0) (h0' : k0 ≤ 18446744073709551615) (h1 : 0 ≤ k1) (h1' : k1 ≤ 18446744073709551615) (hs : s.size ≤ 140737488351232) (w : World) :
    Calls Try.prog 13 #[.int .u64 k0, .int .u64 k1, .string s] w fun e w' => e = .returned (.bool true) ∧ Below w.heap.size w w' := by
  have HS := Lib.hid (fun w => hash_Sip k0 k1 s w (by omega))
  have HR := Lib.hid (fun w => ref_SipHash k0 k1 s w (by omega))
  generalize sipF k0 k1 s.data.toList = r at HS HR
  go_enter Try.func13, Try.ntmps13
  go_wp2_with fail
  refine (HS.out _).mono ?_
  rintro e w1 ⟨rfl, hb1⟩
  go_wp2_with fail
  refine (HR.out _).mono ?_
  rintro e w2 ⟨rfl, hb2⟩
  go_wp2
  go_ret
  exact ⟨by simp, hb1.trans (hb2.mono hb1.size)⟩
end Go.Proofs.Ytdpapkcibpcmjaa
