/- The walks of the laws SeqDiffs, SeqNears, SeqAccepts. -/
import Derived.Test.YtdpapkcibpcmjaaSeqWalks
namespace Go.Proofs.Ytdpapkcibpcmjaa
open Go.RowKit
set_option linter.unusedVariables false

theorem walk_seqDiffs (a b m : Int) (ha : 0 ≤ a) (ha' : a ≤ 4294967295) (hb : 0 ≤ b) (hb' : b ≤ 4294967295) (hm : -9223372036854775808 ≤ m) (hm' : m ≤ 9223372036854775807) (w : World) :
    Calls Try.prog 4 #[.int .u32 a, .int .u32 b, .int .i64 m] w fun e w' => e = .returned (.bool true) ∧ Below w.heap.size w w' := by
  go_enter Try.func4, Try.ntmps4
  go_wp2_with (first
    | (go_at_call 15; refine (ref_SeqDiff _ _ _ ha ha' hb hb').mono ?_; rintro e w' ⟨rfl, rfl⟩)
    | (go_at_call 16; refine (seq_Diff _ _ _).mono ?_; rintro e w' ⟨rfl, rfl⟩)
    | (go_at_call 17; refine (seq_Less _ _ _).mono ?_; rintro e w' ⟨rfl, rfl⟩)
    | (go_at_call 18; refine (seq_In _ _ _ _ hm hm').mono ?_; rintro e w' ⟨rfl, rfl⟩)
    | (go_at_call 19; refine (ref_SeqIn _ _ _ _ ha ha' hb hb').mono ?_; rintro e w' ⟨rfl, rfl⟩))
  go_ret
  exact ⟨by simp, Below.refl _ _⟩

theorem walk_seqNears (n t : Int) (ha : 0 ≤ n) (ha' : n ≤ 4294967295) (ht : -9223372036854775808 ≤ t) (ht' : t ≤ 9223372036854775807) (w : World) :
    Calls Try.prog 5 #[.int .u32 n, .int .i64 t] w fun e w' => e = .returned (.bool true) ∧ Below w.heap.size w w' := by
  go_enter Try.func5, Try.ntmps5
  go_wp2_with (first
    | (go_at_call 20; refine (seq_Near _ _ _).mono ?_; rintro e w' ⟨rfl, rfl⟩)
    | (go_at_call 21; refine (ref_SeqNear _ _ _ ha ha').mono ?_; rintro e w1 ⟨rfl, hb1⟩))
  go_ret
  exact ⟨by simp, hb1⟩

theorem walk_seqAccepts (a b l m : Int) (ha : 0 ≤ a) (ha' : a ≤ 4294967295) (hb : 0 ≤ b) (hb' : b ≤ 4294967295) (hl : -9223372036854775808 ≤ l) (hl' : l ≤ 9223372036854775807) (hm : -9223372036854775808 ≤ m) (hm' : m ≤ 9223372036854775807) (w : World) :
    Calls Try.prog 6 #[.int .u32 a, .int .u32 b, .int .i64 l, .int .i64 m] w fun e w' => e = .returned (.bool true) ∧ Below w.heap.size w w' := by
  go_enter Try.func6, Try.ntmps6
  go_wp2_with (first
    | (go_at_call 22; refine (seq_Accept _ _ _ _ _ hl hl' hm hm').mono ?_; rintro e w' ⟨rfl, rfl⟩)
    | (go_at_call 23; refine (ref_SeqAccept _ _ _ _ _ ha ha' hb hb' hl hl' hm hm').mono ?_; rintro e w1 ⟨rfl, rfl⟩))
  go_ret
  exact ⟨by simp, Below.refl _ _⟩
end Go.Proofs.Ytdpapkcibpcmjaa
