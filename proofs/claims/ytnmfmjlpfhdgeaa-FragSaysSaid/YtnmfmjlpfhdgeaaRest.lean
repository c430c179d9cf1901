/- The reference's Rest. -/
import Derived.Test.YtnmfmjlpfhdgeaaRows1
import Derived.WalkKit
import Derived.Handy
import Derived.Deep.Light
import Derived.WalkSpells
import Derived.WalkLawsBesides
import Derived.BigQuiet
import Derived.Deep.QuietTactic
namespace Go.Proofs.Ytnmfmjlpfhdgeaa
open Go.RowKit

theorem ref_Rest (a m : Int) (w : World) (ha : -9223372036854775808 ≤ a) (ha' : a ≤ 9223372036854775807) (hb : 1 ≤ m) (hb' : m ≤ 9223372036854775807) :
    Calls Try.prog 11 #[.int .i64 a, .int .i64 m] w fun e w' => e = .returned (.int .i64 (a % m)) ∧ w = w' := by
  have h1 := Int.emod_nonneg a (show m ≠ 0 by omega)
  have h2 := Int.emod_lt_of_pos a (show 0 < m by omega)
  have h3 : a.tmod m = a % m ∨ (a.tmod m < 0 ∧ a.tmod m + m = a % m) := by
    by_cases h0 : 0 ≤ a
    · left; exact Int.tmod_eq_emod_of_nonneg h0
    · rw [Int.tmod_eq_emod]
      by_cases hd : m ∣ a
      · left; simp [hd]
      · right; rw [if_neg (by simp [hd]; omega)]; omega
  have H3 : Hid (a.tmod m = a % m ∨ (a.tmod m < 0 ∧ a.tmod m + m = a % m)) := h3
  clear h3
  go_enter Try.func11, Try.ntmps11
  go_wp2
  · go_ret
    exact ⟨ret_int (by show wrap64 (a.tmod m + m) = _; have := H3.out; unfold wrap64; omega), rfl⟩
  · go_ret
    exact ⟨ret_int (by show a.tmod m = _; have := H3.out; omega), rfl⟩
end Go.Proofs.Ytnmfmjlpfhdgeaa
