/- The sum over a head without its own two bytes; bytes of a head. -/
import Derived.Test.YthjigajielhkfaaIpFits
namespace Go.Proofs.Ythjigajielhkfaa
open Go.RowKit
set_option linter.unusedVariables false

theorem head_part (l : List UInt8) (i k : Nat) (h : i + k ≤ 20) : ((l.take 20).drop i).take k = (l.drop i).take k := by
  rw [List.drop_take, List.take_take, Nat.min_eq_left (by omega)]
theorem zero10_words (h : List UInt8) (hl : h.length = 20) : wordsN (zero10 h) = wordsN (h.take 10 ++ h.drop 12) := by
  have ht : h.take 20 = h := List.take_of_length_le (by omega)
  have h10 : (h.take 10).length = 10 := by simp; omega
  unfold zero10
  rw [ht, List.append_assoc, wordsN_split 5 (h.take 10 ++ ([0, 0] ++ h.drop (10 + 2))) (by simp; omega), wordsN_split 5 (h.take 10 ++ h.drop 12) (by simp; omega)]
  have e1 : ∀ m : List UInt8, (h.take 10 ++ m).take (2 * 5) = h.take 10 := fun m => by rw [List.take_append_of_le_length (by omega), List.take_of_length_le (by omega)]
  have e2 : ∀ m : List UInt8, (h.take 10 ++ m).drop (2 * 5) = m := fun m => by rw [List.drop_append_of_le_length (by omega), List.drop_of_length_le (by omega)]; rfl
  rw [e1, e1, e2, e2]
  have e3 : ∀ m : List UInt8, wordsN ([0, 0] ++ m) = wordsN m := fun m => by
    rw [wordsN_two _ (by simp)]
    simp
  rw [e3]
theorem zero10_sum (h : List UInt8) (hl : h.length = 20) : fitN h = 65535 - (sumN (h.take 10 ++ h.drop 12) : Int) := by
  unfold fitN sumN
  rw [zero10_words h hl]
end Go.Proofs.Ythjigajielhkfaa
