/- Plain law of check sums: no Go in sight. -/
import Derived.Test.YthjigajielhkfaaRows
namespace Go.Proofs.Ythjigajielhkfaa

/-- The sum of a text's words, the last one filled up with 0. -/
def wordsN : List UInt8 → Nat
  | a :: b :: t => a.toNat * 256 + b.toNat + wordsN t
  | [a] => a.toNat * 256
  | [] => 0
/-- What goes beyond 16 bits is added to the lowest 16. -/
def foldN (n : Nat) : Nat := if n = 0 then 0 else (n - 1) % 65535 + 1
def sumN (l : List UInt8) : Nat := foldN (wordsN l)

theorem foldN_step (n : Nat) : foldN (n / 65536 + n % 65536) = foldN n := by
  unfold foldN
  by_cases h : n = 0
  · subst h; rfl
  · rw [if_neg h, if_neg (by omega)]
    have : (n - 1) % 65535 = (n / 65536 + n % 65536 - 1) % 65535 := by omega
    omega
theorem foldN_small (n : Nat) (h : n ≤ 65535) : foldN n = n := by unfold foldN; split <;> omega
theorem foldN_le (n : Nat) : foldN n ≤ 65535 := by unfold foldN; split <;> omega
theorem sumN_le (l : List UInt8) : sumN l ≤ 65535 := foldN_le _

theorem wordsN_le : ∀ (l : List UInt8), wordsN l ≤ 65536 * l.length
  | a :: b :: t => by
    have h1 := a.toNat_lt
    have h2 := b.toNat_lt
    have h3 := wordsN_le t
    simp only [wordsN, List.length_cons]
    omega
  | [a] => by
    have h1 := a.toNat_lt
    simp only [wordsN, List.length_cons, List.length_nil]
    omega
  | [] => by simp [wordsN]

theorem wordsN_pad : ∀ (l : List UInt8), l.length % 2 = 1 → wordsN (l ++ [0]) = wordsN l
  | a :: b :: t, h => by
    simp only [List.cons_append, wordsN]
    rw [wordsN_pad t (by simp only [List.length_cons] at h; omega)]
  | [a], _ => by simp [wordsN]
  | [], h => by simp at h

theorem wordsN_split : ∀ (k : Nat) (l : List UInt8), 2 * k ≤ l.length → wordsN l = wordsN (l.take (2 * k)) + wordsN (l.drop (2 * k))
  | 0, l, _ => by simp [wordsN]
  | k + 1, l, h => by
    match l, h with
    | a :: b :: t, h =>
      have e : 2 * (k + 1) = 2 * k + 1 + 1 := by omega
      rw [e, List.take_succ_cons, List.take_succ_cons, List.drop_succ_cons, List.drop_succ_cons]
      simp only [wordsN]
      have := wordsN_split k t (by simp only [List.length_cons] at h; omega)
      omega
    | [a], h => exact absurd h (by simp; omega)
    | [], h => exact absurd h (by simp)
theorem wordsN_two (l : List UInt8) (h : 2 ≤ l.length) : wordsN l = l[0].toNat * 256 + l[1].toNat + wordsN (l.drop 2) := by
  match l, h with
  | a :: b :: t, _ => rfl
theorem wordsN_one (l : List UInt8) (h : l.length = 1) : wordsN l = l[0].toNat * 256 := by
  match l, h with
  | [x], _ => rfl
theorem words_next (l : List UInt8) (i : Nat) (h : i % 2 = 0) (h2 : i + 2 ≤ l.length) : wordsN (l.take (i + 2)) = wordsN (l.take i) + (l[i].toNat * 256 + l[i + 1].toNat) := by
  have h3 := wordsN_split (i / 2) (l.take (i + 2)) (by simp; omega)
  have e : 2 * (i / 2) = i := by omega
  rw [e, List.take_take, Nat.min_eq_left (by omega)] at h3
  rw [h3]
  have h4 := wordsN_two ((l.take (i + 2)).drop i) (by simp; omega)
  rw [h4]
  have h5 : ((l.take (i + 2)).drop i).drop 2 = [] := by
    rw [List.drop_drop]
    exact List.drop_of_length_le (by simp; omega)
  rw [h5]
  simp [wordsN]
end Go.Proofs.Ythjigajielhkfaa
