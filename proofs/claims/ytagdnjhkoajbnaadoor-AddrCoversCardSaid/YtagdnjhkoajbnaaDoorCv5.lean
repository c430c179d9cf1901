/- Plain law: the largest block is told by the trailing zeros and by the length of what is left. No program in sight. -/
import Derived.Test.YtagdnjhkoajbnaaDoorCoverPlain
import Derived.Lib.TrailingZeros
import Derived.Lib.BitFns
namespace Go.Proofs.YtagdnjhkoajbnaaDoor
set_option linter.unusedVariables false

theorem bitLen_zero : Lib.bitLen 0 = 0 := by decide
theorem bitLen_bd : ∀ x : Nat, x < 2 ^ 64 → x < 2 ^ Lib.bitLen x ∧ (x ≠ 0 → 1 ≤ Lib.bitLen x ∧ 2 ^ (Lib.bitLen x - 1) ≤ x) := by
  intro x
  induction x using Nat.strongRecOn with
  | ind x ih =>
    intro hx
    by_cases h0 : x = 0
    · subst h0
      rw [bitLen_zero]
      exact ⟨by decide, fun h => absurd rfl h⟩
    · have hh := Lib.bitLen_half x h0 hx
      obtain ⟨h1, h2⟩ := ih (x / 2) (by omega) (by omega)
      have hp : 2 ^ (1 + Lib.bitLen (x / 2)) = 2 * 2 ^ Lib.bitLen (x / 2) := by rw [Nat.add_comm, Nat.pow_succ]; omega
      refine ⟨by rw [hh, hp]; omega, fun _ => ⟨by omega, ?_⟩⟩
      rw [hh, Nat.add_sub_cancel_left]
      by_cases hz : x / 2 = 0
      · rw [hz, bitLen_zero]
        show 1 ≤ x
        omega
      · obtain ⟨h3, h4⟩ := h2 hz
        have hq : 2 ^ Lib.bitLen (x / 2) = 2 * 2 ^ (Lib.bitLen (x / 2) - 1) := by
          obtain ⟨k, hk⟩ : ∃ k, Lib.bitLen (x / 2) = k + 1 := ⟨_, (Nat.sub_add_cancel h3).symm⟩
          rw [hk, Nat.add_sub_cancel, Nat.pow_succ]
          omega
        omega
theorem or_add {a : Nat} (ha : a < 4294967296) : a ||| 4294967296 = a + 4294967296 := by
  have h := Nat.two_pow_add_eq_or_of_lt (i := 32) (b := a) (by omega) 1
  rw [Nat.or_comm]
  have e : (2 : Nat) ^ 32 * 1 = 4294967296 := by decide
  rw [e] at h
  omega
theorem ctz_spec {x : Nat} (h0 : x ≠ 0) (hx : x < 2 ^ 64) : ∃ m, x = 2 ^ Lib.ctz 64 x * (2 * m + 1) := by
  unfold Lib.ctz
  rw [if_neg h0]
  obtain ⟨m, hm, _⟩ := Lib.ctzFrom_spec 64 x (by omega) hx
  exact ⟨m, hm⟩
theorem dvd_ctz {x k : Nat} (h0 : x ≠ 0) (hx : x < 2 ^ 64) : 2 ^ k ∣ x ↔ k ≤ Lib.ctz 64 x := by
  obtain ⟨m, hm⟩ := ctz_spec h0 hx
  generalize Lib.ctz 64 x = c at hm
  constructor
  · intro hd
    apply Nat.le_of_not_lt
    intro hlt
    have h1 : 2 ^ (c + 1) ∣ x := Nat.dvd_trans (Nat.pow_dvd_pow 2 hlt) hd
    rw [hm, Nat.pow_succ] at h1
    have h2 := Nat.dvd_of_mul_dvd_mul_left (Nat.two_pow_pos c) h1
    omega
  · intro hle
    rw [hm]
    exact Nat.dvd_trans (Nat.pow_dvd_pow 2 hle) (Nat.dvd_mul_right _ _)
theorem ctz_le {a : Nat} (ha : a < 4294967296) : Lib.ctz 64 (a ||| 4294967296) ≤ 32 := by
  rw [or_add ha]
  have h64 : (2 : Nat) ^ 64 = 18446744073709551616 := by decide
  have hd := (dvd_ctz (x := a + 4294967296) (k := Lib.ctz 64 (a + 4294967296)) (by omega) (by omega)).2 (Nat.le_refl _)
  apply Nat.le_of_not_lt
  intro hlt
  have h1 : 2 ^ 33 ∣ a + 4294967296 := Nat.dvd_trans (Nat.pow_dvd_pow 2 hlt) hd
  have h2 := Nat.le_of_dvd (by omega) h1
  have h33 : (2 : Nat) ^ 33 = 8589934592 := by decide
  omega
theorem best_of {a b : Nat} (hab : a < b) (hb : b ≤ 4294967296) : Best a (b - a) (min (Lib.ctz 64 (a ||| 4294967296)) (Lib.bitLen (b - a) - 1)) := by
  have h64 : (2 : Nat) ^ 64 = 18446744073709551616 := by decide
  have hc := ctz_le (a := a) (by omega)
  obtain ⟨l1, l2⟩ := bitLen_bd (b - a) (by omega)
  obtain ⟨l3, l4⟩ := l2 (by omega)
  have hdv : ∀ k, k ≤ 32 → (2 ^ k ∣ a ↔ k ≤ Lib.ctz 64 (a ||| 4294967296)) := fun k hk => by
    rw [or_add (by omega), ← dvd_ctz (by omega) (by omega)]
    have h32 : 2 ^ k ∣ 4294967296 := Nat.pow_dvd_pow 2 hk
    exact ⟨fun h => Nat.dvd_add h h32, fun h => (Nat.dvd_add_left h32).1 h⟩
  refine ⟨by omega, (hdv _ (by omega)).2 (Nat.min_le_left _ _), ?_, fun m hm hd hle => ?_⟩
  · exact Nat.le_trans (Nat.pow_le_pow_right (by decide) (Nat.min_le_right _ _)) l4
  · have h1 := (hdv m hm).1 hd
    refine Nat.le_min.2 ⟨h1, ?_⟩
    apply Nat.le_of_not_lt
    intro hlt
    have h2 : 2 ^ Lib.bitLen (b - a) ≤ 2 ^ m := Nat.pow_le_pow_right (by decide) (by omega)
    omega
theorem bitLen_hi {a b : Nat} (hab : a < b) (hb : b ≤ 4294967296) : 1 ≤ Lib.bitLen (b - a) ∧ Lib.bitLen (b - a) ≤ 33 := by
  have h64 : (2 : Nat) ^ 64 = 18446744073709551616 := by decide
  have h33 : (2 : Nat) ^ 33 = 8589934592 := by decide
  exact ⟨((bitLen_bd (b - a) (by omega)).2 (by omega)).1, Lib.bitLen_le (b - a) 33 (by decide) (by omega)⟩
/-- What the greedy cut gives is what halving gives. -/
theorem greedy_halve {f t : Nat} (hft : f ≤ t) (ht : t < 4294967296) {l : List (Nat × Nat)} (h : Greedy f (t + 1) l) : l = halve 32 0 f t := by
  have e32 : (2 : Nat) ^ 32 = 4294967296 := by decide
  have h2 := halve_greedy 32 0 f t (Nat.le_refl _) (Nat.dvd_zero _) hft (by omega)
  have e1 : max 0 f = f := by omega
  have e2 : min (0 + 2 ^ 32) (t + 1) = t + 1 := by omega
  rw [e1, e2] at h2
  exact h.unique h2
end Go.Proofs.YtagdnjhkoajbnaaDoor
