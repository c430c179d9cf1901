/- Plain law: a range cut greedily into the largest blocks that fit is what the halving of prefixes gives. No program in sight. -/
import Derived.Test.YtagdnjhkoajbnaaDoorRows
namespace Go.Proofs.YtagdnjhkoajbnaaDoor
set_option linter.unusedVariables false

/-- n is the largest number up to 32 such that 2^n divides a and 2^n ≤ d. -/
def Best (a d n : Nat) : Prop := n ≤ 32 ∧ 2 ^ n ∣ a ∧ 2 ^ n ≤ d ∧ ∀ m, m ≤ 32 → 2 ^ m ∣ a → 2 ^ m ≤ d → m ≤ n
/-- From a to b (not included), the largest block each time. -/
inductive Greedy : Nat → Nat → List (Nat × Nat) → Prop
  | done (a : Nat) : Greedy a a []
  | more (a b n : Nat) (l : List (Nat × Nat)) : a < b → Best a (b - a) n → Greedy (a + 2 ^ n) b l → Greedy a b ((a, 32 - n) :: l)

theorem Best.unique {a d n m : Nat} (h : Best a d n) (k : Best a d m) : n = m :=
  Nat.le_antisymm (k.2.2.2 n h.1 h.2.1 h.2.2.1) (h.2.2.2 m k.1 k.2.1 k.2.2.1)
theorem Best.le {a b n : Nat} (h : Best a (b - a) n) (hab : a < b) : a + 2 ^ n ≤ b := by have := h.2.2.1; omega
theorem Greedy.le {a b : Nat} {l : List (Nat × Nat)} (h : Greedy a b l) : a ≤ b := by
  induction h with
  | done a => exact Nat.le_refl _
  | more a b n l hab hb _ ih => omega
theorem Greedy.unique {a b : Nat} {l m : List (Nat × Nat)} (h : Greedy a b l) : Greedy a b m → l = m := by
  induction h generalizing m with
  | done a =>
    intro k
    cases k with
    | done => rfl
    | more _ _ n l hab _ _ => omega
  | more a b n l hab hb _ ih =>
    intro k
    cases k with
    | done => omega
    | more _ _ n' l' hab' hb' k' =>
      have := hb.unique hb'
      subst this
      rw [ih k']

theorem pow_dvd_le {k m : Nat} (h : k ≤ m) : 2 ^ k ∣ 2 ^ m := Nat.pow_dvd_pow 2 h

/-- Two ranges that meet at the middle of a block, and do not fill it. -/
theorem Greedy.glue {s m a b mid : Nat} {l1 l2 : List (Nat × Nat)} (hm : m + 1 ≤ 32) (hs : 2 ^ (m + 1) ∣ s) (hmid : mid = s + 2 ^ m) (h2 : Greedy mid b l2) (hb1 : mid < b) (hb2 : b ≤ s + 2 ^ (m + 1)) :
    Greedy a mid l1 → s ≤ a → a < mid → ¬ (a = s ∧ b = s + 2 ^ (m + 1)) → Greedy a b (l1 ++ l2) := by
  intro h1
  induction h1 with
  | done a => intro _ h; omega
  | more a c n l hac hb h ih =>
    intro hsa ham hne
    have hpm : 2 ^ (m + 1) = 2 ^ m * 2 := Nat.pow_succ 2 m
    have hsm : 2 ^ m ∣ s := Nat.dvd_trans (pow_dvd_le (by omega)) hs
    have hle := hb.le hac
    have hbest : Best a (b - a) n := by
      refine ⟨hb.1, hb.2.1, by have := hb.2.2.1; omega, fun k hk hd hle2 => ?_⟩
      by_cases has : a = s
      · subst has
        have hk2 : 2 ^ k < 2 ^ (m + 1) := by omega
        have hkm : k < m + 1 := (Nat.pow_lt_pow_iff_right (by omega : 1 < 2)).1 hk2
        have := hb.2.2.2 m (by omega) hsm (by omega)
        omega
      · have hkm : k < m := by
          rcases Nat.lt_or_ge k m with h0 | h0
          · exact h0
          · have hma : 2 ^ m ∣ a := Nat.dvd_trans (pow_dvd_le h0) hd
            have h3 : 2 ^ m ∣ a - s := Nat.dvd_sub hma hsm
            have h4 := Nat.le_of_dvd (by omega) h3
            omega
        refine hb.2.2.2 k hk hd ?_
        have hkc : 2 ^ k ∣ c := by
          rw [hmid]
          exact Nat.dvd_add (Nat.dvd_trans (pow_dvd_le (by omega)) hs) (pow_dvd_le (by omega))
        exact Nat.le_of_dvd (by omega) (Nat.dvd_sub hkc hd)
    rw [List.cons_append]
    refine Greedy.more a b n _ (by omega) hbest ?_
    rcases Nat.lt_or_ge (a + 2 ^ n) c with h0 | h0
    · have hp := Nat.two_pow_pos n
      exact ih hmid h2 hb1 (by omega) h0 (by omega)
    · have h5 : a + 2 ^ n = c := by omega
      rw [h5] at h ⊢
      cases h with
      | done => exact h2
      | more _ _ _ _ hlt _ _ => omega

/-- A block that is whole. -/
theorem Greedy.whole {s m : Nat} (hm : m ≤ 32) (hs : 2 ^ m ∣ s) : Greedy s (s + 2 ^ m) [(s, 32 - m)] := by
  refine Greedy.more s _ m [] (by have := Nat.two_pow_pos m; omega) ⟨hm, hs, by omega, fun k hk hd hle => ?_⟩ (Greedy.done _)
  have h : 2 ^ k ≤ 2 ^ m := by omega
  exact (Nat.pow_le_pow_iff_right (by omega : 1 < 2)).1 h

/-- What of the block of 2^m numbers from s on lies from 'from' to 'to' (with it): halving. -/
def halve : Nat → Nat → Nat → Nat → List (Nat × Nat)
  | 0, s, f, t => if s > t ∨ s + 2 ^ 0 - 1 < f then [] else [(s, 32)]
  | m + 1, s, f, t => if s > t ∨ s + 2 ^ (m + 1) - 1 < f then [] else if s ≥ f ∧ s + 2 ^ (m + 1) - 1 ≤ t then [(s, 32 - (m + 1))] else halve m s f t ++ halve m (s + 2 ^ m) f t

theorem halve_none : ∀ (m s f t : Nat), (s > t ∨ s + 2 ^ m - 1 < f) → halve m s f t = []
  | 0, s, f, t, h => by rw [halve, if_pos h]
  | m + 1, s, f, t, h => by rw [halve, if_pos h]

theorem halve_greedy : ∀ (m s f t : Nat), m ≤ 32 → 2 ^ m ∣ s → f ≤ t → ¬ (s > t ∨ s + 2 ^ m - 1 < f) → Greedy (max s f) (min (s + 2 ^ m) (t + 1)) (halve m s f t)
  | 0, s, f, t, hm, hs, hft, h => by
    rw [halve, if_neg h]
    have e1 : max s f = s := by simp only [Nat.pow_zero] at h; omega
    have e2 : min (s + 2 ^ 0) (t + 1) = s + 2 ^ 0 := by simp only [Nat.pow_zero] at h ⊢; omega
    rw [e1, e2]
    exact Greedy.whole (m := 0) (by omega) hs
  | m + 1, s, f, t, hm, hs, hft, h => by
    have hpm : 2 ^ (m + 1) = 2 ^ m * 2 := Nat.pow_succ 2 m
    have hp := Nat.two_pow_pos m
    rw [halve, if_neg h]
    by_cases hin : s ≥ f ∧ s + 2 ^ (m + 1) - 1 ≤ t
    · rw [if_pos hin]
      have e1 : max s f = s := by omega
      have e2 : min (s + 2 ^ (m + 1)) (t + 1) = s + 2 ^ (m + 1) := by omega
      rw [e1, e2]
      exact Greedy.whole hm hs
    · rw [if_neg hin]
      have hs1 : 2 ^ m ∣ s := Nat.dvd_trans (pow_dvd_le (by omega)) hs
      have hs2 : 2 ^ m ∣ s + 2 ^ m := Nat.dvd_add hs1 (Nat.dvd_refl _)
      by_cases hl : s + 2 ^ m - 1 < f
      · rw [halve_none m s f t (.inr hl), List.nil_append]
        have := halve_greedy m (s + 2 ^ m) f t (by omega) hs2 hft (by omega)
        have e1 : max s f = max (s + 2 ^ m) f := by omega
        have e2 : min (s + 2 ^ (m + 1)) (t + 1) = min (s + 2 ^ m + 2 ^ m) (t + 1) := by omega
        rw [e1, e2]
        exact this
      · by_cases hr : s + 2 ^ m > t
        · rw [halve_none m (s + 2 ^ m) f t (.inl hr), List.append_nil]
          have := halve_greedy m s f t (by omega) hs1 hft (by omega)
          have e2 : min (s + 2 ^ (m + 1)) (t + 1) = min (s + 2 ^ m) (t + 1) := by omega
          rw [e2]
          exact this
        · have h1 := halve_greedy m s f t (by omega) hs1 hft (by omega)
          have h2 := halve_greedy m (s + 2 ^ m) f t (by omega) hs2 hft (by omega)
          have e1 : min (s + 2 ^ m) (t + 1) = s + 2 ^ m := by omega
          have e2 : max (s + 2 ^ m) f = s + 2 ^ m := by omega
          have e3 : s + 2 ^ m + 2 ^ m = s + 2 ^ (m + 1) := by omega
          rw [e1] at h1
          rw [e2, e3] at h2
          exact Greedy.glue hm hs rfl h2 (by omega) (by omega) h1 (by omega) (by omega) (by omega)
end Go.Proofs.YtagdnjhkoajbnaaDoor
