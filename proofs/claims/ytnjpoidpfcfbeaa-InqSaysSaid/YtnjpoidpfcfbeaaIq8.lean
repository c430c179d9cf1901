/- What comes in: the program's ring, plainly; both keep the same. -/
import Derived.Test.YtnjpoidpfcfbeaaIq7
namespace Go.Proofs.Ytnjpoidpfcfbeaa
open Go.RowKit Sy
set_option linter.unusedVariables false
set_option linter.unusedSimpArgs false

def byteQ (R : List (List Value)) (q : Int) : Int := (getV (.int .u8) ((R.getD (q % 2048).toNat []).getD 0 (.bool false))).i
theorem getD_set {l : List (List Value)} {i j : Nat} {x : List Value} (h : i < l.length) : (l.set i x).getD j [] = if i = j then x else l.getD j [] := by
  rw [List.getD, List.getElem?_set]
  by_cases e : i = j
  · subst e
    rw [if_pos rfl, if_pos h, if_pos rfl]
    rfl
  · rw [if_neg e, if_neg e]
    rfl
theorem mod_lt (p : Int) : (p % 2048).toNat < 2048 := by omega
theorem has_set {H : List (List Value)} (hl : H.length = 2048) (p q : Int) (b : Bool) : hasB (H.set (p % 2048).toNat [.bool b]) q = if p % 2048 = q % 2048 then b else hasB H q := by
  unfold hasB
  rw [getD_set (by rw [hl]; exact mod_lt p)]
  by_cases e : p % 2048 = q % 2048
  · rw [if_pos (by rw [e]), if_pos e]
    rfl
  · rw [if_neg (by omega), if_neg e]
theorem byte_set {R : List (List Value)} (hl : R.length = 2048) (p q b : Int) (h0 : 0 ≤ b) (h1 : b ≤ 255) : byteQ (R.set (p % 2048).toNat [.int .u8 b]) q = if p % 2048 = q % 2048 then b else byteQ R q := by
  unfold byteQ
  rw [getD_set (by rw [hl]; exact mod_lt p)]
  by_cases e : p % 2048 = q % 2048
  · rw [if_pos (by rw [e]), if_pos e]
    have hw := of_wf (wf_u8 h0 h1)
    exact wrap_in hw.1 hw.2
  · rw [if_neg (by omega), if_neg e]
/-! The first loop. -/
structure QA where
  at_ : Int
  ed : Int
  fin : Int
  body : ByteArray
abbrev RH := List (List Value) × List (List Value)
def stepQ (A : QA) (s : RH) (i : Int) : RH := if hasB s.2 (A.at_ + i) then s else (s.1.set ((A.at_ + i) % 2048).toNat [.int .u8 (Sy.byteOf A.body i)], s.2.set ((A.at_ + i) % 2048).toNat [.bool true])
def guardQ (A : QA) (i : Int) : Bool := decide (i < (A.body.size : Int) ∧ A.at_ + i < A.ed ∧ ¬ (0 ≤ A.fin ∧ A.fin ≤ A.at_ + i))
def loopQ (A : QA) : Nat → Int → RH → RH
  | 0, _, s => s
  | n + 1, i, s => if guardQ A i then loopQ A n (i + 1) (stepQ A s i) else s
theorem stepQ_ok {A : QA} {s : RH} (h : QuOk s.1 s.2) (i : Int) : QuOk (stepQ A s i).1 (stepQ A s i).2 := by
  unfold stepQ
  split
  · exact h
  · have := byteOf_rng A.body i
    refine ⟨by simpa using h.rl, fun r hr => ?_, by simpa using h.hl, fun r hr => ?_⟩
    · rcases List.mem_or_eq_of_mem_set hr with hr | hr
      · exact h.rk r hr
      · rw [hr]; exact ⟨⟨_, rfl, wf_u8 this.1 this.2⟩, trivial⟩
    · rcases List.mem_or_eq_of_mem_set hr with hr | hr
      · exact h.hk r hr
      · rw [hr]; exact ⟨⟨_, rfl⟩, trivial⟩
theorem loopQ_ok {A : QA} : ∀ {n : Nat} {i : Int} {s : RH}, QuOk s.1 s.2 → QuOk (loopQ A n i s).1 (loopQ A n i s).2
  | 0, _, _, h => h
  | n + 1, i, s, h => by
    unfold loopQ
    split
    · exact loopQ_ok (stepQ_ok h i)
    · exact h
/-- What the first loop leaves; W: the window. -/
theorem loopQ_spec {A : QA} {W : Int} (hed : A.ed ≤ W + 2048) : ∀ (n : Nat) (i : Int) (s : RH), QuOk s.1 s.2 → W ≤ A.at_ + i → (A.body.size : Int) - i ≤ (n : Int) → 0 ≤ i →
    ∀ p, W ≤ p → p < W + 2048 → (hasB (loopQ A n i s).2 p = (hasB s.2 p || decide (A.at_ + i ≤ p ∧ p < A.at_ + A.body.size ∧ p < A.ed ∧ ¬ (0 ≤ A.fin ∧ A.fin ≤ p)))) ∧ (byteQ (loopQ A n i s).1 p = if hasB s.2 p = false ∧ (A.at_ + i ≤ p ∧ p < A.at_ + A.body.size ∧ p < A.ed ∧ ¬ (0 ≤ A.fin ∧ A.fin ≤ p)) then Sy.byteOf A.body (p - A.at_) else byteQ s.1 p)
  | 0, i, s, hs, hw, hn, h0, p, p0, p1 => by
    show (hasB s.2 p = _) ∧ (byteQ s.1 p = _)
    rw [decide_eq_false (by omega), Bool.or_false, if_neg (by omega)]
    exact ⟨rfl, rfl⟩
  | n + 1, i, s, hs, hw, hn, h0, p, p0, p1 => by
    unfold loopQ
    by_cases g : guardQ A i = true
    · rw [if_pos g]
      have g' : i < (A.body.size : Int) ∧ A.at_ + i < A.ed ∧ ¬ (0 ≤ A.fin ∧ A.fin ≤ A.at_ + i) := by
        unfold guardQ at g
        rwa [decide_eq_true_eq] at g
      obtain ⟨e1, e2⟩ := loopQ_spec hed n (i + 1) (stepQ A s i) (stepQ_ok hs i) (by omega) (by omega) (by omega) p p0 p1
      have hb := byteOf_rng A.body i
      by_cases hp : p = A.at_ + i
      · have d1 : ¬ (A.at_ + (i + 1) ≤ p ∧ p < A.at_ + A.body.size ∧ p < A.ed ∧ ¬ (0 ≤ A.fin ∧ A.fin ≤ p)) := by omega
        have d2 : A.at_ + i ≤ p ∧ p < A.at_ + A.body.size ∧ p < A.ed ∧ ¬ (0 ≤ A.fin ∧ A.fin ≤ p) := by omega
        rw [e1, e2, decide_eq_false d1, decide_eq_true d2, Bool.or_false, Bool.or_true, if_neg (fun h => d1 h.2)]
        unfold stepQ
        by_cases q : hasB s.2 (A.at_ + i) = true
        · rw [if_pos q, if_neg (fun h => by rw [hp, q] at h; exact absurd h.1 (by decide)), hp]
          exact ⟨q, rfl⟩
        · rw [if_neg q, if_pos ⟨by rw [hp]; simpa using q, d2⟩, has_set hs.hl, byte_set hs.rl _ _ _ hb.1 hb.2, if_pos (by rw [hp]), if_pos (by rw [hp])]
          exact ⟨rfl, by congr 1; omega⟩
      · have ne : A.at_ + i < p ∨ p < A.at_ + i := by omega
        have hmod : A.at_ + i < W + 2048 → ¬ (A.at_ + i) % 2048 = p % 2048 := by omega
        have hm := hmod (by omega)
        have es : hasB (stepQ A s i).2 p = hasB s.2 p ∧ byteQ (stepQ A s i).1 p = byteQ s.1 p := by
          unfold stepQ
          split
          · exact ⟨rfl, rfl⟩
          · rw [has_set hs.hl, byte_set hs.rl _ _ _ hb.1 hb.2, if_neg hm, if_neg hm]
            exact ⟨rfl, rfl⟩
        have d : (A.at_ + (i + 1) ≤ p ∧ p < A.at_ + A.body.size ∧ p < A.ed ∧ ¬ (0 ≤ A.fin ∧ A.fin ≤ p)) ↔ (A.at_ + i ≤ p ∧ p < A.at_ + A.body.size ∧ p < A.ed ∧ ¬ (0 ≤ A.fin ∧ A.fin ≤ p)) := by omega
        rw [e1, e2, es.1, es.2]
        refine ⟨by rw [decide_eq_decide.2 d], ?_⟩
        by_cases c : hasB s.2 p = false ∧ (A.at_ + i ≤ p ∧ p < A.at_ + A.body.size ∧ p < A.ed ∧ ¬ (0 ≤ A.fin ∧ A.fin ≤ p))
        · rw [if_pos c, if_pos ⟨c.1, d.2 c.2⟩]
        · rw [if_neg c, if_neg fun h => c ⟨h.1, d.1 h.2⟩]
    · rw [if_neg g]
      have g' : ¬ (i < (A.body.size : Int) ∧ A.at_ + i < A.ed ∧ ¬ (0 ≤ A.fin ∧ A.fin ≤ A.at_ + i)) := by
        unfold guardQ at g
        rwa [decide_eq_true_eq] at g
      have d : ¬ (A.at_ + i ≤ p ∧ p < A.at_ + A.body.size ∧ p < A.ed ∧ ¬ (0 ≤ A.fin ∧ A.fin ≤ p)) := by omega
      rw [decide_eq_false d, Bool.or_false, if_neg fun h => d h.2]
      exact ⟨rfl, rfl⟩
/-! The second loop. -/
def advQ (ed : Int) : Nat → Int → List (List Value) → Int × List (List Value)
  | 0, n, H => (n, H)
  | k + 1, n, H => if n < ed ∧ hasB H n = true then advQ ed k (n + 1) (H.set (n % 2048).toNat [.bool false]) else (n, H)
theorem advQ_spec {ed W : Int} (hed : ed ≤ W + 2048) : ∀ (k : Nat) (n : Int) (H : List (List Value)), H.length = 2048 → (∀ r ∈ H, kAll [.bool] r) → W ≤ n → n ≤ ed → ed - n ≤ (k : Int) →
    n ≤ (advQ ed k n H).1 ∧ (advQ ed k n H).1 ≤ ed ∧ (∀ p, n ≤ p → p < (advQ ed k n H).1 → hasB H p = true) ∧ ((advQ ed k n H).1 < ed → hasB H (advQ ed k n H).1 = false) ∧ (advQ ed k n H).2.length = 2048 ∧ (∀ r ∈ (advQ ed k n H).2, kAll [.bool] r) ∧
    ∀ p, W ≤ p → p < W + 2048 → hasB (advQ ed k n H).2 p = (hasB H p && !decide (n ≤ p ∧ p < (advQ ed k n H).1))
  | 0, n, H, hl, hk, hw, hn, hf => by
    show n ≤ n ∧ n ≤ ed ∧ _ ∧ (n < ed → _) ∧ H.length = 2048 ∧ _ ∧ _
    refine ⟨Int.le_refl n, hn, fun p h1 h2 => ?_, fun h => by omega, hl, hk, fun p _ _ => ?_⟩
    · have h2 : p < n := h2
      omega
    · show hasB H p = (hasB H p && !decide (n ≤ p ∧ p < n))
      rw [decide_eq_false (by omega)]
      simp
  | k + 1, n, H, hl, hk, hw, hn, hf => by
    unfold advQ
    by_cases c : n < ed ∧ hasB H n = true
    · rw [if_pos c]
      have hk' : ∀ r ∈ H.set (n % 2048).toNat [.bool false], kAll [.bool] r := fun r hr => by
        rcases List.mem_or_eq_of_mem_set hr with hr | hr
        · exact hk r hr
        · rw [hr]; exact ⟨⟨_, rfl⟩, trivial⟩
      obtain ⟨i1, i2, i3, i4, i5, i6, i7⟩ := advQ_spec hed k (n + 1) (H.set (n % 2048).toNat [.bool false]) (by simpa using hl) hk' (by omega) (by omega) (by omega)
      refine ⟨by omega, i2, fun p h1 h2 => ?_, fun h => ?_, i5, i6, fun p p0 p1 => ?_⟩
      · by_cases e : p = n
        · rw [e]; exact c.2
        · have := i3 p (by omega) h2
          rwa [has_set hl, if_neg (by omega)] at this
      · have := i4 h
        rwa [has_set hl, if_neg (by omega)] at this
      · rw [i7 p p0 p1, has_set hl]
        by_cases e : p = n
        · rw [e, if_pos rfl, decide_eq_true (p := n ≤ n ∧ _) ⟨Int.le_refl n, by omega⟩]
          simp
        · rw [if_neg (by omega)]
          congr 2
          exact decide_eq_decide.2 (by omega)
    · rw [if_neg c]
      refine ⟨Int.le_refl n, hn, fun p h1 h2 => ?_, fun h => ?_, hl, hk, fun p _ _ => ?_⟩
      · have h2 : p < n := h2
        omega
      · show hasB H n = false
        have h : n < ed := h
        cases q : hasB H n with
        | false => rfl
        | true => exact absurd ⟨h, q⟩ c
      · show hasB H p = (hasB H p && !decide (n ≤ p ∧ p < n))
        rw [decide_eq_false (by omega)]
        simp
end Go.Proofs.Ytnjpoidpfcfbeaa
