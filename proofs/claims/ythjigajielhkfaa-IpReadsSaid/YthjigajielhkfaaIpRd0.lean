/- Package ip: Read: words and plain laws. -/
import Derived.Test.YthjigajielhkfaaIpFits
namespace Go.Proofs.Ythjigajielhkfaa
open Go.RowKit
set_option linter.unusedVariables false
set_option linter.unusedSimpArgs false

def byteAt (l : List UInt8) (j : Nat) : Nat := (l.getD j 0).toNat
theorem byteAt_le (l : List UInt8) (j : Nat) : byteAt l j ≤ 255 := by
  have := (l.getD j 0).toNat_lt
  unfold byteAt
  omega
theorem At8.byte {w : World} {g : Nat} {l : List UInt8} (h : At8 w g l) (j : Nat) (hj : j < l.length) : w.cell? ⟨g, j, none⟩ = some (.int .u8 (byteAt l j : Int)) := by
  rw [h.cell j hj, byteAt, List.getD, List.getElem?_eq_getElem hj]
  rfl
def zeroPkt : List Value := pktC 0 0 0 0 0 false false 0 ⟨#[]⟩
theorem lay_pkt (w : World) : (Instr.alloc 24 true (.tuple #[])).run Try.prog w = .ok (.pointer (some ⟨w.heap.size, 0, none⟩)) (w.alloc (.cells zeroPkt.toArray 24)) := by kernel_rfl
/-- Read: which error. -/
def ipErrN (b0 b1 fl all told n : Nat) (ck chk : Int) : Int :=
  if (b0 : Int) ≠ 69 then 6 else if (b1 : Int) ≠ 0 then 4 else if 32768 ≤ fl then 4 else if n < all then 3 else if all < n then 4 else if ck ≠ (told : Int) then 5 else chk
theorem ip_cases {b0 b1 fl all told n : Nat} {ck chk er : Int} (h : ipErrN b0 b1 fl all told n ck chk = er) :
    (((b0 : Int) != 69) = true ∧ er = 6) ∨ (b0 = 69 ∧ ((b1 : Int) != 0) = true ∧ er = 4) ∨ (b0 = 69 ∧ b1 = 0 ∧ 32768 ≤ (fl : Int) ∧ er = 4) ∨
    (b0 = 69 ∧ b1 = 0 ∧ (fl : Int) < 32768 ∧ n < all ∧ er = 3) ∨ (b0 = 69 ∧ b1 = 0 ∧ (fl : Int) < 32768 ∧ all < n ∧ er = 4) ∨
    (b0 = 69 ∧ b1 = 0 ∧ (fl : Int) < 32768 ∧ all ≤ n ∧ n ≤ all ∧ (ck == (told : Int)) = false ∧ er = 5) ∨ (b0 = 69 ∧ b1 = 0 ∧ (fl : Int) < 32768 ∧ all ≤ n ∧ n ≤ all ∧ (ck == (told : Int)) = true ∧ chk = er) := by
  unfold ipErrN at h
  by_cases h1 : (b0 : Int) ≠ 69
  · rw [if_pos h1] at h; exact .inl ⟨by simpa using h1, h.symm⟩
  rw [if_neg h1] at h
  have g1 : b0 = 69 := by omega
  by_cases h2 : (b1 : Int) ≠ 0
  · rw [if_pos h2] at h; exact .inr (.inl ⟨g1, by simpa using h2, h.symm⟩)
  rw [if_neg h2] at h
  have g2 : b1 = 0 := by omega
  by_cases h3 : 32768 ≤ fl
  · rw [if_pos h3] at h; exact .inr (.inr (.inl ⟨g1, g2, by omega, h.symm⟩))
  rw [if_neg h3] at h
  by_cases h4 : n < all
  · rw [if_pos h4] at h; exact .inr (.inr (.inr (.inl ⟨g1, g2, by omega, h4, h.symm⟩)))
  rw [if_neg h4] at h
  by_cases h5 : all < n
  · rw [if_pos h5] at h; exact .inr (.inr (.inr (.inr (.inl ⟨g1, g2, by omega, h5, h.symm⟩))))
  rw [if_neg h5] at h
  by_cases h6 : ck ≠ (told : Int)
  · rw [if_pos h6] at h; exact .inr (.inr (.inr (.inr (.inr (.inl ⟨g1, g2, by omega, by omega, by omega, by simpa using h6, h.symm⟩)))))
  rw [if_neg h6] at h
  exact .inr (.inr (.inr (.inr (.inr (.inr ⟨g1, g2, by omega, by omega, by omega, by simpa using h6, h⟩)))))

def dontB (fl : Nat) : Bool := decide (fl / 16384 % 2 = 1)
def moreB (fl : Nat) : Bool := decide (fl / 8192 % 2 = 1)
theorem ofInt_64 (a : Nat) (ha : a < 9223372036854775808) : (BitVec.ofInt 64 (a : Int)).toNat = a := by
  rw [BitVec.ofInt_natCast, BitVec.toNat_ofNat]; exact Nat.mod_eq_of_lt (by omega)
theorem i64_andN (a b : Nat) (ha : a < 9223372036854775808) (hb : b < 9223372036854775808) : bits .and .i64 (a : Int) (b : Int) = ((a &&& b : Nat) : Int) := by
  have hx : a &&& b < 2 ^ 63 := Nat.and_lt_two_pow _ (by omega)
  show IntKind.i64.wrap ((BitVec.ofInt 64 (a : Int) &&& BitVec.ofInt 64 (b : Int)).toNat : Int) = _
  rw [BitVec.toNat_and, ofInt_64 a ha, ofInt_64 b hb, IntKind.wrap_i64]
  omega
theorem and_pow (n i : Nat) : n &&& 2 ^ i = if n / 2 ^ i % 2 = 1 then 2 ^ i else 0 := by
  apply Nat.eq_of_testBit_eq
  intro j
  have ht : n.testBit i = decide (n / 2 ^ i % 2 = 1) := Nat.testBit_eq_decide_div_mod_eq
  rw [Nat.testBit_and, Nat.testBit_two_pow]
  by_cases hij : i = j
  · subst hij
    by_cases hq : n / 2 ^ i % 2 = 1 <;> simp [ht, hq, Nat.testBit_two_pow]
  · by_cases hq : n / 2 ^ i % 2 = 1 <;> simp [hij, hq, Nat.testBit_two_pow]
theorem i64_bit (fl i : Nat) (h : fl ≤ 65535) (hi : i ≤ 15) : bits BinOp.and IntKind.i64 (fl : Int) ((2 ^ i : Nat) : Int) = if fl / 2 ^ i % 2 = 1 then ((2 ^ i : Nat) : Int) else 0 := by
  have h2 : 2 ^ i < 9223372036854775808 := Nat.lt_of_le_of_lt (Nat.pow_le_pow_right (by omega) hi) (by decide)
  rw [i64_andN fl (2 ^ i) (by omega) h2, and_pow]
  by_cases hq : fl / 2 ^ i % 2 = 1 <;> simp [hq]
theorem i64_low13 (fl : Nat) (h : fl ≤ 65535) : bits BinOp.and IntKind.i64 (fl : Int) 8191 = ((fl % 8192 : Nat) : Int) := by
  have h1 := i64_andN fl 8191 (by omega) (by omega)
  rw [show (8191 : Nat) = 2 ^ 13 - 1 from rfl, Nat.and_two_pow_sub_one_eq_mod] at h1
  exact h1
theorem dont_bit (fl : Nat) (h : fl ≤ 65535) : decide (0 < bits BinOp.and IntKind.i64 (fl : Int) 16384) = dontB fl := by
  have := i64_bit fl 14 h (by omega)
  rw [show ((2 ^ 14 : Nat) : Int) = 16384 from rfl, show 2 ^ 14 = 16384 from rfl] at this
  rw [this, dontB]
  by_cases hq : fl / 16384 % 2 = 1 <;> simp [hq]
theorem more_bit (fl : Nat) (h : fl ≤ 65535) : decide (0 < bits BinOp.and IntKind.i64 (fl : Int) 8192) = moreB fl := by
  have := i64_bit fl 13 h (by omega)
  rw [show ((2 ^ 13 : Nat) : Int) = 8192 from rfl, show 2 ^ 13 = 8192 from rfl] at this
  rw [this, moreB]
  by_cases hq : fl / 8192 % 2 = 1 <;> simp [hq]
end Go.Proofs.Ythjigajielhkfaa
