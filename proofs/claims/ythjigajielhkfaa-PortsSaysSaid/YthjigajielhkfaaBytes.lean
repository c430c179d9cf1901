/- Bytes and strings: a string of a list of bytes; the reference's chr, num, big. -/
import Derived.Test.YthjigajielhkfaaRows1
import Derived.BigQuiet
import Derived.Deep.QuietTactic
import Derived.Lib.Strings
namespace Go.Proofs.Ythjigajielhkfaa
open Go.RowKit
set_option linter.unusedVariables false

theorem ret_str {a b : ByteArray} (h : a = b) : Ending.returned (.string a) = .returned (.string b) := by rw [h]
/-- The string of these bytes. -/
def bs (l : List UInt8) : ByteArray := ⟨l.toArray⟩
theorem bs_data (l : List UInt8) : (bs l).data.toList = l := rfl
theorem bs_size (l : List UInt8) : (bs l).size = l.length := rfl
theorem bs_of (s : ByteArray) : bs s.data.toList = s := Lib.mk_data s
theorem bs_append (l m : List UInt8) : bs l ++ bs m = bs (l ++ m) := by
  apply ByteArray.ext
  simp [bs]
theorem bs_inj {l m : List UInt8} (h : bs l = bs m) : l = m := by
  have := congrArg (fun s : ByteArray => s.data.toList) h
  simpa [bs] using this
theorem bs_eq {s : ByteArray} {l : List UInt8} (h : s.data.toList = l) : s = bs l := by rw [← h, bs_of]
/-- The byte of a number. -/
def byt (n : Int) : UInt8 := UInt8.ofNat n.toNat
theorem u8_nat {n : Int} (h : 0 ≤ n) (h' : n ≤ 255) : ((byt n).toNat : Int) = n := by
  have h1 : n.toNat < 256 := by omega
  simp [byt, UInt8.toNat_ofNat']
  omega
theorem u8_toNat (b : UInt8) : byt (b.toNat : Int) = b := by simp [byt]

theorem ref_chr (n : Int) (w : World) (h : 0 ≤ n) (h' : n ≤ 255) :
    Calls Try.prog 130 #[.int .i64 n] w fun e w' => e = .returned (.string (bs [byt n])) ∧ Below w.heap.size w w' := by
  have hcv : Sem.run Try.prog (convert 156 9 (.slice (some ⟨w.heap.size, 0, none⟩) 1 1)) (w.alloc (.cells #[.int .u8 n] 5)) = .ok (.string (bs [byt n])) (w.alloc (.cells #[.int .u8 n] 5)) := by
    refine run_convert_bytes_back _ _ _ 5 _ 1 [byt n] Try.underlying156 Try.underlying5 Try.underlying9 ?_
    intro j hj
    obtain rfl : j = 0 := by simp at hj; omega
    simp [u8_nat h h', Addr.add]
  go_enter Try.func130, Try.ntmps130
  go_wp2
  go_ret
  exact ⟨rfl, by go_grown⟩
/-- A number's bytes, the highest first. -/
def bigL : Int → Nat → List UInt8
  | _, 0 => []
  | n, k + 1 => bigL (n / 256) k ++ [byt (n % 256)]
theorem bigL_length : ∀ (k : Nat) (n : Int), (bigL n k).length = k
  | 0, _ => rfl
  | k + 1, n => by simp [bigL, bigL_length k]

set_option maxHeartbeats 400000 in
theorem ref_big (k : Nat) : ∀ (n : Int) (w : World), k ≤ 8 → 0 ≤ n → n ≤ 18446744073709551615 →
    Calls Try.prog 129 #[.int .u64 n, .int .i64 k] w fun e w' => e = .returned (.string (bs (bigL n k))) ∧ Below w.heap.size w w' := by
  induction k with
  | zero =>
    intro n w hk h h'
    go_enter Try.func129, Try.ntmps129
    go_wp2_with fail
    go_ret
    exact ⟨rfl, Below.refl _ _⟩
  | succ k ih =>
    intro n w hk h h'
    have IH := Lib.hid ih
    clear ih
    have hs1 : (bs (bigL (n / 256) k)).size ≤ 8 := by rw [bs_size, bigL_length]; omega
    have hs2 : (bs [byt (n % 256)]).size ≤ 1 := by rw [bs_size]; simp
    go_enter Try.func129, Try.ntmps129
    go_wp2_with (first
      | (go_at_call 129; refine (IH.out _ _ (by omega) (by omega) (by omega)).mono ?_; rintro e w1 ⟨rfl, hb1⟩)
      | (go_at_call 130; refine (ref_chr _ _ (by omega) (by omega)).mono ?_; rintro e w2 ⟨rfl, hb2⟩))
    go_ret
    exact ⟨ret_str (bs_append _ _), hb1.trans (hb2.mono hb1.size)⟩

/-- The number that bytes say, the highest first. -/
def numL (l : List UInt8) : Nat := l.foldl (fun a b => a * 256 + b.toNat) 0
theorem numL_snoc (l : List UInt8) (b : UInt8) : numL (l ++ [b]) = numL l * 256 + b.toNat := by simp [numL]
theorem numL_go : ∀ (l : List UInt8) (a : Nat), l.foldl (fun a b => a * 256 + b.toNat) a < (a + 1) * 256 ^ l.length
  | [], a => by simp
  | b :: l, a => by
    have hb := b.toNat_lt
    have h2 := numL_go l (a * 256 + b.toNat)
    refine Nat.lt_of_lt_of_le h2 ?_
    rw [List.length_cons, Nat.pow_succ, Nat.mul_comm (256 ^ l.length) 256, ← Nat.mul_assoc]
    exact Nat.mul_le_mul_right _ (by omega)
theorem numL_bd (l : List UInt8) : numL l < 256 ^ l.length := by have := numL_go l 0; rwa [Nat.zero_add, Nat.one_mul] at this
theorem numL_le {l : List UInt8} {k : Nat} (h : l.length ≤ k) : numL l < 256 ^ k :=
  Nat.lt_of_lt_of_le (numL_bd l) (Nat.pow_le_pow_right (by omega) h)

theorem take_last (l : List UInt8) (k : Nat) (h : k < l.length) : l.take (k + 1) = l.take k ++ [l[k]] := by
  rw [List.take_succ_eq_append_getElem (by simpa using h)]

theorem getElem_data (s : ByteArray) (j : Nat) (h : j < s.size) (h' : j < s.data.toList.length) : s.data.toList[j] = s[j] := by
  simp [ByteArray.getElem_eq_getElem_data]

/-- 's[:j]' and 's[j]' of a string, as the walk meets them. -/
theorem run_str_to (s : ByteArray) (j : Nat) (h : j ≤ s.size) (W : World) : (Instr.slice 9 (.string s) none (some (.int .i64 (j : Int))) none).run Try.prog W = .ok (.string (s.extract 0 j)) W := by
  have := run_slice_string_h (P := Try.prog) (w := W) (t := 9) (s := s) Try.underlying9 .i64 (j : Int) (by omega) (by omega)
  simpa using this
theorem run_str_at (s : ByteArray) (j : Nat) (h : j < s.size) (W : World) : (Instr.index 9 (.string s) (.int .i64 (j : Int))).run Try.prog W = .ok (.int .u8 (s[j].toNat : Int)) W := by
  have := run_index_string (P := Try.prog) (w := W) 9 s .i64 (j : Int) Try.underlying9
  rw [dif_pos ⟨by omega, by omega⟩] at this
  simpa using this

/-- The step of 'num', over plain numbers: 'N': what the bytes ahead of the last one say; 'B': the last one. -/
theorem num_core (s : ByteArray) (j N B : Nat) (w : World) (hj : s.size = j + 1) (hj7 : j ≤ 7) (hN : N ≤ 72057594037927935) (hB : B ≤ 255) (hat : ∀ W, (Instr.index 9 (.string s) (.int .i64 (j : Int))).run Try.prog W = .ok (.int .u8 (B : Int)) W)
    (hc : ∀ w, Calls Try.prog 124 #[.string (s.extract 0 j)] w fun e w' => e = .returned (.int .u64 (N : Int)) ∧ ∃ n, w' = w.drewN n) :
    Calls Try.prog 124 #[.string s] w fun e w' => e = .returned (.int .u64 ((N * 256 + B : Nat) : Int)) ∧ ∃ n, w' = w.drewN n := by
  rw [show ((N * 256 + B : Nat) : Int) = (N : Int) * 256 + (B : Int) from by omega]
  have HQ := Lib.hid hc
  clear hc
  have h1 : s.toList.isEmpty = false := by
    rw [Lib.toList_data]
    have := Lib.size_eq s
    rw [List.isEmpty_eq_false_iff]
    intro h0
    rw [h0, List.length_nil] at this
    omega
  have hsl := run_str_to s j (by omega)
  have e1 : IntKind.u64.wrap ((N : Int) * 256) = (N : Int) * 256 := IntWalk.u64_in _ (by omega)
  have e2 : IntKind.u64.wrap ((N : Int) * 256 + (B : Int)) = (N : Int) * 256 + (B : Int) := IntWalk.u64_in _ (by omega)
  have e3 : IntKind.u64.wrap (B : Int) = (B : Int) := IntWalk.u64_in _ (by omega)
  go_enter Try.func124, Try.ntmps124
  go_wp2_with fail
  go_quiet ((go_at_call 124; exact Calls.quiet_of (HQ.out _)))
  go_wp2
  go_ret
  exact ⟨rfl, _, rfl⟩

theorem ref_num (k : Nat) : ∀ (s : ByteArray) (w : World), k ≤ 8 → s.size ≤ k →
    Calls Try.prog 124 #[.string s] w fun e w' => e = .returned (.int .u64 (numL s.data.toList : Int)) ∧ ∃ n, w' = w.drewN n := by
  induction k with
  | zero =>
    intro s w hk h
    have h0 : s.data.toList = [] := by
      have := Lib.size_eq s
      exact List.length_eq_zero_iff.1 (by omega)
    have h1 : s.toList.isEmpty = true := by rw [Lib.toList_data, h0]; rfl
    have H0 := Lib.hid h0
    clear h0
    go_enter Try.func124, Try.ntmps124
    go_wp2_with fail
    go_ret
    exact ⟨ret_int (by rw [H0.out]; rfl), 0, rfl⟩
  | succ k ih =>
    intro s w hk h
    by_cases hz : s.size = 0
    · exact (ih s w (by omega) (by omega))
    · obtain ⟨j, hj⟩ : ∃ j, s.size = j + 1 := ⟨s.size - 1, by omega⟩
      have hl : s.data.toList.length = j + 1 := by rw [← hj]; exact (Lib.size_eq s).symm
      have hb2 : numL (s.data.toList.take j) ≤ 72057594037927935 := by
        have := numL_le (l := s.data.toList.take j) (k := 7) (by simp; omega)
        omega
      have hlast : numL s.data.toList = numL (s.data.toList.take j) * 256 + (s[j]'(by omega)).toNat := by
        have h2 := take_last s.data.toList j (by omega)
        rw [List.take_of_length_le (by omega)] at h2
        have h3 := congrArg numL h2
        rw [numL_snoc, getElem_data s j (by omega)] at h3
        exact h3
      have hlt := (s[j]'(by omega)).toNat_lt
      rw [hlast]
      refine num_core s j _ _ w hj (by omega) hb2 (by omega) (run_str_at s j (by omega)) (fun w => ?_)
      have := ih (s.extract 0 j) w (by omega) (by simp; omega)
      rw [Lib.extract_data] at this
      simpa using this
end Go.Proofs.Ythjigajielhkfaa
