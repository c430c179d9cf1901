/- What holds between the program's queue and the reference's, in plain words of numbers and strings. -/
import Derived.Test.YthjigajielhkfaaAtP
namespace Go.Proofs.Ythjigajielhkfaa
open Go.RowKit Sy
set_option linter.unusedVariables false
set_option linter.unusedSimpArgs false

def b1 (b : Bool) : Int := if b then 1 else 0
structure OqRel (A bytes : ByteArray) (shut : Bool) (una cur sent base n K : Int) : Prop where
  hbase : base = max 1 (min una ((A.size : Int) + 1))
  hn : n = (bytes.size : Int)
  hb : bytes = A.extract (base - 1).toNat A.size
  a0 : 0 ≤ una
  a1 : una ≤ cur
  a2 : cur ≤ sent
  a3 : sent ≤ (A.size : Int) + 1 + b1 shut
  s1 : (bytes.size : Int) ≤ 2048
  s0 : (A.size : Int) ≤ K
section
variable {A bytes : ByteArray} {shut : Bool} {una cur sent base n K : Int}
theorem b1_bd (b : Bool) : 0 ≤ b1 b ∧ b1 b ≤ 1 := by cases b <;> decide
theorem OqRel.size (h : OqRel A bytes shut una cur sent base n K) : (bytes.size : Int) = (A.size : Int) + 1 - base ∧ 1 ≤ base ∧ base ≤ (A.size : Int) + 1 := by
  obtain ⟨h1, h2, h3, h4, h5, h6, h7, h8, h9⟩ := h
  have e : (A.extract (base - 1).toNat A.size).size = A.size - (base - 1).toNat := by simp
  rw [← h3] at e
  omega
theorem OqRel.mono (h : OqRel A bytes shut una cur sent base n K) {K' : Int} (hK : K ≤ K') : OqRel A bytes shut una cur sent base n K' := ⟨h.hbase, h.hn, h.hb, h.a0, h.a1, h.a2, h.a3, h.s1, Int.le_trans h.s0 hK⟩
theorem extract_app_end (A x : ByteArray) {i : Nat} (h : i ≤ A.size) : (A ++ x).extract i (A ++ x).size = A.extract i A.size ++ x := by
  apply ByteArray.ext
  apply Array.ext'
  have hl : A.data.toList.length = A.size := rfl
  have hx : x.data.toList.length = x.size := rfl
  simp only [ByteArray.data_append, Array.toList_append, ByteArray.data_extract, Array.toList_extract, List.extract_eq_take_drop, ByteArray.size_append]
  rw [List.drop_append_of_le_length (by omega), List.take_append, List.take_of_length_le (l := A.data.toList.drop i) (by simp; omega), List.take_of_length_le (l := x.data.toList) (by simp; omega), List.take_of_length_le (l := A.data.toList.drop i) (by simp)]
theorem OqRel.write (h : OqRel A bytes shut una cur sent base n K) (x : ByteArray) (hx : shut = true → x.size = 0) (hn : (x.size : Int) ≤ 2048 - n) : OqRel (A ++ x) (bytes ++ x) shut una cur sent base (n + x.size) (K + 2048) := by
  have hs := h.size
  obtain ⟨h1, h2, h3, h4, h5, h6, h7, h8, h9⟩ := h
  have hb := b1_bd shut
  have hA : ((A ++ x).size : Int) = (A.size : Int) + x.size := by rw [ByteArray.size_append]; omega
  have hB : ((bytes ++ x).size : Int) = (bytes.size : Int) + x.size := by rw [ByteArray.size_append]; omega
  refine ⟨?_, by rw [hB]; omega, ?_, h4, h5, h6, by rw [hA]; omega, by rw [hB]; omega, by rw [hA]; omega⟩
  · rw [hA]
    cases shut with
    | true =>
      have := hx rfl
      rw [this]
      omega
    | false =>
      have : b1 false = 0 := rfl
      omega
  · rw [extract_app_end A x (by omega), ← h3]
theorem OqRel.close (h : OqRel A bytes shut una cur sent base n K) : OqRel A bytes true una cur sent base n K := by
  have hb := b1_bd shut
  refine ⟨h.hbase, h.hn, h.hb, h.a0, h.a1, h.a2, ?_, h.s1, h.s0⟩
  have := h.a3
  show sent ≤ (A.size : Int) + 1 + 1
  omega
theorem OqRel.back (h : OqRel A bytes shut una cur sent base n K) : OqRel A bytes shut una una sent base n K := ⟨h.hbase, h.hn, h.hb, h.a0, Int.le_refl _, Int.le_trans h.a1 h.a2, h.a3, h.s1, h.s0⟩
theorem OqRel.next (h : OqRel A bytes shut una cur sent base n K) {c : Int} (h0 : cur ≤ c) (h1 : c ≤ (A.size : Int) + 1 + b1 shut) : OqRel A bytes shut una c (max sent c) base n K := by
  have a1 := h.a1
  have a2 := h.a2
  have a3 := h.a3
  exact ⟨h.hbase, h.hn, h.hb, h.a0, by omega, by omega, by omega, h.s1, h.s0⟩
theorem OqRel.ack0 (h : OqRel A bytes shut una cur sent base n K) {k : Int} (h0 : una < k) (h1 : k ≤ sent) (h2 : min (base + n) k - base ≤ 0) : OqRel A bytes shut k (max cur k) sent base n K := by
  have hs := h.size
  obtain ⟨g1, g2, g3, g4, g5, g6, g7, g8, g9⟩ := h
  exact ⟨by omega, g2, g3, by omega, by omega, by omega, g7, g8, g9⟩
set_option maxHeartbeats 2000000 in
theorem OqRel.ack1 (h : OqRel A bytes shut una cur sent base n K) {k d : Int} (h0 : una < k) (h1 : k ≤ sent) (hd : d = min (base + n) k - base) (h2 : 0 < d) {e n' : Int} (he : e = n) (hn' : n' = ((bytes.extract d.toNat e.toNat).size : Int)) :
    OqRel A (bytes.extract d.toNat e.toNat) shut k (max cur k) sent (base + d) n' K := by
  have hs := h.size
  obtain ⟨g1, g2, g3, g4, g5, g6, g7, g8, g9⟩ := h
  have hz : (bytes.extract d.toNat e.toNat).size = bytes.size - d.toNat := by simp; omega
  have q1 : base + d = max 1 (min k ((A.size : Int) + 1)) := by clear hn' hz; omega
  refine ⟨q1, hn', ?_, by omega, by omega, by omega, g7, by rw [hz]; omega, g9⟩
  clear q1 hn'
  rw [he, g2, Int.toNat_natCast, show (base + d - 1).toNat = (base - 1).toNat + d.toNat from by omega]
  rw [g3]
  apply ByteArray.ext
  simp only [ByteArray.data_extract, Array.extract_extract]
  congr 1
  have : (A.extract (base - 1).toNat A.size).size = A.size - (base - 1).toNat := by simp
  omega
/-- What is told of a piece. -/
theorem pcV_parts (h : OqRel A bytes shut una cur sent base n K) {lo limit mss : Int} (h0 : una ≤ lo) (h1 : lo ≤ (A.size : Int) + 1 + b1 shut) :
    ∃ (at' : Int) (syn fin : Bool) (body : ByteArray) (is : Bool), pcV ((A.size : Int) + 1) shut lo limit mss (A.extract (lo - 1).toNat (lo - 1 + pcM ((A.size : Int) + 1) lo limit mss).toNat) = .tuple #[.agg #[.int .i64 at', .bool syn, .bool fin, .string body], .bool is] ∧
      lo + (body.size : Int) + b1 syn + b1 fin ≤ (A.size : Int) + 1 + b1 shut ∧ (body.size : Int) ≤ A.size := by
  have hb := b1_bd shut
  have h4 := h.a0
  by_cases c : limit ≤ lo ∨ (A.size : Int) + 1 + (if shut then 1 else 0) ≤ lo ∨ mss < 1
  · rw [pcV_none c]
    refine ⟨0, false, false, none8, false, rfl, ?_, ?_⟩
    · show lo + ((0 : Nat) : Int) + 0 + 0 ≤ _
      omega
    · show ((0 : Nat) : Int) ≤ _
      omega
  · by_cases l0 : lo = 0
    · rw [pcV_syn c l0]
      refine ⟨0, true, false, none8, true, rfl, ?_, ?_⟩
      · show lo + ((0 : Nat) : Int) + 1 + 0 ≤ _
        omega
      · show ((0 : Nat) : Int) ≤ _
        omega
    · rw [pcV_body c l0]
      have hsz : ((A.extract (lo - 1).toNat (lo - 1 + pcM ((A.size : Int) + 1) lo limit mss).toNat).size : Int) = pcM ((A.size : Int) + 1) lo limit mss := by
        simp only [ByteArray.size_extract]
        unfold pcM
        omega
      refine ⟨lo, false, _, _, true, rfl, ?_, ?_⟩
      · rw [hsz]
        show lo + _ + 0 + b1 _ ≤ _
        unfold b1
        cases shut with
        | false =>
          simp only [Bool.false_and, Bool.false_eq_true, if_false] at c ⊢
          unfold pcM
          omega
        | true =>
          simp only [Bool.true_and, if_true, decide_eq_true_eq] at c ⊢
          split <;> unfold pcM <;> omega
      · rw [hsz]
        unfold pcM
        omega
/-- Both pieces are the same. -/
theorem pc_cut (h : OqRel A bytes shut una cur sent base n K) {lo limit mss : Int} (h0 : una ≤ lo) (h2 : 1 ≤ lo) :
    A.extract (lo - 1).toNat (lo - 1 + pcM ((A.size : Int) + 1) lo limit mss).toNat = bytes.extract (lo - base).toNat (lo - base + pcM (base + bytes.size) lo limit mss).toNat := by
  have hs := h.size
  obtain ⟨g1, g2, g3, g4, g5, g6, g7, g8, g9⟩ := h
  rw [show base + (bytes.size : Int) = (A.size : Int) + 1 from by omega]
  have hb : base ≤ lo := by omega
  have hm : 0 ≤ pcM ((A.size : Int) + 1) lo limit mss ∧ (pcM ((A.size : Int) + 1) lo limit mss = 0 ∨ lo + pcM ((A.size : Int) + 1) lo limit mss ≤ (A.size : Int) + 1) := by
    unfold pcM
    omega
  generalize pcM ((A.size : Int) + 1) lo limit mss = m at hm ⊢
  rw [g3]
  apply ByteArray.ext
  simp only [ByteArray.data_extract, Array.extract_extract]
  rcases hm.2 with hm0 | hm1
  · rw [hm0]
    rw [Array.extract_empty_of_stop_le_start (by omega), Array.extract_empty_of_stop_le_start (by omega)]
  · congr 1
    · omega
    · omega
end
end Go.Proofs.Ythjigajielhkfaa
