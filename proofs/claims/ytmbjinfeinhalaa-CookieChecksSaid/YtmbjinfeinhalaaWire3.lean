/- Append16, Append32: what else has turned: the row's own block alone. -/
import Derived.Test.YtmbjinfeinhalaaWire2
namespace Go.Proofs.Ytmbjinfeinhalaa
open Go.RowKit
set_option linter.unusedVariables false

theorem wire_Append16G (B : Nat) (v : Value) (l : List UInt8) (n : Int) (w : World) (hB : B ≤ w.heap.size) (hv : Row w B v l) (hl : l.length ≤ 1000000) (h0 : 0 ≤ n) (h1 : n ≤ 65535) :
    Calls Try.prog 97 #[v, .int .u16 n] w fun e w' => ∃ v', e = .returned v' ∧ Row w' B v' (l ++ bigL n 2) ∧ w.grownBy w' v.ownBlock ∧ (v'.ownBlock = v.ownBlock ∨ ∀ k, v'.ownBlock = some k → w.heap.size ≤ k) := by
  obtain ⟨i, hi, hz0, hz1, hz2⟩ := info_parts info_u8
  have hrd : Reads (w.alloc (.cells #[.int .u8 (n / 256), .int .u8 (n % 256)] 5)) (w.heap.size + 1) 1 (some ⟨w.heap.size, 0, none⟩) 2 (cells8 (bigL n 2)) := by
    refine ⟨by rw [cells8_length, bigL_length], fun _ => ⟨_, rfl, Nat.lt_succ_self _, ?_⟩⟩
    rw [cells8_big2 n h0 h1]
    exact new_cells w _ _
  have HRD := Lib.hid hrd
  clear hrd
  go_enter Try.func97, Try.ntmps97
  have hlen := cells8_length l
  go_wp2_with (at_builtin; refine wpList_append_any _ rfl (.tmp 5) (.tmp 11) 123 rfl B 5 i (.int .u8 0) 1 1 Try.underlying123 hi hz0 hz1 hz2 rfl (by decide) v l.length (cells8 l) rfl (hv.alloc _) (w.heap.size + 1) (some ⟨w.heap.size, 0, none⟩) 2 2 (cells8 (bigL n 2)) rfl HRD.out cells8_cells ?c3 ?c4 ?c5 ?_)
  case c3 => unfold maxLen; omega
  case c4 => omega
  case c5 => simp; omega
  intro v' w1 hown hgrow hat
  go_wp2
  go_ret
  refine ⟨v', rfl, ?_, ?_, ?_⟩
  · show World.ownsRow _ _ _ _ _ _ _
    rw [cells8_append, List.length_append, bigL_length]
    exact hown
  · exact ⟨hgrow.os, hgrow.tape, hgrow.output, Nat.le_trans (by simp) hgrow.size, fun k hk hne => (hgrow.block k (by simp; omega) hne).trans (Below.heap_alloc w _ k hk)⟩
  · rcases hat with h | h
    · exact .inl h
    · right
      intro k hk
      rw [hk] at h
      injection h with h
      rw [h]
      simp

theorem grown_two {w w1 w2 : World} {a b : Option Nat} (h : w.grownBy w1 a) (k : w1.grownBy w2 b) (hb : b = a ∨ ∀ j, b = some j → w.heap.size ≤ j) : w.grownBy w2 a :=
  ⟨k.os.trans h.os, k.tape.trans h.tape, k.output.trans h.output, Nat.le_trans h.size k.size, fun i hi hne => (k.block i (Nat.lt_of_lt_of_le hi h.size) (by
    rcases hb with rfl | hb
    · exact hne
    · intro e
      have := hb i e.symm
      omega)).trans (h.block i hi hne)⟩

theorem wire_Append32G (B : Nat) (v : Value) (l : List UInt8) (n : Int) (w : World) (hB : B ≤ w.heap.size) (hv : Row w B v l) (hl : l.length ≤ 999990) (h0 : 0 ≤ n) (h1 : n ≤ 4294967295) :
    Calls Try.prog 98 #[v, .int .u32 n] w fun e w' => ∃ v', e = .returned v' ∧ Row w' B v' (l ++ bigL n 4) ∧ w.grownBy w' v.ownBlock ∧ (v'.ownBlock = v.ownBlock ∨ ∀ k, v'.ownBlock = some k → w.heap.size ≤ k) := by
  have HV := Lib.hid hv
  have hw := u16_wrap n
  clear hv
  go_enter Try.func98, Try.ntmps98
  go_wp2_with fail
  refine (wire_Append16G B v l _ w hB HV.out (by omega) (by omega) (by omega)).mono ?_
  rintro e w1 ⟨v1, rfl, hv1, hg1, ha1⟩
  have HV1 := Lib.hid hv1
  have HG1 := Lib.hid hg1
  have HA1 := Lib.hid ha1
  clear hv1 hg1 ha1
  go_wp2_with fail
  refine (wire_Append16G B v1 (l ++ bigL (n / 65536) 2) _ w1 (Nat.le_trans hB HG1.out.size) HV1.out (by rw [List.length_append, bigL_length]; omega) (by omega) (by omega)).mono ?_
  rintro e w2 ⟨v2, rfl, hv2, hg2, ha2⟩
  have HV2 := Lib.hid hv2
  have HG2 := Lib.hid hg2
  have HA2 := Lib.hid ha2
  clear hv2 hg2 ha2
  go_wp2_with fail
  go_ret
  refine ⟨v2, rfl, ?_, grown_two HG1.out HG2.out HA1.out, ?_⟩
  · rw [bigL_four, ← List.append_assoc]
    exact HV2.out
  · rcases HA2.out with h | h
    · rw [h]
      exact HA1.out
    · exact .inr fun k hk => Nat.le_trans HG1.out.size (h k hk)
end Go.Proofs.Ytmbjinfeinhalaa
