/- The walks of the laws SumSums, SumChanges; contracts of Join and Update. -/
import Derived.Test.YtdpapkcibpcmjaaSumWalks
namespace Go.Proofs.Ytdpapkcibpcmjaa
open Go.RowKit
set_option linter.unusedVariables false

theorem walk_sumSums (s : ByteArray) (hs : s.size ≤ 140737488351232) (w : World) :
    Calls Try.prog 7 #[.string s] w fun e w' => e = .returned (.bool true) ∧ Below w.heap.size w w' := by
  have hl := sumN_le s.data.toList
  obtain ⟨c, hc⟩ : ∃ c, c = sumN s.data.toList := ⟨_, rfl⟩
  have h1 := Lib.hid (fun w => sum_Sum s w (by omega))
  have h2 := Lib.hid (fun w => ref_Sum s w (by omega))
  have h3 := Lib.hid (fun w => sum_Check s w (by omega))
  rw [← hc] at h1 h2 h3 hl
  clear hc
  go_enter Try.func7, Try.ntmps7
  go_wp2_with fail
  refine (h1.out _).mono ?_
  rintro e w1 ⟨rfl, n1, rfl⟩
  go_wp2_with fail
  refine (h2.out _).mono ?_
  rintro e w2 ⟨rfl, hb2⟩
  go_wp2_with fail
  refine (h3.out _).mono ?_
  rintro e w3 ⟨rfl, n3, rfl⟩
  go_wp2_with fail
  refine (h2.out _).mono ?_
  rintro e w4 ⟨rfl, hb4⟩
  go_wp2
  go_ret
  have hb2' : Below w.heap.size w w2 := (below_drewN (Below.refl _ _) n1).trans hb2
  exact ⟨by simp, (below_drewN hb2' n3).trans (hb4.mono (by simpa using hb2'.size))⟩

/-- The two bytes of a word, the other way round. -/
def swapN (b : Nat) : Nat := b % 256 * 256 + b / 256
theorem u16_swap (b : Nat) (h : b ≤ 65535) : bits BinOp.or IntKind.u16 (IntKind.u16.wrap ((b : Int) * 256)) ((b : Int) / 256) = (swapN b : Int) := by
  have h1 := u16_or_nat (b % 256 * 256) (b / 256) (by omega) (by omega)
  rw [nat_join 8 _ _ (by omega) (by omega)] at h1
  rw [IntKind.wrap_u16, show ((b : Int) * 256 % 65536) = ((b % 256 * 256 : Nat) : Int) from by omega, show (b : Int) / 256 = ((b / 256 : Nat) : Int) from by omega, h1]
  rfl
theorem u16_swap' (b : Nat) (h : b ≤ 65535) : bits BinOp.or IntKind.u16 ((b : Int) / 256) (IntKind.u16.wrap ((b : Int) * 256)) = (swapN b : Int) := by
  have h1 := u16_or_nat (b / 256) (b % 256 * 256) (by omega) (by omega)
  rw [Nat.or_comm, nat_join 8 _ _ (by omega) (by omega)] at h1
  rw [IntKind.wrap_u16, show ((b : Int) * 256 % 65536) = ((b % 256 * 256 : Nat) : Int) from by omega, show (b : Int) / 256 = ((b / 256 : Nat) : Int) from by omega, h1]
  rfl
theorem swapN_le (b : Nat) (h : b ≤ 65535) : swapN b ≤ 65535 := by unfold swapN; omega

theorem bits_ReverseBytes16 (b : Nat) (w : World) (h : b ≤ 65535) :
    Calls Try.prog 67 #[.int .u16 b] w fun e w' => e = .returned (.int .u16 (swapN b : Int)) ∧ w = w' := by
  have e1 := u16_swap' b h
  go_enter Try.func67, Try.ntmps67
  go_wp2
  go_ret
  exact ⟨rfl, rfl⟩

/-- The second word as it stands, or the other way round. -/
def turnN (odd : Bool) (b : Nat) : Nat := if odd = true then swapN b else b
theorem sum_Join (a b : Nat) (odd : Bool) (w : World) (ha : a ≤ 65535) (hb : b ≤ 65535) :
    Calls Try.prog 27 #[.int .u16 a, .bool odd, .int .u16 b] w fun e w' => e = .returned (.int .u16 (foldN (a + turnN odd b) : Int)) ∧ w = w' := by
  have hl := swapN_le b hb
  cases odd with
  | true =>
    go_enter Try.func27, Try.ntmps27
    go_wp2_with (first | (go_at_call 67; refine (bits_ReverseBytes16 _ _ hb).mono ?_; rintro e w1 ⟨rfl, rfl⟩) | (go_at_call 64; refine (sum_foldI _ _ (by omega) (by omega)).mono ?_; rintro e w1 ⟨rfl, rfl⟩))
    go_ret
    exact ⟨rfl, rfl⟩
  | false =>
    go_enter Try.func27, Try.ntmps27
    go_wp2_with (go_at_call 64; refine (sum_foldI _ _ (by omega) (by omega)).mono ?_; rintro e w1 ⟨rfl, rfl⟩)
    go_ret
    exact ⟨rfl, rfl⟩

theorem bigL_two (n : Nat) (h : n ≤ 65535) : bigL n 2 = [u8 ((n : Int) / 256), u8 ((n : Int) % 256)] := by
  simp only [bigL, List.nil_append, List.cons_append]
  rw [show (n : Int) / 256 % 256 = (n : Int) / 256 from by omega]
theorem u8_natN {n : Int} (h : 0 ≤ n) (h' : n ≤ 255) : (u8 n).toNat = n.toNat := by have := u8_nat h h'; omega
theorem words_big (n : Nat) (l : List UInt8) (h : n ≤ 65535) : wordsN (bigL n 2 ++ l) = n + wordsN l := by
  rw [bigL_two n h]
  show (u8 ((n : Int) / 256)).toNat * 256 + (u8 ((n : Int) % 256)).toNat + wordsN l = _
  rw [u8_natN (by omega) (by omega), u8_natN (by omega) (by omega)]
  omega
theorem sum_two (a b : Nat) (ha : a ≤ 65535) (hb : b ≤ 65535) : sumN (bigL a 2 ++ bigL b 2) = foldN (a + b) := by
  have h := words_big b [] hb
  rw [List.append_nil] at h
  rw [sumN, words_big a _ ha, h]
  rfl

theorem ref_SumJoin (a b : Nat) (odd : Bool) (w : World) (ha : a ≤ 65535) (hb : b ≤ 65535) :
    Calls Try.prog 28 #[.int .u16 a, .bool odd, .int .u16 b] w fun e w' => e = .returned (.int .u16 (foldN (a + turnN odd b) : Int)) ∧ Below w.heap.size w w' := by
  have hl := swapN_le b hb
  have hz : ∀ n : Nat, (bs (bigL n 2)).size ≤ 2 := fun n => by rw [bs_size, bigL_length]; omega
  have key : ∀ c : Nat, c ≤ 65535 → ∀ w, Calls Try.prog 25 #[.string (bs (bigL a 2) ++ bs (bigL c 2))] w fun e w' => e = .returned (.int .u16 (foldN (a + c) : Int)) ∧ Below w.heap.size w w' := by
    intro c hc w
    have := ref_Sum (bs (bigL a 2) ++ bs (bigL c 2)) w (by have := hz a; have := hz c; rw [ByteArray.size_append]; omega)
    rw [bs_append, bs_data, sum_two a c ha hc, ← bs_append] at this
    exact this
  have HK := Lib.hid key
  clear key
  cases odd with
  | true =>
    have e1 := u16_swap b hb
    have hza := hz a
    have hzb := hz (swapN b)
    clear hz
    go_enter Try.func28, Try.ntmps28
    go_wp2_with fail
    refine (ref_big 2 _ _ (by omega) (by omega) (by omega)).mono ?_
    rintro e w1 ⟨rfl, hb1⟩
    go_wp2_with fail
    refine (ref_big 2 _ _ (by omega) (by omega) (by omega)).mono ?_
    rintro e w2 ⟨rfl, hb2⟩
    go_wp2_with fail
    refine (HK.out (swapN b) hl _).mono ?_
    rintro e w3 ⟨rfl, hb3⟩
    go_wp2
    go_ret
    have hb12 := hb1.trans (hb2.mono hb1.size)
    exact ⟨rfl, hb12.trans (hb3.mono hb12.size)⟩
  | false =>
    have hza := hz a
    have hzb := hz b
    clear hz
    go_enter Try.func28, Try.ntmps28
    go_wp2_with fail
    refine (ref_big 2 _ _ (by omega) (by omega) (by omega)).mono ?_
    rintro e w1 ⟨rfl, hb1⟩
    go_wp2_with fail
    refine (ref_big 2 _ _ (by omega) (by omega) (by omega)).mono ?_
    rintro e w2 ⟨rfl, hb2⟩
    go_wp2_with fail
    refine (HK.out b hb _).mono ?_
    rintro e w3 ⟨rfl, hb3⟩
    go_wp2
    go_ret
    have hb12 := hb1.trans (hb2.mono hb1.size)
    exact ⟨rfl, hb12.trans (hb3.mono hb12.size)⟩

theorem u16_notI (n : Int) (h : 0 ≤ n) (h' : n ≤ 65535) : bits BinOp.xor IntKind.u16 IntKind.u16.max n = 65535 - n := by
  obtain ⟨k, rfl⟩ := Int.eq_ofNat_of_zero_le h
  exact u16_not k (by omega)

theorem sum_Update (a b c : Nat) (w : World) (ha : a ≤ 65535) (hb : b ≤ 65535) (hc : c ≤ 65535) :
    Calls Try.prog 29 #[.int .u16 a, .int .u16 b, .int .u16 c] w fun e w' => e = .returned (.int .u16 (65535 - (foldN ((65535 - a) + (65535 - b) + c) : Int))) ∧ w = w' := by
  have e1 := u16_not a ha
  have e2 := u16_not b hb
  have hl := foldN_le ((65535 - a) + (65535 - b) + c)
  obtain ⟨f, hf⟩ : ∃ f, f = foldN ((65535 - a) + (65535 - b) + c) := ⟨_, rfl⟩
  rw [← hf] at hl ⊢
  have HF := Lib.hid hf
  clear hf
  have e3 := u16_not f hl
  have g1 : IntKind.u64.wrap (65535 - (a : Int)) = 65535 - (a : Int) := IntWalk.u64_in _ (by omega)
  have g2 : IntKind.u64.wrap (65535 - (b : Int)) = 65535 - (b : Int) := IntWalk.u64_in _ (by omega)
  have g3 : IntKind.u64.wrap (65535 - (a : Int) + (65535 - (b : Int))) = 65535 - (a : Int) + (65535 - (b : Int)) := IntWalk.u64_in _ (by omega)
  have g4 : IntKind.u64.wrap (65535 - (a : Int) + (65535 - (b : Int)) + (c : Int)) = 65535 - (a : Int) + (65535 - (b : Int)) + (c : Int) := IntWalk.u64_in _ (by omega)
  go_enter Try.func29, Try.ntmps29
  go_wp2_with fail
  refine (sum_foldI _ _ (by omega) (by omega)).mono ?_
  rintro e w1 ⟨rfl, rfl⟩
  rw [show (65535 - (a : Int) + (65535 - (b : Int)) + (c : Int)).toNat = (65535 - a) + (65535 - b) + c from by omega, ← HF.out]
  go_wp2
  go_ret
  exact ⟨rfl, rfl⟩

theorem sum_three (a b c : Nat) (ha : a ≤ 65535) (hb : b ≤ 65535) (hc : c ≤ 65535) : sumN ((bigL a 2 ++ bigL b 2) ++ bigL c 2) = foldN (a + b + c) := by
  have h := words_big c [] hc
  rw [List.append_nil] at h
  rw [sumN, List.append_assoc, words_big a _ ha, words_big b _ hb, h]
  simp [wordsN, Nat.add_assoc]

theorem ref_SumUpdate (a b c : Nat) (w : World) (ha : a ≤ 65535) (hb : b ≤ 65535) (hc : c ≤ 65535) :
    Calls Try.prog 30 #[.int .u16 a, .int .u16 b, .int .u16 c] w fun e w' => e = .returned (.int .u16 (65535 - (foldN ((65535 - a) + (65535 - b) + c) : Int))) ∧ Below w.heap.size w w' := by
  have hz : ∀ n : Nat, (bs (bigL n 2)).size ≤ 2 := fun n => by rw [bs_size, bigL_length]; omega
  have hl := foldN_le ((65535 - a) + (65535 - b) + c)
  have key : ∀ w, Calls Try.prog 25 #[.string (bs (bigL ((65535 - a : Nat) : Int) 2) ++ bs (bigL ((65535 - b : Nat) : Int) 2) ++ bs (bigL c 2))] w fun e w' => e = .returned (.int .u16 (foldN ((65535 - a) + (65535 - b) + c) : Int)) ∧ Below w.heap.size w w' := by
    intro w
    have := ref_Sum (bs (bigL ((65535 - a : Nat) : Int) 2) ++ bs (bigL ((65535 - b : Nat) : Int) 2) ++ bs (bigL c 2)) w (by rw [bs_append, bs_append, bs_size]; simp [bigL_length])
    rw [bs_append, bs_append, bs_data, sum_three _ _ c (by omega) (by omega) hc, ← bs_append, ← bs_append] at this
    exact this
  have HK := Lib.hid key
  have hza := hz (65535 - a)
  have hzb := hz (65535 - b)
  have hzc := hz c
  clear key hz
  obtain ⟨f, hf⟩ : ∃ f, f = foldN ((65535 - a) + (65535 - b) + c) := ⟨_, rfl⟩
  rw [← hf] at hl ⊢
  have HF := Lib.hid hf
  clear hf
  go_enter Try.func30, Try.ntmps30
  go_wp2_with fail
  rw [show (65535 : Int) - (a : Int) = ((65535 - a : Nat) : Int) from by omega]
  refine (ref_big 2 _ _ (by omega) (by omega) (by omega)).mono ?_
  rintro e w1 ⟨rfl, hb1⟩
  go_wp2_with fail
  rw [show (65535 : Int) - (b : Int) = ((65535 - b : Nat) : Int) from by omega]
  refine (ref_big 2 _ _ (by omega) (by omega) (by omega)).mono ?_
  rintro e w2 ⟨rfl, hb2⟩
  go_wp2_with fail
  refine (ref_big 2 _ _ (by omega) (by omega) (by omega)).mono ?_
  rintro e w3 ⟨rfl, hb3⟩
  go_wp2_with fail
  refine (HK.out _).mono ?_
  rintro e w4 ⟨rfl, hb4⟩
  rw [← HF.out]
  go_wp2
  go_ret
  have hb12 := hb1.trans (hb2.mono hb1.size)
  have hb13 := hb12.trans (hb3.mono hb12.size)
  exact ⟨rfl, hb13.trans (hb4.mono hb13.size)⟩

theorem walk_sumChanges (a b c : Int) (odd : Bool) (ha : 0 ≤ a) (ha' : a ≤ 65535) (hb : 0 ≤ b) (hb' : b ≤ 65535) (hc : 0 ≤ c) (hc' : c ≤ 65535) (w : World) :
    Calls Try.prog 8 #[.int .u16 a, .int .u16 b, .int .u16 c, .bool odd] w fun e w' => e = .returned (.bool true) ∧ Below w.heap.size w w' := by
  obtain ⟨a, rfl⟩ := Int.eq_ofNat_of_zero_le ha
  obtain ⟨b, rfl⟩ := Int.eq_ofNat_of_zero_le hb
  obtain ⟨c, rfl⟩ := Int.eq_ofNat_of_zero_le hc
  have h1 := Lib.hid (fun w => sum_Join a b odd w (by omega) (by omega))
  have h2 := Lib.hid (fun w => ref_SumJoin a b odd w (by omega) (by omega))
  have h3 := Lib.hid (fun w => sum_Update a b c w (by omega) (by omega) (by omega))
  have h4 := Lib.hid (fun w => ref_SumUpdate a b c w (by omega) (by omega) (by omega))
  generalize foldN (a + turnN odd b) = f at h1 h2
  generalize foldN ((65535 - a) + (65535 - b) + c) = g at h3 h4
  go_enter Try.func8, Try.ntmps8
  go_wp2_with fail
  refine (h1.out _).mono ?_
  rintro e w1 ⟨rfl, rfl⟩
  go_wp2_with fail
  refine (h2.out _).mono ?_
  rintro e w2 ⟨rfl, hb2⟩
  go_wp2_with fail
  refine (h3.out _).mono ?_
  rintro e w3 ⟨rfl, rfl⟩
  go_wp2_with fail
  refine (h4.out _).mono ?_
  rintro e w4 ⟨rfl, hb4⟩
  go_wp2
  go_ret
  exact ⟨by simp, hb2.trans (hb4.mono hb2.size)⟩
end Go.Proofs.Ytdpapkcibpcmjaa
