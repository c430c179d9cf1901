/- Contracts of package sum, and of the reference's Sum. -/
import Derived.Test.YthjigajielhkfaaSumPlain
import Derived.Test.YthjigajielhkfaaBytes
namespace Go.Proofs.Ythjigajielhkfaa
open Go.RowKit
set_option linter.unusedVariables false

theorem u64_low16 (k : Nat) (h : k ≤ 18446744073709551615) : bits BinOp.and IntKind.u64 (k : Int) 65535 = ((k % 65536 : Nat) : Int) := by
  have := u64_and_nat k 65535 (by omega) (by omega)
  rw [show ((65535 : Nat) : Int) = 65535 from rfl] at this
  rw [this, nat_mask16]
theorem u64_join8 (a b : Nat) (ha : a ≤ 255) (hb : b ≤ 255) : bits BinOp.or IntKind.u64 ((a : Int) * 256) (b : Int) = (a : Int) * 256 + (b : Int) := by
  have h := u64_or_nat (a * 256) b (by omega) (by omega)
  rw [nat_join 8 (a * 256) b (by omega) (by omega)] at h
  rw [show ((a * 256 : Nat) : Int) = (a : Int) * 256 from by omega] at h
  rw [h]; omega

theorem xor_ones (k c : Nat) (h : c < 2 ^ k) : (2 ^ k - 1) ^^^ c = 2 ^ k - 1 - c := by
  have := congrArg BitVec.toNat (BitVec.allOnes_xor (x := BitVec.ofNat k c))
  rw [BitVec.toNat_xor, BitVec.toNat_not, BitVec.toNat_allOnes, BitVec.toNat_ofNat, Nat.mod_eq_of_lt h] at this
  exact this
theorem u16_not (c : Nat) (h : c ≤ 65535) : bits BinOp.xor IntKind.u16 IntKind.u16.max (c : Int) = 65535 - (c : Int) := by
  rw [show IntKind.u16.max = ((65535 : Nat) : Int) from rfl, u16_xor_nat 65535 c (by omega) (by omega), show (65535 : Nat) ^^^ c = 65535 - c from xor_ones 16 c (by omega)]
  omega

theorem sum_fold (n : Nat) (w : World) (hn : n ≤ 18446744073709551615) :
    Calls Try.prog 195 #[.int .u64 n] w fun e w' => e = .returned (.int .u16 (foldN n : Int)) ∧ w = w' := by
  go_enter Try.func195, Try.ntmps195
  go_wp2
  go_loop [0] (fun m => ∃ k : Nat, k ≤ n ∧ Hid (foldN k = foldN n) ∧ m = .int .u64 k) (fun m => (intOf m).toNat)
  case atStart => exact ⟨n, Nat.le_refl _, rfl, rfl⟩
  case round =>
    obtain ⟨k, hk, hf, rfl⟩ := hrel
    by_cases hlt : 65535 < k
    · have hb := u64_low16 k (by omega)
      go_wp2
      go_round
      case rel => exact ⟨k / 65536 + k % 65536, by omega, (foldN_step k).trans hf.out, by go_num⟩
      case measure => simp only [intOf]; omega
    · go_wp2
      go_ret
      exact ⟨ret_int (by rw [← hf.out, foldN_small k (by omega)]), rfl⟩

theorem sum_foldI (n : Int) (w : World) (h0 : 0 ≤ n) (h1 : n ≤ 18446744073709551615) :
    Calls Try.prog 195 #[.int .u64 n] w fun e w' => e = .returned (.int .u16 (foldN n.toNat : Int)) ∧ w = w' := by
  obtain ⟨k, rfl⟩ := Int.eq_ofNat_of_zero_le h0
  exact sum_fold k w (by omega)

/-- 's[2:]', 's[0]', 's[1]'. -/
theorem run_str_from (s : ByteArray) (j : Nat) (h : j ≤ s.size) (W : World) : (Instr.slice 9 (.string s) (some (.int .i64 (j : Int))) none none).run Try.prog W = .ok (.string (s.extract j s.size)) W := by
  have := run_slice_string_l (P := Try.prog) (w := W) (t := 9) (s := s) Try.underlying9 .i64 (j : Int) (by omega) (by omega)
  simpa using this

theorem sum_Sum (s : ByteArray) (w : World) (hs : s.size ≤ 140737488355328) :
    Calls Try.prog 194 #[.string s] w fun e w' => e = .returned (.int .u16 (sumN s.data.toList : Int)) ∧ ∃ n, w' = w.drewN n := by
  go_enter Try.func194, Try.ntmps194
  go_wp2
  go_loopw [0, 3] (fun t n wr => ∃ (u : ByteArray) (m : Nat), u.size ≤ s.size ∧ m ≤ 65536 * (s.size - u.size) ∧ Hid (m + wordsN u.data.toList = wordsN s.data.toList) ∧ t = .string u ∧ n = .int .u64 m ∧ ∃ k, wr = w.drewN k) (fun t _ _ => match t with | .string u => u.size | _ => 0)
  case atStart => exact ⟨s, 0, Nat.le_refl _, by omega, by simp [Hid], rfl, rfl, 0, rfl⟩
  case round =>
    obtain ⟨u, m, hu, hm, hw, rfl, rfl, k, rfl⟩ := hrel
    by_cases hlt : 1 < u.size
    · obtain ⟨a, ha⟩ : ∃ a : Nat, (u[0]).toNat = a := ⟨_, rfl⟩
      obtain ⟨b, hb⟩ : ∃ b : Nat, (u[1]).toNat = b := ⟨_, rfl⟩
      have ha1 : a ≤ 255 := by have := u[0].toNat_lt; omega
      have hb1 : b ≤ 255 := by have := u[1].toNat_lt; omega
      have h0 : ∀ W, (Instr.index 9 (.string u) (.int .i64 0)).run Try.prog W = .ok (.int .u8 (a : Int)) W := fun W => by rw [← ha]; exact run_str_at u 0 (by omega) W
      have h1 : ∀ W, (Instr.index 9 (.string u) (.int .i64 1)).run Try.prog W = .ok (.int .u8 (b : Int)) W := fun W => by rw [← hb]; exact run_str_at u 1 (by omega) W
      have h2 : ∀ W, (Instr.slice 9 (.string u) (some (.int .i64 2)) none none).run Try.prog W = .ok (.string (u.extract 2 u.size)) W := fun W => run_str_from u 2 (by omega) W
      have hnext : wordsN u.data.toList = a * 256 + b + wordsN (u.extract 2 u.size).data.toList := by
        have hl := Lib.size_eq u
        have := wordsN_two u.data.toList (by omega)
        rw [getElem_data u 0 (by omega), getElem_data u 1 (by omega), ha, hb] at this
        rw [this, Lib.extract_data, List.take_of_length_le (by simp)]
      have HN := Lib.hid hnext
      clear hnext ha hb
      have e1 : IntKind.u64.wrap ((a : Int) * 256) = (a : Int) * 256 := IntWalk.u64_in _ (by omega)
      have e2 := u64_join8 a b ha1 hb1
      have e3 : IntKind.u64.wrap ((m : Int) + ((a : Int) * 256 + (b : Int))) = (m : Int) + ((a : Int) * 256 + (b : Int)) := IntWalk.u64_in _ (by omega)
      have e4 : IntKind.u64.wrap (a : Int) = (a : Int) := IntWalk.u64_in _ (by omega)
      have e5 : IntKind.u64.wrap (b : Int) = (b : Int) := IntWalk.u64_in _ (by omega)
      go_wp2
      go_quiet (fail)
      clear e1 e2 e3 e4 e5
      go_wp2
      go_roundw
      case rel => exact ⟨u.extract 2 u.size, m + (a * 256 + b), by simp; omega, by simp; omega, by have := hw.out; have := HN.out; show _ = _; omega, rfl, by go_num, _, rfl⟩
      case measure => simp; omega
    · by_cases h0 : u.size = 0
      · have hl0 : u.data.toList = [] := List.length_eq_zero_iff.1 (by have := Lib.size_eq u; omega)
        have h1 : u.toList.isEmpty = true := by rw [Lib.toList_data, hl0]; rfl
        have HW := Lib.hid (show m = wordsN s.data.toList by have := hw.out; rw [hl0] at this; exact this)
        clear hl0 h0 hw
        go_wp2_with (go_at_call 195; refine (sum_fold _ _ (by omega)).mono ?_; rintro e w1 ⟨rfl, rfl⟩)
        go_ret
        exact ⟨ret_int (by rw [HW.out]; rfl), _, rfl⟩
      · have hl1 : u.data.toList.length = 1 := by have := Lib.size_eq u; omega
        obtain ⟨a, ha⟩ : ∃ a : Nat, (u[0]).toNat = a := ⟨_, rfl⟩
        have ha1 : a ≤ 255 := by have := u[0].toNat_lt; omega
        have h0' : ∀ W, (Instr.index 9 (.string u) (.int .i64 0)).run Try.prog W = .ok (.int .u8 (a : Int)) W := fun W => by rw [← ha]; exact run_str_at u 0 (by omega) W
        have hw1 : wordsN u.data.toList = a * 256 := by
          rw [← ha, ← getElem_data u 0 (by omega) (by omega)]
          exact wordsN_one _ hl1
        have h1 : u.toList.isEmpty = false := by
          rw [Lib.toList_data, List.isEmpty_eq_false_iff]
          intro hn
          rw [hn] at hl1
          cases hl1
        have HW := Lib.hid (show m + a * 256 = wordsN s.data.toList by have := hw.out; rw [hw1] at this; exact this)
        clear hl1 hw hw1 ha
        go_wp2_with (go_at_call 195; refine (sum_foldI _ _ (by omega) (by omega)).mono ?_; rintro e w1 ⟨rfl, rfl⟩)
        go_ret
        exact ⟨ret_int (by rw [show ((m : Int) + (a : Int) * 256).toNat = m + a * 256 from by omega, HW.out]; rfl), _, rfl⟩

/-- Check: what is lacking to 65535. -/
theorem sum_Check (s : ByteArray) (w : World) (hs : s.size ≤ 140737488355328) :
    Calls Try.prog 182 #[.string s] w fun e w' => e = .returned (.int .u16 (65535 - (sumN s.data.toList : Int))) ∧ ∃ n, w' = w.drewN n := by
  have hl := sumN_le s.data.toList
  obtain ⟨c, hc⟩ : ∃ c, c = sumN s.data.toList := ⟨_, rfl⟩
  have hS := Lib.hid (fun w => sum_Sum s w hs)
  rw [← hc] at hS hl ⊢
  clear hc
  go_enter Try.func182, Try.ntmps182
  go_wp2_with (go_at_call 194; refine (hS.out _).mono ?_; rintro e w1 ⟨rfl, n, rfl⟩)
  go_ret
  exact ⟨ret_int (u16_not c hl), _, rfl⟩

theorem numL_two (l : List UInt8) (i : Nat) (h : i + 2 ≤ l.length) : numL ((l.drop i).take 2) = l[i].toNat * 256 + l[i + 1].toNat := by
  rw [List.drop_eq_getElem_cons (show i < l.length by omega), List.take_succ_cons, List.drop_eq_getElem_cons (show i + 1 < l.length by omega), List.take_succ_cons, List.take_zero]
  simp [numL]
theorem last_fold (m : Nat) (h : 1 ≤ m) : foldN m = (m - 1) % 65535 + 1 := by unfold foldN; rw [if_neg (by omega)]

/-- The reference's Sum. -/
theorem ref_Sum (s : ByteArray) (w : World) (hs : s.size ≤ 140737488355327) :
    Calls Try.prog 125 #[.string s] w fun e w' => e = .returned (.int .u16 (sumN s.data.toList : Int)) ∧ Below w.heap.size w w' := by
  have key : ∃ t : ByteArray, t.size % 2 = 0 ∧ t.size ≤ 140737488355328 ∧ Hid (wordsN t.data.toList = wordsN s.data.toList) ∧ ((s.size % 2 = 1 ∧ s ++ bs [byt 0] = t) ∨ (s.size % 2 = 0 ∧ s = t)) := by
    have hl := Lib.size_eq s
    by_cases hodd : s.size % 2 = 1
    · refine ⟨s ++ bs [byt 0], ?_, ?_, ?_, .inl ⟨hodd, rfl⟩⟩
      · rw [ByteArray.size_append, bs_size]; simp; omega
      · rw [ByteArray.size_append, bs_size]; simp; omega
      · show wordsN _ = _
        rw [← bs_of s, bs_append, bs_data, bs_data]
        exact wordsN_pad _ (by omega)
    · exact ⟨s, by omega, by omega, rfl, .inr ⟨by omega, rfl⟩⟩
  obtain ⟨t, ht, hts, HT, hcase⟩ := key
  rw [sumN, ← HT.out]
  have hlen := Lib.size_eq t
  have HL := Lib.hid hlen
  have hz : (bs [byt 0]).size ≤ 1 := by rw [bs_size]; simp
  clear hlen HT
  have hnum : ∀ i, i % 2 = 0 → i + 2 ≤ t.size → ∀ w, Calls Try.prog 124 #[.string (t.extract i (i + 2))] w fun e w' => e = .returned (.int .u64 (numL ((t.data.toList.drop i).take 2) : Int)) ∧ ∃ n, w' = w.drewN n := by
    intro i _ h2 w
    have := ref_num 8 (t.extract i (i + 2)) w (by omega) (by rw [ByteArray.size_extract]; omega)
    rw [Lib.extract_data, show i + 2 - i = 2 from by omega] at this
    exact this
  have HNUM := Lib.hid hnum
  clear hnum
  have hbw := Below.refl w.heap.size w
  rcases hcase with ⟨hodd, htt⟩ | ⟨hev, rfl⟩
  · have e1 : ((s.size : Int) % 2 == 1) = true := by rw [beq_iff_eq]; omega
    clear hodd
    go_enter Try.func125, Try.ntmps125
    go_wp2_with (go_at_call 130; refine (ref_chr _ _ (by omega) (by omega)).mono ?_; rintro e w1 ⟨rfl, hb1⟩)
    have hbw := hb1
    clear hb1 e1
    go_loopw [3, 4] (fun m i wr => ∃ k : Nat, k % 2 = 0 ∧ k ≤ t.size ∧ i = .int .i64 k ∧ m = .int .u64 (wordsN (t.data.toList.take k) : Int) ∧ Below w.heap.size w wr) (fun _ i _ => t.size - (intOf i).toNat)
    case atStart => exact ⟨0, rfl, Nat.zero_le _, rfl, by simp [wordsN], hbw⟩
    case round =>
      obtain ⟨k, hk2, hk, rfl, rfl, hbr⟩ := hrel
      have hwl := wordsN_le (t.data.toList.take k)
      rw [List.length_take] at hwl
      have hwl : wordsN (t.data.toList.take k) ≤ 9223372036854775808 := by omega
      by_cases hlt : k < t.size
      · have hn := HNUM.out k hk2 (by omega)
        have hlen := HL.out
        rw [numL_two t.data.toList k (by omega)] at hn
        have hnx := words_next t.data.toList k hk2 (by omega)
        obtain ⟨c, hc⟩ : ∃ c, c = t.data.toList[k].toNat * 256 + t.data.toList[k + 1].toNat := ⟨_, rfl⟩
        have hc' : c ≤ 65535 := by have := t.data.toList[k].toNat_lt; have := t.data.toList[k + 1].toNat_lt; omega
        rw [← hc] at hn hnx
        have HN := Lib.hid hn
        have HX := Lib.hid hnx
        clear hn hnx hc hlen
        go_wp2_with (go_at_call 124; refine (HN.out _).mono ?_; rintro e w2 ⟨rfl, n2, rfl⟩)
        go_roundw
        case rel => exact ⟨k + 2, by omega, by omega, by go_num, by rw [HX.out]; go_num, below_drewN hbr _⟩
        case measure => simp [intOf]; omega
      · obtain ⟨c, hc⟩ : ∃ c, c = wordsN (t.data.toList.take k) := ⟨_, rfl⟩
        have hce : c = wordsN t.data.toList := by rw [hc, List.take_of_length_le (by have := HL.out; omega)]
        rw [← hc] at hwl ⊢
        have HCE := Lib.hid hce
        clear hc hce HL HNUM
        by_cases hc0 : c = 0
        · subst hc0
          go_wp2
          go_ret
          exact ⟨ret_int (by rw [← HCE.out]; rfl), hbr⟩
        · have hc1 : ((c : Int) == 0) = false := by rw [beq_eq_false_iff_ne]; omega
          go_wp2
          go_ret
          exact ⟨ret_int (by rw [← HCE.out, last_fold c (by omega)]; omega), hbr⟩
  · have e1 : ((s.size : Int) % 2 == 1) = false := by rw [beq_eq_false_iff_ne]; omega
    go_enter Try.func125, Try.ntmps125
    go_wp2
    clear e1
    go_loopw [3, 4] (fun m i wr => ∃ k : Nat, k % 2 = 0 ∧ k ≤ s.size ∧ i = .int .i64 k ∧ m = .int .u64 (wordsN (s.data.toList.take k) : Int) ∧ Below w.heap.size w wr) (fun _ i _ => s.size - (intOf i).toNat)
    case atStart => exact ⟨0, rfl, Nat.zero_le _, rfl, by simp [wordsN], hbw⟩
    case round =>
      obtain ⟨k, hk2, hk, rfl, rfl, hbr⟩ := hrel
      have hwl := wordsN_le (s.data.toList.take k)
      rw [List.length_take] at hwl
      have hwl : wordsN (s.data.toList.take k) ≤ 9223372036854775808 := by omega
      by_cases hlt : k < s.size
      · have hn := HNUM.out k hk2 (by omega)
        have hlen := HL.out
        rw [numL_two s.data.toList k (by omega)] at hn
        have hnx := words_next s.data.toList k hk2 (by omega)
        obtain ⟨c, hc⟩ : ∃ c, c = s.data.toList[k].toNat * 256 + s.data.toList[k + 1].toNat := ⟨_, rfl⟩
        have hc' : c ≤ 65535 := by have := s.data.toList[k].toNat_lt; have := s.data.toList[k + 1].toNat_lt; omega
        rw [← hc] at hn hnx
        have HN := Lib.hid hn
        have HX := Lib.hid hnx
        clear hn hnx hc hlen
        go_wp2_with (go_at_call 124; refine (HN.out _).mono ?_; rintro e w2 ⟨rfl, n2, rfl⟩)
        go_roundw
        case rel => exact ⟨k + 2, by omega, by omega, by go_num, by rw [HX.out]; go_num, below_drewN hbr _⟩
        case measure => simp [intOf]; omega
      · obtain ⟨c, hc⟩ : ∃ c, c = wordsN (s.data.toList.take k) := ⟨_, rfl⟩
        have hce : c = wordsN s.data.toList := by rw [hc, List.take_of_length_le (by have := HL.out; omega)]
        rw [← hc] at hwl ⊢
        have HCE := Lib.hid hce
        clear hc hce HL HNUM
        by_cases hc0 : c = 0
        · subst hc0
          go_wp2
          go_ret
          exact ⟨ret_int (by rw [← HCE.out]; rfl), hbr⟩
        · have hc1 : ((c : Int) == 0) = false := by rw [beq_eq_false_iff_ne]; omega
          go_wp2
          go_ret
          exact ⟨ret_int (by rw [← HCE.out, last_fold c (by omega)]; omega), hbr⟩
end Go.Proofs.Ythjigajielhkfaa
