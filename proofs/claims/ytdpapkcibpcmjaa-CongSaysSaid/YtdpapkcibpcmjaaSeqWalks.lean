/- Contracts of package seq and of the reference's arithmetic on numbers that go round. -/
import Derived.Test.YtdpapkcibpcmjaaRows1
import Derived.WalkKit
import Derived.Handy
import Derived.Deep.Light
import Derived.WalkSpells
import Derived.WalkLawsBesides
import Derived.BigQuiet
import Derived.Deep.QuietTactic
namespace Go.Proofs.Ytdpapkcibpcmjaa
open Go.RowKit


/-- How far a is behind b, from -2^31 to 2^31 - 1. -/
def sdiff (a b : Int) : Int := (a - b + 2147483648) % 4294967296 - 2147483648
/-- Is n one of so many from there on? -/
def inB (n from_ many : Int) : Bool := decide ((n - from_) % 4294967296 < many)

theorem seq_Diff (a b : Int) (w : World) :
    Calls Try.prog 16 #[.int .u32 a, .int .u32 b] w fun e w' => e = .returned (.int .i64 (sdiff a b)) ∧ w = w' := by
  go_enter Try.func16, Try.ntmps16
  go_wp2
  go_ret
  exact ⟨ret_int (by show wrap64 (wrap32 ((a - b) % 4294967296)) = _; unfold wrap64 wrap32 sdiff; omega), rfl⟩

theorem seq_Less (a b : Int) (w : World) :
    Calls Try.prog 17 #[.int .u32 a, .int .u32 b] w fun e w' => e = .returned (.bool (decide (sdiff a b < 0))) ∧ w = w' := by
  go_enter Try.func17, Try.ntmps17
  go_wp2_with (go_at_call 16; refine (seq_Diff _ _ _).mono ?_; rintro e w' ⟨rfl, rfl⟩)
  go_ret
  exact ⟨rfl, rfl⟩

theorem ref_Rest (a m : Int) (w : World) (ha : -9223372036854775808 ≤ a) (ha' : a ≤ 9223372036854775807) (hb : 1 ≤ m) (hb' : m ≤ 9223372036854775807) :
    Calls Try.prog 63 #[.int .i64 a, .int .i64 m] w fun e w' => e = .returned (.int .i64 (a % m)) ∧ w = w' := by
  have h1 := Int.emod_nonneg a (show m ≠ 0 by omega)
  have h2 := Int.emod_lt_of_pos a (show 0 < m by omega)
  have h3 : a.tmod m = a % m ∨ (a.tmod m < 0 ∧ a.tmod m + m = a % m) := by
    by_cases h0 : 0 ≤ a
    · left; exact Int.tmod_eq_emod_of_nonneg h0
    · rw [Int.tmod_eq_emod]
      by_cases hd : m ∣ a
      · left; simp [hd]
      · right; rw [if_neg (by simp [hd]; omega)]; omega
  have H3 : Hid (a.tmod m = a % m ∨ (a.tmod m < 0 ∧ a.tmod m + m = a % m)) := h3
  clear h3
  go_enter Try.func63, Try.ntmps63
  go_wp2
  · go_ret
    exact ⟨ret_int (by show wrap64 (a.tmod m + m) = _; have := H3.out; unfold wrap64; omega), rfl⟩
  · go_ret
    exact ⟨ret_int (by show a.tmod m = _; have := H3.out; omega), rfl⟩

theorem ref_SeqDiff (a b : Int) (w : World) (ha : 0 ≤ a) (ha' : a ≤ 4294967295) (hb : 0 ≤ b) (hb' : b ≤ 4294967295) :
    Calls Try.prog 15 #[.int .u32 a, .int .u32 b] w fun e w' => e = .returned (.int .i64 (sdiff a b)) ∧ w = w' := by
  go_enter Try.func15, Try.ntmps15
  go_wp2_with (go_at_call 63; refine (ref_Rest _ _ _ (by omega) (by omega) (by omega) (by omega)).mono ?_; rintro e w' ⟨rfl, rfl⟩)
  all_goals go_ret
  all_goals exact ⟨ret_int (by simp [sdiff]; omega), rfl⟩

theorem seq_In (a b m : Int) (w : World) (hb : -9223372036854775808 ≤ m) (hb' : m ≤ 9223372036854775807) :
    Calls Try.prog 18 #[.int .u32 a, .int .u32 b, .int .i64 m] w fun e w' => e = .returned (.bool (inB a b m)) ∧ w = w' := by
  by_cases h : 0 < m
  · go_enter Try.func18, Try.ntmps18
    go_wp2
    go_ret
    exact ⟨rfl, rfl⟩
  · go_enter Try.func18, Try.ntmps18
    go_wp2
    go_ret
    exact ⟨ret_bool (by simp [inB]; omega), rfl⟩

theorem ref_SeqIn (a b m : Int) (w : World) (ha : 0 ≤ a) (ha' : a ≤ 4294967295) (hb : 0 ≤ b) (hb' : b ≤ 4294967295) :
    Calls Try.prog 19 #[.int .u32 a, .int .u32 b, .int .i64 m] w fun e w' => e = .returned (.bool (inB a b m)) ∧ w = w' := by
  go_enter Try.func19, Try.ntmps19
  go_wp2_with (go_at_call 63; refine (ref_Rest _ _ _ (by omega) (by omega) (by omega) (by omega)).mono ?_; rintro e w' ⟨rfl, rfl⟩)
  go_ret
  exact ⟨rfl, rfl⟩

/-- The number nearest to at (0 to 2^60) of which n is the lowest bits. -/
def clampT (at_ : Int) : Int := if at_ < 0 then 0 else if 1152921504606846976 < at_ then 1152921504606846976 else at_
theorem clampT_bd (t : Int) : 0 ≤ clampT t ∧ clampT t ≤ 1152921504606846976 := by unfold clampT; split <;> (try split) <;> omega
def nearI (n at_ : Int) : Int := clampT at_ + sdiff n (clampT at_)

theorem sdiff_bd (a b : Int) : -2147483648 ≤ sdiff a b ∧ sdiff a b ≤ 2147483647 := by unfold sdiff; omega
theorem sdiff_mod (a b : Int) : sdiff a (b % 4294967296) = sdiff a b := by unfold sdiff; omega

theorem seq_Near (n t : Int) (w : World) :
    Calls Try.prog 20 #[.int .u32 n, .int .i64 t] w fun e w' => e = .returned (.int .i64 (nearI n t)) ∧ w = w' := by
  by_cases h1 : t < 0
  · go_enter Try.func20, Try.ntmps20
    go_wp2_with (go_at_call 16; refine (seq_Diff _ _ _).mono ?_; rintro e w' ⟨rfl, rfl⟩)
    go_ret
    exact ⟨ret_int (by have := sdiff_bd n 0; simp [nearI, clampT, h1]; unfold wrap64; omega), rfl⟩
  · by_cases h2 : 1152921504606846976 < t
    · go_enter Try.func20, Try.ntmps20
      go_wp2_with (go_at_call 16; refine (seq_Diff _ _ _).mono ?_; rintro e w' ⟨rfl, rfl⟩)
      go_ret
      exact ⟨ret_int (by rw [nearI, clampT, if_neg (by omega), if_pos (by omega)]; simp [sdiff, wrap64]; omega), rfl⟩
    · go_enter Try.func20, Try.ntmps20
      go_wp2_with (go_at_call 16; refine (seq_Diff _ _ _).mono ?_; rintro e w' ⟨rfl, rfl⟩)
      go_ret
      exact ⟨ret_int (by rw [nearI, clampT, if_neg (by omega), if_neg (by omega)]; simp [sdiff, wrap64]; omega), rfl⟩

set_option maxHeartbeats 1000000 in
theorem ref_SeqNear (n t : Int) (w : World) (ha : 0 ≤ n) (ha' : n ≤ 4294967295) :
    Calls Try.prog 21 #[.int .u32 n, .int .i64 t] w fun e w' => e = .returned (.int .i64 (nearI n t)) ∧ Below w.heap.size w w' := by
  by_cases h1 : t < 0
  · go_enter Try.func21, Try.ntmps21
    go_wp2_with (go_at_call 63; refine (ref_Rest _ _ _ (by omega) (by omega) (by omega) (by omega)).mono ?_; rintro e w' ⟨rfl, rfl⟩)
    go_rounds 3
    all_goals go_ret
    all_goals exact ⟨ret_int (by simp [nearI, clampT, h1, sdiff]; omega), by go_grown⟩
  · by_cases h2 : 1152921504606846976 < t
    · go_enter Try.func21, Try.ntmps21
      go_wp2_with (go_at_call 63; refine (ref_Rest _ _ _ (by omega) (by omega) (by omega) (by omega)).mono ?_; rintro e w' ⟨rfl, rfl⟩)
      go_rounds 3
      all_goals go_ret
      all_goals exact ⟨ret_int (by rw [nearI, clampT, if_neg (by omega), if_pos (by omega)]; simp [sdiff]; omega), by go_grown⟩
    · go_enter Try.func21, Try.ntmps21
      go_wp2_with (go_at_call 63; refine (ref_Rest _ _ _ (by omega) (by omega) (by omega) (by omega)).mono ?_; rintro e w' ⟨rfl, rfl⟩)
      go_rounds 3
      all_goals go_ret
      all_goals exact ⟨ret_int (by rw [nearI, clampT, if_neg (by omega), if_neg (by omega)]; simp [sdiff]; omega), by go_grown⟩
theorem tri (x : Int) : x < 0 ∨ x = 0 ∨ 1 ≤ x := by omega
def acceptB (a l b m : Int) : Bool :=
  if l < 1 then (if m < 1 then a == b else inB a b m) else if m < 1 then false else inB a b m || inB ((a + l - 1) % 4294967296) b m

theorem seq_Accept (a l b m : Int) (w : World) (hl : -9223372036854775808 ≤ l) (hl' : l ≤ 9223372036854775807) (hm : -9223372036854775808 ≤ m) (hm' : m ≤ 9223372036854775807) :
    Calls Try.prog 22 #[.int .u32 a, .int .i64 l, .int .u32 b, .int .i64 m] w fun e w' => e = .returned (.bool (acceptB a l b m)) ∧ w = w' := by
  by_cases h1 : l < 1
  · by_cases h2 : m < 1
    · go_enter Try.func22, Try.ntmps22
      go_wp2
      go_ret
      exact ⟨ret_bool (by simp [acceptB, h1, h2]), rfl⟩
    · go_enter Try.func22, Try.ntmps22
      go_wp2_with (go_at_call 18; refine (seq_In _ _ _ _ hm hm').mono ?_; rintro e w' ⟨rfl, rfl⟩)
      go_ret
      exact ⟨ret_bool (by rw [acceptB, if_pos h1, if_neg (by omega)]), rfl⟩
  · by_cases h2 : m < 1
    · go_enter Try.func22, Try.ntmps22
      go_wp2
      go_ret
      exact ⟨ret_bool (by rw [acceptB, if_neg (by omega), if_pos h2]), rfl⟩
    · go_enter Try.func22, Try.ntmps22
      go_wp2_with (go_at_call 18; refine (seq_In _ _ _ _ hm hm').mono ?_; rintro e w' ⟨rfl, rfl⟩)
      all_goals go_ret
      all_goals refine ⟨ret_bool ?_, rfl⟩
      all_goals rw [acceptB, if_neg (by omega), if_neg (by omega)]; simp [*]

theorem ref_SeqAccept (a l b m : Int) (w : World) (ha : 0 ≤ a) (ha' : a ≤ 4294967295) (hb : 0 ≤ b) (hb' : b ≤ 4294967295) (hl : -9223372036854775808 ≤ l) (hl' : l ≤ 9223372036854775807) (hm : -9223372036854775808 ≤ m) (hm' : m ≤ 9223372036854775807) :
    Calls Try.prog 23 #[.int .u32 a, .int .i64 l, .int .u32 b, .int .i64 m] w fun e w' => e = .returned (.bool (acceptB a l b m)) ∧ w = w' := by
  rcases tri l with h1 | rfl | h1 <;> rcases tri m with h2 | rfl | h2 <;> rcases Decidable.em (a = b) with rfl | h3
  all_goals
    go_enter Try.func23, Try.ntmps23
    go_wp2_with (first | (go_at_call 19; refine (ref_SeqIn _ _ _ _ (by omega) (by omega) (by omega) (by omega)).mono ?_; rintro e w' ⟨rfl, rfl⟩) | (go_at_call 63; refine (ref_Rest _ _ _ (by omega) (by omega) (by omega) (by omega)).mono ?_; rintro e w' ⟨rfl, rfl⟩))
    all_goals go_ret
    all_goals refine ⟨ret_bool ?_, rfl⟩
  all_goals try simp only [Int.add_emod_emod, Int.emod_add_emod, Int.sub_emod_emod, Int.emod_sub_emod]
  all_goals go_light
  all_goals rw [Bool.eq_iff_iff]
  all_goals unfold acceptB
  all_goals repeat' split
  all_goals try simp [inB] at *
  all_goals try omega
end Go.Proofs.Ytdpapkcibpcmjaa
