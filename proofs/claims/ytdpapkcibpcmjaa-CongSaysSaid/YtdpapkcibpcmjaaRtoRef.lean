/- Contracts of the reference's Rto. -/
import Derived.Test.YtdpapkcibpcmjaaRtoWalks
import Derived.Deep.RegionHeld3
import Derived.Deep.RegionWith
import Derived.StillTailTactics
namespace Go.Proofs.Ytdpapkcibpcmjaa
open Go.RowKit
set_option linter.unusedVariables false

theorem ref_outside (n a b : Int) (w : World) :
    Calls Try.prog 69 #[.int .i64 n, .int .i64 a, .int .i64 b] w fun e w' => e = .returned (.bool (decide (n < a) || decide (b < n))) ∧ w = w' := by
  by_cases h : n < a
  · go_enter Try.func69, Try.ntmps69
    go_wp2
    go_ret
    exact ⟨ret_bool (by simp [h]), rfl⟩
  · go_enter Try.func69, Try.ntmps69
    go_wp2
    go_ret
    exact ⟨ret_bool (by simp; omega), rfl⟩
theorem ref_outside_no (n a b : Int) (w : World) (h : a ≤ n) (h' : n ≤ b) :
    Calls Try.prog 69 #[.int .i64 n, .int .i64 a, .int .i64 b] w fun e w' => e = .returned (.bool false) ∧ w = w' :=
  (ref_outside n a b w).mono fun e w' ⟨he, hw⟩ => ⟨he.trans (ret_bool (by simp; omega)), hw⟩
theorem ref_outside_yes (n a b : Int) (w : World) (h : n < a ∨ b < n) :
    Calls Try.prog 69 #[.int .i64 n, .int .i64 a, .int .i64 b] w fun e w' => e = .returned (.bool true) ∧ w = w' :=
  (ref_outside n a b w).mono fun e w' ⟨he, hw⟩ => ⟨he.trans (ret_bool (by simp; omega)), hw⟩

theorem ref_down (n m : Int) (w : World) (h : 0 ≤ n) (h' : n ≤ 9223372036854775807) (hm : 1 ≤ m) (hm' : m ≤ 4294967296) :
    Calls Try.prog 70 #[.int .i64 n, .int .i64 m] w fun e w' => e = .returned (.int .i64 (n / m)) ∧ w = w' := by
  have h1 := Int.emod_nonneg n (show m ≠ 0 by omega)
  have h2 := Int.emod_lt_of_pos n (show 0 < m by omega)
  have h3 : n % m ≤ n := by have := Int.emod_add_mul_ediv n m; have := Int.mul_nonneg (show 0 ≤ m by omega) (Int.ediv_nonneg h (show 0 ≤ m by omega)); omega
  have h4 : (n - n % m) / m = n / m := by
    have := Int.emod_add_mul_ediv n m
    rw [show n - n % m = m * (n / m) from by omega]
    exact Int.mul_ediv_cancel_left _ (by omega)
  have H4 := Lib.hid h4
  clear h4
  go_enter Try.func70, Try.ntmps70
  go_wp2_with (go_at_call 63; refine (ref_Rest _ _ _ (by omega) (by omega) (by omega) (by omega)).mono ?_; rintro e w' ⟨rfl, rfl⟩)
  go_ret
  exact ⟨ret_int H4.out, rfl⟩

theorem ref_Late (g : Nat) (m s d : Int) (w : World) (hB : Blk w g 103 (rtoC m s d)) (hd : 0 ≤ d) (hd' : d ≤ 6) :
    Calls Try.prog 37 #[.pointer (some ⟨g, 0, none⟩)] w fun e w' => e = .returned (.tuple #[]) ∧ Blk w' g 103 (rtoC m s (lateD d)) ∧ Only (· = g) w w' := by
  have c2 := hB.at_ (i := 2) (v := .int .i64 d) rfl
  have f2 := hB.frozen 2
  have HB := Lib.hid hB
  clear hB
  by_cases h6 : d = 6
  · subst h6
    go_enter Try.func37, Try.ntmps37
    go_wp2
    go_end0
    exact ⟨rfl, HB.out, (Only.refl _ _)⟩
  · have h6' : d < 6 := by omega
    have hl : lateD d = d + 1 := by unfold lateD; rw [if_neg h6]
    have HL := Lib.hid hl
    clear hl h6
    go_enter Try.func37, Try.ntmps37
    go_wp2
    go_end0
    exact ⟨rfl, by rw [HL.out]; exact HB.out.set_ 2 _, (Only.refl _ _).here⟩

theorem ref_Sample_no (g : Nat) (r : Int) (w : World) (hr : r < 0 ∨ 1099511627776 < r) :
    Calls Try.prog 35 #[.pointer (some ⟨g, 0, none⟩), .int .i64 r] w fun e w' => e = .returned (.int .i64 1) ∧ w = w' := by
  have h := fun w => ref_outside_yes r 0 1099511627776 w hr
  have H := Lib.hid h
  clear h
  go_enter Try.func35, Try.ntmps35
  go_wp2_with (go_at_call 69; refine (H.out _).mono ?_; rintro e w' ⟨rfl, rfl⟩)
  go_ret
  exact ⟨rfl, rfl⟩

theorem ref_Sample_first (g : Nat) (s d r : Int) (w : World) (hB : Blk w g 103 (rtoC (-1) s d)) (hr : 0 ≤ r) (hr' : r ≤ 1099511627776) :
    Calls Try.prog 35 #[.pointer (some ⟨g, 0, none⟩), .int .i64 r] w fun e w' => e = .returned (.int .i64 0) ∧ Blk w' g 103 (rtoC (8 * r) (2 * r) 0) ∧ Only (· = g) w w' := by
  have c0 := hB.at_ (i := 0) (v := .int .i64 (-1)) rfl
  have c1 := hB.at_ (i := 1) (v := .int .i64 s) rfl
  have c2 := hB.at_ (i := 2) (v := .int .i64 d) rfl
  have f0 := hB.frozen 0
  have f1 := hB.frozen 1
  have f2 := hB.frozen 2
  have HB := Lib.hid hB
  clear hB
  go_enter Try.func35, Try.ntmps35
  go_wp2_with (go_at_call 69; refine (ref_outside_no _ _ _ _ (by omega) (by omega)).mono ?_; rintro e w' ⟨rfl, rfl⟩)
  go_ret
  exact ⟨rfl, ((HB.out.set_ 2 _).set_ 0 _).set_ 1 _, (Only.refl _ _).here.here.here⟩

set_option maxRecDepth 100000 in
set_option maxHeartbeats 1000000 in
theorem ref_Sample_next (g : Nat) (m s d r : Int) (w : World) (hB : Blk w g 103 (rtoC m s d)) (hr : 0 ≤ r) (hr' : r ≤ 1099511627776) (hm : 0 ≤ m) (hm' : m ≤ 8796093022208) (hs : 0 ≤ s) (hs' : s ≤ 4398046511104) :
    Calls Try.prog 35 #[.pointer (some ⟨g, 0, none⟩), .int .i64 r] w fun e w' => e = .returned (.int .i64 0) ∧ Blk w' g 103 (rtoC (m + (r - m / 8)) (s + (absI (r - m / 8) - s / 4)) 0) ∧ Only (· = g) w w' := by
  have c0 := hB.at_ (i := 0) (v := .int .i64 m) rfl
  have c1 := hB.at_ (i := 1) (v := .int .i64 s) rfl
  have c2 := hB.at_ (i := 2) (v := .int .i64 d) rfl
  have f0 := hB.frozen 0
  have f1 := hB.frozen 1
  have f2 := hB.frozen 2
  have HB := Lib.hid hB
  clear hB
  by_cases hn : r - m / 8 < 0
  · have ha : absI (r - m / 8) = -(r - m / 8) := by unfold absI; rw [if_pos hn]
    rw [ha]
    clear ha
    go_enter Try.func35, Try.ntmps35
    go_wp2_with (first
      | (go_at_call 69; refine (ref_outside_no _ _ _ _ (by omega) (by omega)).mono ?_; rintro e w' ⟨rfl, rfl⟩)
      | (go_at_call 70; refine (ref_down _ _ _ (by omega) (by omega) (by omega) (by omega)).mono ?_; rintro e w' ⟨rfl, rfl⟩))
    have e1 : IntKind.i64.wrap (-(r - m / 8)) = -(r - m / 8) := IntWalk.i64_in _ (by omega)
    have e2 : IntKind.i64.wrap (-(r - m / 8) - s / 4) = -(r - m / 8) - s / 4 := IntWalk.i64_in _ (by omega)
    have e3 : IntKind.i64.wrap (s + (-(r - m / 8) - s / 4)) = s + (-(r - m / 8) - s / 4) := IntWalk.i64_in _ (by omega)
    have e4 : (r - m / 8 < -(r - m / 8)) := by omega
    have hq := (HB.out.set_ 2 (.int .i64 0)).set_ 0 (.int .i64 (m + (r - m / 8)))
    have ho : Only (· = g) w ((w.setCell ⟨g, 2, none⟩ (.int .i64 0)).setCell ⟨g, 0, none⟩ (.int .i64 (m + (r - m / 8)))) := (Only.refl _ _).here.here
    generalize (w.setCell ⟨g, 2, none⟩ (.int .i64 0)).setCell ⟨g, 0, none⟩ (.int .i64 (m + (r - m / 8))) = wq at hq ho ⊢
    have c1' : wq.cell? ⟨g, 1, none⟩ = some (.int .i64 s) := hq.at_ rfl
    have f1' := hq.frozen 1
    have HQ := Lib.hid hq
    have HO := Lib.hid ho
    clear hq ho c0 c1 c2 f0 f1 f2
    refine wp_region_still_tail 17 (by kernel_rfl) (by kernel_rfl) ?_
    simp only [List.take_succ_cons, List.take_zero, List.drop_succ_cons, List.drop_zero]
    change wpStill _ _ wq.drew _ _ _
    repeat still_step
    still_call ((ref_down s 4 wq.drew (by omega) (by omega) (by omega) (by omega)).mono fun _ _ h => ⟨h.1, h.2.symm⟩)
    repeat still_step
    refine wpStill_nil ?_
    clear e1 e2 e3 e4
    go_wp2
    go_ret
    exact ⟨rfl, HQ.out.set_ 1 _, HO.out.here.drew⟩
  · have ha : absI (r - m / 8) = r - m / 8 := by unfold absI; rw [if_neg hn]
    rw [ha]
    clear ha
    have hn' : 0 ≤ r - m / 8 := by omega
    clear hn
    go_enter Try.func35, Try.ntmps35
    go_wp2_with (first
      | (go_at_call 69; refine (ref_outside_no _ _ _ _ (by omega) (by omega)).mono ?_; rintro e w' ⟨rfl, rfl⟩)
      | (go_at_call 70; refine (ref_down _ _ _ (by omega) (by omega) (by omega) (by omega)).mono ?_; rintro e w' ⟨rfl, rfl⟩))
    have e1 : IntKind.i64.wrap (-(r - m / 8)) = -(r - m / 8) := IntWalk.i64_in _ (by omega)
    have e2 : IntKind.i64.wrap ((r - m / 8) - s / 4) = (r - m / 8) - s / 4 := IntWalk.i64_in _ (by omega)
    have e3 : IntKind.i64.wrap (s + ((r - m / 8) - s / 4)) = s + ((r - m / 8) - s / 4) := IntWalk.i64_in _ (by omega)
    have e4 : ¬ (r - m / 8 < -(r - m / 8)) := by omega
    have hq := (HB.out.set_ 2 (.int .i64 0)).set_ 0 (.int .i64 (m + (r - m / 8)))
    have ho : Only (· = g) w ((w.setCell ⟨g, 2, none⟩ (.int .i64 0)).setCell ⟨g, 0, none⟩ (.int .i64 (m + (r - m / 8)))) := (Only.refl _ _).here.here
    generalize (w.setCell ⟨g, 2, none⟩ (.int .i64 0)).setCell ⟨g, 0, none⟩ (.int .i64 (m + (r - m / 8))) = wq at hq ho ⊢
    have c1' : wq.cell? ⟨g, 1, none⟩ = some (.int .i64 s) := hq.at_ rfl
    have f1' := hq.frozen 1
    have HQ := Lib.hid hq
    have HO := Lib.hid ho
    clear hq ho c0 c1 c2 f0 f1 f2
    refine wp_region_still_tail 17 (by kernel_rfl) (by kernel_rfl) ?_
    simp only [List.take_succ_cons, List.take_zero, List.drop_succ_cons, List.drop_zero]
    change wpStill _ _ wq.drew _ _ _
    repeat still_step
    still_call ((ref_down s 4 wq.drew (by omega) (by omega) (by omega) (by omega)).mono fun _ _ h => ⟨h.1, h.2.symm⟩)
    repeat still_step
    refine wpStill_nil ?_
    clear e1 e2 e3 e4
    go_wp2
    go_ret
    exact ⟨rfl, HQ.out.set_ 1 _, HO.out.here.drew⟩


theorem ref_Value_un (g : Nat) (s d : Int) (w : World) (hB : Blk w g 103 (rtoC (-1) s d)) (hd : 0 ≤ d) (hd' : d ≤ 6) :
    Calls Try.prog 39 #[.pointer (some ⟨g, 0, none⟩)] w fun e w' => e = .returned (.int .i64 (valueV false 0 s d)) ∧ ∃ n, w' = w.drewN n := by
  have c0 := hB.at_ (i := 0) (v := .int .i64 (-1)) rfl
  have c2 := hB.at_ (i := 2) (v := .int .i64 d) rfl
  have h7 : d = 0 ∨ d = 1 ∨ d = 2 ∨ d = 3 ∨ d = 4 ∨ d = 5 ∨ d = 6 := by omega
  rcases h7 with rfl | rfl | rfl | rfl | rfl | rfl | rfl
  all_goals
    go_enter Try.func39, Try.ntmps39
    go_wp2
    go_rounds 8
    go_ret
    exact ⟨ret_int (by simp [valueV, baseV, clampV]), 0, rfl⟩

set_option maxHeartbeats 1000000 in
theorem ref_Value_kn (g : Nat) (m s d : Int) (w : World) (hB : Blk w g 103 (rtoC m s d)) (hd : 0 ≤ d) (hd' : d ≤ 6) (hm : 0 ≤ m) (hm' : m ≤ 8796093022208) (hs : 0 ≤ s) (hs' : s ≤ 4398046511104) :
    Calls Try.prog 39 #[.pointer (some ⟨g, 0, none⟩)] w fun e w' => e = .returned (.int .i64 (valueV true m s d)) ∧ ∃ n, w' = w.drewN n := by
  have c0 := hB.at_ (i := 0) (v := .int .i64 m) rfl
  have c1 := hB.at_ (i := 1) (v := .int .i64 s) rfl
  have c2 := hB.at_ (i := 2) (v := .int .i64 d) rfl
  have h7 : d = 0 ∨ d = 1 ∨ d = 2 ∨ d = 3 ∨ d = 4 ∨ d = 5 ∨ d = 6 := by omega
  rcases h7 with rfl | rfl | rfl | rfl | rfl | rfl | rfl <;> rcases Int.lt_or_le 1 s with h1 | h1
  all_goals
    go_enter Try.func39, Try.ntmps39
    go_wp2_with fail
    go_quiet ((go_at_call 70; exact Calls.quiet_of_same ((ref_down m 8 _ (by omega) (by omega) (by omega) (by omega)).mono fun _ _ h => ⟨h.1, h.2.symm⟩)))
    go_wp2
    go_rounds 8
    all_goals go_ret
    all_goals refine ⟨ret_int ?_, _, rfl⟩
    all_goals go_light
    all_goals simp [valueV, baseV, clampV]
    all_goals repeat' split
    all_goals omega
end Go.Proofs.Ytdpapkcibpcmjaa
