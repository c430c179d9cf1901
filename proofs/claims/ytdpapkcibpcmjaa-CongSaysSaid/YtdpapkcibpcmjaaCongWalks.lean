/- Contracts of package cong and of the reference's Cwnd. -/
import Derived.Test.YtdpapkcibpcmjaaRtoRef
namespace Go.Proofs.Ytdpapkcibpcmjaa
open Go.RowKit
set_option linter.unusedVariables false

def winC (mss size slow : Int) : List Value := [.int .i64 mss, .int .i64 size, .int .i64 slow]
def minI (a b : Int) : Int := if b < a then b else a
def maxI (a b : Int) : Int := if a < b then b else a
/-- The size behind n bytes acknowledged. -/
def ackN (mss size slow n : Int) : Int := if n < 1 then size else if size < slow then minI (size + minI n mss) 65535 else minI (size + maxI 1 (mss * mss / size)) 65535
/-- Up to where it grows fast, behind a loss. -/
def slowN (mss f : Int) : Int := minI (maxI (maxI f 0 / 2) (2 * mss)) 65535

theorem slowN_bd (mss f : Int) (h : 8 ≤ mss) (h' : mss ≤ 1000) : 16 ≤ slowN mss f ∧ slowN mss f ≤ 65535 := by
  unfold slowN minI maxI; repeat' split
  all_goals omega
theorem winC_eq {a b c d e f : Int} (h1 : a = b) (h2 : c = d) (h3 : e = f) : winC a c e = winC b d f := by rw [h1, h2, h3]
theorem sq_bd (m : Int) (h : 8 ≤ m) (h' : m ≤ 1000) : 64 ≤ m * m ∧ m * m ≤ 1000000 :=
  ⟨by have := Int.mul_le_mul h h (by omega) (by omega); omega, by have := Int.mul_le_mul h' h' (by omega) (by omega); omega⟩
theorem ackN_bd (mss size slow n : Int) (h : 8 ≤ mss) (h' : mss ≤ 1000) (hs : 8 ≤ size) (hs' : size ≤ 65535) : 8 ≤ ackN mss size slow n ∧ ackN mss size slow n ≤ 65535 := by
  have := sq_bd mss h h'
  have h0 : 0 ≤ mss * mss / size := Int.ediv_nonneg (by omega) (by omega)
  unfold ackN minI maxI; repeat' split
  all_goals omega

section
variable (g : Nat) (mss size slow n : Int) (w : World)
theorem cong_Acked (hB : Blk w g 107 (winC mss size slow)) (h : 8 ≤ mss) (h' : mss ≤ 1000) (hs : 8 ≤ size) (hs' : size ≤ 65535) (hn : -9223372036854775808 ≤ n) (hn' : n ≤ 9223372036854775807) :
    Calls Try.prog 46 #[.pointer (some ⟨g, 0, none⟩), .int .i64 n] w fun e w' => e = .returned (.tuple #[]) ∧ Blk w' g 107 (winC mss (ackN mss size slow n) slow) ∧ Only (· = g) w w' := by
  have c0 := hB.at_ (i := 0) (v := .int .i64 mss) rfl
  have c1 := hB.at_ (i := 1) (v := .int .i64 size) rfl
  have c2 := hB.at_ (i := 2) (v := .int .i64 slow) rfl
  have f1 := hB.frozen 1
  have hq := sq_bd mss h h'
  have hq0 : 0 ≤ mss * mss / size := Int.ediv_nonneg (by omega) (by omega)
  have hq1 : mss * mss / size ≤ mss * mss := Int.ediv_le_self _ (by omega)
  have HB := Lib.hid hB
  clear hB
  by_cases h1 : n < 1
  · have hr : ackN mss size slow n = size := by unfold ackN; rw [if_pos h1]
    rw [hr]
    clear hr
    go_enter Try.func46, Try.ntmps46
    go_wp2
    go_returns
    exact ⟨rfl, HB.out, Only.refl _ _⟩
  · by_cases h2 : size < slow
    · have hr : ackN mss size slow n = minI (size + minI n mss) 65535 := by unfold ackN; rw [if_neg h1, if_pos h2]
      rw [hr]
      clear hr
      by_cases h3 : mss < n
      · have e1 : minI n mss = mss := by unfold minI; rw [if_pos h3]
        rw [e1]
        clear e1
        by_cases h4 : 65535 < size + mss
        · have e2 : minI (size + mss) 65535 = 65535 := by unfold minI; rw [if_pos h4]
          rw [e2]
          clear e2
          go_enter Try.func46, Try.ntmps46
          go_wp2_with fail
          go_quiet (fail)
          go_wp2_with fail
          go_region
          go_wp2
          go_returns
          exact ⟨rfl, (HB.out.set_ 1 _).set_ 1 _, ((Only.refl _ _).drewN _).here.here⟩
        · have e2 : minI (size + mss) 65535 = size + mss := by unfold minI; rw [if_neg h4]
          rw [e2]
          clear e2
          go_enter Try.func46, Try.ntmps46
          go_wp2_with fail
          go_quiet (fail)
          go_wp2_with fail
          go_region
          go_wp2
          go_returns
          exact ⟨rfl, (HB.out.set_ 1 _).set_ 1 _, ((Only.refl _ _).drewN _).here.here⟩
      · have e1 : minI n mss = n := by unfold minI; rw [if_neg h3]
        rw [e1]
        clear e1
        by_cases h4 : 65535 < size + n
        · have e2 : minI (size + n) 65535 = 65535 := by unfold minI; rw [if_pos h4]
          rw [e2]
          clear e2
          go_enter Try.func46, Try.ntmps46
          go_wp2_with fail
          go_quiet (fail)
          go_wp2_with fail
          go_region
          go_wp2
          go_returns
          exact ⟨rfl, (HB.out.set_ 1 _).set_ 1 _, ((Only.refl _ _).drewN _).here.here⟩
        · have e2 : minI (size + n) 65535 = size + n := by unfold minI; rw [if_neg h4]
          rw [e2]
          clear e2
          go_enter Try.func46, Try.ntmps46
          go_wp2_with fail
          go_quiet (fail)
          go_wp2_with fail
          go_region
          go_wp2
          go_returns
          exact ⟨rfl, (HB.out.set_ 1 _).set_ 1 _, ((Only.refl _ _).drewN _).here.here⟩
    · have hr : ackN mss size slow n = minI (size + maxI 1 (mss * mss / size)) 65535 := by unfold ackN; rw [if_neg h1, if_neg h2]
      rw [hr]
      clear hr
      go_enter Try.func46, Try.ntmps46
      go_wp2
      go_wp2_with fail
      go_quiet (fail)
      go_wp2_with fail
      go_region
      go_wp2
      all_goals go_returns
      all_goals refine ⟨rfl, Blk.cast ((HB.out.set_ 1 _).set_ 1 _) (winC_eq rfl ?_ rfl), ((Only.refl _ _).drewN _).here.here⟩
      all_goals go_light
      all_goals unfold minI maxI
      all_goals repeat' split
      all_goals omega

theorem ref_Acked (hB : Blk w g 72 (winC mss size slow)) (h : 8 ≤ mss) (h' : mss ≤ 1000) (hs : 8 ≤ size) (hs' : size ≤ 65535) (hn : -9223372036854775808 ≤ n) (hn' : n ≤ 9223372036854775807) :
    Calls Try.prog 47 #[.pointer (some ⟨g, 0, none⟩), .int .i64 n] w fun e w' => e = .returned (.tuple #[]) ∧ Blk w' g 72 (winC mss (ackN mss size slow n) slow) ∧ Only (· = g) w w' := by
  have c0 := hB.at_ (i := 0) (v := .int .i64 mss) rfl
  have c1 := hB.at_ (i := 1) (v := .int .i64 size) rfl
  have c2 := hB.at_ (i := 2) (v := .int .i64 slow) rfl
  have f1 := hB.frozen 1
  have hq := sq_bd mss h h'
  have hq0 : 0 ≤ mss * mss / size := Int.ediv_nonneg (by omega) (by omega)
  have hq1 : mss * mss / size ≤ mss * mss := Int.ediv_le_self _ (by omega)
  have HB := Lib.hid hB
  clear hB
  by_cases h1 : n < 1
  · have hr : ackN mss size slow n = size := by unfold ackN; rw [if_pos h1]
    rw [hr]
    clear hr
    go_enter Try.func47, Try.ntmps47
    go_wp2
    go_returns
    exact ⟨rfl, HB.out, Only.refl _ _⟩
  · by_cases h2 : size < slow
    · have hr : ackN mss size slow n = minI (size + minI n mss) 65535 := by unfold ackN; rw [if_neg h1, if_pos h2]
      rw [hr]
      clear hr
      go_enter Try.func47, Try.ntmps47
      go_wp2_with fail
      go_quiet (fail)
      go_wp2_with fail
      go_region
      go_wp2
      all_goals go_returns
      all_goals refine ⟨rfl, Blk.cast ((HB.out.set_ 1 _).set_ 1 _) (winC_eq rfl ?_ rfl), ((Only.refl _ _).drewN _).here.here⟩
      all_goals go_light
      all_goals unfold minI
      all_goals repeat' split
      all_goals omega
    · have hr : ackN mss size slow n = minI (size + maxI 1 (mss * mss / size)) 65535 := by unfold ackN; rw [if_neg h1, if_neg h2]
      rw [hr]
      clear hr
      go_enter Try.func47, Try.ntmps47
      go_wp2_with fail
      go_quiet (fail)
      go_wp2_with fail
      go_region
      go_wp2
      all_goals go_returns
      all_goals refine ⟨rfl, Blk.cast ((HB.out.set_ 1 _).set_ 1 _) (winC_eq rfl ?_ rfl), ((Only.refl _ _).drewN _).here.here⟩
      all_goals go_light
      all_goals unfold minI maxI
      all_goals repeat' split
      all_goals omega

theorem cong_Lost (hB : Blk w g 107 (winC mss size slow)) (h : 8 ≤ mss) (h' : mss ≤ 1000) (hn : -9223372036854775808 ≤ n) (hn' : n ≤ 9223372036854775807) :
    Calls Try.prog 42 #[.pointer (some ⟨g, 0, none⟩), .int .i64 n] w fun e w' => e = .returned (.tuple #[]) ∧ Blk w' g 107 (winC mss (slowN mss n) (slowN mss n)) ∧ Only (· = g) w w' := by
  have c0 := hB.at_ (i := 0) (v := .int .i64 mss) rfl
  have c1 := hB.at_ (i := 1) (v := .int .i64 size) rfl
  have c2 := hB.at_ (i := 2) (v := .int .i64 slow) rfl
  have f1 := hB.frozen 1
  have f2 := hB.frozen 2
  have HB := Lib.hid hB
  clear hB
  go_enter Try.func42, Try.ntmps42
  go_wp2
  all_goals go_returns
  all_goals refine ⟨rfl, Blk.cast ((HB.out.set_ 2 _).set_ 1 _) (winC_eq rfl ?_ ?_), (Only.refl _ _).here.here⟩
  all_goals go_light
  all_goals try unfold slowN minI maxI
  all_goals omega

theorem cong_Silent (hB : Blk w g 107 (winC mss size slow)) (hl : 8 ≤ mss) (hl' : mss ≤ 1000) (hn : -9223372036854775808 ≤ n) (hn' : n ≤ 9223372036854775807) :
    Calls Try.prog 44 #[.pointer (some ⟨g, 0, none⟩), .int .i64 n] w fun e w' => e = .returned (.tuple #[]) ∧ Blk w' g 107 (winC mss mss (slowN mss n)) ∧ Only (· = g) w w' := by
  have c0 := hB.at_ (i := 0) (v := .int .i64 mss) rfl
  have c1 := hB.at_ (i := 1) (v := .int .i64 size) rfl
  have c2 := hB.at_ (i := 2) (v := .int .i64 slow) rfl
  have f1 := hB.frozen 1
  have f2 := hB.frozen 2
  have HB := Lib.hid hB
  clear hB
  go_enter Try.func44, Try.ntmps44
  go_wp2
  all_goals go_returns
  all_goals refine ⟨rfl, Blk.cast ((HB.out.set_ 2 _).set_ 1 _) (winC_eq rfl ?_ ?_), (Only.refl _ _).here.here⟩
  all_goals go_light
  all_goals try unfold slowN minI maxI
  all_goals omega

theorem ref_Lost (hB : Blk w g 72 (winC mss size slow)) (hl : 8 ≤ mss) (hl' : mss ≤ 1000) (hn : -9223372036854775808 ≤ n) (hn' : n ≤ 9223372036854775807) :
    Calls Try.prog 43 #[.pointer (some ⟨g, 0, none⟩), .int .i64 n] w fun e w' => e = .returned (.tuple #[]) ∧ Blk w' g 72 (winC mss (slowN mss n) (slowN mss n)) ∧ Only (· = g) w w' := by
  have c0 := hB.at_ (i := 0) (v := .int .i64 mss) rfl
  have c1 := hB.at_ (i := 1) (v := .int .i64 size) rfl
  have c2 := hB.at_ (i := 2) (v := .int .i64 slow) rfl
  have f1 := hB.frozen 1
  have f2 := hB.frozen 2
  have HB := Lib.hid hB
  clear hB
  go_enter Try.func43, Try.ntmps43
  go_wp2
  all_goals go_returns
  all_goals refine ⟨rfl, Blk.cast ((HB.out.set_ 2 _).set_ 1 _) (winC_eq rfl ?_ ?_), (Only.refl _ _).here.here⟩
  all_goals go_light
  all_goals try unfold slowN minI maxI
  all_goals omega

theorem ref_Silent (hB : Blk w g 72 (winC mss size slow)) (hl : 8 ≤ mss) (hl' : mss ≤ 1000) (hn : -9223372036854775808 ≤ n) (hn' : n ≤ 9223372036854775807) :
    Calls Try.prog 45 #[.pointer (some ⟨g, 0, none⟩), .int .i64 n] w fun e w' => e = .returned (.tuple #[]) ∧ Blk w' g 72 (winC mss mss (slowN mss n)) ∧ Only (· = g) w w' := by
  go_enter Try.func45, Try.ntmps45
  go_wp2_with fail
  refine (ref_Lost g mss size slow n w hB hl hl' hn hn').mono ?_
  rintro e w1 ⟨rfl, hB1, ho1⟩
  have c0 := hB1.at_ (i := 0) (v := .int .i64 mss) rfl
  have c1 := hB1.at_ (i := 1) (v := .int .i64 (slowN mss n)) rfl
  have f1 := hB1.frozen 1
  have HB1 := Lib.hid hB1
  clear hB1 hB
  go_wp2
  go_returns
  exact ⟨rfl, HB1.out.set_ 1 _, ho1.here⟩
end
end Go.Proofs.Ytdpapkcibpcmjaa
