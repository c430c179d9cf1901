/- Contracts of package rto and of the reference's Rto. -/
import Derived.Test.YtdpapkcibpcmjaaStep
import Derived.Deep.RegionHeld3
namespace Go.Proofs.Ytdpapkcibpcmjaa
open Go.RowKit
set_option linter.unusedVariables false

/-- The cells of a Timer; of the reference's Rto. -/
def timerC (known : Bool) (mean spread doubled : Int) : List Value := [.bool known, .int .i64 mean, .int .i64 spread, .int .i64 doubled]
def rtoC (mean spread doubled : Int) : List Value := [.int .i64 mean, .int .i64 spread, .int .i64 doubled]

def lateD (d : Int) : Int := if d = 6 then 6 else d + 1
def absI (d : Int) : Int := if d < 0 then -d else d

theorem rto_Late (g : Nat) (k : Bool) (m s d : Int) (w : World) (hB : Blk w g 101 (timerC k m s d)) (hd : 0 ≤ d) (hd' : d ≤ 6) :
    Calls Try.prog 36 #[.pointer (some ⟨g, 0, none⟩)] w fun e w' => e = .returned (.tuple #[]) ∧ Blk w' g 101 (timerC k m s (lateD d)) ∧ Only (· = g) w w' := by
  have c3 := hB.at_ (i := 3) (v := .int .i64 d) rfl
  have f3 := hB.frozen 3
  have HB := Lib.hid hB
  clear hB
  by_cases h6 : d = 6
  · subst h6
    go_enter Try.func36, Try.ntmps36
    go_wp2
    go_end0
    exact ⟨rfl, HB.out.set_ 3 _, (Only.refl _ _).here⟩
  · have h6' : d < 6 := by omega
    have hl : lateD d = d + 1 := by unfold lateD; rw [if_neg h6]
    have HL := Lib.hid hl
    clear hl h6
    go_enter Try.func36, Try.ntmps36
    go_wp2
    go_end0
    exact ⟨rfl, by rw [HL.out]; exact HB.out.set_ 3 _, (Only.refl _ _).here⟩

theorem rto_Sample_no (g : Nat) (r : Int) (w : World) (hr : r < 0 ∨ 1099511627776 < r) :
    Calls Try.prog 33 #[.pointer (some ⟨g, 0, none⟩), .int .i64 r] w fun e w' => e = .returned (.int .i64 1) ∧ w = w' := by
  rcases hr with hr | hr
  · go_enter Try.func33, Try.ntmps33
    go_wp2
    go_ret
    exact ⟨rfl, rfl⟩
  · go_enter Try.func33, Try.ntmps33
    go_wp2
    go_ret
    exact ⟨rfl, rfl⟩

theorem rto_Sample_first (g : Nat) (m s d r : Int) (w : World) (hB : Blk w g 101 (timerC false m s d)) (hr : 0 ≤ r) (hr' : r ≤ 1099511627776) :
    Calls Try.prog 33 #[.pointer (some ⟨g, 0, none⟩), .int .i64 r] w fun e w' => e = .returned (.int .i64 0) ∧ Blk w' g 101 (timerC true (8 * r) (2 * r) 0) ∧ Only (· = g) w w' := by
  have c0 := hB.at_ (i := 0) (v := .bool false) rfl
  have c1 := hB.at_ (i := 1) (v := .int .i64 m) rfl
  have c2 := hB.at_ (i := 2) (v := .int .i64 s) rfl
  have c3 := hB.at_ (i := 3) (v := .int .i64 d) rfl
  have f0 := hB.frozen 0
  have f1 := hB.frozen 1
  have f2 := hB.frozen 2
  have f3 := hB.frozen 3
  have HB := Lib.hid hB
  clear hB
  rw [Int.mul_comm 8, Int.mul_comm 2]
  go_enter Try.func33, Try.ntmps33
  go_wp2
  go_ret
  exact ⟨rfl, (((HB.out.set_ 3 _).set_ 0 _).set_ 1 _).set_ 2 _, (Only.refl _ _).here.here.here.here⟩

theorem rto_Sample_next (g : Nat) (m s d r : Int) (w : World) (hB : Blk w g 101 (timerC true m s d)) (hr : 0 ≤ r) (hr' : r ≤ 1099511627776) (hm : 0 ≤ m) (hm' : m ≤ 8796093022208) (hs : 0 ≤ s) (hs' : s ≤ 4398046511104) :
    Calls Try.prog 33 #[.pointer (some ⟨g, 0, none⟩), .int .i64 r] w fun e w' => e = .returned (.int .i64 0) ∧ Blk w' g 101 (timerC true (m + (r - m / 8)) (s + (absI (r - m / 8) - s / 4)) 0) ∧ Only (· = g) w w' := by
  have c0 := hB.at_ (i := 0) (v := .bool true) rfl
  have c1 := hB.at_ (i := 1) (v := .int .i64 m) rfl
  have c2 := hB.at_ (i := 2) (v := .int .i64 s) rfl
  have c3 := hB.at_ (i := 3) (v := .int .i64 d) rfl
  have f0 := hB.frozen 0
  have f1 := hB.frozen 1
  have f2 := hB.frozen 2
  have f3 := hB.frozen 3
  have HB := Lib.hid hB
  clear hB
  by_cases hn : r - m / 8 < 0
  · have ha : absI (r - m / 8) = -(r - m / 8) := by unfold absI; rw [if_pos hn]
    rw [ha]
    clear ha
    go_enter Try.func33, Try.ntmps33
    go_wp2
    go_region
    go_wp2
    go_ret
    exact ⟨rfl, ((HB.out.set_ 3 _).set_ 1 _).set_ 2 _, (Only.refl _ _).here.here.here.drew⟩
  · have ha : absI (r - m / 8) = r - m / 8 := by unfold absI; rw [if_neg hn]
    rw [ha]
    clear ha
    have hn' : 0 ≤ r - m / 8 := by omega
    clear hn
    go_enter Try.func33, Try.ntmps33
    go_wp2
    go_region
    go_wp2
    go_ret
    exact ⟨rfl, ((HB.out.set_ 3 _).set_ 1 _).set_ 2 _, (Only.refl _ _).here.here.here.drew⟩

/-- How many ticks: between 2 and 64. -/
def clampV (n : Int) : Int := if n < 2 then 2 else if 64 < n then 64 else n
def baseV (k : Bool) (m s : Int) : Int := if k = true then m / 8 + (if 1 < s then s else 1) else 3
def valueV (k : Bool) (m s d : Int) : Int := clampV (baseV k m s * 2 ^ d.toNat)

theorem rto_Value_un (g : Nat) (m s d : Int) (w : World) (hB : Blk w g 101 (timerC false m s d)) (hd : 0 ≤ d) (hd' : d ≤ 6) :
    Calls Try.prog 38 #[.pointer (some ⟨g, 0, none⟩)] w fun e w' => e = .returned (.int .i64 (valueV false m s d)) ∧ ∃ n, w' = w.drewN n := by
  have c0 := hB.at_ (i := 0) (v := .bool false) rfl
  have c3 := hB.at_ (i := 3) (v := .int .i64 d) rfl
  have h7 : d = 0 ∨ d = 1 ∨ d = 2 ∨ d = 3 ∨ d = 4 ∨ d = 5 ∨ d = 6 := by omega
  rcases h7 with rfl | rfl | rfl | rfl | rfl | rfl | rfl
  all_goals
    go_enter Try.func38, Try.ntmps38
    go_wp2
    go_ret
    exact ⟨ret_int (by simp [valueV, baseV, clampV]), 0, rfl⟩

theorem rto_Value_kn (g : Nat) (m s d : Int) (w : World) (hB : Blk w g 101 (timerC true m s d)) (hd : 0 ≤ d) (hd' : d ≤ 6) (hm : 0 ≤ m) (hm' : m ≤ 8796093022208) (hs : 0 ≤ s) (hs' : s ≤ 4398046511104) :
    Calls Try.prog 38 #[.pointer (some ⟨g, 0, none⟩)] w fun e w' => e = .returned (.int .i64 (valueV true m s d)) ∧ ∃ n, w' = w.drewN n := by
  have c0 := hB.at_ (i := 0) (v := .bool true) rfl
  have c1 := hB.at_ (i := 1) (v := .int .i64 m) rfl
  have c2 := hB.at_ (i := 2) (v := .int .i64 s) rfl
  have c3 := hB.at_ (i := 3) (v := .int .i64 d) rfl
  have h7 : d = 0 ∨ d = 1 ∨ d = 2 ∨ d = 3 ∨ d = 4 ∨ d = 5 ∨ d = 6 := by omega
  rcases h7 with rfl | rfl | rfl | rfl | rfl | rfl | rfl <;> rcases Int.lt_or_le 1 s with h1 | h1
  all_goals
    go_enter Try.func38, Try.ntmps38
    go_wp2
    go_quiet (fail)
    go_wp2
    all_goals go_ret
    all_goals refine ⟨ret_int ?_, _, rfl⟩
    all_goals go_light
    all_goals simp [valueV, baseV, clampV]
    all_goals repeat' split
    all_goals omega
end Go.Proofs.Ytdpapkcibpcmjaa
