/- Small contracts for segments. -/
import Derived.Test.YthjigajielhkfaaSyN
namespace Go.Proofs.Ythjigajielhkfaa
open Go.RowKit
set_option linter.unusedVariables false

theorem ref_truth (b : Bool) (w : World) : Calls Try.prog 135 #[.bool b] w fun e w' => e = .returned (.int .i64 (if b then 1 else 0)) ∧ w = w' := by
  cases b with
  | true =>
    go_enter Try.func135, Try.ntmps135
    go_wp2
    go_ret
    exact ⟨rfl, rfl⟩
  | false =>
    go_enter Try.func135, Try.ntmps135
    go_wp2
    go_ret
    exact ⟨rfl, rfl⟩
namespace Sy
/-- The reference's truth: 1 or 0. -/
def truthT (c : Cx) (b : Tm) : Tm :=
  match dec0 c b with
  | some true => .il 1
  | some false => .il 0
  | none => mkIte b (.il 1) (.il 0)
def truthRes (c : Cx) : List SV → Option (SV × List Bd)
  | [.one (.c (.bool b))] => some (.one (.c (.int .i64 (truthT c b))), [])
  | _ => none
def truthSp : Spec := pureSpec 135 (fun _ _ => some []) truthRes
theorem truthT_ok {ρ : Env} {c : Cx} (hc : c.ok ρ) (b : Tm) : (den ρ (truthT c b)).i = if (den ρ b).b then 1 else 0 := by
  unfold truthT
  split
  · rename_i h
    rw [dec0_ok hc h]
    rfl
  · rename_i h
    rw [dec0_ok hc h]
    rfl
  · rw [mkIte_i]
    rfl
theorem truthSp_ok {ρ : Env} : truthSp.Ok Try.prog ρ := by
  refine pureSpec_ok fun c xs m v bs hc hpre hres hm => ?_
  match xs, hres with
  | [.one (.c (.bool b))], hres =>
    injection hres with hres
    injection hres with h1 h2
    subst h1 h2
    refine ⟨fun x hx => (by cases hx), fun β w => ?_⟩
    refine (ref_truth (den ρ b).b w).mono ?_
    rintro e w' ⟨rfl, rfl⟩
    refine ⟨?_, ⟨rfl, rfl, rfl, Nat.le_refl _, fun _ _ => rfl⟩⟩
    show _ = Ending.returned (.int .i64 (den ρ (truthT c b)).i)
    rw [truthT_ok hc]
end Sy
end Go.Proofs.Ythjigajielhkfaa
