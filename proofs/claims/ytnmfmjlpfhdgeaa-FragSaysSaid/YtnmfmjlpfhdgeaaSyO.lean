/- (Step).Of in letters. -/
import Derived.Test.YtnmfmjlpfhdgeaaSyY
import Derived.Test.YtnmfmjlpfhdgeaaStep
namespace Go.Proofs.Ytnmfmjlpfhdgeaa
namespace Sy
open Go Go.RowKit
set_option linter.unusedVariables false
set_option linter.unusedSimpArgs false

/-- (Step).Of, where its kind is a term. -/
def ofSp : Spec := pureSpec 6 (fun c xs => match xs with
    | [.one (.agg (.int .i64 x :: _)), .one (.c (.int .i64 (.il n)))] => if leI 1 n && leI n 4294967296 then some (need c (.le (.il (-9223372036854775808)) x) ++ need c (.le x (.il 9223372036854775807))) else none
    | _ => none) (fun _ xs => match xs with
    | [.one (.agg (.int .i64 x :: _)), .one (.c (.int .i64 (.il n)))] => some (.one (.c (.int .i64 (.md x (.il n)))), [])
    | _ => none)
theorem ofSp_ok {ρ : Env} : ofSp.Ok Try.prog ρ := by
  refine pureSpec_ok fun c xs m v bs hc hpre hres hm => ?_
  split at hres
  · rename_i x l n
    simp only [] at hpre
    split at hpre
    · rename_i q
      simp only [Bool.and_eq_true] at q
      have q1 : 1 ≤ n := by simpa [leI] using q.1
      have q2 : n ≤ 4294967296 := by simpa [leI] using q.2
      injection hpre with hpre
      injection hres with hres
      injection hres with h1 h2
      subst hpre h1 h2
      have l1 := le_of (need_ok hc hm.l)
      have l2 := le_of (need_ok hc hm.r)
      change (-9223372036854775808 : Int) ≤ _ at l1
      change _ ≤ (9223372036854775807 : Int) at l2
      refine ⟨fun x hx => (by cases hx), fun β w => ?_⟩
      exact (step_Of (Value.int .i64 (den ρ x).i :: denL ρ β l) (den ρ x).i n w rfl l1 l2 q1 q2).mono fun e w' h => h
    · cases hpre
  · cases hres
end Sy
end Go.Proofs.Ytnmfmjlpfhdgeaa
