/- packetboat/packetboatlaw.CookieChecks: for every input the law returns true. No condition. The closing text: the walk is in the texts that are imported. -/
import Derived.Test.YtmbjinfeinhalaaLawLift
import Derived.Test.YtmbjinfeinhalaaCookieCLaw
namespace Go.Proofs.Ytmbjinfeinhalaa
open Go.ChangeShapes Go.WideShapes Go.ChangeAt Go.RowKit

set_option maxRecDepth 100000 in
theorem cookieChecks_lifted (os : Os) (started : os.Started) (H : Type) (enc : TypeId × Value → H) :
    ReturnsInHanded {} Try.checked os 13 .any (Rows.cookieChecksSpec.pre6 enc Try.prog Try.f13 Rows.cookieChecksRow.domain false) (Rows.cookieChecksSpec.post enc Try.prog Try.f13 false true false false) := by
  refine lift_law (C := Try.checked) (tb := 4) own laidOut started (by kernel_rfl) Try.func13
    (ChangeSpec.witness6 (enc := enc) (C := Try.checked) false ⟨#[], #[.int .u64 0, .int .u64 0, .agg #[.int .u32 0, .int .i64 0], .agg #[.int .u32 0, .int .i64 0], .int .u32 0, .int .u32 0, .int .i64 0], []⟩ 8 (by kernel_rfl) (by kernel_rfl) (by kernel_rfl) (by kernel_rfl)) (by kernel_rfl) rfl Try.underlying4 rfl ?_ ?_
  · intro ds hds
    match ds, hds with
    | [_, _, _, _, _, _, _], _ => exact ⟨rfl, rfl, rfl⟩
  intro W base args ds p hval0 hA0 hsz
  have hval : ∀ (j : Nat) t v, Try.f13.params[j]? = some t → args[j]? = some v → Value.okWide Try.prog W .any base t v := hval0
  have hA : DataW.TrodAll enc Try.prog W 0 (fun _ => true) true Try.f13.params.toList args.toList ds p := hA0
  rw [Try.params13] at hA hval
  obtain ⟨v0, vs0, d0, ds0, p0, q0, hargs, rfl, rfl, h0, r0⟩ := trodAll_cons hA
  obtain ⟨v1, vs1, d1, ds1, p1, q1, rfl, rfl, rfl, h1, r1⟩ := trodAll_cons r0
  obtain ⟨v2, vs2, d2, ds2, p2, q2, rfl, rfl, rfl, h2, r2⟩ := trodAll_cons r1
  obtain ⟨v3, vs3, d3, ds3, p3, q3, rfl, rfl, rfl, h3, r3⟩ := trodAll_cons r2
  obtain ⟨v4, vs4, d4, ds4, p4, q4, rfl, rfl, rfl, h4, r4⟩ := trodAll_cons r3
  obtain ⟨v5, vs5, d5, ds5, p5, q5, rfl, rfl, rfl, h5, r5⟩ := trodAll_cons r4
  obtain ⟨v6, vs6, d6, ds6, p6, q6, rfl, rfl, rfl, h6, r6⟩ := trodAll_cons r5
  obtain ⟨rfl, rfl, rfl⟩ := trodAll_nil r6
  obtain rfl : args = #[v0, v1, v2, v3, v4, v5, v6] := by cases args; simp_all
  obtain ⟨a0, e0, _, _, wf0⟩ := open_int Try.underlying56 (hval 0 56 v0 rfl rfl) h0
  subst e0
  have bd0 := bounds_u64 wf0
  obtain ⟨a1, e1, _, _, wf1⟩ := open_int Try.underlying56 (hval 1 56 v1 rfl rfl) h1
  subst e1
  have bd1 := bounds_u64 wf1
  obtain ⟨c2, e2, _⟩ := okWide_struct Try.underlying31 (hval 2 31 v2 rfl rfl)
  subst e2
  have lf2 := open_flat_val (n := 9) (l := endLeaves) (by kernel_rfl) h2
  obtain ⟨c3, e3, _⟩ := okWide_struct Try.underlying31 (hval 3 31 v3 rfl rfl)
  subst e3
  have lf3 := open_flat_val (n := 9) (l := endLeaves) (by kernel_rfl) h3
  obtain ⟨a4, e4, _, _, wf4⟩ := open_int Try.underlying22 (hval 4 22 v4 rfl rfl) h4
  subst e4
  have bd4 := bounds_u32 wf4
  obtain ⟨a5, e5, _, _, wf5⟩ := open_int Try.underlying22 (hval 5 22 v5 rfl rfl) h5
  subst e5
  have bd5 := bounds_u32 wf5
  obtain ⟨a6, e6, _, _, wf6⟩ := open_int Try.underlying3 (hval 6 3 v6 rfl rfl) h6
  subst e6
  have bd6 := bounds_i64 wf6
  exact walk_cookieChecks (w := W) a0 a1 c2 c3 a4 a5 a6 bd0.1 bd0.2 bd1.1 bd1.2 lf2 lf3 bd4.1 bd4.2 bd5.1 bd5.2 bd6.1 bd6.2

/-- THE STATEMENT. -/
theorem cookieChecks_holds : Rows.CookieChecksSaid :=
  OpenClaim.holds_of_wide 13 Try.f13 rfl rfl rfl rfl rfl rfl rfl ⟨rfl, rfl, rfl, rfl, rfl⟩ rfl rfl rfl rfl rfl (by kernel_rfl) Try.func13 (by kernel_rfl)
    (of_decide_eq_true (by kernel_rfl)) (by unfold Func.isWrapper; first | (rw [if_pos (by decide +kernel)]; kernel_rfl) | (rw [if_neg (by decide +kernel)]; exact ⟨rfl, rfl⟩))
    (fun os started H enc _ => cookieChecks_lifted os started H enc)
#print axioms cookieChecks_holds
end Go.Proofs.Ytmbjinfeinhalaa
