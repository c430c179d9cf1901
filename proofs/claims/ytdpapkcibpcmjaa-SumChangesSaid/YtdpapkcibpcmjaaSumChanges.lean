/- packetboat/packetboatlaw.SumChanges: for every input the law returns true. No condition. The closing text: the walk is in the texts that are imported. -/
import Derived.Test.YtdpapkcibpcmjaaLawLift
import Derived.Test.YtdpapkcibpcmjaaSumLaws
namespace Go.Proofs.Ytdpapkcibpcmjaa
open Go.ChangeShapes Go.WideShapes Go.ChangeAt Go.RowKit

set_option maxRecDepth 100000 in
theorem sumChanges_lifted (os : Os) (started : os.Started) (H : Type) (enc : TypeId × Value → H) :
    ReturnsInHanded {} Try.checked os 8 .any (Rows.sumChangesSpec.pre6 enc Try.prog Try.f8 Rows.sumChangesRow.domain false) (Rows.sumChangesSpec.post enc Try.prog Try.f8 false true false false) := by
  refine lift_law (C := Try.checked) (tb := 4) own laidOut started (by kernel_rfl) Try.func8
    (ChangeSpec.witness6 (enc := enc) (C := Try.checked) false ⟨#[], #[.int .u16 0, .int .u16 0, .int .u16 0, .bool false], []⟩ 8 (by kernel_rfl) (by kernel_rfl) (by kernel_rfl) (by kernel_rfl)) (by kernel_rfl) rfl Try.underlying4 rfl ?_ ?_
  · intro ds hds
    match ds, hds with
    | [_, _, _, _], _ => exact ⟨rfl, rfl, rfl⟩
  intro W base args ds p hval0 hA0 hsz
  have hval : ∀ (j : Nat) t v, Try.f8.params[j]? = some t → args[j]? = some v → Value.okWide Try.prog W .any base t v := hval0
  have hA : DataW.TrodAll enc Try.prog W 0 (fun _ => true) true Try.f8.params.toList args.toList ds p := hA0
  rw [Try.params8] at hA hval
  obtain ⟨v0, vs0, d0, ds0, p0, q0, hargs, rfl, rfl, h0, r0⟩ := trodAll_cons hA
  obtain ⟨v1, vs1, d1, ds1, p1, q1, rfl, rfl, rfl, h1, r1⟩ := trodAll_cons r0
  obtain ⟨v2, vs2, d2, ds2, p2, q2, rfl, rfl, rfl, h2, r2⟩ := trodAll_cons r1
  obtain ⟨v3, vs3, d3, ds3, p3, q3, rfl, rfl, rfl, h3, r3⟩ := trodAll_cons r2
  obtain ⟨rfl, rfl, rfl⟩ := trodAll_nil r3
  obtain rfl : args = #[v0, v1, v2, v3] := by cases args; simp_all
  obtain ⟨a0, e0, _, _, wf0⟩ := open_int Try.underlying35 (hval 0 35 v0 rfl rfl) h0
  subst e0
  have bd0 := bounds_u16 wf0
  obtain ⟨a1, e1, _, _, wf1⟩ := open_int Try.underlying35 (hval 1 35 v1 rfl rfl) h1
  subst e1
  have bd1 := bounds_u16 wf1
  obtain ⟨a2, e2, _, _, wf2⟩ := open_int Try.underlying35 (hval 2 35 v2 rfl rfl) h2
  subst e2
  have bd2 := bounds_u16 wf2
  obtain ⟨a3, e3, _, _⟩ := open_bool Try.underlying4 (hval 3 4 v3 rfl rfl) h3
  subst e3
  exact walk_sumChanges a0 a1 a2 a3 bd0.1 bd0.2 bd1.1 bd1.2 bd2.1 bd2.2 W

/-- THE STATEMENT. -/
theorem sumChanges_holds : Rows.SumChangesSaid :=
  OpenClaim.holds_of_wide 8 Try.f8 rfl rfl rfl rfl rfl rfl rfl ⟨rfl, rfl, rfl, rfl, rfl⟩ rfl rfl rfl rfl rfl (by kernel_rfl) Try.func8 (by kernel_rfl)
    (of_decide_eq_true (by kernel_rfl)) (by unfold Func.isWrapper; first | (rw [if_pos (by decide +kernel)]; kernel_rfl) | (rw [if_neg (by decide +kernel)]; exact ⟨rfl, rfl⟩))
    (fun os started H enc _ => sumChanges_lifted os started H enc)
#print axioms sumChanges_holds
end Go.Proofs.Ytdpapkcibpcmjaa
