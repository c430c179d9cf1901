/- packetboat/packetboatlaw.RtoSays: for every input the law returns true. No condition. The closing text: the walk is in the texts that are imported. -/
import Derived.Test.YtdpapkcibpcmjaaLawLift
import Derived.Test.YtdpapkcibpcmjaaRtoLaw
namespace Go.Proofs.Ytdpapkcibpcmjaa
open Go.ChangeShapes Go.WideShapes Go.ChangeAt Go.RowKit

set_option maxRecDepth 100000 in
theorem rtoSays_lifted (os : Os) (started : os.Started) (H : Type) (enc : TypeId × Value → H) :
    ReturnsInHanded {} Try.checked os 9 .any (Rows.rtoSaysSpec.pre6 enc Try.prog Try.f9 Rows.rtoSaysRow.domain false) (Rows.rtoSaysSpec.post enc Try.prog Try.f9 false true false false) := by
  refine lift_law (C := Try.checked) (tb := 4) own laidOut started (by kernel_rfl) Try.func9
    (ChangeSpec.witness6 (enc := enc) (C := Try.checked) false ⟨#[], #[.slice none 0 0], []⟩ 8 (by kernel_rfl) (by kernel_rfl) (by kernel_rfl) (by kernel_rfl)) (by kernel_rfl) rfl Try.underlying4 rfl ?_ ?_
  · intro ds hds
    match ds, hds with
    | [_], _ => exact ⟨rfl, rfl, rfl⟩
  intro W base args ds p hval0 hA0 hsz
  have hval : ∀ (j : Nat) t v, Try.f9.params[j]? = some t → args[j]? = some v → Value.okWide Try.prog W .any base t v := hval0
  have hA : DataW.TrodAll enc Try.prog W 0 (fun _ => true) true Try.f9.params.toList args.toList ds p := hA0
  rw [Try.params9] at hA hval
  obtain ⟨v0, vs0, d0, ds0, p0, q0, hargs, rfl, rfl, h0, r0⟩ := trodAll_cons hA
  obtain ⟨rfl, rfl, rfl⟩ := trodAll_nil r0
  obtain rfl : args = #[v0] := by cases args; simp_all
  obtain ⟨a0, len0, cap0, e0⟩ := okWide_slice Try.underlying41 (hval 0 41 v0 rfl rfl)
  subst e0
  have o0 := open_flat Try.underlying41 (n := 9) (l := stepLeaves) (by kernel_rfl) (by kernel_rfl) (by decide) h0
  exact walk_rtoSays (w := W) a0 len0 cap0 o0

/-- THE STATEMENT. -/
theorem rtoSays_holds : Rows.RtoSaysSaid :=
  OpenClaim.holds_of_wide 9 Try.f9 rfl rfl rfl rfl rfl rfl rfl ⟨rfl, rfl, rfl, rfl, rfl⟩ rfl rfl rfl rfl rfl (by kernel_rfl) Try.func9 (by kernel_rfl)
    (of_decide_eq_true (by kernel_rfl)) (by unfold Func.isWrapper; first | (rw [if_pos (by decide +kernel)]; kernel_rfl) | (rw [if_neg (by decide +kernel)]; exact ⟨rfl, rfl⟩))
    (fun os started H enc _ => rtoSays_lifted os started H enc)
#print axioms rtoSays_holds
end Go.Proofs.Ytdpapkcibpcmjaa
