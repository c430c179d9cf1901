/- packetboat/packetboatlaw.SeqNears: for every input the law returns true. No condition. The closing text: the walk is in the texts that are imported. -/
import Derived.Test.YtdpapkcibpcmjaaLawLift
import Derived.Test.YtdpapkcibpcmjaaSeqLaws
namespace Go.Proofs.Ytdpapkcibpcmjaa
open Go.ChangeShapes Go.WideShapes Go.ChangeAt Go.RowKit

set_option maxRecDepth 100000 in
theorem seqNears_lifted (os : Os) (started : os.Started) (H : Type) (enc : TypeId × Value → H) :
    ReturnsInHanded {} Try.checked os 5 .any (Rows.seqNearsSpec.pre6 enc Try.prog Try.f5 Rows.seqNearsRow.domain false) (Rows.seqNearsSpec.post enc Try.prog Try.f5 false true false false) := by
  refine lift_law (C := Try.checked) (tb := 4) own laidOut started (by kernel_rfl) Try.func5
    (ChangeSpec.witness6 (enc := enc) (C := Try.checked) false ⟨#[], #[.int .u32 0, .int .i64 0], []⟩ 8 (by kernel_rfl) (by kernel_rfl) (by kernel_rfl) (by kernel_rfl)) (by kernel_rfl) rfl Try.underlying4 rfl ?_ ?_
  · intro ds hds
    match ds, hds with
    | [_, _], _ => exact ⟨rfl, rfl, rfl⟩
  intro W base args ds p hval0 hA0 hsz
  have hval : ∀ (j : Nat) t v, Try.f5.params[j]? = some t → args[j]? = some v → Value.okWide Try.prog W .any base t v := hval0
  have hA : DataW.TrodAll enc Try.prog W 0 (fun _ => true) true Try.f5.params.toList args.toList ds p := hA0
  rw [Try.params5] at hA hval
  obtain ⟨v0, vs0, d0, ds0, p0, q0, hargs, rfl, rfl, h0, r0⟩ := trodAll_cons hA
  obtain ⟨v1, vs1, d1, ds1, p1, q1, rfl, rfl, rfl, h1, r1⟩ := trodAll_cons r0
  obtain ⟨rfl, rfl, rfl⟩ := trodAll_nil r1
  obtain rfl : args = #[v0, v1] := by cases args; simp_all
  obtain ⟨a0, e0, _, _, wf0⟩ := open_int Try.underlying27 (hval 0 27 v0 rfl rfl) h0
  subst e0
  have bd0 := bounds_u32 wf0
  obtain ⟨a1, e1, _, _, wf1⟩ := open_int Try.underlying3 (hval 1 3 v1 rfl rfl) h1
  subst e1
  have bd1 := bounds_i64 wf1
  exact walk_seqNears a0 a1 bd0.1 bd0.2 bd1.1 bd1.2 W

/-- THE STATEMENT. -/
theorem seqNears_holds : Rows.SeqNearsSaid :=
  OpenClaim.holds_of_wide 5 Try.f5 rfl rfl rfl rfl rfl rfl rfl ⟨rfl, rfl, rfl, rfl, rfl⟩ rfl rfl rfl rfl rfl (by kernel_rfl) Try.func5 (by kernel_rfl)
    (of_decide_eq_true (by kernel_rfl)) (by unfold Func.isWrapper; first | (rw [if_pos (by decide +kernel)]; kernel_rfl) | (rw [if_neg (by decide +kernel)]; exact ⟨rfl, rfl⟩))
    (fun os started H enc _ => seqNears_lifted os started H enc)
#print axioms seqNears_holds
end Go.Proofs.Ytdpapkcibpcmjaa
