/- packetboat/packetboatlaw.IpReads: for every input the law returns true. No condition. The closing text: the walk is in the texts that are imported. -/
import Derived.Test.YthjigajielhkfaaLawLift
import Derived.Test.YthjigajielhkfaaIpRLaw
namespace Go.Proofs.Ythjigajielhkfaa
open Go.ChangeShapes Go.WideShapes Go.ChangeAt Go.RowKit

set_option maxRecDepth 100000 in
theorem ipReads_lifted (os : Os) (started : os.Started) (H : Type) (enc : TypeId × Value → H) :
    ReturnsInHanded {} Try.checked os 3 .any (Rows.ipReadsSpec.pre6 enc Try.prog Try.f3 Rows.ipReadsRow.domain false) (Rows.ipReadsSpec.post enc Try.prog Try.f3 false true false false) := by
  refine lift_law (C := Try.checked) (tb := 4) own laidOut started (by kernel_rfl) Try.func3
    (ChangeSpec.witness6 (enc := enc) (C := Try.checked) false ⟨#[], #[.string ⟨#[]⟩, .int .u32 0, .int .u32 0, .int .i64 0, .int .i64 0], []⟩ 8 (by kernel_rfl) (by kernel_rfl) (by kernel_rfl) (by kernel_rfl)) (by kernel_rfl) rfl Try.underlying4 rfl ?_ ?_
  · intro ds hds
    match ds, hds with
    | [_, _, _, _, _], _ => exact ⟨rfl, rfl, rfl⟩
  intro W base args ds p hval0 hA0 hsz
  have hval : ∀ (j : Nat) t v, Try.f3.params[j]? = some t → args[j]? = some v → Value.okWide Try.prog W .any base t v := hval0
  have hA : DataW.TrodAll enc Try.prog W 0 (fun _ => true) true Try.f3.params.toList args.toList ds p := hA0
  rw [Try.params3] at hA hval
  obtain ⟨v0, vs0, d0, ds0, p0, q0, hargs, rfl, rfl, h0, r0⟩ := trodAll_cons hA
  obtain ⟨v1, vs1, d1, ds1, p1, q1, rfl, rfl, rfl, h1, r1⟩ := trodAll_cons r0
  obtain ⟨v2, vs2, d2, ds2, p2, q2, rfl, rfl, rfl, h2, r2⟩ := trodAll_cons r1
  obtain ⟨v3, vs3, d3, ds3, p3, q3, rfl, rfl, rfl, h3, r3⟩ := trodAll_cons r2
  obtain ⟨v4, vs4, d4, ds4, p4, q4, rfl, rfl, rfl, h4, r4⟩ := trodAll_cons r3
  obtain ⟨rfl, rfl, rfl⟩ := trodAll_nil r4
  obtain rfl : args = #[v0, v1, v2, v3, v4] := by cases args; simp_all
  obtain ⟨a0, e0, ed0, _, _⟩ := Go.ChangeMaps.open_string Try.underlying9 (hval 0 9 v0 rfl rfl) h0
  subst e0
  have sz0 : a0.size ≤ 140737488351232 := by
    have h := sized_string hsz (j := 0) (t := 9) (by rw [Try.params3]; rfl) (by rw [ed0]; rfl)
    simpa [reachBytes] using h
  obtain ⟨a1, e1, _, _, wf1⟩ := open_int Try.underlying22 (hval 1 22 v1 rfl rfl) h1
  subst e1
  have bd1 := bounds_u32 wf1
  obtain ⟨a2, e2, _, _, wf2⟩ := open_int Try.underlying22 (hval 2 22 v2 rfl rfl) h2
  subst e2
  have bd2 := bounds_u32 wf2
  obtain ⟨a3, e3, _, _, wf3⟩ := open_int Try.underlying3 (hval 3 3 v3 rfl rfl) h3
  subst e3
  have bd3 := bounds_i64 wf3
  obtain ⟨a4, e4, _, _, wf4⟩ := open_int Try.underlying3 (hval 4 3 v4 rfl rfl) h4
  subst e4
  have bd4 := bounds_i64 wf4
  exact walk_ipReads (w := W) a0 a1 a2 a3 a4 sz0 bd1.1 bd1.2 bd2.1 bd2.2 bd3.1 bd3.2 bd4.1 bd4.2

/-- THE STATEMENT. -/
theorem ipReads_holds : Rows.IpReadsSaid :=
  OpenClaim.holds_of_wide 3 Try.f3 rfl rfl rfl rfl rfl rfl rfl ⟨rfl, rfl, rfl, rfl, rfl⟩ rfl rfl rfl rfl rfl (by kernel_rfl) Try.func3 (by kernel_rfl)
    (of_decide_eq_true (by kernel_rfl)) (by unfold Func.isWrapper; first | (rw [if_pos (by decide +kernel)]; kernel_rfl) | (rw [if_neg (by decide +kernel)]; exact ⟨rfl, rfl⟩))
    (fun os started H enc _ => ipReads_lifted os started H enc)
#print axioms ipReads_holds
end Go.Proofs.Ythjigajielhkfaa
