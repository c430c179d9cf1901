/- packetboat/packetboatlaw.TcpReads: for every input the law returns true. No condition. The closing text: the walk is in the texts that are imported. -/
import Derived.Test.YthjigajielhkfaaLawLift
import Derived.Test.YthjigajielhkfaaTcpRLaw
namespace Go.Proofs.Ythjigajielhkfaa
open Go.ChangeShapes Go.WideShapes Go.ChangeAt Go.RowKit

set_option maxRecDepth 100000 in
theorem tcpReads_lifted (os : Os) (started : os.Started) (H : Type) (enc : TypeId × Value → H) :
    ReturnsInHanded {} Try.checked os 13 .any (Rows.tcpReadsSpec.pre6 enc Try.prog Try.f13 Rows.tcpReadsRow.domain false) (Rows.tcpReadsSpec.post enc Try.prog Try.f13 false true false false) := by
  refine lift_law (C := Try.checked) (tb := 4) own laidOut started (by kernel_rfl) Try.func13
    (ChangeSpec.witness6 (enc := enc) (C := Try.checked) false ⟨#[], #[.int .u32 0, .int .u32 0, .string ⟨#[]⟩], []⟩ 8 (by kernel_rfl) (by kernel_rfl) (by kernel_rfl) (by kernel_rfl)) (by kernel_rfl) rfl Try.underlying4 rfl ?_ ?_
  · intro ds hds
    match ds, hds with
    | [_, _, _], _ => exact ⟨rfl, rfl, rfl⟩
  intro W base args ds p hval0 hA0 hsz
  have hval : ∀ (j : Nat) t v, Try.f13.params[j]? = some t → args[j]? = some v → Value.okWide Try.prog W .any base t v := hval0
  have hA : DataW.TrodAll enc Try.prog W 0 (fun _ => true) true Try.f13.params.toList args.toList ds p := hA0
  rw [Try.params13] at hA hval
  obtain ⟨v0, vs0, d0, ds0, p0, q0, hargs, rfl, rfl, h0, r0⟩ := trodAll_cons hA
  obtain ⟨v1, vs1, d1, ds1, p1, q1, rfl, rfl, rfl, h1, r1⟩ := trodAll_cons r0
  obtain ⟨v2, vs2, d2, ds2, p2, q2, rfl, rfl, rfl, h2, r2⟩ := trodAll_cons r1
  obtain ⟨rfl, rfl, rfl⟩ := trodAll_nil r2
  obtain rfl : args = #[v0, v1, v2] := by cases args; simp_all
  obtain ⟨a0, e0, _, _, wf0⟩ := open_int Try.underlying22 (hval 0 22 v0 rfl rfl) h0
  subst e0
  have bd0 := bounds_u32 wf0
  obtain ⟨a1, e1, _, _, wf1⟩ := open_int Try.underlying22 (hval 1 22 v1 rfl rfl) h1
  subst e1
  have bd1 := bounds_u32 wf1
  obtain ⟨a2, e2, ed2, _, _⟩ := Go.ChangeMaps.open_string Try.underlying9 (hval 2 9 v2 rfl rfl) h2
  subst e2
  have sz2 : a2.size ≤ 140737488351232 := by
    have h := sized_string hsz (j := 2) (t := 9) (by rw [Try.params13]; rfl) (by rw [ed2]; rfl)
    simpa [reachBytes] using h
  exact walk_tcpReads (w := W) a0 a1 a2 bd0.1 bd0.2 bd1.1 bd1.2 sz2

/-- THE STATEMENT. -/
theorem tcpReads_holds : Rows.TcpReadsSaid :=
  OpenClaim.holds_of_wide 13 Try.f13 rfl rfl rfl rfl rfl rfl rfl ⟨rfl, rfl, rfl, rfl, rfl⟩ rfl rfl rfl rfl rfl (by kernel_rfl) Try.func13 (by kernel_rfl)
    (of_decide_eq_true (by kernel_rfl)) (by unfold Func.isWrapper; first | (rw [if_pos (by decide +kernel)]; kernel_rfl) | (rw [if_neg (by decide +kernel)]; exact ⟨rfl, rfl⟩))
    (fun os started H enc _ => tcpReads_lifted os started H enc)
#print axioms tcpReads_holds
end Go.Proofs.Ythjigajielhkfaa
