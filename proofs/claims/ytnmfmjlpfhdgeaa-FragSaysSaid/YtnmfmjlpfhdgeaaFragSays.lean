/- packetboat/packetboatlaw.FragSays: for every input the law returns true. No condition. The closing text: the walk is in the texts that are imported. -/
import Derived.Test.YtnmfmjlpfhdgeaaLawLift
import Derived.Test.YtnmfmjlpfhdgeaaFragK
namespace Go.Proofs.Ytnmfmjlpfhdgeaa
open Go.ChangeShapes Go.WideShapes Go.ChangeAt Go.RowKit

set_option maxRecDepth 100000 in
theorem fragSays_lifted (os : Os) (started : os.Started) (H : Type) (enc : TypeId × Value → H) :
    ReturnsInHanded {} Try.checked os 3 .any (Rows.fragSaysSpec.pre6 enc Try.prog Try.f3 Rows.fragSaysRow.domain false) (Rows.fragSaysSpec.post enc Try.prog Try.f3 false true false false) := by
  refine lift_law (C := Try.checked) (tb := 4) own laidOut started (by kernel_rfl) Try.func3
    (ChangeSpec.witness6 (enc := enc) (C := Try.checked) false ⟨#[], #[.slice none 0 0], []⟩ 8 (by kernel_rfl) (by kernel_rfl) (by kernel_rfl) (by kernel_rfl)) (by kernel_rfl) rfl Try.underlying4 rfl ?_ ?_
  · intro ds hds
    match ds, hds with
    | [_], _ => exact ⟨rfl, rfl, rfl⟩
  intro W base args ds p hval0 hA0 hsz
  have hval : ∀ (j : Nat) t v, Try.f3.params[j]? = some t → args[j]? = some v → Value.okWide Try.prog W .any base t v := hval0
  have hA : DataW.TrodAll enc Try.prog W 0 (fun _ => true) true Try.f3.params.toList args.toList ds p := hA0
  rw [Try.params3] at hA hval
  obtain ⟨v0, vs0, d0, ds0, p0, q0, hargs, rfl, rfl, h0, r0⟩ := trodAll_cons hA
  obtain ⟨rfl, rfl, rfl⟩ := trodAll_nil r0
  obtain rfl : args = #[v0] := by cases args; simp_all
  obtain ⟨a0, len0, cap0, e0⟩ := okWide_slice Try.underlying22 (hval 0 22 v0 rfl rfl)
  subst e0
  have o0 := open_flat Try.underlying22 (n := 9) (l := stepLeaves) (by kernel_rfl) (by kernel_rfl) (by decide) h0
  have sz0 : len0 ≤ 549755813888 := by
    rcases slice_len Try.underlying22 h0 with h | ⟨elems, sp, hd, hl⟩
    · omega
    · have hb := sized_slice hsz (j := 0) (t := 22) (elems := elems) (spare := sp) (by rw [Try.params3]; rfl) (by rw [hd]; rfl) Try.underlying22
      have h1 : 256 ≤ Try.prog.bytesOf 45 := Nat.le_of_ble_eq_true (by kernel_rfl)
      have hb2 : (elems.length + sp.length) * Try.prog.bytesOf 45 ≤ reachBytes := hb
      have h3 := Nat.le_trans (Nat.mul_le_mul (Nat.le_add_right elems.length sp.length) h1) hb2
      rw [hl] at h3
      have h4 := Nat.le_trans h3 (show reachBytes ≤ 140737488355328 by decide)
      omega
  exact walk_fragSays (w := W) a0 len0 cap0 o0 sz0

/-- THE STATEMENT. -/
theorem fragSays_holds : Rows.FragSaysSaid :=
  OpenClaim.holds_of_wide 3 Try.f3 rfl rfl rfl rfl rfl rfl rfl ⟨rfl, rfl, rfl, rfl, rfl⟩ rfl rfl rfl rfl rfl (by kernel_rfl) Try.func3 (by kernel_rfl)
    (of_decide_eq_true (by kernel_rfl)) (by unfold Func.isWrapper; first | (rw [if_pos (by decide +kernel)]; kernel_rfl) | (rw [if_neg (by decide +kernel)]; exact ⟨rfl, rfl⟩))
    (fun os started H enc _ => fragSays_lifted os started H enc)
#print axioms fragSays_holds
end Go.Proofs.Ytnmfmjlpfhdgeaa
