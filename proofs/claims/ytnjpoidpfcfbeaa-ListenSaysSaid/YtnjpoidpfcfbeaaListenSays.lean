/- packetboat/packetboatlaw.ListenSays: for every input the law returns true. No condition. The closing text: the walk is in the texts that are imported. -/
import Derived.Test.YtnjpoidpfcfbeaaLawLift
import Derived.Test.YtnjpoidpfcfbeaaLs9
import Derived.Test.YtnjpoidpfcfbeaaSliceSz
namespace Go.Proofs.Ytnjpoidpfcfbeaa
open Go.ChangeShapes Go.WideShapes Go.ChangeAt Go.RowKit

set_option maxRecDepth 100000 in
theorem listenSays_lifted (os : Os) (started : os.Started) (H : Type) (enc : TypeId × Value → H) :
    ReturnsInHanded {} Try.checked os 4 .any (Rows.listenSaysSpec.pre6 enc Try.prog Try.f4 Rows.listenSaysRow.domain false) (Rows.listenSaysSpec.post enc Try.prog Try.f4 false true false false) := by
  refine lift_law (C := Try.checked) (tb := 4) own laidOut started (by kernel_rfl) Try.func4
    (ChangeSpec.witness6 (enc := enc) (C := Try.checked) false ⟨#[], #[.int .i64 0, .slice none 0 0], []⟩ 8 (by kernel_rfl) (by kernel_rfl) (by kernel_rfl) (by kernel_rfl)) (by kernel_rfl) rfl Try.underlying4 rfl ?_ ?_
  · intro ds hds
    match ds, hds with
    | [_, _], _ => exact ⟨rfl, rfl, rfl⟩
  intro W base args ds p hval0 hA0 hsz
  have hval : ∀ (j : Nat) t v, Try.f4.params[j]? = some t → args[j]? = some v → Value.okWide Try.prog W .any base t v := hval0
  have hA : DataW.TrodAll enc Try.prog W 0 (fun _ => true) true Try.f4.params.toList args.toList ds p := hA0
  rw [Try.params4] at hA hval
  obtain ⟨v0, vs0, d0, ds0, p0, q0, hargs, rfl, rfl, h0, r0⟩ := trodAll_cons hA
  obtain ⟨v1, vs1, d1, ds1, p1, q1, rfl, rfl, rfl, h1, r1⟩ := trodAll_cons r0
  obtain ⟨rfl, rfl, rfl⟩ := trodAll_nil r1
  obtain rfl : args = #[v0, v1] := by cases args; simp_all
  obtain ⟨a0, e0, _, _, wf0⟩ := open_int Try.underlying3 (hval 0 3 v0 rfl rfl) h0
  subst e0
  have bd0 := bounds_i64 wf0
  obtain ⟨a1, len1, cap1, e1⟩ := okWide_slice Try.underlying22 (hval 1 22 v1 rfl rfl)
  subst e1
  have o1 := open_flat Try.underlying22 (n := 9) (l := stepLeaves) (by kernel_rfl) (by kernel_rfl) (by decide) h1
  have sz1 : len1 ≤ 140737488355328 := by
    rcases slice_len Try.underlying22 h1 with h | ⟨elems, sp, hd, hl⟩
    · omega
    · have hb := sized_slice hsz (j := 1) (t := 22) (elems := elems) (spare := sp) (by rw [Try.params4]; rfl) (by rw [hd]; rfl) Try.underlying22
      have h1 : 1 ≤ Try.prog.bytesOf 41 := Nat.le_of_ble_eq_true (by kernel_rfl)
      have hb2 : (elems.length + sp.length) * Try.prog.bytesOf 41 ≤ reachBytes := hb
      have h3 := Nat.le_trans (Nat.mul_le_mul (Nat.le_add_right elems.length sp.length) h1) hb2
      rw [Nat.mul_one, hl] at h3
      exact Nat.le_trans h3 (show reachBytes ≤ 140737488355328 by decide)
  exact walk_listenSays (w := W) a0 a1 len1 cap1 bd0.1 bd0.2 o1 sz1

/-- THE STATEMENT. -/
theorem listenSays_holds : Rows.ListenSaysSaid :=
  OpenClaim.holds_of_wide 4 Try.f4 rfl rfl rfl rfl rfl rfl rfl ⟨rfl, rfl, rfl, rfl, rfl⟩ rfl rfl rfl rfl rfl (by kernel_rfl) Try.func4 (by kernel_rfl)
    (of_decide_eq_true (by kernel_rfl)) (by unfold Func.isWrapper; first | (rw [if_pos (by decide +kernel)]; kernel_rfl) | (rw [if_neg (by decide +kernel)]; exact ⟨rfl, rfl⟩))
    (fun os started H enc _ => listenSays_lifted os started H enc)
#print axioms listenSays_holds
end Go.Proofs.Ytnjpoidpfcfbeaa
