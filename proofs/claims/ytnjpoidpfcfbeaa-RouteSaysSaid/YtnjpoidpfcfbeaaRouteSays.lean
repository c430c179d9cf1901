/- packetboat/packetboatlaw.RouteSays: for every input the law returns true. No condition. The closing text: the walk is in the texts that are imported. -/
import Derived.Test.YtnjpoidpfcfbeaaLawLift
import Derived.Test.YtnjpoidpfcfbeaaRoutH
namespace Go.Proofs.Ytnjpoidpfcfbeaa
open Go.ChangeShapes Go.WideShapes Go.ChangeAt Go.RowKit

set_option maxRecDepth 100000 in
theorem routeSays_lifted (os : Os) (started : os.Started) (H : Type) (enc : TypeId × Value → H) :
    ReturnsInHanded {} Try.checked os 7 .any (Rows.routeSaysSpec.pre6 enc Try.prog Try.f7 Rows.routeSaysRow.domain false) (Rows.routeSaysSpec.post enc Try.prog Try.f7 false true false false) := by
  refine lift_law (C := Try.checked) (tb := 4) own laidOut started (by kernel_rfl) Try.func7
    (ChangeSpec.witness6 (enc := enc) (C := Try.checked) false ⟨#[], #[.slice none 0 0, .slice none 0 0], []⟩ 8 (by kernel_rfl) (by kernel_rfl) (by kernel_rfl) (by kernel_rfl)) (by kernel_rfl) rfl Try.underlying4 rfl ?_ ?_
  · intro ds hds
    match ds, hds with
    | [_, _], _ => exact ⟨rfl, rfl, rfl⟩
  intro W base args ds p hval0 hA0 hsz
  have hval : ∀ (j : Nat) t v, Try.f7.params[j]? = some t → args[j]? = some v → Value.okWide Try.prog W .any base t v := hval0
  have hA : DataW.TrodAll enc Try.prog W 0 (fun _ => true) true Try.f7.params.toList args.toList ds p := hA0
  rw [Try.params7] at hA hval
  obtain ⟨v0, vs0, d0, ds0, p0, q0, hargs, rfl, rfl, h0, r0⟩ := trodAll_cons hA
  obtain ⟨v1, vs1, d1, ds1, p1, q1, rfl, rfl, rfl, h1, r1⟩ := trodAll_cons r0
  obtain ⟨rfl, rfl, rfl⟩ := trodAll_nil r1
  obtain rfl : args = #[v0, v1] := by cases args; simp_all
  obtain ⟨a0, len0, cap0, e0⟩ := okWide_slice Try.underlying22 (hval 0 22 v0 rfl rfl)
  subst e0
  have o0 := open_flat Try.underlying22 (n := 9) (l := stepLeaves) (by kernel_rfl) (by kernel_rfl) (by decide) h0
  have sz0 : len0 ≤ 140737488355328 := by
    rcases slice_len Try.underlying22 h0 with h | ⟨elems, sp, hd, hl⟩
    · omega
    · have hb := sized_slice hsz (j := 0) (t := 22) (elems := elems) (spare := sp) (by rw [Try.params7]; rfl) (by rw [hd]; rfl) Try.underlying22
      have h1 : 1 ≤ Try.prog.bytesOf 41 := Nat.le_of_ble_eq_true (by kernel_rfl)
      have hb2 : (elems.length + sp.length) * Try.prog.bytesOf 41 ≤ reachBytes := hb
      have h3 := Nat.le_trans (Nat.mul_le_mul (Nat.le_add_right elems.length sp.length) h1) hb2
      rw [Nat.mul_one, hl] at h3
      exact Nat.le_trans h3 (show reachBytes ≤ 140737488355328 by decide)
  obtain ⟨a1, len1, cap1, e1⟩ := okWide_slice Try.underlying87 (hval 1 87 v1 rfl rfl)
  subst e1
  have o1 := open_flat Try.underlying87 (n := 9) (l := u32Leaves) (by kernel_rfl) (by kernel_rfl) (by decide) h1
  have sz1 : len1 ≤ 140737488355328 := by
    rcases slice_len Try.underlying87 h1 with h | ⟨elems, sp, hd, hl⟩
    · omega
    · have hb := sized_slice hsz (j := 1) (t := 87) (elems := elems) (spare := sp) (by rw [Try.params7]; rfl) (by rw [hd]; rfl) Try.underlying87
      have h1 : 1 ≤ Try.prog.bytesOf 27 := Nat.le_of_ble_eq_true (by kernel_rfl)
      have hb2 : (elems.length + sp.length) * Try.prog.bytesOf 27 ≤ reachBytes := hb
      have h3 := Nat.le_trans (Nat.mul_le_mul (Nat.le_add_right elems.length sp.length) h1) hb2
      rw [Nat.mul_one, hl] at h3
      exact Nat.le_trans h3 (show reachBytes ≤ 140737488355328 by decide)
  exact walk_routeSays (w := W) a0 len0 cap0 a1 len1 cap1 o0 sz0 o1 sz1

/-- THE STATEMENT. -/
theorem routeSays_holds : Rows.RouteSaysSaid :=
  OpenClaim.holds_of_wide 7 Try.f7 rfl rfl rfl rfl rfl rfl rfl ⟨rfl, rfl, rfl, rfl, rfl⟩ rfl rfl rfl rfl rfl (by kernel_rfl) Try.func7 (by kernel_rfl)
    (of_decide_eq_true (by kernel_rfl)) (by unfold Func.isWrapper; first | (rw [if_pos (by decide +kernel)]; kernel_rfl) | (rw [if_neg (by decide +kernel)]; exact ⟨rfl, rfl⟩))
    (fun os started H enc _ => routeSays_lifted os started H enc)
#print axioms routeSays_holds
end Go.Proofs.Ytnjpoidpfcfbeaa
