/- Contracts in letters of the reference's small functions. -/
import Derived.Test.YthjigajielhkfaaSyM
import Derived.Test.YthjigajielhkfaaBytes
import Derived.Test.YthjigajielhkfaaSumWalks
namespace Go.Proofs.Ythjigajielhkfaa
namespace Sy
open Go Go.RowKit
set_option linter.unusedVariables false

def stdF : Nat → Dn → Dn → Dn → Dn
  | 0, x, _, _ => dI (numL x.s.data.toList : Int)
  | 1, x, _, _ => dI (sumN x.s.data.toList : Int)
  | _, x, _, _ => x
def mkEnv (is : List Int) (bs : List Bool) (ss : List ByteArray) (vs : List Value) : Env := ⟨fun n => is.getD n 0, fun n => bs.getD n false, fun n => ss.getD n none8, stdF, fun n => vs.getD n (.bool false)⟩
def ap1 (f : Nat) (x : Tm) : Tm := .ap f x (.il 0) (.il 0)

def numRes (c : Cx) : List SV → Option (SV × List Bd)
  | [.one (.c (.str s))] => some (.one (.c (.int .u64 (ap1 0 s))), [⟨ap1 0 s, 0, match isLit (mkLen c s) with | some k => if leI 0 k && leI k 8 then 256 ^ k.toNat - 1 else 18446744073709551615 | none => 18446744073709551615⟩])
  | _ => none
def numPre (c : Cx) : List SV → Option (List Tm)
  | [.one (.c (.str s))] => some (need c (.le (mkLen c s) (.il 8)))
  | _ => none
def numSp : Spec := pureSpec 124 numPre numRes
theorem pow_int (k : Nat) : ((256 ^ k : Nat) : Int) = (256 : Int) ^ k := by simp
theorem numSp_ok {ρ : Env} (hf : ρ.f = stdF) : numSp.Ok Try.prog ρ := by
  refine pureSpec_ok fun c xs m v bs hc hpre hres hm => ?_
  match xs, hpre, hres with
  | [.one (.c (.str s))], hpre, hres =>
    injection hpre with hpre
    injection hres with hres
    injection hres with h1 h2
    subst hpre h1 h2
    have hlen := le_of (need_ok hc hm)
    rw [mkLen_ok hc] at hlen
    change _ ≤ (8 : Int) at hlen
    have hs : (den ρ s).s.size ≤ 8 := by omega
    have hll := Lib.size_eq (den ρ s).s
    have hap : (den ρ (ap1 0 s)).i = (numL (den ρ s).s.data.toList : Int) := by
      show (ρ.f 0 (den ρ s) _ _).i = _
      rw [hf]
      rfl
    refine ⟨?_, fun β w => ?_⟩
    · intro x hx
      rcases List.mem_cons.1 hx with rfl | hx
      · show (0 : Int) ≤ (den ρ (ap1 0 s)).i ∧ (den ρ (ap1 0 s)).i ≤ _
        rw [hap]
        refine ⟨by omega, ?_⟩
        have h8 : (numL (den ρ s).s.data.toList : Int) ≤ 18446744073709551615 := by
          have := numL_le (l := (den ρ s).s.data.toList) (k := 8) (by omega)
          omega
        split
        · rename_i k hk
          split
          · rename_i q
            simp [leI] at q
            have hk2 : k = ((den ρ s).s.size : Int) := by
              have := mkLen_ok hc s
              rw [isLit_eq hk] at this
              exact this
            have := numL_le (l := (den ρ s).s.data.toList) (k := k.toNat) (by omega)
            show _ ≤ (256 : Int) ^ k.toNat - 1
            rw [← pow_int]
            omega
          · exact h8
        · exact h8
      · cases hx
    · refine (ref_num 8 (den ρ s).s w (by omega) hs).mono ?_
      rintro e w' ⟨rfl, n, rfl⟩
      refine ⟨?_, ⟨rfl, rfl, rfl, Nat.le_refl _, fun _ _ => rfl⟩⟩
      show _ = Ending.returned (.int .u64 (den ρ (ap1 0 s)).i)
      rw [hap]
def sumRes (c : Cx) : List SV → Option (SV × List Bd)
  | [.one (.c (.str s))] => some (.one (.c (.int .u16 (ap1 1 s))), [⟨ap1 1 s, 0, 65535⟩])
  | _ => none
def sumPre (c : Cx) : List SV → Option (List Tm)
  | [.one (.c (.str s))] => some (need c (.le (mkLen c s) (.il 140737488355327)))
  | _ => none
def sumSp : Spec := pureSpec 125 sumPre sumRes
theorem sumSp_ok {ρ : Env} (hf : ρ.f = stdF) : sumSp.Ok Try.prog ρ := by
  refine pureSpec_ok fun c xs m v bs hc hpre hres hm => ?_
  match xs, hpre, hres with
  | [.one (.c (.str s))], hpre, hres =>
    injection hpre with hpre
    injection hres with hres
    injection hres with h1 h2
    subst hpre h1 h2
    have hlen := le_of (need_ok hc hm)
    rw [mkLen_ok hc] at hlen
    change _ ≤ (140737488355327 : Int) at hlen
    have hap : (den ρ (ap1 1 s)).i = (sumN (den ρ s).s.data.toList : Int) := by
      show (ρ.f 1 (den ρ s) _ _).i = _
      rw [hf]
      rfl
    have hsm := sumN_le (den ρ s).s.data.toList
    refine ⟨?_, fun β w => ?_⟩
    · intro x hx
      rcases List.mem_cons.1 hx with rfl | hx
      · show (0 : Int) ≤ (den ρ (ap1 1 s)).i ∧ (den ρ (ap1 1 s)).i ≤ 65535
        rw [hap]
        omega
      · cases hx
    · refine (ref_Sum (den ρ s).s w (by omega)).mono ?_
      rintro e w' ⟨rfl, hb⟩
      refine ⟨?_, hb⟩
      show _ = Ending.returned (.int .u16 (den ρ (ap1 1 s)).i)
      rw [hap]
end Sy
end Go.Proofs.Ythjigajielhkfaa
