/- Who waits to be taken: Delete in letters. -/
import Derived.Test.YtnjpoidpfcfbeaaLs4
namespace Go.Proofs.Ytnjpoidpfcfbeaa
open Go.RowKit Sy
set_option linter.unusedVariables false
set_option linter.unusedSimpArgs false

def dnN (nx : Nat) (t : Tm) : Bk := ⟨nx, 129, [], true, none, .tab dnLv t⟩
def dlSel (s : Sy.St) : List SV → Option Did
  | [.one (.c x), .one (.c (.int .i64 k)), .one (.c (.int .i64 j))] => match tabC s.cx s.hp 129 dnLv x with
    | some (ms, lt, t) => some ⟨ms ++ (need s.cx (.le (.il 0) k) ++ (need s.cx (.lt k (mkTL s.cx t)) ++ (need s.cx (.le (mkTL s.cx t) (.il 4000)) ++ (need s.cx (.le j (mkAdd k (.il 1))) ++ need s.cx (.le (mkAdd k (.il 1)) j))))), [lt], [], [dnN s.nx (.ap 52 t k (.il 0))], .one (.c (.slt s.nx 3 (.il 0) (tlen (.ap 52 t k (.il 0))) (.il 0))), [⟨tlen (.ap 52 t k (.il 0)), 0, 4000⟩]⟩
    | none => none
  | _ => none
def dlSp : Sy.Spec := chgSp 71 dlSel
theorem dlSp_ok {ρ : Env} (hf : ρ.f = lsF) : dlSp.Ok Try.prog ρ := by
  refine chgSp_ok fun {s xs d} hs hc hm {β w} hb hne => ?_
  unfold dlSel at hs
  split at hs
  · rename_i x k j
    split at hs
    · rename_i ms lt t h1
      injection hs with hs
      subst hs
      obtain ⟨⟨d, hd, dl, dn⟩, a1, a2⟩ := tabC_ok (β := β) hb hc h1 hm.l
      have m1 := le_of (need_ok hc hm.r.l)
      have m2 := lt_of (need_ok hc hm.r.r.l)
      have m3 := le_of (need_ok hc hm.r.r.r.l)
      have m4 := le_of (need_ok hc hm.r.r.r.r.l)
      have m5 := le_of (need_ok hc hm.r.r.r.r.r)
      rw [mkTL_ok hc] at m2 m3
      rw [mkAdd_ok] at m4 m5
      change (0 : Int) ≤ _ at m1
      change _ ≤ (4000 : Int) at m3
      change _ ≤ (den ρ k).i + 1 at m4
      change (den ρ k).i + 1 ≤ _ at m5
      obtain ⟨kn, hkn⟩ : ∃ kn : Nat, (den ρ k).i = (kn : Int) := ⟨(den ρ k).i.toNat, by omega⟩
      have hj : (den ρ j).i = ((kn + 1 : Nat) : Int) := by omega
      have e : (den ρ (.ap 52 t k (.il 0))).c = (den ρ t).c.eraseIdx kn := by
        show (ρ.f 52 _ _ _).c = _
        rw [hf]
        show (den ρ t).c.eraseIdx (den ρ k).i.toNat = _
        rw [hkn, Int.toNat_natCast]
      have hlt : kn < (den ρ t).c.length := by omega
      have hl : ((den ρ t).c.eraseIdx kn).length = (den ρ t).c.length - 1 := by rw [List.length_eraseIdx, if_pos hlt]
      refine ⟨fun y hy => ?_, ?_⟩
      · rw [List.mem_singleton.1 hy]
        show (0 : Int) ≤ ((den ρ (.ap 52 t k (.il 0))).c.length : Int) ∧ ((den ρ (.ap 52 t k (.il 0))).c.length : Int) ≤ 4000
        rw [e, hl]
        omega
      · have hc0 : β (lt + 1) ≠ 0 := by have := a2.len; omega
        have hcall := del_calls a2 hlt (by omega)
        show Calls Try.prog 71 (#[C.den ρ β x, .int .i64 (den ρ k).i, .int .i64 (den ρ j).i]) w _
        rw [a1, hkn, hj]
        have ev : sltV (β lt) (β (lt + 1)) (den ρ t).c.length = .slice (some ⟨β lt, 0, none⟩) (den ρ t).c.length (β (lt + 1)) := by unfold sltV; rw [if_neg hc0]
        rw [ev]
        refine hcall.mono ?_
        rintro e' w' ⟨v, rfl, rfl, h2, h3⟩
        have hold : ∀ v, v < s.nx → upd (upd β s.nx (β lt)) (s.nx + 1) (β (lt + 1)) v = β v := fun v hv => by rw [upd_old (by omega), upd_old (by omega)]
        have e0 : upd (upd β s.nx (β lt)) (s.nx + 1) (β (lt + 1)) s.nx = β lt := by rw [upd_old (by omega), upd_new]
        have e1 : upd (upd β s.nx (β lt)) (s.nx + 1) (β (lt + 1)) (s.nx + 1) = β (lt + 1) := upd_new _ _ _
        refine ⟨upd (upd β s.nx (β lt)) (s.nx + 1) (β (lt + 1)), ?_, ⟨h3.mono fun k _ hk => .inr ⟨d, hd, by rw [dl]; exact List.mem_cons_self .., .inr (by rw [dl]; exact hc0), by rw [dl]; exact hk⟩, hold, fun b hb => (by cases hb), fun b hb => ?_, fun b hb hr => ?_, fun x hx y hy hxy => ?_⟩⟩
        · show _ = Ending.returned (sltZ (upd (upd β s.nx (β lt)) (s.nx + 1) (β (lt + 1)) s.nx) (upd (upd β s.nx (β lt)) (s.nx + 1) (β (lt + 1)) (s.nx + 1)) 3 0 (den ρ (.ap 52 t k (.il 0))).c.length 0)
          rw [e0, e1, sltZ_zero, e, hl]
          unfold sltV
          rw [if_neg hc0]
        · rw [List.mem_singleton.1 hb]
          show RowT w' (upd (upd β s.nx (β lt)) (s.nx + 1) (β (lt + 1)) s.nx) (upd (upd β s.nx (β lt)) (s.nx + 1) (β (lt + 1)) (s.nx + 1)) _ dnLv (den ρ (.ap 52 t k (.il 0))).c
          rw [e0, e1, e]
          exact h2
        · rw [List.mem_singleton.1 hb]
          exact .inl ⟨d, hd, by rw [dl]; exact List.mem_cons_self .., .inr (by rw [dl]; exact hc0), by rw [dl]; exact e0⟩
        · rw [List.mem_singleton.1 hx, List.mem_singleton.1 hy] at hxy
          exact absurd rfl hxy
    · cases hs
  · cases hs
end Go.Proofs.Ytnjpoidpfcfbeaa
