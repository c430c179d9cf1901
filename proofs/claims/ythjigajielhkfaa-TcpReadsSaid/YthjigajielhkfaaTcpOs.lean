/- The program's options of a segment, as a contract in letters. -/
import Derived.Test.YthjigajielhkfaaTcpOp
namespace Go.Proofs.Ythjigajielhkfaa
open Go.RowKit Sy
set_option linter.unusedVariables false
set_option linter.unusedSimpArgs false

def optCs : List C → Bool
  | [_, _, _, _, _, _, _, _, _, _, _, .int .i64 (.il z), _] => sameI z 0
  | _ => false
def setCs (cs : List C) (m : Tm) : List C := cs.take 11 ++ (.int .i64 m :: cs.drop 12)
theorem optCs_ok {ρ : Env} {β : Bn} {cs : List C} (h : optCs cs = true) (m : Tm) : optCells (denL ρ β cs) 0 = denL ρ β cs ∧ optCells (denL ρ β cs) (den ρ m).i = denL ρ β (setCs cs m) := by
  unfold optCs at h
  split at h
  · rename_i z c
    rw [sameI_eq h]
    exact ⟨rfl, rfl⟩
  · cases h
theorem RowB.weak {w : World} {g c : Nat} {ty : TypeId} {own : Bool} {l : List UInt8} (h : RowB w g c ty own l) : RowB w g c ty false l := by
  refine ⟨fun hc => ?_, h.len⟩
  obtain ⟨cur, fr, h1, h2, h3, h4, h5⟩ := h.row hc
  refine ⟨cur, fr, h1, ?_, h3, h4, h5⟩
  rcases h2 with h2 | ⟨_, h2⟩
  · exact .inl h2
  · exact .inr ⟨rfl, h2⟩
def optAt (s : Sy.St) (t o n : Tm) : List SV → Option (Bk × List Tm)
  | [.one (.c (.ptr g z)), .one (.c (.slr l off len an))] => match find g s.hp, find l s.hp with
    | some b, some c => match b.str, c.str with
      | none, some str => if Nat.beq z 0 && (optCs b.cs && (b.rw && (Nat.beq b.ty 33 && (Nat.beq c.ty 5 && (same str t && (same off o && (same len n && !(Nat.beq g l)))))))) then
          some (b, inRow s.cx str off len ++ need s.cx (.le (mkLen s.cx str) (.il 140737488355328))) else none
      | _, _ => none
    | _, _ => none
  | _ => none
def optSp (t o n : Tm) (r : Option Tm) : Sy.Spec where
  f := 173
  pre := fun s xs => match optAt s t o n xs with
    | some (_, m) => some m
    | none => none
  go := fun _ s xs => match optAt s t o n xs with
    | some (b, _) => match r with
      | some m => some ({ s with hp := replHp { b with cs := setCs b.cs m } s.hp }, .one (.c (.int .i64 (.il 0))))
      | none => some ({ s with hp := s.hp.filter fun x => !(Nat.beq x.l b.l) }, .one (.c (.int .i64 (.il 4))))
    | none => none
theorem optSp_ok {ρ : Env} (hρ : ρ.good) {t o n : Tm} {r : Option Tm} (h : optF (den ρ t).s (den ρ n).i.toNat (den ρ o).i (den ρ n).i 0 = r.map fun m => (den ρ m).i) : (optSp t o n r).Ok Try.prog ρ := by
  intro B s xs m s' v hB hpre hgo hm β a w hM
  subst hB
  simp only [optSp] at hpre hgo
  cases hat : optAt s t o n xs with
  | none => rw [hat] at hpre; cases hpre
  | some y =>
    obtain ⟨b, m'⟩ := y
    rw [hat] at hpre hgo
    injection hpre with hpre
    subst hpre
    unfold optAt at hat
    split at hat
    · rename_i g z l off len an
      split at hat
      · rename_i b' c' fb fc
        split at hat
        · rename_i str hbs hcs
          split at hat
          · rename_i q
            injection hat with hat
            injection hat with e1 e2
            subst e1 e2
            simp only [Bool.and_eq_true, Bool.not_eq_true'] at q
            obtain ⟨q0, q1, q2, q3, q4, q5, q6, q7, q8⟩ := q
            have z0 := Nat.eq_of_beq_eq_true q0
            have t1 := Nat.eq_of_beq_eq_true q3
            have t2 := Nat.eq_of_beq_eq_true q4
            have x5 := same_eq q5
            have x6 := same_eq q6
            have x7 := same_eq q7
            subst z0 x5 x6 x7
            have hgl : g ≠ l := fun e => by rw [e, Nat.beq_refl] at q8; cases q8
            obtain ⟨b1, b2, b3⟩ := inRow_ok hM.cx hm.l
            have b4 := le_of (need_ok hM.cx hm.r)
            rw [mkLen_ok hM.cx] at b4
            change ((den B.ρ str).s.size : Int) ≤ 140737488355328 at b4
            have hmb := find_mem fb
            have hmc := find_mem fc
            have hB := hM.hp b' hmb.1
            unfold BkOk at hB
            rw [hbs] at hB
            simp only [] at hB
            rw [hmb.2, t1, ← (optCs_ok (ρ := B.ρ) (β := β) q1 (.il 0)).1] at hB
            have hC := hM.hp c' hmc.1
            unfold BkOk at hC
            rw [hcs] at hC
            simp only [] at hC
            rw [hmc.2, t2] at hC
            have hsz : (den B.ρ str).s.data.toList.length = (den B.ρ str).s.size := rfl
            have hne : β (l + 1) ≠ 0 → β g ≠ β l := fun hc => by
              have := hM.ne b' hmb.1 c' hmc.1 (by rw [hmb.2, hmc.2]; exact hgl) (.inl hbs) (.inr (by rw [hmc.2]; exact hc))
              rwa [hmb.2, hmc.2] at this
            have hmay : ∀ i, i = β g → B.S i ∨ B.w0.heap.size ≤ i := fun i hi => by
              have := hM.may b' hmb.1 q2 (.inl hbs)
              rw [hi]
              rwa [hmb.2] at this
            refine (opt_calls (β g) (β l) (β (l + 1)) (den B.ρ str).s (denL B.ρ β b'.cs) (den B.ρ off).i (den B.ρ len).i (den B.ρ an).i _ w (denL_one hρ β _) (by omega) b1 b2 (by omega) h hB (RowB.weak hC) hne).mono ?_
            rintro e w' ⟨u, rfl, r1, r2, ho⟩
            have keep : ∀ x ∈ s.hp, x.l ≠ g → BkOk B.ρ β w' x := fun x hx hxl => (hM.hp x hx).only ho fun hr hb => by
              have := hM.ne x hx b' hmb.1 (by rw [hmb.2]; exact hxl) hr (.inl hbs)
              rw [hmb.2] at this
              exact this hb
            cases r with
            | none =>
              injection hgo with hgo
              injection hgo with h1 h2
              subst h1 h2
              refine ⟨β, a, by rw [r1 rfl]; rfl, Sy.Md.after hM ho hmay rfl hM.cx (fun x hx => ?_) fun x hx => ?_⟩
              · exact ⟨x, (List.mem_filter.1 hx).1, rfl, id, Iff.rfl⟩
              · obtain ⟨hx, hn⟩ := List.mem_filter.1 hx
                refine keep x hx fun e => ?_
                rw [e, hmb.2, Nat.beq_refl] at hn
                cases hn
            | some mt =>
              injection hgo with hgo
              injection hgo with h1 h2
              subst h1 h2
              obtain ⟨e1, e2⟩ := r2 _ rfl
              refine ⟨β, a, by rw [e1]; rfl, Sy.Md.after hM ho hmay rfl hM.cx (fun x hx => ?_) fun x hx => ?_⟩
              · rcases repl_mem hx with rfl | ⟨hx, _⟩
                · exact ⟨b', hmb.1, rfl, id, Iff.rfl⟩
                · exact ⟨x, hx, rfl, id, Iff.rfl⟩
              · rcases repl_mem hx with rfl | ⟨hx, hn⟩
                · unfold BkOk
                  simp only [hbs]
                  rw [hmb.2, t1, ← (optCs_ok (ρ := B.ρ) (β := β) q1 mt).2]
                  exact e2
                · exact keep x hx fun e => hn (by rw [e]; exact hmb.2.symm)
          · cases hat
        · cases hat
      · cases hat
    · cases hat
end Go.Proofs.Ythjigajielhkfaa
