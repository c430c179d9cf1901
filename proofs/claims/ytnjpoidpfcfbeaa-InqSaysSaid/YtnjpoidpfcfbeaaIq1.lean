/- The first gap, in letters. -/
import Derived.Test.YtnjpoidpfcfbeaaIq0
namespace Go.Proofs.Ytnjpoidpfcfbeaa
open Go.RowKit Sy
set_option linter.unusedVariables false
set_option linter.unusedSimpArgs false

def sameI64 : List Kd → Kd → Bool
  | [.int .i64], .int .u8 => true
  | _, _ => false
/-- The queue behind a letter: its map's letter, what it holds. -/
def ownIn (s : Sy.St) (l : Nat) : Option (Nat × Tm × Tm × Tm) :=
  match find l s.hp with
  | some b => match b.str, b.x, b.cs with
    | none, .no, [.map m, .int .i64 r, .int .i64 f] => if Nat.beq b.ty 108 then (match mapFind s.hp m with
      | some (_, ks, false, v, t) => if sameI64 ks v && !(Nat.beq l m) then some (m, t, r, f) else none
      | _ => none) else none
    | _, _, _ => none
  | none => none
structure OwnIn (ρ : Env) (β : Bn) (w : World) (s : Sy.St) (l m : Nat) (t r f : Tm) : Prop where
  blk : Blk w (β l) 108 (inCells (β m) (den ρ r).i (den ρ f).i)
  map : MapT w (β m) [.int .i64] false (.int .u8) (den ρ t).c
  ne : β l ≠ β m
  bl : ∃ b ∈ s.hp, b.l = l ∧ b.nilable = false
  bm : ∃ b ∈ s.hp, b.l = m ∧ b.nilable = false
theorem ownIn_ok {ρ : Env} {β : Bn} {w : World} {s : Sy.St} {l m : Nat} {t r f : Tm} (h : ownIn s l = some (m, t, r, f)) (hb : ∀ b ∈ s.hp, BkOk ρ β w b) (hne : ∀ x ∈ s.hp, ∀ y ∈ s.hp, x.l ≠ y.l → x.real β → y.real β → β x.l ≠ β y.l) : OwnIn ρ β w s l m t r f := by
  unfold ownIn at h
  split at h
  · rename_i b hf
    obtain ⟨hbm, hbl⟩ := find_mem hf
    split at h
    · rename_i m' r' f' hs hx hcs
      split at h
      · rename_i qt
        have qt := Nat.eq_of_beq_eq_true qt
        split at h
        · rename_i c ks v t' hmf
          obtain ⟨hcm, hcl, hcstr, hcx⟩ := mapFind_ok hmf
          split at h
          · rename_i q
            injection h with h
            injection h with e1 h
            injection h with e2 h
            injection h with e3 e4
            subst e1 e2 e3 e4
            rw [Bool.and_eq_true, Bool.not_eq_true'] at q
            have hlm : l ≠ m' := beq_ne q.2
            have hkv : ks = [.int .i64] ∧ v = .int .u8 := by
              have := q.1
              unfold sameI64 at this
              split at this
              · exact ⟨rfl, rfl⟩
              · cases this
            obtain ⟨rfl, rfl⟩ := hkv
            have h1 := hb b hbm
            unfold BkOk at h1
            rw [hs] at h1
            simp only [hx, hcs, hbl, qt] at h1
            have h2 := (hb c hcm).map hcstr hcx
            rw [hcl] at h2
            have nb : b.nilable = false := by unfold Bk.nilable; rw [hs, hx]; rfl
            have nc : c.nilable = false := by unfold Bk.nilable; rw [hcstr, hcx]; rfl
            refine ⟨h1, h2, ?_, ⟨b, hbm, hbl, nb⟩, ⟨c, hcm, hcl, nc⟩⟩
            have := hne b hbm c hcm (by rw [hbl, hcl]; exact hlm) (.inl nb) (.inl nc)
            rwa [hbl, hcl] at this
          · cases h
        · cases h
      · cases h
    · cases h
  · cases h
def L61 : Tm := .il 2305843009213693952
def inNeed (c : Cx) (t r : Tm) : List Tm := need c (.le (.il 0) r) ++ (need c (.le r L61) ++ need c (.le (.ap 31 t (.il 0) (.il 0)) L61))
def bySel (s : Sy.St) : List SV → Option Did
  | [.one (.c (.ptr l 0))] => match ownIn s l with
    | some (m, t, r, f) => some ⟨inNeed s.cx t r, [], [], [], .one (.c (.int .i64 (.ap 30 t r (.il 0)))), [B61 (.ap 30 t r (.il 0))]⟩
    | none => none
  | _ => none
def inF : Nat → Dn → Dn → Dn → Dn := fun n x y z =>
  if n = 30 then dI (gap x.c y.i) else if n = 31 then dI (keyMax x.c) else x
/-- Nothing turns. -/
theorem Sy.Chg.none_ {ρ : Env} {β : Bn} {w w' : World} {s : Sy.St} (h : Below w.heap.size w w') : Chg ρ β β w w' s [] [] [] :=
  ⟨Only.of_below h _, fun _ _ => rfl, fun b hb => (by cases hb), fun b hb => (by cases hb), fun b hb => (by cases hb), fun b hb => (by cases hb)⟩
theorem inNeed_ok {ρ : Env} (hf : ∀ x y z, ρ.f 31 x y z = dI (keyMax x.c)) {c : Cx} (hc : c.ok ρ) {t r : Tm} (h : Sy.Met ρ (inNeed c t r)) : 0 ≤ (den ρ r).i ∧ (den ρ r).i ≤ 2305843009213693952 ∧ keyMax (den ρ t).c ≤ 2305843009213693952 := by
  have h1 := le_of (need_ok hc h.l)
  have h2 := le_of (need_ok hc h.r.l)
  have h3 := le_of (need_ok hc h.r.r)
  refine ⟨h1, h2, ?_⟩
  have e : (den ρ (.ap 31 t (.il 0) (.il 0))).i = keyMax (den ρ t).c := by
    show (ρ.f 31 _ _ _).i = _
    rw [hf]
    rfl
  rw [e] at h3
  exact h3
theorem bySp_ok {ρ : Env} (hf : ∀ x y z, ρ.f 31 x y z = dI (keyMax x.c)) (hf2 : ∀ x y z, ρ.f 30 x y z = dI (gap x.c y.i)) : (chgSp 65 bySel).Ok Try.prog ρ := by
  refine chgSp_ok fun {s xs d} hs hc hm {β w} hb hne => ?_
  unfold bySel at hs
  split at hs
  · rename_i l
    split at hs
    · rename_i m t r f ho
      injection hs with hs
      subst hs
      obtain ⟨h0, h1, h2⟩ := inNeed_ok hf hc hm
      have e : (den ρ (.ap 30 t r (.il 0))).i = gap (den ρ t).c (den ρ r).i := by
        show (ρ.f 30 _ _ _).i = _
        rw [hf2]
        rfl
      have O := ownIn_ok (β := β) (w := w) ho hb hne
      refine ⟨?_, ?_⟩
      · intro x hx
        rw [List.mem_singleton.1 hx]
        show (0 : Int) ≤ (den ρ (.ap 30 t r (.il 0))).i ∧ (den ρ (.ap 30 t r (.il 0))).i ≤ 2305843009213693952
        rw [e]
        have g1 := gap_le O.map.ok (den ρ r).i
        have g2 := (gap_spec O.map.ok (den ρ r).i).1
        omega
      · refine (by_calls O.blk O.map O.ne h0 h1 h2).mono ?_
        rintro e' w' ⟨v, rfl, rfl, hbel⟩
        refine ⟨β, ?_, Sy.Chg.none_ hbel⟩
        show _ = Ending.returned (.int .i64 (den ρ (.ap 30 t r (.il 0))).i)
        rw [e]
    · cases hs
  · cases hs
end Go.Proofs.Ytnjpoidpfcfbeaa
