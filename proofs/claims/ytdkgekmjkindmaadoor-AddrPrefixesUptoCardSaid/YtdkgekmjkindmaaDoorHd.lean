/- A block that holds a table's slice, in letters. -/

import Derived.Test.YtdkgekmjkindmaaDoorSyFo
namespace Go.Proofs.YtdkgekmjkindmaaDoor
open Go.RowKit Sy
set_option linter.unusedVariables false
set_option linter.unusedSimpArgs false

def tabC (c : Cx) (hp : List Bk) (ty : TypeId) (lv : List Kd) : C → Option (List Tm × Nat × Tm)
  | .slt l m off len an => match find l hp with
    | some b => match b.str, b.x with
      | none, .tab lv' t => if Nat.beq b.ty ty && (sameLv lv lv' && (Nat.beq m lv.length && (same off (.il 0) && same an (.il 0)))) then some (need c (.le len (mkTL c t)) ++ need c (.le (mkTL c t) len), l, t) else none
      | _, _ => none
    | none => none
  | _ => none
theorem tabC_ok {ρ : Env} {β : Bn} {w : World} {hp : List Bk} (hb : ∀ b ∈ hp, BkOk ρ β w b) {c : Cx} (hc : c.ok ρ) {ty : TypeId} {lv : List Kd} {x : C} {m : List Tm} {l : Nat} {t : Tm} (h : tabC c hp ty lv x = some (m, l, t)) (hm : Sy.Met ρ m) :
    (∃ d ∈ hp, d.l = l ∧ d.nilable = true) ∧ C.den ρ β x = sltV (β l) (β (l + 1)) (den ρ t).c.length ∧ RowT w (β l) (β (l + 1)) ty lv (den ρ t).c := by
  unfold tabC at h
  split at h
  · rename_i l0 mm off len an
    split at h
    · rename_i b hf
      split at h
      · rename_i lv' t' hs hx
        split at h
        · rename_i q
          simp only [Bool.and_eq_true] at q
          injection h with h
          injection h with h1 h2
          injection h2 with h2 h3
          subst h1 h2 h3
          have q1 := Nat.eq_of_beq_eq_true q.1
          have q2 := sameLv_eq q.2.1
          have q3 := Nat.eq_of_beq_eq_true q.2.2.1
          subst q2 q3
          have hmem := find_mem hf
          have hB := hb b hmem.1
          unfold BkOk at hB
          rw [hs, hx] at hB
          have hB : RowT w (β b.l) (β (b.l + 1)) b.ty lv (den ρ t').c := hB
          rw [hmem.2, q1] at hB
          have l1 := le_of (need_ok hc hm.l)
          have l2 := le_of (need_ok hc hm.r)
          rw [mkTL_ok hc] at l1 l2
          refine ⟨⟨b, hmem.1, hmem.2, by unfold Bk.nilable; rw [hs, hx]; rfl⟩, ?_, hB⟩
          show C.den ρ β (.slt l0 lv.length off len an) = _
          rw [slt_den, same_eq q.2.2.2.1, same_eq q.2.2.2.2]
          show sltZ _ _ _ ((0 : Int)).toNat _ ((0 : Int)).toNat = _
          rw [show ((0 : Int)).toNat = 0 from rfl, sltZ_zero]
          congr 1
          omega
        · cases h
      · cases h
    · cases h
  · cases h

/-- Block g holds a slice of the table. -/
structure Hold (tyH tyE : TypeId) (lv : List Kd) (w : World) (g a c : Nat) (rows : List (List Value)) : Prop where
  obj : Blk w g tyH [sltV a c rows.length]
  tab : RowT w a c tyE lv rows
  ne : c ≠ 0 → a ≠ g
def hoS (g a c : Nat) (i : Nat) : Prop := i = g ∨ (c ≠ 0 ∧ i = a)
def HoldGo (tyH tyE : TypeId) (lv : List Kd) (w w' : World) (g a c : Nat) (rows' : List (List Value)) : Prop := ∃ a' c', Hold tyH tyE lv w' g a' c' rows' ∧ Only (hoS g a c) w w' ∧ (c' ≠ 0 → (c ≠ 0 ∧ a' = a) ∨ w.heap.size ≤ a')
def hoO (tyH : TypeId) (m : Nat) (l : Nat) (rw : Bool) (nx : Nat) (t : Tm) : Bk := ⟨l, tyH, [.slt nx m (.il 0) (tlen t) (.il 0)], rw, none, .no⟩
def hoN (tyE : TypeId) (lv : List Kd) (nx : Nat) (t : Tm) : Bk := ⟨nx, tyE, [], true, none, .tab lv t⟩
/-- The holder under letter l: may it be written, what is to be shown, its table's letter, the table. -/
def hoF (tyH tyE : TypeId) (lv : List Kd) (s : Sy.St) (l : Nat) : Option (Bool × List Tm × Nat × Tm) := match find l s.hp with
  | some ⟨_, ty, [x], rw, none, .no⟩ => match tabC s.cx s.hp tyE lv x with
    | some (ms, lt, t) => if Nat.beq ty tyH && (!(Nat.beq l lt) && (Nat.blt l s.nx && Nat.blt (lt + 1) s.nx)) then some (rw, ms, lt, t) else none
    | none => none
  | _ => none
theorem hoF_ok {tyH tyE : TypeId} {lv : List Kd} {ρ : Env} {s : Sy.St} {l : Nat} {rw : Bool} {ms : List Tm} {lt : Nat} {t : Tm} (h : hoF tyH tyE lv s l = some (rw, ms, lt, t)) (hc : s.cx.ok ρ) (hm : Sy.Met ρ ms) {β : Bn} {w : World} (hb : ∀ b ∈ s.hp, BkOk ρ β w b) (hne : ∀ x ∈ s.hp, ∀ y ∈ s.hp, x.l ≠ y.l → x.real β → y.real β → apart β x y) :
    Hold tyH tyE lv w (β l) (β lt) (β (lt + 1)) (den ρ t).c ∧ l < s.nx ∧ lt + 1 < s.nx ∧ l ≠ lt ∧ (∃ d ∈ s.hp, d.l = lt ∧ d.nilable = true) ∧ ∃ d ∈ s.hp, d.l = l ∧ d.nilable = false := by
  unfold hoF at h
  split at h
  · rename_i l' ty x rw' hfind
    split at h
    · rename_i ms' lt' t' h1
      split at h
      · rename_i q
        simp only [Bool.and_eq_true] at q
        injection h with h
        injection h with e1 h
        injection h with e2 h
        injection h with e3 e4
        subst e1 e2 e3 e4
        obtain ⟨⟨d, hd, dl, dn⟩, a1, a2⟩ := tabC_ok (β := β) hb hc h1 hm
        have hmem := find_mem hfind
        have hl : l' = l := hmem.2
        subst hl
        have hty : ty = tyH := Nat.eq_of_beq_eq_true q.1
        subst hty
        have hB : Blk w (β l') ty [C.den ρ β x] := hb _ hmem.1
        rw [a1] at hB
        have hll : l' ≠ lt' := fun e => by
          have := q.2.1
          rw [e, Nat.beq_refl] at this
          cases this
        refine ⟨⟨hB, a2, fun hc0 e => ?_⟩, blt_lt q.2.2.1, blt_lt q.2.2.2, hll, ⟨d, hd, dl, dn⟩, ⟨_, hmem.1, rfl, rfl⟩⟩
        exact (hne _ hmem.1 d hd (dl ▸ hll) (.inl rfl) (.inr (by rw [dl]; exact hc0))).ne (by rw [dl]; exact e.symm)
      · cases h
    · cases h
  · cases h
theorem hold_chg {tyH tyE : TypeId} {lv : List Kd} {ρ : Env} {β : Bn} {w w' : World} {s : Sy.St} {l lt : Nat} {rw : Bool} {t' : Tm} (hl : l < s.nx) (hlt : lt + 1 < s.nx) (hd : ∃ d ∈ s.hp, d.l = lt ∧ d.nilable = true) {rows' : List (List Value)} (hG : HoldGo tyH tyE lv w w' (β l) (β lt) (β (lt + 1)) rows') (ht : (den ρ t').c = rows') :
    ∃ β', Chg ρ β β' w w' s [lt] [hoO tyH lv.length l rw s.nx t'] [hoN tyE lv s.nx t'] := by
  obtain ⟨a', c', hR, hO, hf⟩ := hG
  refine ⟨upd (upd β s.nx a') (s.nx + 1) c', ?_⟩
  obtain ⟨d, hd, dl, dn⟩ := hd
  have old : ∀ k, k < s.nx → upd (upd β s.nx a') (s.nx + 1) c' k = β k := fun k hk => by rw [upd_old (by omega), upd_old (by omega)]
  have e0 : upd (upd β s.nx a') (s.nx + 1) c' s.nx = a' := by rw [upd_old (by omega), upd_new]
  have e1 : upd (upd β s.nx a') (s.nx + 1) c' (s.nx + 1) = c' := upd_new ..
  have dr : β (lt + 1) ≠ 0 → d.real β := fun h => .inr (by rw [dl]; exact h)
  refine ⟨hO.mono fun i _ hi => ?_, fun k hk => old k hk, fun b hb => ?_, fun b hb => ?_, fun _ h => (by cases h), fun b hb hr i hi => ?_, fun x hx y hy hxy => ?_, fun _ _ b hb => (by cases hb)⟩
  · rcases hi with rfl | ⟨h0, rfl⟩
    · exact .inl ⟨_, List.mem_cons_self .., rfl⟩
    · exact .inr (.inl ⟨d, hd, by rw [dl]; exact List.mem_cons_self .., dr h0, by rw [← dl]; exact fp_root β d⟩)
  · rw [List.mem_singleton.1 hb]
    show Blk w' (upd (upd β s.nx a') (s.nx + 1) c' l) tyH [sltZ (upd (upd β s.nx a') (s.nx + 1) c' s.nx) (upd (upd β s.nx a') (s.nx + 1) c' (s.nx + 1)) lv.length 0 (((den ρ t').c.length : Int)).toNat 0]
    rw [old l hl, e0, e1, sltZ_zero, Int.toNat_natCast, ht]
    exact hR.obj
  · rw [List.mem_singleton.1 hb]
    show RowT w' (upd (upd β s.nx a') (s.nx + 1) c' s.nx) (upd (upd β s.nx a') (s.nx + 1) c' (s.nx + 1)) tyE lv (den ρ t').c
    rw [e0, e1, ht]
    exact hR.tab
  · rw [List.mem_singleton.1 hb] at hi hr
    have h5 := fp_one rfl hi
    change i = upd (upd β s.nx a') (s.nx + 1) c' s.nx at h5
    rw [e0] at h5
    have hc0 : c' ≠ 0 := fun e => (hr.resolve_left (by simp [hoN, Bk.nilable, Xt.isTab])) (e1.trans e)
    rw [h5]
    rcases hf hc0 with ⟨h0, e⟩ | h
    · exact .inl ⟨d, hd, by rw [dl]; exact List.mem_cons_self .., dr h0, by rw [e, ← dl]; exact fp_root β d⟩
    · exact .inr h
  · rw [List.mem_singleton.1 hx, List.mem_singleton.1 hy] at hxy
    exact absurd rfl hxy
/-- A new table, told. -/
theorem new_chg {tyE : TypeId} {lv : List Kd} {ρ : Env} {β : Bn} {w w' : World} {s : Sy.St} {t' : Tm} {v : Value} {rows' : List (List Value)} (hN : NewTab w w' v tyE lv rows') (ht : (den ρ t').c = rows') :
    ∃ β', v = C.den ρ β' (.slt s.nx lv.length (.il 0) (tlen t') (.il 0)) ∧ Chg ρ β β' w w' s [] [] [hoN tyE lv s.nx t'] := by
  obtain ⟨hb, g, c, rfl, hT, hat⟩ := hN
  have e0 : upd (upd β s.nx g) (s.nx + 1) c s.nx = g := by rw [upd_old (by omega), upd_new]
  have e1 : upd (upd β s.nx g) (s.nx + 1) c (s.nx + 1) = c := upd_new ..
  refine ⟨upd (upd β s.nx g) (s.nx + 1) c, ?_, Only.of_below hb _, fun k hk => by rw [upd_old (by omega), upd_old (by omega)], fun _ h => (by cases h), fun b hb => ?_, fun _ h => (by cases h), fun b hb' hr i hi => ?_, fun x hx y hy hxy => ?_, fun _ _ b hb => (by cases hb)⟩
  · rw [slt_den, e0, e1]
    show _ = sltZ g c lv.length 0 (((den ρ t').c.length : Int)).toNat 0
    rw [sltZ_zero, Int.toNat_natCast, ht]
  · rw [List.mem_singleton.1 hb]
    show RowT w' (upd (upd β s.nx g) (s.nx + 1) c s.nx) (upd (upd β s.nx g) (s.nx + 1) c (s.nx + 1)) tyE lv (den ρ t').c
    rw [e0, e1, ht]
    exact hT
  · rw [List.mem_singleton.1 hb'] at hi hr
    have h5 := fp_one rfl hi
    change i = upd (upd β s.nx g) (s.nx + 1) c s.nx at h5
    rw [e0] at h5
    have hc0 : c ≠ 0 := fun e => (hr.resolve_left (by simp [hoN, Bk.nilable, Xt.isTab])) (e1.trans e)
    rw [h5]
    exact .inr (hat.resolve_left hc0)
  · rw [List.mem_singleton.1 hx, List.mem_singleton.1 hy] at hxy
    exact absurd rfl hxy
end Go.Proofs.YtdkgekmjkindmaaDoor
