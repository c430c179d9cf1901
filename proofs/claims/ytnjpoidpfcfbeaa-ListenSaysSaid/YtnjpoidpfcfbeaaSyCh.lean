/- Calls that change what they are handed, in letters: blocks told anew, tables that grow; and small aids. -/
import Derived.Test.YtnjpoidpfcfbeaaSyZ
namespace Go.Proofs.Ytnjpoidpfcfbeaa
namespace Sy
open Go Go.RowKit
set_option linter.unusedVariables false
set_option linter.unusedSimpArgs false

/-! Aids. -/
def bdsP (ρ : Env) : List Bd → Prop
  | [] => True
  | x :: l => (x.lo ≤ (den ρ x.t).i ∧ (den ρ x.t).i ≤ x.hi) ∧ bdsP ρ l
theorem bdsP_ok {ρ : Env} : ∀ {l : List Bd}, bdsP ρ l → Bds ρ l
  | [], _, x, hx => by cases hx
  | y :: l, h, x, hx => by
    rcases List.mem_cons.1 hx with rfl | hx
    · exact h.1
    · exact bdsP_ok h.2 x hx
theorem pcs_all {ρ : Env} : ∀ {l : List Tm}, pcs ρ l → ∀ t ∈ l, (den ρ t).b = true
  | [], _, x, hx => by cases hx
  | y :: l, h, x, hx => by
    rcases List.mem_cons.1 hx with rfl | hx
    · exact h.1
    · exact pcs_all h.2 x hx
theorem cxP {ρ : Env} {c : Cx} (h1 : bdsP ρ c.bs) (h2 : pcs ρ c.pc) : c.ok ρ := ⟨bdsP_ok h1, pcs_all h2⟩
theorem pcs_r {ρ : Env} : ∀ {a b : List Tm}, pcs ρ (a ++ b) → pcs ρ b
  | [], _, h => h
  | _ :: a, _, h => pcs_r (a := a) h.2
def hpP (ρ : Env) (β : Bn) (w : World) : List Bk → Prop
  | [] => True
  | b :: l => BkOk ρ β w b ∧ hpP ρ β w l
theorem hpP_ok {ρ : Env} {β : Bn} {w : World} : ∀ {l : List Bk}, hpP ρ β w l → ∀ b ∈ l, BkOk ρ β w b
  | [], _, x, hx => by cases hx
  | y :: l, h, x, hx => by
    rcases List.mem_cons.1 hx with rfl | hx
    · exact h.1
    · exact hpP_ok h.2 x hx
theorem hpP_of {ρ : Env} {β : Bn} {w : World} : ∀ {l : List Bk}, (∀ b ∈ l, BkOk ρ β w b) → hpP ρ β w l
  | [], _ => trivial
  | y :: l, h => ⟨h y (List.mem_cons_self ..), hpP_of fun x hx => h x (List.mem_cons_of_mem _ hx)⟩
/-- x stands for none of these. -/
def neL (β : Bn) (x : Bk) : List Bk → Prop
  | [] => True
  | y :: l => (x.real β → y.real β → β x.l ≠ β y.l) ∧ neL β x l
def neP (β : Bn) : List Bk → Prop
  | [] => True
  | x :: l => neL β x l ∧ neP β l
theorem neL_ok {β : Bn} {x : Bk} : ∀ {l : List Bk}, neL β x l → ∀ y ∈ l, x.real β → y.real β → β x.l ≠ β y.l
  | [], _, y, hy => by cases hy
  | z :: l, h, y, hy => by
    rcases List.mem_cons.1 hy with rfl | hy
    · exact h.1
    · exact neL_ok h.2 y hy
theorem neP_ok {β : Bn} : ∀ {l : List Bk}, neP β l → ∀ x ∈ l, ∀ y ∈ l, x.l ≠ y.l → x.real β → y.real β → β x.l ≠ β y.l
  | [], _, x, hx, _, _, _ => by cases hx
  | z :: l, h, x, hx, y, hy, hne => by
    rcases List.mem_cons.1 hx with ex | hx' <;> rcases List.mem_cons.1 hy with ey | hy'
    · exact absurd (by rw [ex, ey]) hne
    · rw [ex]; exact neL_ok h.1 y hy'
    · rw [ey]; exact fun h1 h2 e => neL_ok h.1 x hx' h2 h1 e.symm
    · exact neP_ok h.2 x hx' y hy' hne
def mayP (S : Nat → Prop) (β : Bn) : List Bk → Prop
  | [] => True
  | b :: l => (b.rw = true → b.real β → S (β b.l)) ∧ mayP S β l
theorem mayP_ok {S : Nat → Prop} {β : Bn} : ∀ {l : List Bk}, mayP S β l → ∀ b ∈ l, b.rw = true → b.real β → S (β b.l)
  | [], _, x, hx => by cases hx
  | y :: l, h, x, hx => by
    rcases List.mem_cons.1 hx with rfl | hx
    · exact h.1
    · exact mayP_ok h.2 x hx
/-- How a walk begins. -/
theorem Md.init {ρ : Env} {S : Nat → Prop} {w : World} {β : Bn} {n0 : Nat} {s : St} (h1 : hpP ρ β w s.hp) (h2 : neP β s.hp) (h3 : mayP S β s.hp) (h4 : s.cx.ok ρ) (h5 : s.tm = []) : Md ρ S w β n0 s β ⟨#[], []⟩ w :=
  ⟨by rw [h5]; rfl, hpP_ok h1, neP_ok h2, fun b hb hw hr => .inl (mayP_ok h3 b hb hw hr), h4, Only.refl _ _, fun _ _ => rfl⟩

/-- A template of a place: what is kept of the slots, what is told anew; all others may be anything. -/
def tmK (keep : List Nat) (vs : List (Nat × SV)) : Nat → List SV → List SV
  | _, [] => []
  | n, x :: l => (match vFind n vs with
    | some v => v
    | none => if keep.any (Nat.beq n) then x else .any n) :: tmK keep vs (n + 1) l
def tplK (s : St) (keep : List Nat) (vs : List (Nat × SV)) (hp : List Bk) (cx : Cx) (nx : Nat) : St := ⟨tmK keep vs 0 s.tm, rowsLast (s.hp.map (fun b => match find b.l hp with
  | some b' => b'
  | none => b)), cx, nx⟩

/-! A change of blocks. -/
structure Chg (ρ : Env) (β β' : Bn) (w w' : World) (s : St) (drops : List Nat) (nbs adds : List Bk) : Prop where
  only : Only (fun g => (∃ b ∈ nbs, g = β b.l) ∨ ∃ d ∈ s.hp, d.l ∈ drops ∧ d.real β ∧ g = β d.l) w w'
  old : ∀ l, l < s.nx → β' l = β l
  nb : ∀ b ∈ nbs, BkOk ρ β' w' b
  add : ∀ b ∈ adds, BkOk ρ β' w' b
  fresh : ∀ b ∈ adds, b.real β' → (∃ d ∈ s.hp, d.l ∈ drops ∧ d.real β ∧ β' b.l = β d.l) ∨ w.heap.size ≤ β' b.l
  ne : ∀ x ∈ adds, ∀ y ∈ adds, x.l ≠ y.l → x.real β' → y.real β' → β' x.l ≠ β' y.l
def memN (n : Nat) (l : List Nat) : Bool := l.any (Nat.beq n)
theorem memN_iff {n : Nat} {l : List Nat} : memN n l = true ↔ n ∈ l := by
  unfold memN
  rw [List.any_eq_true]
  exact ⟨fun ⟨x, hx, e⟩ => by rw [Nat.eq_of_beq_eq_true e]; exact hx, fun h => ⟨n, h, Nat.beq_refl n⟩⟩
def replAll : List Bk → List Bk → List Bk
  | [], hp => hp
  | b :: l, hp => replAll l (replHp b hp)
theorem replAll_mem {x : Bk} : ∀ {nbs hp : List Bk}, x ∈ replAll nbs hp → x ∈ nbs ∨ (x ∈ hp ∧ ∀ b ∈ nbs, x.l ≠ b.l)
  | [], hp, h => .inr ⟨h, fun b hb => by cases hb⟩
  | b :: l, hp, h => by
    rcases replAll_mem (nbs := l) h with h | ⟨h, hn⟩
    · exact .inl (List.mem_cons_of_mem _ h)
    · rcases repl_mem h with h | ⟨h, hne⟩
      · exact .inl (by rw [h]; exact List.mem_cons_self ..)
      · refine .inr ⟨h, fun c hc => ?_⟩
        rcases List.mem_cons.1 hc with rfl | hc
        · exact hne
        · exact hn c hc
def insAll : List Bk → List Bk → List Bk
  | [], hp => hp
  | b :: l, hp => insBk b (insAll l hp)
theorem insAll_mem {x : Bk} : ∀ {adds hp : List Bk}, x ∈ insAll adds hp → x ∈ adds ∨ x ∈ hp
  | [], hp, h => .inr h
  | b :: l, hp, h => by
    rcases mem_ins h with h | h
    · exact .inl (by rw [h]; exact List.mem_cons_self ..)
    · rcases insAll_mem h with h | h
      · exact .inl (List.mem_cons_of_mem _ h)
      · exact .inr h
/-- The state behind it. -/
def St.chg (s : St) (drops : List Nat) (nbs adds : List Bk) (bs : List Bd) : St :=
  { s with hp := insAll adds (replAll nbs (s.hp.filter fun b => !(memN b.l drops))), nx := s.nx + 2 * adds.length, cx := ⟨bs ++ s.cx.bs, s.cx.pc⟩ }
/-- What must be seen of the letters. -/
def chgOk (n0 : Nat) (s : St) (drops : List Nat) (nbs adds : List Bk) : Bool :=
  Nat.ble n0 s.nx && ((s.tm.all (SV.lt s.nx)) && ((s.hp.all fun b => Nat.blt (b.l + 1) s.nx && ltL s.nx b.cs) &&
  ((nbs.all fun nb => !(nb.nilable) && (!(memN nb.l drops) && s.hp.any fun b => Nat.beq b.l nb.l && (!(b.nilable) && b.rw))) &&
  ((s.hp.all fun b => !(memN b.l drops) || b.rw) && adds.all fun b => Nat.ble s.nx b.l))))
theorem Md.chg {ρ : Env} {β β' : Bn} {S : Nat → Prop} {w0 w w' : World} {β0 : Bn} {n0 : Nat} {s : St} {a : Act} (hM : Md ρ S w0 β0 n0 s β a w) {drops : List Nat} {nbs adds : List Bk} {bs : List Bd} (hk : chgOk n0 s drops nbs adds = true) (hC : Chg ρ β β' w w' s drops nbs adds) (hbs : Bds ρ bs) :
    Md ρ S w0 β0 n0 (s.chg drops nbs adds bs) β' a w' := by
  unfold chgOk at hk
  simp only [Bool.and_eq_true] at hk
  obtain ⟨k0, k1, k2, k3, k4, k5⟩ := hk
  have k0 := Nat.le_of_ble_eq_true k0
  have old2 : ∀ b ∈ s.hp, β' b.l = β b.l ∧ β' (b.l + 1) = β (b.l + 1) ∧ denL ρ β' b.cs = denL ρ β b.cs := fun b hb => by
    have := List.all_eq_true.1 k2 b hb
    rw [Bool.and_eq_true] at this
    have h1 : b.l + 1 < s.nx := blt_lt this.1
    exact ⟨hC.old _ (by omega), hC.old _ h1, denL_agree ρ hC.old this.2⟩
  have oldr : ∀ b ∈ s.hp, b.real β' → b.real β := fun b hb hr => hr.imp id fun h => by rw [← (old2 b hb).2.1]; exact h
  have hnb : ∀ nb ∈ nbs, nb.nilable = false ∧ ¬ nb.l ∈ drops ∧ ∃ b ∈ s.hp, b.l = nb.l ∧ b.real β ∧ b.rw = true := fun nb hb => by
    have := List.all_eq_true.1 k3 nb hb
    simp only [Bool.and_eq_true, Bool.not_eq_true'] at this
    obtain ⟨h1, h2, h3⟩ := this
    obtain ⟨b, hb, h4⟩ := List.any_eq_true.1 h3
    simp only [Bool.and_eq_true, Bool.not_eq_true'] at h4
    refine ⟨h1, fun h => ?_, b, hb, Nat.eq_of_beq_eq_true h4.1, .inl h4.2.1, h4.2.2⟩
    rw [memN_iff.2 h] at h2
    cases h2
  have hdr : ∀ b ∈ s.hp, b.l ∈ drops → b.rw = true := fun b hb hd => by
    have := List.all_eq_true.1 k4 b hb
    rw [Bool.or_eq_true] at this
    rcases this with h | h
    · rw [memN_iff.2 hd] at h; cases h
    · exact h
  have hT : ∀ i, ((∃ b ∈ nbs, i = β b.l) ∨ ∃ d ∈ s.hp, d.l ∈ drops ∧ d.real β ∧ i = β d.l) → S i ∨ w0.heap.size ≤ i := by
    rintro i (⟨nb, hb, rfl⟩ | ⟨d, hd, hdd, hr, rfl⟩)
    · obtain ⟨_, _, b, hb', hl, hr, hw⟩ := hnb nb hb
      rw [← hl]
      exact hM.may b hb' hw hr
    · exact hM.may d hd (hdr d hd hdd) hr
  have hmem : ∀ x, x ∈ (s.chg drops nbs adds bs).hp → x ∈ adds ∨ x ∈ nbs ∨ (x ∈ s.hp ∧ (∀ b ∈ nbs, x.l ≠ b.l) ∧ ¬ x.l ∈ drops) := fun x hx => by
    rcases insAll_mem hx with h | h
    · exact .inl h
    · rcases replAll_mem h with h | ⟨h, hn⟩
      · exact .inr (.inl h)
      · have := List.mem_filter.1 h
        refine .inr (.inr ⟨this.1, hn, fun hd => ?_⟩)
        have h2 := this.2
        rw [memN_iff.2 hd] at h2
        cases h2
  -- an added block is none of those that stay
  have apart : ∀ x ∈ adds, x.real β' → ∀ y ∈ s.hp, y.real β → ¬ y.l ∈ drops → β' x.l ≠ β y.l := fun x hx hr y hy hry hyd => by
    rcases hC.fresh x hx hr with ⟨d, hd, hdd, hdr', e⟩ | h
    · rw [e]
      exact hM.ne d hd y hy (fun e => hyd (e ▸ hdd)) hdr' hry
    · have := (hM.hp y hy).lt hry
      omega
  refine ⟨?_, ?_, ?_, ?_, ?_, ?_, ?_⟩
  · rw [hM.act]
    congr 2
    apply List.map_congr_left
    intro x hx
    exact (SV.den_agree ρ hC.old (List.all_eq_true.1 k1 x hx)).symm
  · intro x hx
    rcases hmem x hx with h | h | ⟨h, hn, hd⟩
    · exact hC.add x h
    · exact hC.nb x h
    · refine BkOk.agree ((hM.hp x h).keep fun hr => hC.only.block _ ((hM.hp x h).lt hr) ?_) (old2 x h).1 (fun _ => (old2 x h).2.1) (old2 x h).2.2
      rintro (⟨nb, hb, e⟩ | ⟨d, hd1, hd2, hd3, e⟩)
      · obtain ⟨_, _, b, hb', hl, hrb, _⟩ := hnb nb hb
        rw [← hl] at e
        exact hM.ne x h b hb' (by rw [hl]; exact hn nb hb) hr hrb e
      · exact hM.ne x h d hd1 (fun e => hd (e ▸ hd2)) hr hd3 e
  · have nbOf : ∀ x ∈ nbs, ∃ b ∈ s.hp, b.l = x.l ∧ b.real β ∧ ¬ b.l ∈ drops ∧ β' x.l = β b.l := fun x hx => by
      obtain ⟨_, hd, b, hb, hl, hr, _⟩ := hnb x hx
      exact ⟨b, hb, hl, hr, by rw [hl]; exact hd, by rw [← hl]; exact (old2 b hb).1⟩
    have rest : ∀ x, (x ∈ nbs ∨ (x ∈ s.hp ∧ (∀ b ∈ nbs, x.l ≠ b.l) ∧ ¬ x.l ∈ drops)) → x.real β' → ∃ b ∈ s.hp, b.l = x.l ∧ b.real β ∧ ¬ b.l ∈ drops ∧ β' x.l = β b.l := by
      rintro x (h | ⟨h, hn, hd⟩) hr
      · exact nbOf x h
      · exact ⟨x, h, rfl, oldr x h hr, hd, (old2 x h).1⟩
    intro x hx y hy hne hrx hry
    rcases hmem x hx with hx | hx <;> rcases hmem y hy with hy | hy
    · exact hC.ne x hx y hy hne hrx hry
    · obtain ⟨b, hb, hl, hr, hd, e⟩ := rest y hy hry
      rw [e]
      exact apart x hx hrx b hb hr hd
    · obtain ⟨b, hb, hl, hr, hd, e⟩ := rest x hx hrx
      rw [e]
      exact (apart y hy hry b hb hr hd).symm
    · obtain ⟨b, hb, hl, hr, hd, e⟩ := rest x hx hrx
      obtain ⟨b2, hb2, hl2, hr2, hd2, e2⟩ := rest y hy hry
      rw [e, e2]
      exact hM.ne b hb b2 hb2 (by rw [hl, hl2]; exact hne) hr hr2
  · intro x hx hw hr
    rcases hmem x hx with h | h | ⟨h, hn, hd⟩
    · rcases hC.fresh x h hr with ⟨d, hd, hdd, hdr', e⟩ | h
      · rw [e]
        exact hM.may d hd (hdr d hd hdd) hdr'
      · exact .inr (Nat.le_trans hM.only.size h)
    · obtain ⟨_, hd, b, hb, hl, hrb, hwb⟩ := hnb x h
      rw [← hl, (old2 b hb).1]
      exact hM.may b hb hwb hrb
    · rw [(old2 x h).1]
      exact hM.may x h hw (oldr x h hr)
  · refine ⟨fun x hx => ?_, hM.cx.2⟩
    rcases List.mem_append.1 hx with hx | hx
    · exact hbs x hx
    · exact hM.cx.1 x hx
  · exact Sy.Only.after hM.only hC.only hT
  · intro l hl
    rw [hC.old l (by omega)]
    exact hM.old l hl
/-- What a call does: what is to be shown, the tables that go, the blocks told anew, the tables that come, the answer, bounds. -/
structure Did where
  m : List Tm
  drops : List Nat
  nbs : List Bk
  adds : List Bk
  v : SV
  bs : List Bd
def chgSp (f : FuncId) (sel : St → List SV → Option Did) : Spec where
  f := f
  pre := fun s xs => (sel s xs).map Did.m
  go := fun n0 s xs => match sel s xs with
    | some d => if chgOk n0 s d.drops d.nbs d.adds then some (s.chg d.drops d.nbs d.adds d.bs, d.v) else none
    | none => none
theorem chgSp_ok {P : Program} {ρ : Env} {f : FuncId} {sel : St → List SV → Option Did}
    (h : ∀ {s : St} {xs : List SV} {d : Did}, sel s xs = some d → s.cx.ok ρ → Met ρ d.m → ∀ {β : Bn} {w : World}, (∀ b ∈ s.hp, BkOk ρ β w b) → (∀ x ∈ s.hp, ∀ y ∈ s.hp, x.l ≠ y.l → x.real β → y.real β → β x.l ≠ β y.l) →
      Bds ρ d.bs ∧ Calls P f (xs.map (SV.den ρ β)).toArray w fun e w' => ∃ β', e = .returned (d.v.den ρ β') ∧ Chg ρ β β' w w' s d.drops d.nbs d.adds) : (chgSp f sel).Ok P ρ := by
  intro B s xs m s' v hB hpre hgo hm β a w hM
  subst hB
  simp only [chgSp] at hpre hgo
  cases hs : sel s xs with
  | none => rw [hs] at hgo; cases hgo
  | some d =>
    rw [hs] at hpre hgo
    injection hpre with hpre
    subst hpre
    simp only [] at hgo
    split at hgo
    · rename_i q
      injection hgo with hgo
      injection hgo with e1 e2
      subst e1 e2
      obtain ⟨hb, hc⟩ := h hs hM.cx hm hM.hp hM.ne
      refine hc.mono ?_
      rintro e w' ⟨β', rfl, hC⟩
      exact ⟨β', a, rfl, Sy.Md.chg hM q hC hb⟩
    · cases hgo
end Sy
end Go.Proofs.Ytnjpoidpfcfbeaa
