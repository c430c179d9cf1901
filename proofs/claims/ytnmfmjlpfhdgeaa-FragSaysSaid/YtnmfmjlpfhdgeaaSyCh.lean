/- Calls that change what they are handed, in letters: blocks told anew, tables that grow; and small aids. -/
import Derived.Test.YtnmfmjlpfhdgeaaSyY
namespace Go.Proofs.Ytnmfmjlpfhdgeaa
namespace Sy
open Go Go.RowKit
set_option linter.unusedVariables false
set_option linter.unusedSimpArgs false

/-! Aids. -/
def bdsP (ρ : Env) : List Bd → Prop
  | [] => True
  | x :: l => (x.lo ≤ (den ρ x.t).i ∧ (den ρ x.t).i ≤ x.hi) ∧ bdsP ρ l
theorem bdsP_ok {ρ : Env} : ∀ {l : List Bd}, bdsP ρ l → Bds ρ l
  | [], _, x, hx => by cases hx
  | y :: l, h, x, hx => by
    rcases List.mem_cons.1 hx with rfl | hx
    · exact h.1
    · exact bdsP_ok h.2 x hx
theorem pcs_all {ρ : Env} : ∀ {l : List Tm}, pcs ρ l → ∀ t ∈ l, (den ρ t).b = true
  | [], _, x, hx => by cases hx
  | y :: l, h, x, hx => by
    rcases List.mem_cons.1 hx with rfl | hx
    · exact h.1
    · exact pcs_all h.2 x hx
theorem cxP {ρ : Env} {c : Cx} (h1 : bdsP ρ c.bs) (h2 : pcs ρ c.pc) : c.ok ρ := ⟨bdsP_ok h1, pcs_all h2⟩
theorem pcs_r {ρ : Env} : ∀ {a b : List Tm}, pcs ρ (a ++ b) → pcs ρ b
  | [], _, h => h
  | _ :: a, _, h => pcs_r (a := a) h.2
def hpP (ρ : Env) (β : Bn) (w : World) : List Bk → Prop
  | [] => True
  | b :: l => BkOk ρ β w b ∧ hpP ρ β w l
theorem hpP_ok {ρ : Env} {β : Bn} {w : World} : ∀ {l : List Bk}, hpP ρ β w l → ∀ b ∈ l, BkOk ρ β w b
  | [], _, x, hx => by cases hx
  | y :: l, h, x, hx => by
    rcases List.mem_cons.1 hx with rfl | hx
    · exact h.1
    · exact hpP_ok h.2 x hx
theorem hpP_of {ρ : Env} {β : Bn} {w : World} : ∀ {l : List Bk}, (∀ b ∈ l, BkOk ρ β w b) → hpP ρ β w l
  | [], _ => trivial
  | y :: l, h => ⟨h y (List.mem_cons_self ..), hpP_of fun x hx => h x (List.mem_cons_of_mem _ hx)⟩
/-- x stands for none of these. -/
def neL (β : Bn) (x : Bk) : List Bk → Prop
  | [] => True
  | y :: l => (x.real β → y.real β → apart β x y) ∧ neL β x l
def neP (β : Bn) : List Bk → Prop
  | [] => True
  | x :: l => neL β x l ∧ neP β l
theorem neL_ok {β : Bn} {x : Bk} : ∀ {l : List Bk}, neL β x l → ∀ y ∈ l, x.real β → y.real β → apart β x y
  | [], _, y, hy => by cases hy
  | z :: l, h, y, hy => by
    rcases List.mem_cons.1 hy with rfl | hy
    · exact h.1
    · exact neL_ok h.2 y hy
theorem neP_ok {β : Bn} : ∀ {l : List Bk}, neP β l → ∀ x ∈ l, ∀ y ∈ l, x.l ≠ y.l → x.real β → y.real β → apart β x y
  | [], _, x, hx, _, _, _ => by cases hx
  | z :: l, h, x, hx, y, hy, hne => by
    rcases List.mem_cons.1 hx with ex | hx' <;> rcases List.mem_cons.1 hy with ey | hy'
    · exact absurd (by rw [ex, ey]) hne
    · rw [ex]; exact neL_ok h.1 y hy'
    · rw [ey]; exact fun h1 h2 => (neL_ok h.1 x hx' h2 h1).symm
    · exact neP_ok h.2 x hx' y hy' hne
def mayP (S : Nat → Prop) (β : Bn) : List Bk → Prop
  | [] => True
  | b :: l => (b.rw = true → b.real β → ∀ g, fp β b g → S g) ∧ mayP S β l
theorem mayP_ok {S : Nat → Prop} {β : Bn} : ∀ {l : List Bk}, mayP S β l → ∀ b ∈ l, b.rw = true → b.real β → ∀ g, fp β b g → S g
  | [], _, x, hx => by cases hx
  | y :: l, h, x, hx => by
    rcases List.mem_cons.1 hx with rfl | hx
    · exact h.1
    · exact mayP_ok h.2 x hx
/-- How a walk begins. -/
theorem Md.init {ρ : Env} {S : Nat → Prop} {w : World} {β : Bn} {n0 : Nat} {s : St} (h1 : hpP ρ β w s.hp) (h2 : neP β s.hp) (h3 : mayP S β s.hp) (h4 : s.cx.ok ρ) (h5 : s.tm = []) : Md ρ S w β n0 s β ⟨#[], []⟩ w :=
  ⟨by rw [h5]; rfl, hpP_ok h1, neP_ok h2, fun b hb hw hr g hg => .inl (mayP_ok h3 b hb hw hr g hg), h4, Only.refl _ _, fun _ _ => rfl⟩

/-- A template of a place: what is kept of the slots, what is told anew; all others may be anything. -/
def tmK (keep : List Nat) (vs : List (Nat × SV)) : Nat → List SV → List SV
  | _, [] => []
  | n, x :: l => (match vFind n vs with
    | some v => v
    | none => if keep.any (Nat.beq n) then x else .any n) :: tmK keep vs (n + 1) l
def tplK (s : St) (keep : List Nat) (vs : List (Nat × SV)) (hp : List Bk) (cx : Cx) (nx : Nat) : St := ⟨tmK keep vs 0 s.tm, rowsLast (s.hp.map (fun b => match find b.l hp with
  | some b' => b'
  | none => b)), cx, nx⟩

/-! A change of blocks. -/
/-- ow: a thing of many blocks that is told anew, under the same letter; a new letter tells its blocks. -/
structure Chg (ρ : Env) (β β' : Bn) (w w' : World) (s : St) (drops : List Nat) (nbs adds : List Bk) (ow : Option Bk := none) : Prop where
  only : Only (fun g => (∃ b ∈ nbs, g = β b.l) ∨ (∃ d ∈ s.hp, d.l ∈ drops ∧ d.real β ∧ fp β d g) ∨ ∃ b ∈ ow, ∃ d ∈ s.hp, d.l = b.l ∧ (d.own = true ∧ d.rw = true) ∧ fp β d g) w w'
  old : ∀ l, l < s.nx → β' l = β l
  nb : ∀ b ∈ nbs, BkOk ρ β' w' b
  add : ∀ b ∈ adds, BkOk ρ β' w' b
  own : ∀ b ∈ ow, BkOk ρ β' w' b ∧ ∀ g, fp β' b g → (∃ d ∈ s.hp, d.l = b.l ∧ (d.own = true ∧ d.rw = true) ∧ fp β d g) ∨ w.heap.size ≤ g
  fresh : ∀ b ∈ adds, b.real β' → ∀ g, fp β' b g → (∃ d ∈ s.hp, d.l ∈ drops ∧ d.real β ∧ fp β d g) ∨ w.heap.size ≤ g
  ne : ∀ x ∈ adds, ∀ y ∈ adds, x.l ≠ y.l → x.real β' → y.real β' → apart β' x y
  neo : ∀ x ∈ adds, ∀ b ∈ ow, x.real β' → apart β' x b
def memN (n : Nat) (l : List Nat) : Bool := l.any (Nat.beq n)
theorem memN_iff {n : Nat} {l : List Nat} : memN n l = true ↔ n ∈ l := by
  unfold memN
  rw [List.any_eq_true]
  exact ⟨fun ⟨x, hx, e⟩ => by rw [Nat.eq_of_beq_eq_true e]; exact hx, fun h => ⟨n, h, Nat.beq_refl n⟩⟩
def replAll : List Bk → List Bk → List Bk
  | [], hp => hp
  | b :: l, hp => replAll l (replHp b hp)
theorem replAll_mem {x : Bk} : ∀ {nbs hp : List Bk}, x ∈ replAll nbs hp → x ∈ nbs ∨ (x ∈ hp ∧ ∀ b ∈ nbs, x.l ≠ b.l)
  | [], hp, h => .inr ⟨h, fun b hb => by cases hb⟩
  | b :: l, hp, h => by
    rcases replAll_mem (nbs := l) h with h | ⟨h, hn⟩
    · exact .inl (List.mem_cons_of_mem _ h)
    · rcases repl_mem h with h | ⟨h, hne⟩
      · exact .inl (by rw [h]; exact List.mem_cons_self ..)
      · refine .inr ⟨h, fun c hc => ?_⟩
        rcases List.mem_cons.1 hc with rfl | hc
        · exact hne
        · exact hn c hc
def insAll : List Bk → List Bk → List Bk
  | [], hp => hp
  | b :: l, hp => insBk b (insAll l hp)
theorem insAll_mem {x : Bk} : ∀ {adds hp : List Bk}, x ∈ insAll adds hp → x ∈ adds ∨ x ∈ hp
  | [], hp, h => .inr h
  | b :: l, hp, h => by
    rcases mem_ins h with h | h
    · exact .inl (by rw [h]; exact List.mem_cons_self ..)
    · rcases insAll_mem h with h | h
      · exact .inl (List.mem_cons_of_mem _ h)
      · exact .inr h
/-- The state behind it. -/
def St.chg (s : St) (drops : List Nat) (nbs adds : List Bk) (bs : List Bd) (ow : Option Bk := none) : St :=
  { s with hp := insAll adds (replAll (ow.toList ++ nbs) (s.hp.filter fun b => !(memN b.l drops))), nx := s.nx + (2 * adds.length + match ow with | none => 0 | some _ => 2), cx := ⟨bs ++ s.cx.bs, s.cx.pc⟩ }
/-- What must be seen of the letters. -/
def chgOw (s : St) (drops : List Nat) (nbs : List Bk) (ow : Option Bk) : Bool :=
  match ow with
  | none => true
  | some b => b.own && (!(memN b.l drops) && ((nbs.all fun x => !(Nat.beq x.l b.l)) && (s.hp.any fun d => Nat.beq d.l b.l && (d.own && d.rw))))
def chgOk (n0 : Nat) (s : St) (drops : List Nat) (nbs adds : List Bk) (ow : Option Bk := none) : Bool :=
  Nat.ble n0 s.nx && ((s.tm.all (SV.lt s.nx)) && ((s.hp.all fun b => Nat.blt (b.l + 1) s.nx && ltL s.nx b.cs) &&
  ((nbs.all fun nb => (!(nb.nilable) && !(nb.own)) && (!(memN nb.l drops) && s.hp.any fun b => Nat.beq b.l nb.l && (!(b.nilable) && b.rw))) &&
  ((s.hp.all fun b => !(memN b.l drops) || b.rw) && ((adds.all fun b => Nat.ble s.nx b.l) && chgOw s drops nbs ow)))))
theorem Md.chg {ρ : Env} {β β' : Bn} {S : Nat → Prop} {w0 w w' : World} {β0 : Bn} {n0 : Nat} {s : St} {a : Act} (hM : Md ρ S w0 β0 n0 s β a w) {drops : List Nat} {nbs adds : List Bk} {bs : List Bd} {ow : Option Bk} (hk : chgOk n0 s drops nbs adds ow = true) (hC : Chg ρ β β' w w' s drops nbs adds ow) (hbs : Bds ρ bs) :
    Md ρ S w0 β0 n0 (s.chg drops nbs adds bs ow) β' a w' := by
  unfold chgOk at hk
  simp only [Bool.and_eq_true] at hk
  obtain ⟨k0, k1, k2, k3, k4, k5, k6⟩ := hk
  have k0 := Nat.le_of_ble_eq_true k0
  -- what is told anew of the thing of many blocks
  have hOw : ∀ b ∈ ow, b.own = true ∧ ¬ b.l ∈ drops ∧ (∀ x ∈ nbs, x.l ≠ b.l) ∧ (∃ d ∈ s.hp, d.l = b.l ∧ d.own = true ∧ d.rw = true) := fun b hb => by
    rw [show ow = some b from hb] at k6
    unfold chgOw at k6
    simp only [Bool.and_eq_true] at k6
    obtain ⟨o1, o3, o4, o5⟩ := k6
    refine ⟨o1, fun h => ?_, fun x hx e => ?_, ?_⟩
    · rw [memN_iff.2 h] at o3; cases o3
    · have := List.all_eq_true.1 o4 x hx
      rw [e, Nat.beq_refl] at this
      cases this
    · obtain ⟨d, hd, h⟩ := List.any_eq_true.1 o5
      simp only [Bool.and_eq_true] at h
      exact ⟨d, hd, Nat.eq_of_beq_eq_true h.1, h.2.1, h.2.2⟩
  have old2 : ∀ b ∈ s.hp, β' b.l = β b.l ∧ β' (b.l + 1) = β (b.l + 1) ∧ denL ρ β' b.cs = denL ρ β b.cs := fun b hb => by
    have := List.all_eq_true.1 k2 b hb
    rw [Bool.and_eq_true] at this
    have h1 : b.l + 1 < s.nx := blt_lt this.1
    exact ⟨hC.old _ (by omega), hC.old _ h1, denL_agree ρ hC.old this.2⟩
  have hnb : ∀ nb ∈ nbs, nb.own = false ∧ ¬ nb.l ∈ drops ∧ ∃ b ∈ s.hp, b.l = nb.l ∧ b.nilable = false ∧ b.real β ∧ b.rw = true := fun nb hb => by
    have := List.all_eq_true.1 k3 nb hb
    simp only [Bool.and_eq_true, Bool.not_eq_true'] at this
    obtain ⟨⟨_, h1⟩, h2, h3⟩ := this
    obtain ⟨b, hb, h4⟩ := List.any_eq_true.1 h3
    simp only [Bool.and_eq_true, Bool.not_eq_true'] at h4
    refine ⟨h1, fun h => ?_, b, hb, Nat.eq_of_beq_eq_true h4.1, h4.2.1, .inl h4.2.1, h4.2.2⟩
    rw [memN_iff.2 h] at h2
    cases h2
  have hdr : ∀ b ∈ s.hp, b.l ∈ drops → b.rw = true := fun b hb hd => by
    have := List.all_eq_true.1 k4 b hb
    rw [Bool.or_eq_true] at this
    rcases this with h | h
    · rw [memN_iff.2 hd] at h; cases h
    · exact h
  have hT : ∀ i, ((∃ b ∈ nbs, i = β b.l) ∨ (∃ d ∈ s.hp, d.l ∈ drops ∧ d.real β ∧ fp β d i) ∨ ∃ b ∈ ow, ∃ d ∈ s.hp, d.l = b.l ∧ (d.own = true ∧ d.rw = true) ∧ fp β d i) → S i ∨ w0.heap.size ≤ i := by
    rintro i (⟨nb, hb, rfl⟩ | ⟨d, hd, hdd, hr, hi⟩ | ⟨b, hb, d, hd, hl, ⟨heo, hew⟩, hi⟩)
    · obtain ⟨_, _, b, hb', hl, _, hr, hw⟩ := hnb nb hb
      rw [← hl]
      exact hM.may0 b hb' hw hr
    · exact hM.may d hd (hdr d hd hdd) hr i hi
    · exact hM.may d hd hew (own_real heo) i hi
  have hmem : ∀ x, x ∈ (s.chg drops nbs adds bs ow).hp → x ∈ adds ∨ x ∈ ow ∨ x ∈ nbs ∨ (x ∈ s.hp ∧ (∀ b ∈ nbs, x.l ≠ b.l) ∧ ¬ x.l ∈ drops ∧ ∀ b ∈ ow, x.l ≠ b.l) := fun x hx => by
    rcases insAll_mem hx with h | h
    · exact .inl h
    · rcases replAll_mem h with h | ⟨h, hn⟩
      · rcases List.mem_append.1 h with h | h
        · exact .inr (.inl (Option.mem_toList.1 h))
        · exact .inr (.inr (.inl h))
      · have := List.mem_filter.1 h
        refine .inr (.inr (.inr ⟨this.1, fun b hb => hn b (List.mem_append_right _ hb), fun hd => ?_, fun b hb => hn b (List.mem_append_left _ (Option.mem_toList.2 hb))⟩))
        have h2 := this.2
        rw [memN_iff.2 hd] at h2
        cases h2
  -- an added block is none of those that stay
  have away : ∀ x ∈ adds, x.real β' → ∀ y ∈ s.hp, y.real β → ¬ y.l ∈ drops → ∀ g, fp β' x g → ¬ fp β y g := fun x hx hr y hy hry hyd g hg hyg => by
    rcases hC.fresh x hx hr g hg with ⟨d, hd, hdd, hdr', e⟩ | h
    · exact hM.ne d hd y hy (fun e => hyd (e ▸ hdd)) hdr' hry g e hyg
    · have := (hM.hp y hy).fplt hry hyg
      omega
  have owaway : ∀ o ∈ ow, ∀ y ∈ s.hp, y.real β → y.l ≠ o.l → ∀ g, fp β' o g → ¬ fp β y g := fun o ho y hy hry hne g hg hyg => by
    rcases (hC.own o ho).2 g hg with ⟨d, hd, hl, ⟨heo, _⟩, e⟩ | h
    · exact hM.ne d hd y hy (fun q => hne (q ▸ hl)) (own_real heo) hry g e hyg
    · have := (hM.hp y hy).fplt hry hyg
      omega
  -- what stays, and what is told anew in its own place, lies where it lay
  have rest : ∀ x, (x ∈ nbs ∨ (x ∈ s.hp ∧ (∀ b ∈ nbs, x.l ≠ b.l) ∧ ¬ x.l ∈ drops ∧ ∀ b ∈ ow, x.l ≠ b.l)) → x.real β' → ∃ b ∈ s.hp, b.l = x.l ∧ b.real β ∧ ¬ b.l ∈ drops ∧ (∀ o ∈ ow, b.l ≠ o.l) ∧ ∀ g, fp β' x g → fp β b g := by
    rintro x (h | ⟨h, hn, hd, ho⟩) hr
    · obtain ⟨hnl, hd, b, hb, hl, hbn, hrb, _⟩ := hnb x h
      refine ⟨b, hb, hl, hrb, by rw [hl]; exact hd, fun o ho e => (hOw o ho).2.2.1 x h (hl.symm.trans e), fun g hg => ?_⟩
      rw [fp_one hnl hg, ← hl, (old2 b hb).1]
      exact fp_root β b
    · refine ⟨x, h, rfl, hr.imp id fun q => by rw [← (old2 x h).2.1]; exact q, hd, ho, fun g hg => ?_⟩
      exact (fp_agree (old2 x h).1 (old2 x h).2.2 g).1 hg
  refine ⟨?_, ?_, ?_, ?_, ?_, ?_, ?_⟩
  · rw [hM.act]
    congr 2
    apply List.map_congr_left
    intro x hx
    exact (SV.den_agree ρ hC.old (List.all_eq_true.1 k1 x hx)).symm
  · intro x hx
    rcases hmem x hx with h | h | h | ⟨h, hn, hd, ho⟩
    · exact hC.add x h
    · exact (hC.own x h).1
    · exact hC.nb x h
    · refine BkOk.agree ((hM.hp x h).keep fun hr g hg hlt => hC.only.block _ hlt ?_) (old2 x h).1 (fun _ => (old2 x h).2.1) (old2 x h).2.2
      rintro (⟨nb, hb, e⟩ | ⟨d, hd1, hd2, hd3, e⟩ | ⟨b, hb, d, hd1, hl, ⟨heo, _⟩, e⟩)
      · obtain ⟨_, _, b, hb', hl, _, hrb, _⟩ := hnb nb hb
        rw [← hl] at e
        exact hM.ne x h b hb' (by rw [hl]; exact hn nb hb) hr hrb g hg (e ▸ fp_root β b)
      · exact hM.ne x h d hd1 (fun e => hd (e ▸ hd2)) hr hd3 g hg e
      · exact hM.ne x h d hd1 (fun q => ho b hb (q.trans hl)) hr (own_real heo) g hg e
  · intro x hx y hy hne hrx hry
    rcases hmem x hx with hx | hx | hx <;> rcases hmem y hy with hy | hy | hy
    · exact hC.ne x hx y hy hne hrx hry
    · exact hC.neo x hx y hy hrx
    · obtain ⟨b, hb, hl, hr, hd, ho, e⟩ := rest y hy hry
      exact fun g gx gy => away x hx hrx b hb hr hd g gx (e g gy)
    · exact (hC.neo y hy x hx hry).symm
    · rw [show ow = some x from hx] at hy
      injection hy with hy
      exact absurd (by rw [hy]) hne
    · obtain ⟨b, hb, hl, hr, hd, ho, e⟩ := rest y hy hry
      exact fun g gx gy => owaway x hx b hb hr (ho x hx) g gx (e g gy)
    · obtain ⟨b, hb, hl, hr, hd, ho, e⟩ := rest x hx hrx
      exact fun g gx gy => away y hy hry b hb hr hd g gy (e g gx)
    · obtain ⟨b, hb, hl, hr, hd, ho, e⟩ := rest x hx hrx
      exact fun g gx gy => owaway y hy b hb hr (ho y hy) g gy (e g gx)
    · obtain ⟨b, hb, hl, hr, hd, _, e⟩ := rest x hx hrx
      obtain ⟨b2, hb2, hl2, hr2, hd2, _, e2⟩ := rest y hy hry
      exact fun g gx gy => hM.ne b hb b2 hb2 (by rw [hl, hl2]; exact hne) hr hr2 g (e g gx) (e2 g gy)
  · intro x hx hw hr g hg
    rcases hmem x hx with h | h | h | h
    · rcases hC.fresh x h hr g hg with ⟨d, hd, hdd, hdr', e⟩ | h
      · exact hM.may d hd (hdr d hd hdd) hdr' g e
      · exact .inr (Nat.le_trans hM.only.size h)
    · rcases (hC.own x h).2 g hg with ⟨d, hd, hl, ⟨heo, hew⟩, e⟩ | h'
      · exact hM.may d hd hew (own_real heo) g e
      · exact .inr (Nat.le_trans hM.only.size h')
    · obtain ⟨hnl, hd, b, hb, hl, _, hrb, hwb⟩ := hnb x h
      rw [fp_one hnl hg, ← hl, (old2 b hb).1]
      exact hM.may0 b hb hwb hrb
    · obtain ⟨b, hb, hl, hrb, _, _, e⟩ := rest x (.inr h) hr
      exact hM.may x h.1 hw (hr.imp id fun q => by rw [← (old2 x h.1).2.1]; exact q) g ((fp_agree (old2 x h.1).1 (old2 x h.1).2.2 g).1 hg)
  · refine ⟨fun x hx => ?_, hM.cx.2⟩
    rcases List.mem_append.1 hx with hx | hx
    · exact hbs x hx
    · exact hM.cx.1 x hx
  · exact Sy.Only.after hM.only hC.only hT
  · intro l hl
    rw [hC.old l (by omega)]
    exact hM.old l hl
/-- What a call does: what is to be shown, the tables that go, the blocks told anew, the tables that come, the answer, bounds. -/
structure Did where
  m : List Tm
  drops : List Nat
  nbs : List Bk
  adds : List Bk
  v : SV
  bs : List Bd
  ow : Option Bk := none
def chgSp (f : FuncId) (sel : St → List SV → Option Did) : Spec where
  f := f
  pre := fun s xs => (sel s xs).map Did.m
  go := fun n0 s xs => match sel s xs with
    | some d => if chgOk n0 s d.drops d.nbs d.adds d.ow then some (s.chg d.drops d.nbs d.adds d.bs d.ow, d.v) else none
    | none => none
theorem chgSp_ok {P : Program} {ρ : Env} {f : FuncId} {sel : St → List SV → Option Did}
    (h : ∀ {s : St} {xs : List SV} {d : Did}, sel s xs = some d → s.cx.ok ρ → Met ρ d.m → ∀ {β : Bn} {w : World}, (∀ b ∈ s.hp, BkOk ρ β w b) → (∀ x ∈ s.hp, ∀ y ∈ s.hp, x.l ≠ y.l → x.real β → y.real β → apart β x y) →
      Bds ρ d.bs ∧ Calls P f (xs.map (SV.den ρ β)).toArray w fun e w' => ∃ β', e = .returned (d.v.den ρ β') ∧ Chg ρ β β' w w' s d.drops d.nbs d.adds d.ow) : (chgSp f sel).Ok P ρ := by
  intro B s xs m s' v hB hpre hgo hm β a w hM
  subst hB
  simp only [chgSp] at hpre hgo
  cases hs : sel s xs with
  | none => rw [hs] at hgo; cases hgo
  | some d =>
    rw [hs] at hpre hgo
    injection hpre with hpre
    subst hpre
    simp only [] at hgo
    split at hgo
    · rename_i q
      injection hgo with hgo
      injection hgo with e1 e2
      subst e1 e2
      obtain ⟨hb, hc⟩ := h hs hM.cx hm hM.hp hM.ne
      refine hc.mono ?_
      rintro e w' ⟨β', rfl, hC⟩
      exact ⟨β', a, rfl, Sy.Md.chg hM q hC hb⟩
    · cases hgo
end Sy
end Go.Proofs.Ytnmfmjlpfhdgeaa
