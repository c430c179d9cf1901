/- One block of many is brought out; frames built anew at a place. -/
import Derived.Test.YtnmfmjlpfhdgeaaSyCh
import Derived.Test.YtnmfmjlpfhdgeaaSyRg
namespace Go.Proofs.Ytnmfmjlpfhdgeaa
namespace Sy
open Go Go.RowKit
set_option linter.unusedVariables false
set_option linter.unusedSimpArgs false

section
variable {ρ : Env} {S : Nat → Prop} {w0 w : World} {β0 β : Bn} {n0 : Nat} {s : St} {a : Act}
/-- A block more is known. -/
theorem Md.addBk (hM : Md ρ S w0 β0 n0 s β a w) (b : Bk) (hb : BkOk ρ β w b) (hne : ∀ x ∈ s.hp, x.real β → b.real β → apart β b x) (hmay : b.rw = true → b.real β → ∀ g, fp β b g → S g ∨ w0.heap.size ≤ g) : Md ρ S w0 β0 n0 { s with hp := b :: s.hp } β a w := by
  refine ⟨hM.act, fun x hx => ?_, fun x hx y hy hxy hrx hry => ?_, fun x hx hw hr => ?_, hM.cx, hM.only, hM.old⟩
  · rcases List.mem_cons.1 hx with rfl | hx
    · exact hb
    · exact hM.hp x hx
  · rcases List.mem_cons.1 hx with ex | hx' <;> rcases List.mem_cons.1 hy with ey | hy'
    · exact absurd (by rw [ex, ey]) hxy
    · subst ex; exact hne y hy' hry hrx
    · subst ey; exact (hne x hx' hrx hry).symm
    · exact hM.ne x hx' y hy' hxy hrx hry
  · rcases List.mem_cons.1 hx with rfl | hx
    · exact hmay hw hr
    · exact hM.may x hx hw hr
/-- The block at which the pointer points that t tells, under the letter n. -/
def St.focus (s : St) (n : Nat) (ty : TypeId) (cs : List C) (rw : Bool) (t : Tm) : St := { s with hp := ⟨n, ty, cs, rw, none, .no⟩ :: ⟨n + 2, 0, [.ptr n 0], false, none, .al t⟩ :: s.hp }
theorem Md.focus (hM : Md ρ S w0 β0 n0 s β a w) (n : Nat) (hn : n0 ≤ n) (h0 : s.free n = true) (h1 : s.free (n + 1) = true) (h2 : s.free (n + 2) = true) (h3 : s.free (n + 3) = true) {g : Nat} {ty : TypeId} {cs : List C} {vs : List Value} (rw : Bool) {t : Tm}
    (hg : (den ρ t).i.toNat = g) (hB : Blk w g ty vs) (hcs : ∀ β, denL ρ β cs = vs) (hne : ∀ x ∈ s.hp, x.real β → ¬ fp β x g) (hmay : rw = true → S g ∨ w0.heap.size ≤ g) : ∃ β', Md ρ S w0 β0 n0 (s.focus n ty cs rw t) β' a w ∧ β' n = g := by
  have M1 := Sy.Md.letter hM n g 0 hn h0 h1
  have M2 := Sy.Md.letter M1 (n + 2) g 0 (by omega) h2 h3
  obtain ⟨β1, hβ1⟩ : ∃ β1, upd (upd (upd (upd β n g) (n + 1) 0) (n + 2) g) (n + 2 + 1) 0 = β1 := ⟨_, rfl⟩
  rw [hβ1] at M2
  have e0 : β1 n = g := by rw [← hβ1, upd_old (by omega), upd_old (by omega), upd_old (by omega), upd_new]
  have e3 : β1 (n + 2 + 1) = 0 := by rw [← hβ1, upd_new]
  have hnr : ¬ Bk.real β1 ⟨n + 2, 0, [.ptr n 0], false, none, .al t⟩ := fun hr => by
    rcases hr with hr | hr
    · cases hr
    · exact hr e3
  have old : ∀ x ∈ s.hp, β1 x.l = β x.l ∧ β1 (x.l + 1) = β (x.l + 1) ∧ denL ρ β1 x.cs = denL ρ β x.cs := fun x hx => by
    unfold St.free at h0 h1 h2 h3
    simp only [Bool.and_eq_true, List.all_eq_true, Bool.not_eq_true'] at h0 h1 h2 h3
    have q0 := h0.2 x hx
    have q1 := h1.2 x hx
    have q2 := h2.2 x hx
    have q3 := h3.2 x hx
    rw [← hβ1]
    exact ⟨by rw [upd_old (beq_ne q3.1), upd_old (beq_ne q2.1), upd_old (beq_ne q1.1), upd_old (beq_ne q0.1)], by rw [upd_old (beq_ne q3.2.2), upd_old (beq_ne q2.2.2), upd_old (beq_ne q1.2.2), upd_old (beq_ne q0.2.2)], (denL_upd ρ q3.2.1).trans ((denL_upd ρ q2.2.1).trans ((denL_upd ρ q1.2.1).trans (denL_upd ρ q0.2.1)))⟩
  have M3 := Sy.Md.addBk M2 ⟨n + 2, 0, [.ptr n 0], false, none, .al t⟩ (by
    show β1 (n + 2 + 1) = 0 ∧ (denL ρ β1 [.ptr n 0] = _ ∨ _)
    refine ⟨e3, .inl ?_⟩
    show [Value.pointer (some ⟨β1 n, 0, none⟩)] = _
    rw [e0, hg]) (fun x hx _ hr => absurd hr hnr) (fun h => by cases h)
  refine ⟨β1, Sy.Md.addBk M3 ⟨n, ty, cs, rw, none, .no⟩ ?_ (fun x hx hrx hrb i hi hix => ?_) (fun hw hr i hi => ?_), e0⟩
  · show Blk w (β1 n) ty (denL ρ β1 cs)
    rw [e0, hcs]
    exact hB
  · have ei : i = g := (fp_one rfl hi).trans e0
    rw [ei] at hix
    rcases List.mem_cons.1 hx with rfl | hx
    · exact hnr hrx
    · exact hne x hx (hrx.imp id fun q => by rw [← (old x hx).2.1]; exact q) ((fp_agree (old x hx).1 (old x hx).2.2 g).1 hix)
  · rw [(fp_one rfl hi).trans e0]
    exact hmay hw
/-- The table whose slice the term t tells, under the letter n. -/
def St.focusT (s : St) (n : Nat) (ty : TypeId) (lv : List Kd) (rw : Bool) (tt t : Tm) : St := { s with hp := ⟨n, ty, [], rw, none, .tab lv tt⟩ :: ⟨n + 2, 0, [.slt n lv.length (.il 0) (tlen tt) (.il 0)], false, none, .al t⟩ :: s.hp }
theorem Md.focusT (hM : Md ρ S w0 β0 n0 s β a w) (n : Nat) (hn : n0 ≤ n) (h0 : s.free n = true) (h1 : s.free (n + 1) = true) (h2 : s.free (n + 2) = true) (h3 : s.free (n + 3) = true) {g c : Nat} {ty : TypeId} {lv : List Kd} (rw : Bool) {tt t : Tm}
    (hg : mkV .sls (den ρ t) = sltV g c (den ρ tt).c.length) (hB : RowT w g c ty lv (den ρ tt).c) (hne : c ≠ 0 → ∀ x ∈ s.hp, x.real β → ¬ fp β x g) (hmay : rw = true → c ≠ 0 → S g ∨ w0.heap.size ≤ g) : ∃ β', Md ρ S w0 β0 n0 (s.focusT n ty lv rw tt t) β' a w ∧ β' n = g ∧ β' (n + 1) = c := by
  have M1 := Sy.Md.letter hM n g c hn h0 h1
  have M2 := Sy.Md.letter M1 (n + 2) g 0 (by omega) h2 h3
  obtain ⟨β1, hβ1⟩ : ∃ β1, upd (upd (upd (upd β n g) (n + 1) c) (n + 2) g) (n + 2 + 1) 0 = β1 := ⟨_, rfl⟩
  rw [hβ1] at M2
  have e0 : β1 n = g := by rw [← hβ1, upd_old (by omega), upd_old (by omega), upd_old (by omega), upd_new]
  have e1 : β1 (n + 1) = c := by rw [← hβ1, upd_old (by omega), upd_old (by omega), upd_new]
  have e3 : β1 (n + 2 + 1) = 0 := by rw [← hβ1, upd_new]
  have hnr : ¬ Bk.real β1 ⟨n + 2, 0, [.slt n lv.length (.il 0) (tlen tt) (.il 0)], false, none, .al t⟩ := fun hr => by
    rcases hr with hr | hr
    · cases hr
    · exact hr e3
  have old : ∀ x ∈ s.hp, β1 x.l = β x.l ∧ β1 (x.l + 1) = β (x.l + 1) ∧ denL ρ β1 x.cs = denL ρ β x.cs := fun x hx => by
    unfold St.free at h0 h1 h2 h3
    simp only [Bool.and_eq_true, List.all_eq_true, Bool.not_eq_true'] at h0 h1 h2 h3
    have q0 := h0.2 x hx
    have q1 := h1.2 x hx
    have q2 := h2.2 x hx
    have q3 := h3.2 x hx
    rw [← hβ1]
    exact ⟨by rw [upd_old (beq_ne q3.1), upd_old (beq_ne q2.1), upd_old (beq_ne q1.1), upd_old (beq_ne q0.1)], by rw [upd_old (beq_ne q3.2.2), upd_old (beq_ne q2.2.2), upd_old (beq_ne q1.2.2), upd_old (beq_ne q0.2.2)], (denL_upd ρ q3.2.1).trans ((denL_upd ρ q2.2.1).trans ((denL_upd ρ q1.2.1).trans (denL_upd ρ q0.2.1)))⟩
  have M3 := Sy.Md.addBk M2 ⟨n + 2, 0, [.slt n lv.length (.il 0) (tlen tt) (.il 0)], false, none, .al t⟩ (by
    show β1 (n + 2 + 1) = 0 ∧ (_ ∨ denL ρ β1 [.slt n lv.length (.il 0) (tlen tt) (.il 0)] = [mkV .sls (den ρ t)])
    refine ⟨e3, .inr ?_⟩
    show [sltZ (β1 n) (β1 (n + 1)) lv.length 0 (((den ρ tt).c.length : Int)).toNat 0] = _
    rw [e0, e1, sltZ_zero, hg, Int.toNat_natCast]) (fun x hx _ hr => absurd hr hnr) (fun h => by cases h)
  refine ⟨β1, Sy.Md.addBk M3 ⟨n, ty, [], rw, none, .tab lv tt⟩ ?_ (fun x hx hrx hrb i hi hix => ?_) (fun hw hr i hi => ?_), e0, e1⟩
  · show RowT w (β1 n) (β1 (n + 1)) ty lv (den ρ tt).c
    rw [e0, e1]
    exact hB
  · have ei : i = g := (fp_one rfl hi).trans e0
    have hc0 : c ≠ 0 := fun e => (hrb.resolve_left (by simp [Bk.nilable, Xt.isTab])) (e1.trans e)
    rw [ei] at hix
    rcases List.mem_cons.1 hx with rfl | hx
    · exact hnr hrx
    · exact hne hc0 x hx (hrx.imp id fun q => by rw [← (old x hx).2.1]; exact q) ((fp_agree (old x hx).1 (old x hx).2.2 g).1 hix)
  · have hc0 : c ≠ 0 := fun e => (hr.resolve_left (by simp [Bk.nilable, Xt.isTab])) (e1.trans e)
    rw [(fp_one rfl hi).trans e0]
    exact hmay hw hc0
/-- A frame that is built anew at a place: its blocks, what may be written. -/
theorem Md.anew (h0 : a = ⟨(s.tm.map (SV.den ρ β)).toArray, []⟩) (h1 : hpP ρ β w s.hp) (h2 : neP β s.hp) (h3 : mayP S β s.hp) (h4 : s.cx.ok ρ) : Md ρ S w β n0 s β a w :=
  ⟨h0, hpP_ok h1, neP_ok h2, fun b hb hw hr g hg => .inl (mayP_ok h3 b hb hw hr g hg), h4, Only.refl _ _, fun _ _ => rfl⟩
end
/-! Footprints as numbers. -/
def bitsOf : List Nat → Nat
  | [] => 0
  | i :: l => bitsOf l ||| 2 ^ i
theorem bitsOf_test (g : Nat) : ∀ l : List Nat, (bitsOf l).testBit g = true ↔ g ∈ l
  | [] => by simp [bitsOf]
  | i :: l => by
    simp only [bitsOf, Nat.testBit_or, Bool.or_eq_true, bitsOf_test g l, List.mem_cons, Nat.testBit_two_pow]
    constructor
    · rintro (h | h)
      · exact .inr h
      · simp at h; exact .inl h.symm
    · rintro (rfl | h)
      · exact .inr (by simp)
      · exact .inl h
end Sy
end Go.Proofs.Ytnmfmjlpfhdgeaa
