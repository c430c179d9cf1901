/- Tests on terms: what is decided by what is known, and what is learned of a test that is met. -/
import Derived.Test.YtnmfmjlpfhdgeaaSyA
namespace Go.Proofs.Ytnmfmjlpfhdgeaa
namespace Sy
open Go
set_option linter.unusedVariables false

/-- What is known: bounds, and tests that are met. -/
structure Cx where
  bs : List Bd
  pc : List Tm
  deriving Repr, Inhabited
structure Cx.ok (ρ : Env) (c : Cx) : Prop where
  bs : Bds ρ c.bs
  pc : ∀ t ∈ c.pc, (den ρ t).b = true

def isIn (t : Tm) : List Tm → Bool
  | [] => false
  | x :: l => same t x || isIn t l
theorem isIn_mem {t : Tm} : ∀ {l : List Tm}, isIn t l = true → t ∈ l
  | [], h => by cases h
  | x :: l, h => by
    simp only [isIn, Bool.or_eq_true] at h
    rcases h with h | h
    · rw [same_eq h]; exact List.mem_cons_self ..
    · exact List.mem_cons_of_mem _ (isIn_mem h)

def decLt : Rg → Option Bool
  | some (a, b) => if leI 1 a then some true else if leI b 0 then some false else none
  | none => none
def decLe : Rg → Option Bool
  | some (a, b) => if leI 0 a then some true else if leI b (-1) then some false else none
  | none => none
def decEq : Rg → Option Bool
  | some (a, b) => if leI 1 a || leI b (-1) then some false else if sameI a 0 && sameI b 0 then some true else none
  | none => none
theorem decLt_ok {r : Rg} {d : Int} {b : Bool} (h : decLt r = some b) (hr : r.ok d) : decide (0 < d) = b := by
  unfold decLt at h
  split at h
  · have := hr _ _ rfl
    split at h
    · rename_i q; simp [leI] at q; injection h with h; subst h; simp; omega
    · split at h
      · rename_i q; simp [leI] at q; injection h with h; subst h; simp; omega
      · cases h
  · cases h
theorem decLe_ok {r : Rg} {d : Int} {b : Bool} (h : decLe r = some b) (hr : r.ok d) : decide (0 ≤ d) = b := by
  unfold decLe at h
  split at h
  · have := hr _ _ rfl
    split at h
    · rename_i q; simp [leI] at q; injection h with h; subst h; simp; omega
    · split at h
      · rename_i q; simp [leI] at q; injection h with h; subst h; simp; omega
      · cases h
  · cases h
theorem decEq_ok {r : Rg} {d : Int} {b : Bool} (h : decEq r = some b) (hr : r.ok d) : decide (d = 0) = b := by
  unfold decEq at h
  split at h
  · have := hr _ _ rfl
    split at h
    · rename_i q; simp [leI] at q; injection h with h; subst h; simp; omega
    · split at h
      · rename_i q
        simp only [Bool.and_eq_true] at q
        have h1 := sameI_eq q.1
        have h2 := sameI_eq q.2
        injection h with h; subst h; simp; omega
      · cases h
  · cases h

def inPc (c : Cx) (t : Tm) : Option Bool := if isIn t c.pc then some true else if isIn (.not t) c.pc then some false else none
/-- Is a test decided? -/
def dec0 (c : Cx) : Tm → Option Bool
  | .bl b => some b
  | .not x => match dec0 c x with
    | some b => some (!b)
    | none => inPc c (.not x)
  | .and x y => match dec0 c x, dec0 c y with
    | some false, _ => some false
    | _, some false => some false
    | some true, some true => some true
    | _, _ => inPc c (.and x y)
  | .or x y => match dec0 c x, dec0 c y with
    | some true, _ => some true
    | _, some true => some true
    | some false, some false => some false
    | _, _ => inPc c (.or x y)
  | .bq x y => if same x y then some true else match x, y with
    | .bl a, .bl b => some (a == b)
    | x, y => inPc c (.bq x y)
  | .lt x y => match decLt (rng c.bs (mkSub y x)) with
    | some b => some b
    | none => if isIn (.lt x y) c.pc then some true else if isIn (.not (.lt x y)) c.pc then some false else none
  | .le x y => match decLe (rng c.bs (mkSub y x)) with
    | some b => some b
    | none => if isIn (.le x y) c.pc then some true else if isIn (.not (.le x y)) c.pc then some false else none
  | .eq x y => match decEq (rng c.bs (mkSub y x)) with
    | some b => some b
    | none => if isIn (.eq x y) c.pc then some true else if isIn (.not (.eq x y)) c.pc then some false else none
  | .seq x y => if same x y then some true else if isIn (.seq x y) c.pc then some true else if isIn (.not (.seq x y)) c.pc then some false else none
  | t => if isIn t c.pc then some true else if isIn (.not t) c.pc then some false else none

theorem of_pc {ρ : Env} {c : Cx} (hc : c.ok ρ) {t : Tm} {b : Bool} (h : (if isIn t c.pc then some true else if isIn (.not t) c.pc then some false else none) = some b) : (den ρ t).b = b := by
  split at h
  · rename_i q
    injection h with h
    subst h
    exact hc.pc _ (isIn_mem q)
  · split at h
    · rename_i q
      injection h with h
      subst h
      have := hc.pc _ (isIn_mem q)
      change (!(den ρ t).b) = true at this
      simpa using this
    · cases h
theorem dec0_ok {ρ : Env} {c : Cx} (hc : c.ok ρ) : ∀ {t : Tm} {b : Bool}, dec0 c t = some b → (den ρ t).b = b := by
  intro t
  induction t with
  | bl p => intro b h; injection h
  | not x ih =>
    intro b h
    simp only [dec0] at h
    cases hx : dec0 c x with
    | none => rw [hx] at h; exact of_pc hc h
    | some p =>
      rw [hx] at h
      injection h with h
      show (!(den ρ x).b) = b
      rw [ih hx]
      exact h
  | and x y i1 i2 =>
    intro b h
    simp only [dec0] at h
    cases hx : dec0 c x with
    | none =>
      cases hy : dec0 c y with
      | none => rw [hx, hy] at h; exact of_pc hc h
      | some q =>
        rw [hx, hy] at h
        cases q
        · injection h with h
          show ((den ρ x).b && (den ρ y).b) = b
          rw [i2 hy, ← h]; simp
        · exact of_pc hc h
    | some p =>
      cases hy : dec0 c y with
      | none =>
        rw [hx, hy] at h
        cases p
        · injection h with h
          show ((den ρ x).b && (den ρ y).b) = b
          rw [i1 hx, ← h]; simp
        · exact of_pc hc h
      | some q =>
        rw [hx, hy] at h
        show ((den ρ x).b && (den ρ y).b) = b
        rw [i1 hx, i2 hy]
        cases p <;> cases q <;> simp at h ⊢ <;> exact h
  | or x y i1 i2 =>
    intro b h
    simp only [dec0] at h
    cases hx : dec0 c x with
    | none =>
      cases hy : dec0 c y with
      | none => rw [hx, hy] at h; exact of_pc hc h
      | some q =>
        rw [hx, hy] at h
        cases q
        · exact of_pc hc h
        · injection h with h
          show ((den ρ x).b || (den ρ y).b) = b
          rw [i2 hy, ← h]; simp
    | some p =>
      cases hy : dec0 c y with
      | none =>
        rw [hx, hy] at h
        cases p
        · exact of_pc hc h
        · injection h with h
          show ((den ρ x).b || (den ρ y).b) = b
          rw [i1 hx, ← h]; simp
      | some q =>
        rw [hx, hy] at h
        show ((den ρ x).b || (den ρ y).b) = b
        rw [i1 hx, i2 hy]
        cases p <;> cases q <;> simp at h ⊢ <;> exact h
  | bq x y _ _ =>
    intro b h
    simp only [dec0] at h
    split at h
    · rename_i q
      injection h with h
      subst h
      rw [same_eq q]
      show ((den ρ y).b == (den ρ y).b) = true
      simp
    · split at h
      · injection h with h
      · exact of_pc hc h
  | lt x y _ _ =>
    intro b h
    simp only [dec0] at h
    split at h
    · rename_i q
      injection h with h
      subst h
      have := decLt_ok q (rng_ok hc.bs _)
      rw [mkSub_ok] at this
      rw [← this]
      show decide ((den ρ x).i < (den ρ y).i) = _
      congr 1
      exact propext (by omega)
    · exact of_pc hc h
  | le x y _ _ =>
    intro b h
    simp only [dec0] at h
    split at h
    · rename_i q
      injection h with h
      subst h
      have := decLe_ok q (rng_ok hc.bs _)
      rw [mkSub_ok] at this
      rw [← this]
      show decide ((den ρ x).i ≤ (den ρ y).i) = _
      congr 1
      exact propext (by omega)
    · exact of_pc hc h
  | eq x y _ _ =>
    intro b h
    simp only [dec0] at h
    split at h
    · rename_i q
      injection h with h
      subst h
      have := decEq_ok q (rng_ok hc.bs _)
      rw [mkSub_ok] at this
      rw [← this]
      show ((den ρ x).i == (den ρ y).i) = _
      by_cases e : (den ρ x).i = (den ρ y).i
      · simp [e]
      · have e2 : ¬ (den ρ y).i - (den ρ x).i = 0 := by omega
        simp [e, e2]
    · exact of_pc hc h
  | seq x y _ _ =>
    intro b h
    simp only [dec0] at h
    split at h
    · rename_i q
      injection h with h
      subst h
      rw [same_eq q]
      show ((den ρ y).s.toList == (den ρ y).s.toList) = true
      simp
    · exact of_pc hc h
  | _ => intro b h; exact of_pc hc h

/-- A test, decided where it is decided. -/
def mkB (c : Cx) (t : Tm) : Tm :=
  match dec0 c t with
  | some b => .bl b
  | none => t
theorem mkB_ok {ρ : Env} {c : Cx} (hc : c.ok ρ) (t : Tm) : (den ρ (mkB c t)).b = (den ρ t).b := by
  unfold mkB
  split
  · rename_i b h; exact (dec0_ok hc h).symm
  · rfl
/-- Is it decided to be so? -/
def sure (c : Cx) (t : Tm) : Bool :=
  match dec0 c t with
  | some true => true
  | _ => false
theorem sure_ok {ρ : Env} {c : Cx} (hc : c.ok ρ) {t : Tm} (h : sure c t = true) : (den ρ t).b = true := by
  unfold sure at h
  split at h
  · rename_i q; exact dec0_ok hc q
  · cases h

def isB : Tm → Option Bool
  | .bl b => some b
  | _ => none
theorem isB_eq {t : Tm} {b : Bool} (h : isB t = some b) : t = .bl b := by
  cases t <;> simp [isB] at h
  rw [h]
def mkNot (x : Tm) : Tm :=
  match x with
  | .bl b => .bl (!b)
  | .not y => y
  | x => .not x
theorem mkNot_ok (ρ : Env) (x : Tm) : (den ρ (mkNot x)).b = !(den ρ x).b := by
  unfold mkNot
  split
  · rfl
  · rename_i y
    show _ = !!(den ρ y).b
    simp
  · rfl
def mkAnd (x y : Tm) : Tm :=
  match isB x, isB y with
  | some true, _ => y
  | some false, _ => .bl false
  | _, some true => x
  | _, some false => .bl false
  | _, _ => .and x y
theorem mkAnd_ok (ρ : Env) (x y : Tm) : (den ρ (mkAnd x y)).b = ((den ρ x).b && (den ρ y).b) := by
  unfold mkAnd
  cases hx : isB x with
  | none =>
    cases hy : isB y with
    | none => rfl
    | some q =>
      rw [isB_eq hy]
      cases q
      · show false = (_ && false); simp
      · show _ = (_ && true); simp
  | some p =>
    rw [isB_eq hx]
    cases p <;> rfl

/-! What is learned. -/
def isLit' (t : Tm) : Bool := (isLit t).isSome
def addBd (t : Tm) (r : Rg) (l : List Bd) : List Bd :=
  match r with
  | some (a, b) => if isLit' t then l else ⟨t, a, b⟩ :: l
  | none => l
theorem addBd_ok {ρ : Env} {t : Tm} {r : Rg} {l : List Bd} (hr : r.ok (den ρ t).i) (hl : Bds ρ l) : Bds ρ (addBd t r l) := by
  unfold addBd
  split
  · split
    · exact hl
    · intro x hx
      rcases List.mem_cons.1 hx with rfl | hx
      · exact hr _ _ rfl
      · exact hl x hx
  · exact hl
/-- x < y (o = 1), x ≤ y (o = 0). -/
def upTo (o : Int) : Rg → Rg → Rg
  | some (a, _), some (_, d) => some (a, d - o)
  | _, _ => none
def fromOn (o : Int) : Rg → Rg → Rg
  | some (a, _), some (_, d) => some (a + o, d)
  | _, _ => none
def apartBy (o : Int) : Rg → Rg
  | some (_, b) => some (o, b)
  | none => none
theorem upTo_ok {o x y : Int} {r s : Rg} (h : x + o ≤ y) (hr : r.ok x) (hs : s.ok y) : (upTo o r s).ok x := by
  unfold upTo
  split
  · have a := hr _ _ rfl
    have b := hs _ _ rfl
    exact Rg.ok_some (by omega)
  · exact Rg.ok_none _
theorem fromOn_ok {o x y : Int} {r s : Rg} (h : x + o ≤ y) (hr : r.ok x) (hs : s.ok y) : (fromOn o r s).ok y := by
  unfold fromOn
  split
  · have a := hr _ _ rfl
    have b := hs _ _ rfl
    exact Rg.ok_some (by omega)
  · exact Rg.ok_none _
theorem apartBy_ok {o d : Int} {r : Rg} (h : o ≤ d) (hr : r.ok d) : (apartBy o r).ok d := by
  unfold apartBy
  split
  · have a := hr _ _ rfl
    exact Rg.ok_some (by omega)
  · exact Rg.ok_none _
def learnLe (o : Int) (x y : Tm) (l : List Bd) : List Bd :=
  addBd x (upTo o (rng l x) (rng l y)) (addBd y (fromOn o (rng l x) (rng l y)) (addBd (mkSub y x) (apartBy o (rng l (mkSub y x))) l))
theorem learnLe_ok {ρ : Env} {o : Int} {x y : Tm} {l : List Bd} (h : (den ρ x).i + o ≤ (den ρ y).i) (hl : Bds ρ l) : Bds ρ (learnLe o x y l) :=
  addBd_ok (upTo_ok h (rng_ok hl _) (rng_ok hl _)) (addBd_ok (fromOn_ok h (rng_ok hl _) (rng_ok hl _)) (addBd_ok (apartBy_ok (by rw [mkSub_ok]; omega) (rng_ok hl _)) hl))
def both (r s : Rg) : Rg := meet r s
def learnEq (x y : Tm) (l : List Bd) : List Bd := addBd x (meet (rng l x) (rng l y)) (addBd y (meet (rng l x) (rng l y)) (addBd (mkSub y x) (some (0, 0)) l))
theorem learnEq_ok {ρ : Env} {x y : Tm} {l : List Bd} (h : (den ρ x).i = (den ρ y).i) (hl : Bds ρ l) : Bds ρ (learnEq x y l) :=
  addBd_ok (meet_ok (rng_ok hl _) (by rw [h]; exact rng_ok hl _)) (addBd_ok (meet_ok (by rw [← h]; exact rng_ok hl _) (rng_ok hl _)) (addBd_ok (Rg.ok_some (by rw [mkSub_ok]; omega)) hl))
def learnB : Tm → Bool → List Bd → List Bd
  | .not x, b, l => learnB x (!b) l
  | .and x y, true, l => learnB x true (learnB y true l)
  | .or x y, false, l => learnB x false (learnB y false l)
  | .lt x y, true, l => learnLe 1 x y l
  | .lt x y, false, l => learnLe 0 y x l
  | .le x y, true, l => learnLe 0 x y l
  | .le x y, false, l => learnLe 1 y x l
  | .eq x y, true, l => learnEq x y l
  | _, _, l => l
theorem learnB_ok {ρ : Env} : ∀ {t : Tm} {b : Bool} {l : List Bd}, (den ρ t).b = b → Bds ρ l → Bds ρ (learnB t b l) := by
  intro t
  induction t with
  | not x ih =>
    intro b l h hl
    refine ih ?_ hl
    change (!(den ρ x).b) = b at h
    rw [← h]; simp
  | and x y i1 i2 =>
    intro b l h hl
    cases b with
    | false => exact hl
    | true =>
      change ((den ρ x).b && (den ρ y).b) = true at h
      simp only [Bool.and_eq_true] at h
      exact i1 h.1 (i2 h.2 hl)
  | or x y i1 i2 =>
    intro b l h hl
    cases b with
    | true => exact hl
    | false =>
      change ((den ρ x).b || (den ρ y).b) = false at h
      simp only [Bool.or_eq_false_iff] at h
      exact i1 h.1 (i2 h.2 hl)
  | lt x y _ _ =>
    intro b l h hl
    change decide ((den ρ x).i < (den ρ y).i) = b at h
    cases b with
    | true => exact learnLe_ok (by simp at h; omega) hl
    | false => exact learnLe_ok (by simp at h; omega) hl
  | le x y _ _ =>
    intro b l h hl
    change decide ((den ρ x).i ≤ (den ρ y).i) = b at h
    cases b with
    | true => exact learnLe_ok (by simp at h; omega) hl
    | false => exact learnLe_ok (by simp at h; omega) hl
  | eq x y _ _ =>
    intro b l h hl
    change ((den ρ x).i == (den ρ y).i) = b at h
    cases b with
    | true => exact learnEq_ok (by simpa using h) hl
    | false => exact hl
  | _ => intro b l h hl; exact hl
/-- What is known once a test is met. -/
def Cx.learn (c : Cx) (t : Tm) : Cx := ⟨learnB t true c.bs, t :: c.pc⟩
theorem Cx.learn_ok {ρ : Env} {c : Cx} (hc : c.ok ρ) {t : Tm} (h : (den ρ t).b = true) : (c.learn t).ok ρ :=
  ⟨learnB_ok h hc.bs, fun x hx => by
    rcases List.mem_cons.1 hx with rfl | hx
    · exact h
    · exact hc.pc x hx⟩
def Cx.bound (c : Cx) (t : Tm) (lo hi : Int) : Cx := ⟨⟨t, lo, hi⟩ :: c.bs, c.pc⟩
theorem Cx.bound_ok {ρ : Env} {c : Cx} (hc : c.ok ρ) {t : Tm} {lo hi : Int} (h : lo ≤ (den ρ t).i ∧ (den ρ t).i ≤ hi) : (c.bound t lo hi).ok ρ :=
  ⟨fun x hx => by
    rcases List.mem_cons.1 hx with rfl | hx
    · exact h
    · exact hc.bs x hx, hc.pc⟩
end Sy
end Go.Proofs.Ytnmfmjlpfhdgeaa
