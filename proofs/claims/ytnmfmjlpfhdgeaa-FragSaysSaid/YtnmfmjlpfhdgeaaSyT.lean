/- Tables in a run with letters: their terms; where their cells lie. -/
import Derived.Test.YtnmfmjlpfhdgeaaSyS
namespace Go.Proofs.Ytnmfmjlpfhdgeaa
namespace Sy
open Go Go.RowKit
set_option linter.unusedVariables false
set_option linter.unusedSimpArgs false

def tn : Tm := .tb .nil (.il 0) (.il 0) (.il 0)
def tlen (s : Tm) : Tm := .tb .len s (.il 0) (.il 0)
def tget (k : Kd) (f : Nat) (s i : Tm) : Tm := .tb (.get k f) s i (.il 0)
def trow : Tm := .tb .row (.il 0) (.il 0) (.il 0)
/-- A table's length. -/
def mkTL (c : Cx) : Tm → Tm
  | .tb o x y z => match o with
    | .nil => .il 0
    | .app => mkAdd (mkTL c x) (mkTL c y)
    | .cut => if sure c (.le (.il 0) y) && (sure c (.le y z) && sure c (.le z (mkTL c x))) then mkSub z y else tlen (.tb .cut x y z)
    | .set => mkTL c x
    | .clr => mkTL c x
    | .row => .il 1
    | .cons _ => .il 1
    | o => tlen (.tb o x y z)
  | t => tlen t
theorem mkTL_ok {ρ : Env} {c : Cx} (hc : c.ok ρ) : ∀ t : Tm, (den ρ (mkTL c t)).i = ((den ρ t).c.length : Int) := by
  intro t
  induction t with
  | tb o x y z i1 i2 i3 =>
    cases o with
    | app =>
      show (den ρ (mkAdd (mkTL c x) (mkTL c y))).i = (((den ρ x).c ++ (den ρ y).c).length : Int)
      rw [mkAdd_ok, i1, i2]
      simp
    | clr =>
      show (den ρ (mkTL c x)).i = (((den ρ x).c.take (den ρ y).i.toNat ++ ((den ρ x).c.drop (den ρ y).i.toNat).map zeroR).length : Int)
      rw [i1, List.length_append, List.length_map, ← List.length_append, List.take_append_drop]
    | set =>
      show (den ρ (mkTL c x)).i = (((den ρ x).c.set _ _).length : Int)
      rw [i1]
      simp
    | cut =>
      simp only [mkTL]
      split
      · rename_i q
        simp only [Bool.and_eq_true] at q
        have h1 := le_of (sure_ok hc q.1)
        have h2 := le_of (sure_ok hc q.2.1)
        have h3 := le_of (sure_ok hc q.2.2)
        rw [i1] at h3
        change (0 : Int) ≤ _ at h1
        rw [mkSub_ok]
        show _ = (((((den ρ x).c.drop (den ρ y).i.toNat).take ((den ρ z).i.toNat - (den ρ y).i.toNat)).length : Nat) : Int)
        rw [List.length_take, List.length_drop]
        omega
      · rfl
    | _ => rfl
  | _ => rfl

/-- The same, as of a kind. -/
def KEq : Kd → Dn → Dn → Prop
  | .int _, x, y => x.i = y.i
  | .bool, x, y => x.b = y.b
  | .str, x, y => x.s = y.s
  | .ptr, x, y => x.i = y.i
  | .sls, x, y => mkV .sls x = mkV .sls y
theorem KEq.refl (k : Kd) (x : Dn) : KEq k x x := by cases k <;> rfl
theorem KEq.of_eq {k : Kd} {x y : Dn} (h : x = y) : KEq k x y := h ▸ KEq.refl k x
theorem slV_slV (v : Value) : slV (slV v) = slV v := by cases v <;> rfl
theorem slV_kOK (v : Value) : kOK .sls (slV v) := by cases v <;> exact ⟨_, _, _, rfl⟩
/-- A field of a row that is told whole. -/
def getRow (c : Cx) (k : Kd) : Tm → Nat → Option Tm
  | .tb o x y z, f => match o with
    | .cons k' => match f with
      | 0 => if sameK k k' then (match k with
        | .int q => some (mkWrap c.bs q x)
        | .bool => some x
        | .str => if sure c (.le (mkLen c x) (.il 9223372036854775807)) then some x else none
        | .ptr => if sure c (.le (.il 0) x) then some x else none
        | .sls => some x) else none
      | f + 1 => getRow c k y f
    | _ => none
  | _, _ => none
theorem getRow_ok {ρ : Env} {c : Cx} (hc : c.ok ρ) {k : Kd} : ∀ {r : Tm} {f : Nat} {u : Tm}, getRow c k r f = some u → KEq k (den ρ u) (getV k (((den ρ r).c.headD []).getD f (.bool false))) := by
  intro r
  induction r with
  | tb o x y z i1 i2 i3 =>
    intro f u h
    cases o with
    | cons k' =>
      cases f with
      | zero =>
        simp only [getRow] at h
        split at h
        · rename_i q
          have q' := sameK_eq q
          subst q'
          clear q
          show KEq k (den ρ u) (getV k (mkV k (den ρ x)))
          cases k with
          | int q => injection h with h; subst h; exact mkWrap_ok hc.bs q x
          | bool => injection h with h; subst h; rfl
          | str =>
            simp only [] at h
            split at h
            · rename_i q
              injection h with h
              subst h
              have q := le_of (sure_ok hc q)
              rw [mkLen_ok hc] at q
              change _ ≤ (9223372036854775807 : Int) at q
              show _ = (if (den ρ x).s.size ≤ 9223372036854775807 then (den ρ x).s else none8)
              rw [if_pos (by omega)]
            · cases h
          | ptr =>
            simp only [] at h
            split at h
            · rename_i q
              injection h with h
              subst h
              have q := le_of (sure_ok hc q)
              change (0 : Int) ≤ _ at q
              show _ = (((den ρ x).i.toNat : Nat) : Int)
              omega
            · cases h
          | sls =>
            injection h with h
            subst h
            show mkV .sls (den ρ x) = mkV .sls (dC [[slV (mkV .sls (den ρ x))]])
            show slV _ = slV (slV (slV _))
            rw [slV_slV, slV_slV]
        · cases h
      | succ f => exact i2 (f := f) h
    | _ => cases h
  | _ => intro f u h; cases h
/-- A field of the row at a place. -/
def mkGet (c : Cx) (k : Kd) (f : Nat) : Tm → Tm → Tm
  | .tb o x y z, i => match o with
    | .app => if sure c (.le (.il 0) i) then (if sure c (.lt i (mkTL c x)) then mkGet c k f x i else if sure c (.le (mkTL c x) i) then mkGet c k f y (mkSub i (mkTL c x)) else tget k f (.tb .app x y z) i) else tget k f (.tb .app x y z) i
    | .cut => if sure c (.le (.il 0) y) && (sure c (.le (.il 0) i) && sure c (.lt i (mkSub z y))) then mkGet c k f x (mkAdd y i) else tget k f (.tb .cut x y z) i
    | .set => if sure c (.le (.il 0) y) && sure c (.le (.il 0) i) then
        (if sure c (.eq y i) && sure c (.lt y (mkTL c x)) then (match getRow c k z f with
          | some u => u
          | none => tget k f (.tb .set x y z) i)
        else if sure c (.not (.eq y i)) then mkGet c k f x i else tget k f (.tb .set x y z) i)
      else tget k f (.tb .set x y z) i
    | .cons k' => if same i (.il 0) then (match getRow c k (.tb (.cons k') x y z) f with
        | some u => u
        | none => tget k f (.tb (.cons k') x y z) i)
      else tget k f (.tb (.cons k') x y z) i
    | o => tget k f (.tb o x y z) i
  | t, i => tget k f t i
theorem tget_ok {ρ : Env} (k : Kd) (f : Nat) (t i : Tm) : KEq k (den ρ (tget k f t i)) (getV k (((den ρ t).c.getD (den ρ i).i.toNat []).getD f (.bool false))) := KEq.refl _ _
theorem not_of {ρ : Env} {x : Tm} (h : (den ρ (.not x)).b = true) : (den ρ x).b = false := by
  change (!(den ρ x).b) = true at h
  simpa using h
theorem mkGet_ok {ρ : Env} {c : Cx} (hc : c.ok ρ) {k : Kd} {f : Nat} : ∀ (t i : Tm), KEq k (den ρ (mkGet c k f t i)) (getV k (((den ρ t).c.getD (den ρ i).i.toNat []).getD f (.bool false))) := by
  intro t
  induction t with
  | tb o x y z i1 i2 i3 =>
    intro i
    cases o with
    | app =>
      simp only [mkGet]
      split
      · rename_i q0
        have q0 := le_of (sure_ok hc q0)
        change (0 : Int) ≤ _ at q0
        show KEq k _ (getV k ((((den ρ x).c ++ (den ρ y).c).getD (den ρ i).i.toNat []).getD f (.bool false)))
        split
        · rename_i q
          have q := lt_of (sure_ok hc q)
          rw [mkTL_ok hc] at q
          rw [show ((den ρ x).c ++ (den ρ y).c).getD (den ρ i).i.toNat [] = (den ρ x).c.getD (den ρ i).i.toNat [] from by rw [List.getD, List.getElem?_append_left (by omega)]; rfl]
          exact i1 i
        · split
          · rename_i q
            have q := le_of (sure_ok hc q)
            rw [mkTL_ok hc] at q
            rw [show ((den ρ x).c ++ (den ρ y).c).getD (den ρ i).i.toNat [] = (den ρ y).c.getD ((den ρ i).i.toNat - (den ρ x).c.length) [] from by rw [List.getD, List.getElem?_append_right (by omega)]; rfl]
            have := i2 (mkSub i (mkTL c x))
            rw [mkSub_ok, mkTL_ok hc] at this
            rwa [show ((den ρ i).i - ((den ρ x).c.length : Int)).toNat = (den ρ i).i.toNat - (den ρ x).c.length from by omega] at this
          · exact tget_ok ..
      · exact tget_ok ..
    | cut =>
      simp only [mkGet]
      split
      · rename_i q
        simp only [Bool.and_eq_true] at q
        have q0 := le_of (sure_ok hc q.1)
        have q1 := le_of (sure_ok hc q.2.1)
        have q2 := lt_of (sure_ok hc q.2.2)
        rw [mkSub_ok] at q2
        change (0 : Int) ≤ _ at q0
        change (0 : Int) ≤ _ at q1
        have := i1 (mkAdd y i)
        rw [mkAdd_ok, show ((den ρ y).i + (den ρ i).i).toNat = (den ρ y).i.toNat + (den ρ i).i.toNat from by omega] at this
        show KEq k _ (getV k ((((den ρ x).c.drop (den ρ y).i.toNat).take ((den ρ z).i.toNat - (den ρ y).i.toNat)).getD (den ρ i).i.toNat [] |>.getD f (.bool false)))
        have e : (((den ρ x).c.drop (den ρ y).i.toNat).take ((den ρ z).i.toNat - (den ρ y).i.toNat)).getD (den ρ i).i.toNat [] = (den ρ x).c.getD ((den ρ y).i.toNat + (den ρ i).i.toNat) [] := by
          rw [List.getD, List.getElem?_take, if_pos (by omega), List.getElem?_drop]
          rfl
        rw [e]
        exact this
      · exact tget_ok ..
    | set =>
      simp only [mkGet]
      split
      · rename_i q
        simp only [Bool.and_eq_true] at q
        have q0 := le_of (sure_ok hc q.1)
        have q1 := le_of (sure_ok hc q.2)
        change (0 : Int) ≤ _ at q0
        change (0 : Int) ≤ _ at q1
        show KEq k _ (getV k ((((den ρ x).c.set (den ρ y).i.toNat ((den ρ z).c.headD [])).getD (den ρ i).i.toNat []).getD f (.bool false)))
        split
        · rename_i q2
          simp only [Bool.and_eq_true] at q2
          have q3 := sure_ok hc q2.1
          change ((den ρ y).i == (den ρ i).i) = true at q3
          have q3 : (den ρ y).i = (den ρ i).i := by simpa using q3
          have q4 := lt_of (sure_ok hc q2.2)
          rw [mkTL_ok hc] at q4
          split
          · rename_i u hu
            have := getRow_ok hc hu
            rw [show ((den ρ x).c.set (den ρ y).i.toNat ((den ρ z).c.headD [])).getD (den ρ i).i.toNat [] = (den ρ z).c.headD [] from by
              rw [q3, List.getD, List.getElem?_set_self (by omega)]
              rfl]
            exact this
          · exact tget_ok ..
        · split
          · rename_i q2
            have q3 := not_of (sure_ok hc q2)
            change ((den ρ y).i == (den ρ i).i) = false at q3
            have q3 : (den ρ y).i ≠ (den ρ i).i := by simpa using q3
            rw [show ((den ρ x).c.set (den ρ y).i.toNat ((den ρ z).c.headD [])).getD (den ρ i).i.toNat [] = (den ρ x).c.getD (den ρ i).i.toNat [] from by
              rw [List.getD, List.getElem?_set_ne (by omega)]
              rfl]
            exact i1 i
          · exact tget_ok ..
      · exact tget_ok ..
    | cons k' =>
      simp only [mkGet]
      split
      · rename_i q
        rw [same_eq q]
        split
        · rename_i u hu
          exact getRow_ok hc hu
        · exact tget_ok ..
      · exact tget_ok ..
    | _ => exact tget_ok ..
  | _ => intro i; exact tget_ok ..
def isNil : Tm → Bool
  | .tb .nil _ _ _ => true
  | _ => false
theorem isNil_c {ρ : Env} {t : Tm} (h : isNil t = true) : (den ρ t).c = [] := by
  unfold isNil at h
  split at h
  · rfl
  · cases h
def mkTA : Tm → Tm → Tm
  | .tb o a b z, y => match o with
    | .nil => y
    | .app => .tb .app a (mkTA b y) (.il 0)
    | o => if isNil y then .tb o a b z else .tb .app (.tb o a b z) y (.il 0)
  | x, y => if isNil y then x else .tb .app x y (.il 0)
theorem mkTA_gen {ρ : Env} (x y : Tm) : (den ρ (if isNil y then x else .tb .app x y (.il 0))).c = (den ρ x).c ++ (den ρ y).c := by
  split
  · rename_i q
    rw [isNil_c q, List.append_nil]
  · rfl
theorem mkTA_ok {ρ : Env} : ∀ x y : Tm, (den ρ (mkTA x y)).c = (den ρ x).c ++ (den ρ y).c := by
  intro x
  induction x with
  | tb o a b z i1 i2 i3 =>
    intro y
    cases o with
    | nil => rfl
    | app =>
      show (den ρ a).c ++ (den ρ (mkTA b y)).c = ((den ρ a).c ++ (den ρ b).c) ++ (den ρ y).c
      rw [i2, List.append_assoc]
    | _ => exact mkTA_gen _ y
  | _ => intro y; exact mkTA_gen _ y
/-- Rows from lo up to hi. -/
def mkTC (c : Cx) (s lo hi : Tm) : Tm :=
  if same lo (.il 0) && sure c (.le (mkTL c s) hi) then s
  else if sure c (.le (.il 0) lo) && sure c (.le hi lo) then tn
  else match s with
    | .tb .cut x a b => if sure c (.le (.il 0) a) && (sure c (.le (.il 0) lo) && sure c (.le (mkAdd a hi) b)) then .tb .cut x (mkAdd a lo) (mkAdd a hi) else .tb .cut s lo hi
    | s => .tb .cut s lo hi
def cutL (l : List (List Value)) (lo hi : Nat) : List (List Value) := (l.drop lo).take (hi - lo)
theorem cut_c {ρ : Env} (s lo hi : Tm) : (den ρ (.tb .cut s lo hi)).c = cutL (den ρ s).c (den ρ lo).i.toNat (den ρ hi).i.toNat := rfl
theorem mkTC_ok {ρ : Env} {c : Cx} (hc : c.ok ρ) (s lo hi : Tm) : (den ρ (mkTC c s lo hi)).c = cutL (den ρ s).c (den ρ lo).i.toNat (den ρ hi).i.toNat := by
  unfold mkTC
  split
  · rename_i q
    simp only [Bool.and_eq_true] at q
    have q2 := le_of (sure_ok hc q.2)
    rw [mkTL_ok hc] at q2
    rw [same_eq q.1]
    show _ = ((den ρ s).c.drop 0).take ((den ρ hi).i.toNat - 0)
    rw [List.drop_zero, List.take_of_length_le (by omega)]
  · split
    · rename_i q
      simp only [Bool.and_eq_true] at q
      have q1 := le_of (sure_ok hc q.1)
      have q2 := le_of (sure_ok hc q.2)
      unfold cutL
      rw [show (den ρ hi).i.toNat - (den ρ lo).i.toNat = 0 from by omega, List.take_zero]
      rfl
    · split
      · rename_i x a b _
        split
        · rename_i q
          simp only [Bool.and_eq_true] at q
          have q1 := le_of (sure_ok hc q.1)
          have q2 := le_of (sure_ok hc q.2.1)
          have q3 := le_of (sure_ok hc q.2.2)
          rw [mkAdd_ok] at q3
          change (0 : Int) ≤ _ at q1
          change (0 : Int) ≤ _ at q2
          rw [cut_c, cut_c, mkAdd_ok, mkAdd_ok]
          unfold cutL
          rw [List.drop_take, List.take_take, List.drop_drop]
          rw [show ((den ρ a).i + (den ρ lo).i).toNat = (den ρ a).i.toNat + (den ρ lo).i.toNat from by omega]
          congr 1
          omega
        · exact cut_c ..
      · exact cut_c ..

/-! Rows. -/
def rowTm (c : Cx) : List C → List Kd → Option (List Tm × Tm)
  | [], [] => some ([], trow)
  | .int k x :: cs, .int k' :: lv => if Nat.beq (kNo k) (kNo k') then (match rowTm c cs lv with
    | some (m, r) => some (need c (.le (.il (kMin k)) x) ++ (need c (.le x (.il (kMax k))) ++ m), .tb (.cons (.int k)) x r (.il 0))
    | none => none) else none
  | .bool x :: cs, .bool :: lv => match rowTm c cs lv with
    | some (m, r) => some (m, .tb (.cons .bool) x r (.il 0))
    | none => none
  | .str x :: cs, .str :: lv => match rowTm c cs lv with
    | some (m, r) => some (need c (.le (mkLen c x) (.il 9223372036854775807)) ++ m, .tb (.cons .str) x r (.il 0))
    | none => none
  | .ptv x :: cs, .ptr :: lv => match rowTm c cs lv with
    | some (m, r) => some (m, .tb (.cons .ptr) x r (.il 0))
    | none => none
  | .vls x :: cs, .sls :: lv => match rowTm c cs lv with
    | some (m, r) => some (m, .tb (.cons .sls) x r (.il 0))
    | none => none
  | .nslc :: cs, .sls :: lv => match rowTm c cs lv with
    | some (m, r) => some (m, .tb (.cons .sls) (.tb .nil (.il 0) (.il 0) (.il 0)) r (.il 0))
    | none => none
  | _, _ => none
theorem wf_of {k : IntKind} {n : Int} (h1 : kMin k ≤ n) (h2 : n ≤ kMax k) : (Lit.int k n).wf = true := by
  cases k <;> simp only [kMin, kMax] at h1 h2 <;> simp only [Lit.wf, IntKind.min, IntKind.max, IntKind.bits, IntKind.signed, Bool.and_eq_true, decide_eq_true_eq] <;> simp <;> omega
theorem of_wf {k : IntKind} {n : Int} (h : (Lit.int k n).wf = true) : kMin k ≤ n ∧ n ≤ kMax k := by
  cases k <;> simp only [Lit.wf, IntKind.min, IntKind.max, IntKind.bits, IntKind.signed, Bool.and_eq_true, decide_eq_true_eq] at h <;> simp at h <;> simp only [kMin, kMax] <;> omega
theorem rowTm_ok {ρ : Env} {β : Bn} {c : Cx} (hc : c.ok ρ) : ∀ {cs : List C} {lv : List Kd} {m : List Tm} {r : Tm}, rowTm c cs lv = some (m, r) → Met ρ m → (den ρ r).c = [denL ρ β cs] ∧ kAll lv (denL ρ β cs) := by
  intro cs
  induction cs with
  | nil =>
    intro lv m r h hm
    cases lv with
    | nil => injection h with h; injection h with h1 h2; subst h1 h2; exact ⟨rfl, trivial⟩
    | cons k lv => cases h
  | cons x cs ih =>
    intro lv m r h hm
    unfold rowTm at h
    split at h
    · rename_i e; cases e
    · rename_i k x' cs' k' lv' e
      injection e with e1 e2
      subst e1 e2
      split at h
      · rename_i q
        have q := kNo_inj (Nat.eq_of_beq_eq_true q)
        subst q
        split at h
        · rename_i m' r' hr
          injection h with h
          injection h with h1 h2
          subst h1 h2
          obtain ⟨i1, i2⟩ := ih hr hm.r.r
          have b1 := le_of (need_ok hc hm.l)
          have b2 := le_of (need_ok hc hm.r.l)
          refine ⟨?_, ⟨_, rfl, wf_of b1 b2⟩, i2⟩
          show [_ :: (den ρ r').c.headD []] = _
          rw [i1]
          rfl
        · cases h
      · cases h
    · rename_i x' cs' lv' e
      injection e with e1 e2
      subst e1 e2
      split at h
      · rename_i m' r' hr
        injection h with h
        injection h with h1 h2
        subst h1 h2
        obtain ⟨i1, i2⟩ := ih hr hm
        refine ⟨?_, ⟨_, rfl⟩, i2⟩
        show [_ :: (den ρ r').c.headD []] = _
        rw [i1]
        rfl
      · cases h
    · rename_i x' cs' lv' e
      injection e with e1 e2
      subst e1 e2
      split at h
      · rename_i m' r' hr
        injection h with h
        injection h with h1 h2
        subst h1 h2
        obtain ⟨i1, i2⟩ := ih hr hm.r
        have b2 := le_of (need_ok hc hm.l)
        rw [mkLen_ok hc] at b2
        change _ ≤ (9223372036854775807 : Int) at b2
        refine ⟨?_, ⟨_, rfl, by simp only [maxLen]; omega⟩, i2⟩
        show [_ :: (den ρ r').c.headD []] = _
        rw [i1]
        rfl
      · cases h
    · rename_i x' cs' lv' e
      injection e with e1 e2
      subst e1 e2
      split at h
      · rename_i m' r' hr
        injection h with h
        injection h with h1 h2
        subst h1 h2
        obtain ⟨i1, i2⟩ := ih hr hm
        refine ⟨?_, ⟨_, rfl⟩, i2⟩
        show [_ :: (den ρ r').c.headD []] = _
        rw [i1]
        rfl
      · cases h
    · rename_i x' cs' lv' e
      injection e with e1 e2
      subst e1 e2
      split at h
      · rename_i m' r' hr
        injection h with h
        injection h with h1 h2
        subst h1 h2
        obtain ⟨i1, i2⟩ := ih hr hm
        refine ⟨?_, slV_kOK _, i2⟩
        show [_ :: (den ρ r').c.headD []] = _
        rw [i1]
        rfl
      · cases h
    · rename_i cs' lv' e
      injection e with e1 e2
      subst e1 e2
      split at h
      · rename_i m' r' hr
        injection h with h
        injection h with h1 h2
        subst h1 h2
        obtain ⟨i1, i2⟩ := ih hr hm
        refine ⟨?_, ⟨_, _, _, rfl⟩, i2⟩
        show [_ :: (den ρ r').c.headD []] = _
        rw [i1]
        rfl
      · cases h
    · cases h
theorem kAll_len : ∀ {lv : List Kd} {vs : List Value}, kAll lv vs → vs.length = lv.length
  | [], [], _ => rfl
  | _ :: _, _ :: _, h => by simp [kAll_len h.2]
  | [], _ :: _, h => h.elim
  | _ :: _, [], h => h.elim
theorem kAll_get : ∀ {lv : List Kd} {vs : List Value}, kAll lv vs → ∀ {j : Nat} {k : Kd}, lv[j]? = some k → ∃ v, vs[j]? = some v ∧ kOK k v
  | _ :: _, _ :: _, h, 0, k, hx => by
    simp at hx
    subst hx
    exact ⟨_, rfl, h.1⟩
  | _ :: _, _ :: _, h, j + 1, k, hx => kAll_get h.2 (by simpa using hx)
  | [], [], _, _, _, hx => by simp at hx
  | [], _ :: _, h, _, _, _ => h.elim
  | _ :: _, [], h, _, _, _ => h.elim
theorem kOK_one {k : Kd} {v : Value} (h : kOK k v) : v.oneCell' = true := by
  cases k with
  | int k => obtain ⟨n, rfl, _⟩ := h; rfl
  | bool => obtain ⟨b, rfl⟩ := h; rfl
  | str => obtain ⟨s, rfl, _⟩ := h; rfl
  | ptr => obtain ⟨n, rfl⟩ := h; rfl
  | sls => obtain ⟨a, n, c, rfl⟩ := h; rfl
theorem kAll_one : ∀ {lv : List Kd} {vs : List Value}, kAll lv vs → ∀ v ∈ vs, v.oneCell' = true
  | _ :: _, _ :: _, h, v, hv => by
    rcases List.mem_cons.1 hv with rfl | hv
    · exact kOK_one h.1
    · exact kAll_one h.2 v hv
  | [], [], _, v, hv => by simp at hv
  | [], _ :: _, h, _, _ => h.elim
  | _ :: _, [], h, _, _ => h.elim
theorem kAll_drop : ∀ {lv : List Kd} {vs : List Value} (n : Nat), kAll lv vs → kAll (lv.drop n) (vs.drop n)
  | _, _, 0, h => h
  | _ :: _, _ :: _, n + 1, h => kAll_drop n h.2
  | [], [], _ + 1, h => trivial
  | [], _ :: _, _, h => h.elim
  | _ :: _, [], _, h => h.elim
theorem kAll_take : ∀ {lv : List Kd} {vs : List Value} (n : Nat), kAll lv vs → kAll (lv.take n) (vs.take n)
  | [], [], n, h => by simp; trivial
  | _ :: _, _ :: _, 0, h => trivial
  | _ :: _, _ :: _, n + 1, h => ⟨h.1, kAll_take n h.2⟩
  | [], _ :: _, _, h => h.elim
  | _ :: _, [], _, h => h.elim
/-- A cell of a table. -/
def cellT (c : Cx) (t i : Tm) (k : Kd) (f : Nat) : C :=
  match k with
  | .int q => .int q (mkGet c (.int q) f t i)
  | .bool => .bool (mkGet c .bool f t i)
  | .str => .str (mkGet c .str f t i)
  | .ptr => .ptv (mkGet c .ptr f t i)
  | .sls => .vls (mkGet c .sls f t i)
theorem cellT_ok {ρ : Env} {β : Bn} {c : Cx} (hc : c.ok ρ) {t i : Tm} {k : Kd} {f : Nat} {v : Value} (hv : ((den ρ t).c.getD (den ρ i).i.toNat [])[f]? = some v) (hk : kOK k v) : (cellT c t i k f).den ρ β = v := by
  have h := mkGet_ok hc (k := k) (f := f) t i
  rw [show (((den ρ t).c.getD (den ρ i).i.toNat []).getD f (.bool false)) = v from by rw [List.getD, hv]; rfl] at h
  cases k with
  | int q =>
    obtain ⟨n, rfl, hw⟩ := hk
    obtain ⟨b1, b2⟩ := of_wf hw
    show Value.int q (den ρ (mkGet c (.int q) f t i)).i = _
    rw [show (den ρ (mkGet c (.int q) f t i)).i = q.wrap n from h, wrap_in b1 b2]
  | bool =>
    obtain ⟨b, rfl⟩ := hk
    show Value.bool (den ρ (mkGet c .bool f t i)).b = _
    rw [show (den ρ (mkGet c .bool f t i)).b = b from h]
  | str =>
    obtain ⟨s, rfl, hs⟩ := hk
    show Value.string (den ρ (mkGet c .str f t i)).s = _
    rw [show (den ρ (mkGet c .str f t i)).s = (if s.size ≤ 9223372036854775807 then s else none8) from h, if_pos (show s.size ≤ 9223372036854775807 from hs)]
  | ptr =>
    obtain ⟨n, rfl⟩ := hk
    show Value.pointer (some ⟨(den ρ (mkGet c .ptr f t i)).i.toNat, 0, none⟩) = _
    rw [show (den ρ (mkGet c .ptr f t i)).i = (n : Int) from h, Int.toNat_natCast]
  | sls =>
    obtain ⟨a, n, cp, rfl⟩ := hk
    exact h
def cellsT (c : Cx) (t i : Tm) : List Kd → Nat → List C
  | [], _ => []
  | k :: lv, f => cellT c t i k f :: cellsT c t i lv (f + 1)
theorem cellsT_ok {ρ : Env} {β : Bn} {c : Cx} (hc : c.ok ρ) {t i : Tm} : ∀ {lv : List Kd} {f : Nat} {vs : List Value}, kAll lv vs → (∀ j v, vs[j]? = some v → ((den ρ t).c.getD (den ρ i).i.toNat [])[f + j]? = some v) → denL ρ β (cellsT c t i lv f) = vs
  | [], _, [], _, _ => rfl
  | k :: lv, f, v :: vs, h, hv => by
    show _ :: denL ρ β (cellsT c t i lv (f + 1)) = _
    rw [cellT_ok hc (f := f) (hv 0 v rfl) h.1, cellsT_ok hc h.2 (fun j u hu => by
      have := hv (j + 1) u (by simpa using hu)
      rwa [show f + (j + 1) = f + 1 + j from by omega] at this)]
  | [], _, _ :: _, h, _ => h.elim
  | _ :: _, _, [], h, _ => h.elim
theorem cellsT_len (c : Cx) (t i : Tm) : ∀ (lv : List Kd) (f : Nat), (cellsT c t i lv f).length = lv.length
  | [], _ => rfl
  | _ :: lv, f => by simp [cellsT, cellsT_len c t i lv]

/-! Rows one behind the other. -/
def overV (cs : List Value) (off : Nat) (vs : List Value) : List Value := cs.take off ++ (vs ++ cs.drop (off + vs.length))
theorem overV_len {cs : List Value} {o : Nat} {vs : List Value} (h : o + vs.length ≤ cs.length) : (overV cs o vs).length = cs.length := by
  unfold overV
  simp only [List.length_append, List.length_take, List.length_drop]
  omega
theorem overV_left {a b : List Value} {o : Nat} {vs : List Value} (h : o + vs.length ≤ a.length) : overV (a ++ b) o vs = overV a o vs ++ b := by
  unfold overV
  rw [List.take_append_of_le_length (by omega), List.drop_append_of_le_length h]
  simp only [List.append_assoc]
theorem overV_right {a b : List Value} {o : Nat} {vs : List Value} : overV (a ++ b) (a.length + o) vs = a ++ overV b o vs := by
  unfold overV
  rw [show a.length + o + vs.length = a.length + (o + vs.length) from by omega, List.take_length_add_append, List.drop_length_add_append]
  simp only [List.append_assoc]
section
variable {m : Nat}
theorem flat_len : ∀ {l : List (List Value)}, (∀ r ∈ l, r.length = m) → l.flatten.length = l.length * m
  | [], _ => by simp
  | r :: l, h => by
    rw [List.flatten_cons, List.length_append, h r (List.mem_cons_self ..), flat_len fun x hx => h x (List.mem_cons_of_mem _ hx), List.length_cons, Nat.succ_mul]
    omega
theorem flat_get : ∀ {l : List (List Value)}, (∀ r ∈ l, r.length = m) → ∀ {i f : Nat}, i < l.length → f < m → l.flatten[i * m + f]? = (l.getD i [])[f]?
  | [], _, _, _, hi, _ => by simp at hi
  | r :: l, h, 0, f, _, hf => by
    have hr := h r (List.mem_cons_self ..)
    rw [List.flatten_cons, List.getElem?_append_left (by omega)]
    simp
  | r :: l, h, i + 1, f, hi, hf => by
    have hr := h r (List.mem_cons_self ..)
    have := flat_get (fun x hx => h x (List.mem_cons_of_mem _ hx)) (i := i) (f := f) (by simpa using hi) hf
    rw [List.flatten_cons, List.getElem?_append_right (by rw [hr, Nat.succ_mul]; omega), hr]
    rw [show (i + 1) * m + f - m = i * m + f from by rw [Nat.succ_mul]; omega, this]
    simp
theorem flat_over {vs : List Value} : ∀ {l : List (List Value)}, (∀ r ∈ l, r.length = m) → ∀ {i f : Nat}, i < l.length → f + vs.length ≤ m → overV l.flatten (i * m + f) vs = (l.set i (overV (l.getD i []) f vs)).flatten
  | [], _, _, _, hi, _ => by simp at hi
  | r :: l, h, 0, f, _, hf => by
    have hr := h r (List.mem_cons_self ..)
    rw [List.flatten_cons, Nat.zero_mul, Nat.zero_add, overV_left (by omega)]
    rfl
  | r :: l, h, i + 1, f, hi, hf => by
    have hr := h r (List.mem_cons_self ..)
    have := flat_over (fun x hx => h x (List.mem_cons_of_mem _ hx)) (i := i) (f := f) (by simpa using hi) hf
    rw [List.flatten_cons, show (i + 1) * m + f = r.length + (i * m + f) from by rw [Nat.succ_mul]; omega, overV_right, this]
    rfl
end
/-! Tables among a block's cells. -/
def locC : List Ins → Nat → Nat → Option Nat
  | [], len, off => if Nat.blt off len then some off else none
  | x :: l, len, off => if Nat.ble x.pos len then
      (if Nat.blt off x.pos then some off else if Nat.blt off (x.pos + x.n * x.lv.length) then none else (locC l (len - x.pos) (off - (x.pos + x.n * x.lv.length))).map (· + x.pos))
    else none
theorem ins_flat {ρ : Env} {x : Ins} {l : List Ins} (h : insOk ρ (x :: l)) : (Sy.den ρ x.t).c.flatten.length = x.n * x.lv.length := by
  have hx := h x (List.mem_cons_self ..)
  rw [flat_len (m := x.lv.length) fun r hr => kAll_len (hx.2 r hr), hx.1]
theorem insOk.tail {ρ : Env} {x : Ins} {l : List Ins} (h : insOk ρ (x :: l)) : insOk ρ l := fun z hz => h z (List.mem_cons_of_mem _ hz)
theorem set_overV {cs : List Value} {j : Nat} {v : Value} (h : j < cs.length) : cs.set j v = overV cs j [v] := by
  unfold overV
  rw [List.set_eq_take_append_cons_drop, if_pos h]
  rfl
theorem locC_ok {ρ : Env} : ∀ {ins : List Ins} {cs : List Value} {off j : Nat}, locC ins cs.length off = some j → insOk ρ ins → j < cs.length ∧ (layV ρ cs ins)[off]? = cs[j]? ∧ ∀ v, overV (layV ρ cs ins) off [v] = layV ρ (cs.set j v) ins
  | [], cs, off, j, h, _ => by
    simp only [locC] at h
    split at h
    · rename_i q
      have q : off < cs.length := Nat.le_of_ble_eq_true q
      injection h with h
      subst h
      exact ⟨q, rfl, fun v => (set_overV q).symm⟩
    · cases h
  | x :: l, cs, off, j, h, hok => by
    simp only [locC] at h
    have hf := ins_flat hok
    split at h
    · rename_i q
      have q : x.pos ≤ cs.length := Nat.le_of_ble_eq_true q
      have hlt : (cs.take x.pos).length = x.pos := by rw [List.length_take]; omega
      split at h
      · rename_i q2
        have q2 : off < x.pos := Nat.le_of_ble_eq_true q2
        injection h with h
        subst h
        refine ⟨by omega, ?_, fun v => ?_⟩
        · rw [layV, List.getElem?_append_left (by omega), List.getElem?_take, if_pos q2]
        · rw [layV, layV, overV_left (by simp; omega), ← set_overV (by omega), List.take_set, List.drop_set_of_lt q2]
      · rename_i q2
        have q2 : ¬ off < x.pos := fun e => q2 (Nat.ble_eq_true_of_le e)
        split at h
        · cases h
        · rename_i q3
          have q3 : ¬ off < x.pos + x.n * x.lv.length := fun e => q3 (Nat.ble_eq_true_of_le e)
          cases hq : locC l (cs.length - x.pos) (off - (x.pos + x.n * x.lv.length)) with
          | none => rw [hq] at h; cases h
          | some j' =>
            rw [hq] at h
            injection h with h
            change j' + x.pos = j at h
            rw [show cs.length - x.pos = (cs.drop x.pos).length from by simp] at hq
            obtain ⟨i1, i2, i3⟩ := locC_ok hq hok.tail
            have e : off = (cs.take x.pos).length + (((Sy.den ρ x.t).c.flatten).length + (off - (x.pos + x.n * x.lv.length))) := by omega
            rw [List.length_drop] at i1
            subst h
            refine ⟨by omega, ?_, fun v => ?_⟩
            · rw [layV, List.getElem?_append_right (by omega), List.getElem?_append_right (by omega)]
              rw [show off - (cs.take x.pos).length - ((Sy.den ρ x.t).c.flatten).length = off - (x.pos + x.n * x.lv.length) from by omega, i2, List.getElem?_drop, Nat.add_comm]
            · rw [layV, layV]
              conv => lhs; rw [e]
              rw [overV_right, overV_right, i3]
              congr 1
              · rw [List.take_set_of_le (by omega)]
              · congr 2
                rw [List.drop_set, if_neg (by omega), Nat.add_sub_cancel]
    · cases h
def insAt : List Ins → Nat → Nat → Option Ins
  | [], _, _ => none
  | x :: l, len, base => if Nat.ble x.pos len then
      (if Nat.beq base x.pos then some x else if Nat.ble (x.pos + x.n * x.lv.length) base then insAt l (len - x.pos) (base - (x.pos + x.n * x.lv.length)) else none)
    else none
def insSet : List Ins → Nat → Tm → List Ins
  | [], _, _ => []
  | x :: l, base, t => if Nat.beq base x.pos then { x with t := t } :: l else x :: insSet l (base - (x.pos + x.n * x.lv.length)) t
theorem insAt_ok {ρ : Env} : ∀ {ins : List Ins} {cs : List Value} {base : Nat} {x : Ins}, insAt ins cs.length base = some x → insOk ρ ins →
    ((Sy.den ρ x.t).c.length = x.n ∧ ∀ r ∈ (Sy.den ρ x.t).c, kAll x.lv r) ∧ (∀ o, o < x.n * x.lv.length → (layV ρ cs ins)[base + o]? = (Sy.den ρ x.t).c.flatten[o]?) ∧
    ∀ (t : Tm) (o : Nat) (vs : List Value), o + vs.length ≤ x.n * x.lv.length → (Sy.den ρ t).c.flatten = overV (Sy.den ρ x.t).c.flatten o vs → (Sy.den ρ t).c.length = x.n → (∀ r ∈ (Sy.den ρ t).c, kAll x.lv r) →
      overV (layV ρ cs ins) (base + o) vs = layV ρ cs (insSet ins base t) ∧ insOk ρ (insSet ins base t)
  | [], cs, base, x, h, _ => by cases h
  | y :: l, cs, base, x, h, hok => by
    simp only [insAt] at h
    have hf := ins_flat hok
    split at h
    · rename_i q
      have q : y.pos ≤ cs.length := Nat.le_of_ble_eq_true q
      have hlt : (cs.take y.pos).length = y.pos := by rw [List.length_take]; omega
      split at h
      · rename_i q2
        have q2' := Nat.eq_of_beq_eq_true q2
        injection h with h
        subst h
        refine ⟨hok _ (List.mem_cons_self ..), fun o ho => ?_, fun t o vs hv ht hn hk => ⟨?_, ?_⟩⟩
        · rw [layV, List.getElem?_append_right (by omega), List.getElem?_append_left (by omega)]
          congr 1
          omega
        · simp only [insSet, q2, if_true, layV]
          rw [ht, show base + o = (cs.take y.pos).length + o from by omega, overV_right, overV_left (by omega)]
        · simp only [insSet, q2, if_true]
          intro z hz
          rcases List.mem_cons.1 hz with rfl | hz
          · exact ⟨hn, hk⟩
          · exact hok.tail z hz
      · rename_i q2
        split at h
        · rename_i q3
          have q3 := Nat.le_of_ble_eq_true q3
          rw [show cs.length - y.pos = (cs.drop y.pos).length from by simp] at h
          obtain ⟨i1, i2, i3⟩ := insAt_ok h hok.tail
          refine ⟨i1, fun o ho => ?_, fun t o vs hv ht hn hk => ?_⟩
          · rw [layV, List.getElem?_append_right (by omega), List.getElem?_append_right (by omega), ← i2 o ho]
            congr 1
            omega
          · obtain ⟨j1, j2⟩ := i3 t o vs hv ht hn hk
            have e : base + o = (cs.take y.pos).length + (((Sy.den ρ y.t).c.flatten).length + (base - (y.pos + y.n * y.lv.length) + o)) := by omega
            have hb : Nat.beq base y.pos = false := by
              cases hq : Nat.beq base y.pos with
              | true => exact absurd hq q2
              | false => rfl
            simp only [insSet, hb, Bool.false_eq_true, if_false, layV]
            refine ⟨?_, fun z hz => ?_⟩
            · rw [e, overV_right, overV_right, j1]
            · rcases List.mem_cons.1 hz with rfl | hz
              · exact hok _ (List.mem_cons_self ..)
              · exact j2 z hz
        · cases h
    · cases h
end Sy
end Go.Proofs.Ytnmfmjlpfhdgeaa
