/- A part of a function's code is run with letters; a loop, whose rounds begin in frames of one shape; frames told anew in other letters. -/
import Derived.Test.YtnmfmjlpfhdgeaaSyM
namespace Go.Proofs.Ytnmfmjlpfhdgeaa
namespace Sy
open Go Go.RowKit
set_option linter.unusedVariables false
set_option linter.unusedSimpArgs false

/-- Letters for numbers, bools, strings, values. -/
def mkEnv0 (is : List Int) (bs : List Bool) (ss : List ByteArray) (vs : List Value) : Env := ⟨fun n => is.getD n 0, fun n => bs.getD n false, fun n => ss.getD n none8, fun _ x _ _ => x, fun n => vs.getD n (.bool false), fun _ => .bool false, fun _ => [], fun _ => Thing.none⟩

/-! What terms say: for 'simp only' (dn_all at a list of conditions). -/
section
variable (ρ : Env) (x y z : Tm) (n : Nat) (k : Int) (b : Bool)
theorem t_lt : ((den ρ (.lt x y)).b = true) = ((den ρ x).i < (den ρ y).i) := propext decide_eq_true_iff
theorem t_le : ((den ρ (.le x y)).b = true) = ((den ρ x).i ≤ (den ρ y).i) := propext decide_eq_true_iff
theorem t_eq : ((den ρ (.eq x y)).b = true) = ((den ρ x).i = (den ρ y).i) := propext beq_iff_eq
theorem t_not : ((den ρ (.not x)).b = true) = ¬ ((den ρ x).b = true) := by
  show ((!(den ρ x).b) = true) = _
  cases (den ρ x).b <;> simp
theorem t_and : ((den ρ (.and x y)).b = true) = ((den ρ x).b = true ∧ (den ρ y).b = true) := propext (by show (((den ρ x).b && (den ρ y).b) = true) ↔ _; simp)
theorem t_or : ((den ρ (.or x y)).b = true) = ((den ρ x).b = true ∨ (den ρ y).b = true) := propext (by show (((den ρ x).b || (den ρ y).b) = true) ↔ _; simp)
theorem t_bv : (den ρ (.bv n)).b = ρ.b n := rfl
theorem t_bl : (den ρ (.bl b)).b = b := rfl
theorem i_iv : (den ρ (.iv n)).i = ρ.i n := rfl
theorem i_il : (den ρ (.il k)).i = k := rfl
theorem i_add : (den ρ (.add x y)).i = (den ρ x).i + (den ρ y).i := rfl
theorem i_sub : (den ρ (.sub x y)).i = (den ρ x).i - (den ρ y).i := rfl
theorem i_mul : (den ρ (.mul x y)).i = (den ρ x).i * (den ρ y).i := rfl
theorem i_dv : (den ρ (.dv x y)).i = (den ρ x).i / (den ρ y).i := rfl
theorem i_md : (den ρ (.md x y)).i = (den ρ x).i % (den ρ y).i := rfl
theorem i_len : (den ρ (.len x)).i = ((den ρ x).s.size : Int) := rfl
theorem i_byte : (den ρ (.byte x y)).i = byteOf (den ρ x).s (den ρ y).i := rfl
theorem s_sv : (den ρ (.sv n)).s = ρ.s n := rfl
theorem s_cut : (den ρ (.cut x y z)).s = (den ρ x).s.extract (den ρ y).i.toNat (den ρ z).i.toNat := rfl
theorem s_app : (den ρ (.app x y)).s = (den ρ x).s ++ (den ρ y).s := rfl
end

/-! Letters that get new meanings. -/
inductive As where
  | i (n : Nat) (t : Tm) | b (n : Nat) (t : Tm) | s (n : Nat) (t : Tm) | u (n : Nat) (x : SV) | l (n m : Nat) | c (n : Nat) (t : Tm)
  deriving Repr, Inhabited
def tmI : List As → Nat → Option Tm
  | [], _ => none
  | .i m t :: l, n => if Nat.beq n m then some t else tmI l n
  | _ :: l, n => tmI l n
def tmB : List As → Nat → Option Tm
  | [], _ => none
  | .b m t :: l, n => if Nat.beq n m then some t else tmB l n
  | _ :: l, n => tmB l n
def tmS : List As → Nat → Option Tm
  | [], _ => none
  | .s m t :: l, n => if Nat.beq n m then some t else tmS l n
  | _ :: l, n => tmS l n
def tmC : List As → Nat → Option Tm
  | [], _ => none
  | .c m t :: l, n => if Nat.beq n m then some t else tmC l n
  | _ :: l, n => tmC l n
def svU : List As → Nat → Option SV
  | [], _ => none
  | .u m x :: l, n => if Nat.beq n m then some x else svU l n
  | _ :: l, n => svU l n
/-- Which letter of the state a block's letter of the template is. -/
def rnL : List As → Nat → Nat
  | [], n => n
  | .l a b :: l, n => if Nat.beq n a then b else rnL l n
  | _ :: l, n => rnL l n
def bnL (l : List As) (β : Bn) : Bn := fun n => β (rnL l n)
def Env.sub (ρ : Env) (β : Bn) (l : List As) : Env where
  i := fun n => match tmI l n with | some t => (den ρ t).i | none => ρ.i n
  b := fun n => match tmB l n with | some t => (den ρ t).b | none => ρ.b n
  s := fun n => match tmS l n with | some t => (den ρ t).s | none => ρ.s n
  f := ρ.f
  v := ρ.v
  o := ρ.o
  u := fun n => match svU l n with | some x => x.den ρ β | none => ρ.u n
  c := fun n => match tmC l n with | some t => (den ρ t).c | none => ρ.c n
theorem Env.sub_good {ρ : Env} (h : ρ.good) (β : Bn) (l : List As) : (ρ.sub β l).good := h
/-- Does no letter that gets a new meaning stand in it? -/
def freeT (l : List As) : Tm → Bool
  | .iv n => (tmI l n).isNone
  | .bv n => (tmB l n).isNone
  | .sv n => (tmS l n).isNone
  | .cv n => (tmC l n).isNone
  | .add x y | .sub x y | .mul x y | .dv x y | .md x y | .quo x y | .rem x y | .bop _ _ x y | .byte x y | .lt x y | .le x y | .eq x y | .and x y | .or x y | .seq x y | .bq x y | .app x y => freeT l x && freeT l y
  | .pw x | .wrap _ x | .len x | .not x | .chr x => freeT l x
  | .ap _ x y z | .ite x y z | .cut x y z | .tb _ x y z => freeT l x && (freeT l y && freeT l z)
  | .il _ | .bl _ | .sl _ => true
theorem freeT_ok (ρ : Env) (β : Bn) (l : List As) : ∀ t : Tm, freeT l t = true → den (ρ.sub β l) t = den ρ t := by
  intro t
  induction t with
  | iv n =>
    intro h
    simp only [freeT, Option.isNone_iff_eq_none] at h
    simp only [den, Env.sub, h]
  | bv n =>
    intro h
    simp only [freeT, Option.isNone_iff_eq_none] at h
    simp only [den, Env.sub, h]
  | sv n =>
    intro h
    simp only [freeT, Option.isNone_iff_eq_none] at h
    simp only [den, Env.sub, h]
  | cv n =>
    intro h
    simp only [freeT, Option.isNone_iff_eq_none] at h
    simp only [den, Env.sub, h]
  | tb o x y z hx hy hz =>
    intro h
    simp only [freeT, Bool.and_eq_true] at h
    simp only [den, hx h.1, hy h.2.1, hz h.2.2]
  | ap f x y z hx hy hz =>
    intro h
    simp only [freeT, Bool.and_eq_true] at h
    show (ρ.sub β l).f f (den _ x) (den _ y) (den _ z) = _
    rw [hx h.1, hy h.2.1, hz h.2.2]
    rfl
  | ite x y z hx hy hz =>
    intro h
    simp only [freeT, Bool.and_eq_true] at h
    simp only [den, hx h.1, hy h.2.1, hz h.2.2]
  | cut x y z hx hy hz =>
    intro h
    simp only [freeT, Bool.and_eq_true] at h
    simp only [den, hx h.1, hy h.2.1, hz h.2.2]
  | pw x hx => intro h; simp only [den, hx h]
  | wrap k x hx => intro h; simp only [den, hx h]
  | len x hx => intro h; simp only [den, hx h]
  | not x hx => intro h; simp only [den, hx h]
  | chr x hx => intro h; simp only [den, hx h]
  | il n => intro _; rfl
  | bl n => intro _; rfl
  | sl n => intro _; rfl
  | _ =>
    rename_i hx hy
    intro h
    simp only [freeT, Bool.and_eq_true] at h
    simp only [den, hx h.1, hy h.2]
/-- A letter gets its term; all else is left as it is (no such letter stands in it). -/
def subI (l : List As) (t : Tm) : Option Tm :=
  match t with
  | .iv n => some ((tmI l n).getD t)
  | _ => if freeT l t then some t else none
def subB (l : List As) (t : Tm) : Option Tm :=
  match t with
  | .bv n => some ((tmB l n).getD t)
  | _ => if freeT l t then some t else none
def subS (l : List As) (t : Tm) : Option Tm :=
  match t with
  | .sv n => some ((tmS l n).getD t)
  | _ => if freeT l t then some t else none
def subTb (l : List As) (t : Tm) : Option Tm :=
  match t with
  | .cv n => some ((tmC l n).getD t)
  | _ => if freeT l t then some t else none
theorem subTb_ok {ρ : Env} {β : Bn} {l : List As} {t u : Tm} (h : subTb l t = some u) : (den (ρ.sub β l) t).c = (den ρ u).c := by
  unfold subTb at h
  split at h
  · rename_i n
    injection h with h
    subst h
    show (match tmC l n with | some t => (den ρ t).c | none => ρ.c n) = _
    cases tmC l n <;> rfl
  · split at h
    · rename_i q
      injection h with h
      subst h
      rw [freeT_ok ρ β l t q]
    · cases h
theorem subI_ok {ρ : Env} {β : Bn} {l : List As} {t u : Tm} (h : subI l t = some u) : (den (ρ.sub β l) t).i = (den ρ u).i := by
  unfold subI at h
  split at h
  · rename_i n
    injection h with h
    subst h
    show (match tmI l n with | some t => (den ρ t).i | none => ρ.i n) = _
    cases tmI l n <;> rfl
  · split at h
    · rename_i q
      injection h with h
      subst h
      rw [freeT_ok ρ β l t q]
    · cases h
theorem subB_ok {ρ : Env} {β : Bn} {l : List As} {t u : Tm} (h : subB l t = some u) : (den (ρ.sub β l) t).b = (den ρ u).b := by
  unfold subB at h
  split at h
  · rename_i n
    injection h with h
    subst h
    show (match tmB l n with | some t => (den ρ t).b | none => ρ.b n) = _
    cases tmB l n <;> rfl
  · split at h
    · rename_i q
      injection h with h
      subst h
      rw [freeT_ok ρ β l t q]
    · cases h
theorem subS_ok {ρ : Env} {β : Bn} {l : List As} {t u : Tm} (h : subS l t = some u) : (den (ρ.sub β l) t).s = (den ρ u).s := by
  unfold subS at h
  split at h
  · rename_i n
    injection h with h
    subst h
    show (match tmS l n with | some t => (den ρ t).s | none => ρ.s n) = _
    cases tmS l n <;> rfl
  · split at h
    · rename_i q
      injection h with h
      subst h
      rw [freeT_ok ρ β l t q]
    · cases h
def subC (l : List As) : C → Option C
  | .int k t => (subI l t).map (.int k)
  | .bool t => (subB l t).map .bool
  | .str t => (subS l t).map .str
  | .slc g o a b => match subI l a, subI l b with
    | some a, some b => some (.slc (rnL l g) o a b)
    | _, _ => none
  | .slr g a b c => match subI l a, subI l b, subI l c with
    | some a, some b, some c => if Nat.beq (rnL l (g + 1)) (rnL l g + 1) then some (.slr (rnL l g) a b c) else none
    | _, _, _ => none
  | .ptx g a => (subI l a).map (.ptx (rnL l g))
  | .slt g m a b c => match subI l a, subI l b, subI l c with
    | some a, some b, some c => if Nat.beq (rnL l (g + 1)) (rnL l g + 1) then some (.slt (rnL l g) m a b c) else none
    | _, _, _ => none
  | .pta g b m i f => (subI l i).map fun i => .pta (rnL l g) b m i f
  | .ptv t => (subI l t).map .ptv
  | .vls t => (subTb l t).map .vls
  | .ptr g o => some (.ptr (rnL l g) o)
  | .fn f ls => some (.fn f (ls.map (rnL l)))
  | .slz _ _ _ => none
  | .map g => some (.map (rnL l g))
  | x => some x
theorem subC_ok {ρ : Env} {β : Bn} {l : List As} {x y : C} (h : subC l x = some y) : x.den (ρ.sub β l) (bnL l β) = y.den ρ β := by
  cases x with
  | int k t =>
    obtain ⟨u, hu, rfl⟩ := Option.map_eq_some_iff.1 h
    simp only [C.den, subI_ok hu]
  | bool t =>
    obtain ⟨u, hu, rfl⟩ := Option.map_eq_some_iff.1 h
    simp only [C.den, subB_ok hu]
  | str t =>
    obtain ⟨u, hu, rfl⟩ := Option.map_eq_some_iff.1 h
    simp only [C.den, subS_ok hu]
  | slc g o a b =>
    simp only [subC] at h
    split at h
    · rename_i h1 h2
      injection h with h
      subst h
      simp only [C.den, subI_ok h1, subI_ok h2]
      rfl
    · cases h
  | slr g a b c =>
    simp only [subC] at h
    split at h
    · rename_i h1 h2 h3
      split at h
      · rename_i q
        injection h with h
        subst h
        simp only [C.den, subI_ok h1, subI_ok h2, subI_ok h3, bnL, Nat.eq_of_beq_eq_true q]
      · cases h
    · cases h
  | ptx g a =>
    obtain ⟨u, hu, rfl⟩ := Option.map_eq_some_iff.1 h
    simp only [C.den, subI_ok hu]
    rfl
  | pta g b m i f =>
    obtain ⟨u, hu, rfl⟩ := Option.map_eq_some_iff.1 h
    simp only [C.den, subI_ok hu]
    rfl
  | ptv t =>
    obtain ⟨u, hu, rfl⟩ := Option.map_eq_some_iff.1 h
    simp only [C.den, subI_ok hu]
  | slt g m a b c =>
    simp only [subC] at h
    split at h
    · rename_i h1 h2 h3
      split at h
      · rename_i q
        injection h with h
        subst h
        simp only [C.den, subI_ok h1, subI_ok h2, subI_ok h3, bnL, Nat.eq_of_beq_eq_true q]
      · cases h
    · cases h
  | fn f ls =>
    injection h with h
    subst h
    simp only [C.den, List.map_map]
    rfl
  | slz _ _ _ => cases h
  | vls t =>
    obtain ⟨u, hu, rfl⟩ := Option.map_eq_some_iff.1 h
    show slV (((den (ρ.sub β l) t).c.headD []).headD (.bool false)) = _
    rw [subTb_ok hu]
    rfl
  | _ => injection h with h; subst h; rfl
def subCs (l : List As) : List C → Option (List C)
  | [] => some []
  | x :: xs => match subC l x, subCs l xs with
    | some y, some ys => some (y :: ys)
    | _, _ => none
theorem subCs_ok {ρ : Env} {β : Bn} {l : List As} : ∀ {x y : List C}, subCs l x = some y → denL (ρ.sub β l) (bnL l β) x = denL ρ β y
  | [], y, h => by injection h with h; subst h; rfl
  | x :: xs, y, h => by
    simp only [subCs] at h
    split at h
    · rename_i h1 h2
      injection h with h
      subst h
      show _ :: denL _ _ xs = _ :: denL _ _ _
      rw [subC_ok h1, subCs_ok h2]
    · cases h
def subV (l : List As) : V1 → Option V1
  | .c x => (subC l x).map .c
  | .agg xs => (subCs l xs).map .agg
theorem subV_ok {ρ : Env} {β : Bn} {l : List As} {x y : V1} (h : subV l x = some y) : x.den (ρ.sub β l) (bnL l β) = y.den ρ β := by
  cases x with
  | c x =>
    obtain ⟨u, hu, rfl⟩ := Option.map_eq_some_iff.1 h
    exact subC_ok hu
  | agg x =>
    obtain ⟨u, hu, rfl⟩ := Option.map_eq_some_iff.1 h
    simp only [V1.den, subCs_ok hu]
def subVs (l : List As) : List V1 → Option (List V1)
  | [] => some []
  | x :: xs => match subV l x, subVs l xs with
    | some y, some ys => some (y :: ys)
    | _, _ => none
theorem subVs_ok {ρ : Env} {β : Bn} {l : List As} : ∀ {x y : List V1}, subVs l x = some y → x.map (V1.den (ρ.sub β l) (bnL l β)) = y.map (V1.den ρ β)
  | [], y, h => by injection h with h; subst h; rfl
  | x :: xs, y, h => by
    simp only [subVs] at h
    split at h
    · rename_i h1 h2
      injection h with h
      subst h
      simp only [List.map_cons, subV_ok h1, subVs_ok h2]
    · cases h
def subSV (l : List As) : SV → Option SV
  | .one x => (subV l x).map .one
  | .tup xs => (subVs l xs).map .tup
  | .any n => some ((svU l n).getD (.any n))
theorem subSV_ok {ρ : Env} {β : Bn} {l : List As} {x y : SV} (h : subSV l x = some y) : x.den (ρ.sub β l) (bnL l β) = y.den ρ β := by
  cases x with
  | one x =>
    obtain ⟨u, hu, rfl⟩ := Option.map_eq_some_iff.1 h
    exact subV_ok hu
  | tup x =>
    obtain ⟨u, hu, rfl⟩ := Option.map_eq_some_iff.1 h
    simp only [SV.den, subVs_ok hu]
  | any n =>
    injection h with h
    subst h
    show (match svU l n with | some x => x.den ρ β | none => ρ.u n) = _
    cases svU l n <;> rfl
def subT (l : List As) : List SV → Option (List SV)
  | [] => some []
  | x :: xs => match subSV l x, subT l xs with
    | some y, some ys => some (y :: ys)
    | _, _ => none
theorem subT_ok {ρ : Env} {β : Bn} {l : List As} : ∀ {x y : List SV}, subT l x = some y → x.map (SV.den (ρ.sub β l) (bnL l β)) = y.map (SV.den ρ β)
  | [], y, h => by injection h with h; subst h; rfl
  | x :: xs, y, h => by
    simp only [subT] at h
    split at h
    · rename_i h1 h2
      injection h with h
      subst h
      simp only [List.map_cons, subSV_ok h1, subT_ok h2]
    · cases h
def subO (l : List As) : Option Tm → Option (Option Tm)
  | none => some none
  | some t => (subS l t).map some
def subIns (l : List As) : List Ins → Option (List Ins)
  | [] => some []
  | x :: xs => match subTb l x.t, subIns l xs with
    | some t, some ys => some ({ x with t := t } :: ys)
    | _, _ => none
theorem subIns_ok {ρ : Env} {β : Bn} {l : List As} : ∀ {x y : List Ins}, subIns l x = some y → (∀ cs, layV (ρ.sub β l) cs x = layV ρ cs y) ∧ (insOk ρ y → insOk (ρ.sub β l) x)
  | [], y, h => by injection h with h; subst h; exact ⟨fun _ => rfl, fun _ => fun _ h => by cases h⟩
  | x :: xs, y, h => by
    simp only [subIns] at h
    split at h
    · rename_i t ys h1 h2
      injection h with h
      subst h
      obtain ⟨i1, i2⟩ := subIns_ok (ρ := ρ) (β := β) h2
      have e := subTb_ok (ρ := ρ) (β := β) h1
      refine ⟨fun cs => ?_, fun hk z hz => ?_⟩
      · simp only [layV, e, i1]
      · rcases List.mem_cons.1 hz with rfl | hz
        · rw [e]
          exact hk _ (List.mem_cons_self ..)
        · exact i2 (fun z hz => hk z (List.mem_cons_of_mem _ hz)) z hz
    · cases h
def subX (l : List As) : Xt → Option Xt
  | .no => some .no
  | .tab lv t => (subTb l t).map (.tab lv)
  | .arr ins => (subIns l ins).map .arr
  | .mp ks ag v t => (subTb l t).map (.mp ks ag v)
  | .own k t => (subTb l t).map (.own k)
  | .al _ => none
theorem subX_tab {l : List As} {x y : Xt} (h : subX l x = some y) : y.isTab = x.isTab ∧ (y.isOwn = x.isOwn ∧ y.isAl = x.isAl) := by
  cases x with
  | no => injection h with h; subst h; exact ⟨rfl, rfl, rfl⟩
  | tab lv t => obtain ⟨u, hu, rfl⟩ := Option.map_eq_some_iff.1 h; exact ⟨rfl, rfl, rfl⟩
  | arr ins => obtain ⟨u, hu, rfl⟩ := Option.map_eq_some_iff.1 h; exact ⟨rfl, rfl, rfl⟩
  | mp ks ag v t => obtain ⟨u, hu, rfl⟩ := Option.map_eq_some_iff.1 h; exact ⟨rfl, rfl, rfl⟩
  | own k t => obtain ⟨u, hu, rfl⟩ := Option.map_eq_some_iff.1 h; exact ⟨rfl, rfl, rfl⟩
  | al t => cases h
def subBk (l : List As) (b : Bk) : Option Bk :=
  match subCs l b.cs, subO l b.str, subX l b.x with
  | some cs, some str, some x => if Nat.beq (rnL l (b.l + 1)) (rnL l b.l + 1) then some ⟨rnL l b.l, b.ty, cs, b.rw, str, x⟩ else none
  | _, _, _ => none
theorem subCs_empty {l : List As} : ∀ {x y : List C}, subCs l x = some y → x.isEmpty = y.isEmpty
  | [], y, h => by injection h with h; subst h; rfl
  | x :: xs, y, h => by
    simp only [subCs] at h
    split at h
    · injection h with h
      subst h
      rfl
    · cases h
theorem bitF_one {β : Bn} {x : C} (h : ∀ l o, x ≠ .ptr l o) (g : Nat) : ¬ bitF β [x] g := by
  unfold bitF
  split
  · rename_i fl o e
    injection e with e _
    exact absurd e (h fl o)
  · exact id
theorem bitF_two {β : Bn} {x y : C} {l : List C} (g : Nat) : ¬ bitF β (x :: y :: l) g := by
  unfold bitF
  split
  · rename_i fl o e
    injection e with _ e
    cases e
  · exact id
theorem bitF_sub {l : List As} {cs ys : List C} (h : subCs l cs = some ys) (β : Bn) : bitF (bnL l β) cs = bitF β ys := by
  funext g
  cases cs with
  | nil => injection h with h; subst h; rfl
  | cons x xs =>
    simp only [subCs] at h
    split at h
    · rename_i y ys' h1 h2
      injection h with h
      subst h
      cases xs with
      | nil =>
        injection h2 with h2
        subst h2
        by_cases hp : ∃ f o, x = .ptr f o
        · obtain ⟨f, o, rfl⟩ := hp
          injection h1 with h1
          subst h1
          rfl
        · refine propext ⟨fun q => absurd q (bitF_one (fun f o e => hp ⟨f, o, e⟩) g), fun q => absurd q (bitF_one (fun f o e => hp ?_) g)⟩
          subst e
          cases x <;> simp only [subC] at h1 <;> first
            | (injection h1 with h1; cases h1; done)
            | (injection h1 with h1; exact ⟨_, _, h1⟩)
            | (cases h1; done)
            | (obtain ⟨u, hu, e⟩ := Option.map_eq_some_iff.1 h1; cases e; done)
            | (split at h1 <;> first | (cases h1; done) | (injection h1 with h1; cases h1; done) | (split at h1 <;> first | (cases h1; done) | (injection h1 with h1; cases h1; done)))
            | exact ⟨_, _, rfl⟩
      | cons z zs =>
        simp only [subCs] at h2
        split at h2
        · injection h2 with h2
          subst h2
          exact propext ⟨fun q => absurd q (bitF_two g), fun q => absurd q (bitF_two g)⟩
        · cases h2
    · cases h
theorem subBk_ok {ρ : Env} {β : Bn} {l : List As} {w : World} {x y : Bk} (h : subBk l x = some y) : y.l = rnL l x.l ∧ y.rw = x.rw ∧ (y.nilable = x.nilable) ∧ β (y.l + 1) = bnL l β (x.l + 1) ∧ (BkOk ρ β w y → BkOk (ρ.sub β l) (bnL l β) w x) ∧ y.own = x.own ∧ bitF (bnL l β) x.cs = bitF β y.cs := by
  unfold subBk at h
  split at h
  · rename_i cs str xt h1 h2 h3
    split at h
    · rename_i q
      have q := Nat.eq_of_beq_eq_true q
      injection h with h
      subst h
      have ht := subX_tab h3
      cases hs : x.str with
      | none =>
        rw [hs] at h2
        injection h2 with h2
        subst h2
        refine ⟨rfl, rfl, by unfold Bk.nilable; rw [hs, ht.1, ht.2.2], by unfold bnL; rw [q], fun hb => ?_, by unfold Bk.own; rw [hs, ht.2.1], bitF_sub h1 β⟩
        unfold BkOk at hb ⊢
        rw [hs]
        simp only [] at hb ⊢
        cases hx : x.x with
        | no =>
          rw [hx] at h3
          injection h3 with h3
          subst h3
          simp only [] at hb ⊢
          rw [subCs_ok h1]
          exact hb
        | tab lv t =>
          rw [hx] at h3
          obtain ⟨u, hu, rfl⟩ := Option.map_eq_some_iff.1 h3
          simp only [] at hb ⊢
          rw [subTb_ok hu]
          unfold bnL
          rw [q]
          exact hb
        | arr ins =>
          rw [hx] at h3
          obtain ⟨u, hu, rfl⟩ := Option.map_eq_some_iff.1 h3
          simp only [] at hb ⊢
          rw [subCs_ok h1, (subIns_ok hu).1]
          exact ⟨hb.1, (subIns_ok hu).2 hb.2⟩
        | mp ks ag v t =>
          rw [hx] at h3
          obtain ⟨u, hu, rfl⟩ := Option.map_eq_some_iff.1 h3
          simp only [] at hb ⊢
          rw [subTb_ok hu]
          exact hb
        | own k t =>
          rw [hx] at h3
          obtain ⟨u, hu, rfl⟩ := Option.map_eq_some_iff.1 h3
          simp only [] at hb ⊢
          rw [subTb_ok hu, bitF_sub h1 β]
          exact hb
        | al t => rw [hx] at h3; cases h3
      | some t =>
        rw [hs] at h2
        obtain ⟨u, hu, rfl⟩ := Option.map_eq_some_iff.1 h2
        refine ⟨rfl, rfl, by unfold Bk.nilable; rw [hs]; rfl, by unfold bnL; rw [q], fun hb => ?_, by unfold Bk.own; rw [hs]; rfl, bitF_sub h1 β⟩
        unfold BkOk at hb ⊢
        rw [hs]
        simp only [] at hb ⊢
        rw [subS_ok hu, subCs_empty h1]
        unfold bnL
        rw [q]
        exact hb
    · cases h
  · cases h

/-! What the letters of a template stand for in a state. -/
def colL (n m : Nat) : List As := if Nat.beq n m then [] else [.l n m]
def colI (x y : Tm) : List As :=
  match x with
  | .iv n => if same y (.iv n) then [] else [.i n y]
  | _ => []
def colC : C → C → List As
  | .int _ x, .int _ y => colI x y
  | .bool (.bv n), .bool t => if same t (.bv n) then [] else [.b n t]
  | .str (.sv n), .str t => if same t (.sv n) then [] else [.s n t]
  | .slr g x y z, .slr h a b c => colL g h ++ (colL (g + 1) (h + 1) ++ (colI x a ++ (colI y b ++ colI z c)))
  | .slc g _ x y, .slc h _ a b => colL g h ++ (colI x a ++ colI y b)
  | .ptr g _, .ptr h _ => colL g h
  | .ptx g x, .ptx h y => colL g h ++ colI x y
  | .slt g _ x y z, .slt h _ a b c => colL g h ++ (colL (g + 1) (h + 1) ++ (colI x a ++ (colI y b ++ colI z c)))
  | .pta g _ _ x _, .pta h _ _ y _ => colL g h ++ colI x y
  | .ptv x, .ptv y => colI x y
  | .vls (.cv n), .vls t => if same t (.cv n) then [] else [.c n t]
  | .map g, .map h => colL g h
  | _, _ => []
def colCs : List C → List C → List As
  | x :: xs, y :: ys => colC x y ++ colCs xs ys
  | _, _ => []
def colV : V1 → V1 → List As
  | .c x, .c y => colC x y
  | .agg x, .agg y => colCs x y
  | _, _ => []
def colT : List SV → List SV → List As
  | .one x :: xs, .one y :: ys => colV x y ++ colT xs ys
  | .any n :: xs, y :: ys => .u n y :: colT xs ys
  | _ :: xs, _ :: ys => colT xs ys
  | _, _ => []
def colTb (x y : Tm) : List As :=
  match x with
  | .cv n => if same y (.cv n) then [] else [.c n y]
  | _ => []
def colIns : List Ins → List Ins → List As
  | x :: xs, y :: ys => colTb x.t y.t ++ colIns xs ys
  | _, _ => []
def colB (x y : Bk) : List As := colCs x.cs y.cs ++ ((match x.str, y.str with
  | some (.sv n), some t => if same t (.sv n) then [] else [.s n t]
  | _, _ => []) ++ (match x.x, y.x with
  | .tab _ s, .tab _ t => colTb s t
  | .arr a, .arr b => colIns a b
  | .mp _ _ _ s, .mp _ _ _ t => colTb s t
  | .own _ s, .own _ t => colTb s t
  | _, _ => []))
/-- The blocks of the template are looked for under the letters that the slots, and the blocks before them, tell. -/
def colH (m : List As) : List Bk → List Bk → List As
  | x :: xs, ys => match ys.find? (fun y => Nat.beq (rnL m x.l) y.l) with
    | some y => colB x y ++ colH (m ++ colB x y) xs ys
    | none => colH m xs ys
  | [], _ => []
def injL (l : List As) (hp : List Bk) : Bool := hp.all fun x => hp.all fun y => Nat.beq x.l y.l || !(Nat.beq (rnL l x.l) (rnL l y.l))
def keepsL (n0 : Nat) : List As → Bool
  | [] => true
  | .l a _ :: l => Nat.ble n0 a && keepsL n0 l
  | _ :: l => keepsL n0 l
theorem keepsL_ok {n0 : Nat} : ∀ {l : List As}, keepsL n0 l = true → ∀ n, n < n0 → rnL l n = n
  | [], _, _, _ => rfl
  | .l a b :: l, h, n, hn => by
    simp only [keepsL, Bool.and_eq_true] at h
    have := Nat.le_of_ble_eq_true h.1
    simp only [rnL]
    rw [if_neg (fun e => by have := Nat.eq_of_beq_eq_true e; omega)]
    exact keepsL_ok h.2 n hn
  | .i _ _ :: l, h, n, hn => keepsL_ok (l := l) h n hn
  | .b _ _ :: l, h, n, hn => keepsL_ok (l := l) h n hn
  | .s _ _ :: l, h, n, hn => keepsL_ok (l := l) h n hn
  | .c _ _ :: l, h, n, hn => keepsL_ok (l := l) h n hn
  | .u _ _ :: l, h, n, hn => keepsL_ok (l := l) h n hn
/-- The state s is of the template's shape: what its letters stand for. -/
def matchS (n0 : Nat) (T s : St) : Option (List As) :=
  let l0 := colT T.tm s.tm
  let l := l0 ++ colH l0 T.hp s.hp
  match subT l T.tm with
  | some tm => if keepsL n0 l && (injL l T.hp && (sameT tm s.tm && T.hp.all (fun b => match subBk l b with | some b' => s.hp.any fun x => sameBk b' x | none => false))) then some l else none
  | none => none
theorem Md.matched {ρ : Env} {S : Nat → Prop} {w0 : World} {β0 : Bn} {n0 : Nat} {s T : St} {β : Bn} {a : Act} {w : World} (hM : Md ρ S w0 β0 n0 s β a w) {l : List As} (h : matchS n0 T s = some l) (hc : T.cx.ok (ρ.sub β l)) : Md (ρ.sub β l) S w0 β0 n0 T (bnL l β) a w := by
  unfold matchS at h
  simp only [] at h
  split at h
  · rename_i tm htm
    split at h
    · rename_i q
      injection h with h
      rw [h] at htm q
      simp only [Bool.and_eq_true] at q
      obtain ⟨q0, q1, q2, q3⟩ := q
      have hk : ∀ b ∈ T.hp, ∃ b' ∈ s.hp, subBk l b = some b' := fun b hb => by
        have := List.all_eq_true.1 q3 b hb
        split at this
        · rename_i b' hb'
          obtain ⟨x, hx, e⟩ := List.any_eq_true.1 this
          exact ⟨b', by rw [sameBk_eq e]; exact hx, hb'⟩
        · cases this
      have hreal : ∀ x x', subBk l x = some x' → x.real (bnL l β) → x'.real β := fun x x' e hr => by
        have f := subBk_ok (ρ := ρ) (β := β) (w := w) e
        unfold Bk.real at hr ⊢
        rw [f.2.2.1, f.2.2.2.1]
        exact hr
      have hfp : ∀ x x', subBk l x = some x' → ∀ g, fp (bnL l β) x g ↔ fp β x' g := fun x x' e g => by
        have f := subBk_ok (ρ := ρ) (β := β) (w := w) e
        unfold fp
        rw [f.2.2.2.2.2.1, f.2.2.2.2.2.2, f.1]
        exact Iff.rfl
      refine ⟨?_, fun b hb => ?_, fun x hx y hy hxy hrx hry => ?_, fun b hb hrw hr => ?_, hc, hM.only, fun n hn => ?_⟩
      · rw [hM.act, subT_ok htm, sameT_eq q2]
      · obtain ⟨b', hb', e⟩ := hk b hb
        exact (subBk_ok e).2.2.2.2.1 (hM.hp b' hb')
      · obtain ⟨x', hx', ex⟩ := hk x hx
        obtain ⟨y', hy', ey⟩ := hk y hy
        have fx := subBk_ok (ρ := ρ) (β := β) (w := w) ex
        have fy := subBk_ok (ρ := ρ) (β := β) (w := w) ey
        have hinj : rnL l x.l ≠ rnL l y.l := fun e => by
          have := List.all_eq_true.1 (List.all_eq_true.1 q1 x hx) y hy
          rw [e, Nat.beq_refl] at this
          simp only [Bool.not_true, Bool.or_false] at this
          exact hxy (Nat.eq_of_beq_eq_true this)
        have := hM.ne x' hx' y' hy' (by rw [fx.1, fy.1]; exact hinj) (hreal x x' ex hrx) (hreal y y' ey hry)
        exact fun g gx gy => this g ((hfp x x' ex g).1 gx) ((hfp y y' ey g).1 gy)
      · obtain ⟨b', hb', e⟩ := hk b hb
        have f := subBk_ok (ρ := ρ) (β := β) (w := w) e
        exact fun g hg => hM.may b' hb' (by rw [f.2.1]; exact hrw) (hreal b b' e hr) g ((hfp b b' e g).1 hg)
      · show β (rnL l n) = β0 n
        rw [keepsL_ok q0 n hn]
        exact hM.old n hn
    · cases h
  · cases h

/-! Leaves of a part, in short. -/
def noU : List As → List As
  | [] => []
  | .u _ _ :: l => noU l
  | .l _ _ :: l => noU l
  | x :: l => x :: noU l
theorem noU_I : ∀ (l : List As) (n : Nat), tmI (noU l) n = tmI l n
  | [], _ => rfl
  | .u _ _ :: l, n => noU_I l n
  | .l _ _ :: l, n => noU_I l n
  | .i m t :: l, n => by simp only [noU, tmI, noU_I l n]
  | .b m t :: l, n => by simp only [noU, tmI, noU_I l n]
  | .s m t :: l, n => by simp only [noU, tmI, noU_I l n]
  | .c m t :: l, n => by simp only [noU, tmI, noU_I l n]
theorem noU_B : ∀ (l : List As) (n : Nat), tmB (noU l) n = tmB l n
  | [], _ => rfl
  | .u _ _ :: l, n => noU_B l n
  | .l _ _ :: l, n => noU_B l n
  | .i m t :: l, n => by simp only [noU, tmB, noU_B l n]
  | .b m t :: l, n => by simp only [noU, tmB, noU_B l n]
  | .s m t :: l, n => by simp only [noU, tmB, noU_B l n]
  | .c m t :: l, n => by simp only [noU, tmB, noU_B l n]
theorem noU_C : ∀ (l : List As) (n : Nat), tmC (noU l) n = tmC l n
  | [], _ => rfl
  | .u _ _ :: l, n => noU_C l n
  | .l _ _ :: l, n => noU_C l n
  | .i m t :: l, n => by simp only [noU, tmC, noU_C l n]
  | .b m t :: l, n => by simp only [noU, tmC, noU_C l n]
  | .s m t :: l, n => by simp only [noU, tmC, noU_C l n]
  | .c m t :: l, n => by simp only [noU, tmC, noU_C l n]
theorem noU_S : ∀ (l : List As) (n : Nat), tmS (noU l) n = tmS l n
  | [], _ => rfl
  | .u _ _ :: l, n => noU_S l n
  | .l _ _ :: l, n => noU_S l n
  | .i m t :: l, n => by simp only [noU, tmS, noU_S l n]
  | .b m t :: l, n => by simp only [noU, tmS, noU_S l n]
  | .s m t :: l, n => by simp only [noU, tmS, noU_S l n]
  | .c m t :: l, n => by simp only [noU, tmS, noU_S l n]
theorem sub_noU (ρ : Env) (β : Bn) (l : List As) : ρ.sub β l = { ρ.sub β (noU l) with u := (ρ.sub β l).u } := by
  simp only [Env.sub, noU_I, noU_B, noU_S, noU_C]
/-- A frame of the template's shape, its letters told anew. -/
theorem Md.enter {ρ : Env} {S : Nat → Prop} {w0 : World} {β0 : Bn} {n0 : Nat} {s T : St} {β : Bn} {a : Act} {w : World} (hM : Md ρ S w0 β0 n0 s β a w) {l : List As} (h : (matchS n0 T s).map noU = some l) (hc : ∀ u, T.cx.ok { ρ.sub β l with u := u }) : ∃ u β', Md { ρ.sub β l with u := u } S w0 β0 n0 T β' a w := by
  obtain ⟨m, hm, rfl⟩ := Option.map_eq_some_iff.1 h
  refine ⟨(ρ.sub β m).u, bnL m β, ?_⟩
  have := Sy.Md.matched hM hm (by rw [sub_noU]; exact hc _)
  rwa [sub_noU] at this

inductive Sh where
  | must (t : Tm) (pc : List Tm)
  | out (k : Nat) (e : Ex) (pc : List Tm)
  | back (l : List As) (pc : List Tm)
  deriving Repr, Inhabited
def shL (n0 : Nat) (T : Option St) : Nat → List Lf → Option (List Sh)
  | _, [] => some []
  | k, x :: l => match (match x with
      | .must t s => some (Sh.must t s.cx.pc)
      | .out .normal s => match T with
        | none => some (.out k .normal s.cx.pc)
        | some T => match matchS n0 T s with
          | some l => some (.back (noU l) s.cx.pc)
          | none => some (.must (.bl false) s.cx.pc)
      | .out e s => some (.out k e s.cx.pc)), shL n0 T (k + 1) l with
    | some y, some ys => some (y :: ys)
    | _, _ => none
def shR (n0 : Nat) (T : Option St) : Rs → Option (List Sh)
  | .ok l => shL n0 T 0 l
  | .error _ => none
def lfAt (r : Rs) (k : Nat) : St :=
  match r with
  | .ok l => match l[k]? with
    | some (.out _ s) => s
    | _ => ⟨[], [], ⟨[], []⟩, 0⟩
  | .error _ => ⟨[], [], ⟨[], []⟩, 0⟩
def Sh.done (r : Rs) (B : Bs) (Q : Exit → Act → World → Prop) (again : List As → Bn → Prop) : Sh → Prop
  | .must t pc => pcs B.ρ pc → (den B.ρ t).b = true
  | .out k e pc => pcs B.ρ pc → ∀ β a w, B.Md (lfAt r k) β a w → Q e.to a w
  | .back l pc => pcs B.ρ pc → ∀ β, again l β
theorem shL_ok {T : Option St} {r : Rs} {B : Bs} {Q : Exit → Act → World → Prop} {again : List As → Bn → Prop} (hag : ∀ T', T = some T' → ∀ l s, matchS B.n0 T' s = some l → ∀ β a w, B.Md s β a w → again (noU l) β → Q .normal a w) :
    ∀ {l : List Lf} {k : Nat} {ys : List Sh}, (∀ j x, l[j]? = some x → ∀ e s, x = .out e s → lfAt r (k + j) = s) → shL B.n0 T k l = some ys → AllL (Sh.done r B Q again) ys → LOk B Q l
  | [], _, _, _, _, _ => LOk.nil
  | x :: l, k, ys, hat, h, hd => by
    simp only [shL] at h
    split at h
    · rename_i y ys' h1 h2
      injection h with h
      subst h
      intro z hz
      rcases List.mem_cons.1 hz with rfl | hz
      · have hy := hd.1
        cases z with
        | must t s =>
          injection h1 with h1
          subst h1
          exact fun β a w hM => hy (pcs_of hM.cx.pc)
        | out e s =>
          have hs := hat 0 _ rfl e s rfl
          rw [Nat.add_zero] at hs
          have fin : ∀ e, y = .out k e s.cx.pc → ∀ β a w, B.Md s β a w → Q e.to a w := fun e he β a w hM => by
            subst he
            exact hy (pcs_of hM.cx.pc) β a w (by rw [hs]; exact hM)
          cases e with
          | normal =>
            cases hT : T with
            | none =>
              simp only [hT] at h1
              injection h1 with h1
              exact fin .normal h1.symm
            | some T' =>
              simp only [hT] at h1
              split at h1
              · rename_i m ha
                injection h1 with h1
                subst h1
                exact fun β a w hM => hag T' hT m s ha β a w hM (hy (pcs_of hM.cx.pc) β)
              · injection h1 with h1
                subst h1
                intro β a w hM
                have := hy (pcs_of hM.cx.pc)
                cases this
          | exit n =>
            simp only [] at h1
            injection h1 with h1
            exact fin (.exit n) h1.symm
          | ret =>
            simp only [] at h1
            injection h1 with h1
            exact fin .ret h1.symm
      · refine shL_ok hag (k := k + 1) (fun j x hx e s he => ?_) h2 hd.2 z hz
        have := hat (j + 1) x (by simpa using hx) e s he
        rwa [show k + 1 + j = k + (j + 1) from by omega]
    · cases h
theorem shR_ok {T : Option St} {r : Rs} {B : Bs} {Q : Exit → Act → World → Prop} {again : List As → Bn → Prop} (hag : ∀ T', T = some T' → ∀ l s, matchS B.n0 T' s = some l → ∀ β a w, B.Md s β a w → again (noU l) β → Q .normal a w) {ys : List Sh} (h : shR B.n0 T r = some ys) (hd : AllL (Sh.done r B Q again) ys) : ∃ l, r = .ok l ∧ LOk B Q l := by
  unfold shR at h
  split at h
  · rename_i l
    refine ⟨l, rfl, shL_ok (r := .ok l) (k := 0) hag (fun j x hx e s he => ?_) h hd⟩
    subst he
    unfold lfAt
    simp only [Nat.zero_add, hx]
  · cases h
/-- A part of the code. -/
theorem part_wp {P : Program} {B : Bs} {sp : List Spec} (hρ : B.ρ.good) (hsp : ∀ q ∈ sp, q.Ok P B.ρ) {lim fuel n0 : Nat} (hn : B.n0 = n0) {c : Code} {s : St} {r : Rs} (hr : r = run P sp lim fuel n0 (.code c) s) {ys : List Sh} (hrun : shR n0 none r = some ys) {Q : Exit → Act → World → Prop} (hd : AllL (Sh.done r B Q fun _ _ => False) ys)
    {β : Bn} {a : Act} {w : World} (hM : B.Md s β a w) : c.wp P Q a w := by
  obtain ⟨l, hl, hok⟩ := shR_ok (fun T' hT => by cases hT) (hn ▸ hrun) hd
  exact run_ok hρ hsp lim fuel n0 (.code c) s l (hr.symm.trans hl) B Q rfl hn trivial hok β a w hM

theorem least {p : Nat → Prop} (h : ∃ n, p n) : ∃ n, p n ∧ ∀ m, p m → n ≤ m := by
  obtain ⟨n, hn⟩ := h
  induction n using Nat.strongRecOn with
  | _ n ih =>
    by_cases hx : ∃ m, m < n ∧ p m
    · obtain ⟨m, hm, hp⟩ := hx
      exact ih m hm hp
    · refine ⟨n, hn, fun m hm => ?_⟩
      rcases Nat.lt_or_ge m n with h | h
      · exact absurd ⟨m, h, hm⟩ hx
      · exact h
/-! A place within a function's code: what is run ahead of it, what behind it. -/
def pre : List Nat → Code → Code
  | [], _ => .skip
  | 0 :: p, .seq a _ => pre p a
  | 1 :: p, .seq a b => .seq a (pre p b)
  | 2 :: p, .block _ a => pre p a
  | 2 :: p, .scope a => pre p a
  | _, _ => .goto 0
def sub : List Nat → Code → Code
  | [], c => c
  | 0 :: p, .seq a _ => sub p a
  | 1 :: p, .seq _ b => sub p b
  | 2 :: p, .block _ a => sub p a
  | 2 :: p, .scope a => sub p a
  | _, c => c
def ctx (P : Program) : List Nat → Code → (Exit → Act → World → Prop) → Exit → Act → World → Prop
  | [], _, Q => Q
  | 0 :: p, .seq a b, Q => ctx P p a (Exit.then (b.wp P Q) Q)
  | 1 :: p, .seq _ b, Q => ctx P p b Q
  | 2 :: p, .block id a, Q => ctx P p a (Exit.inBlock id Q)
  | 2 :: p, .scope a, Q => ctx P p a (Exit.noGoto Q)
  | _, _, Q => Q
def aft (e : Ex) : List Nat → Code → Code
  | [], _ => match e with
    | .normal => .skip
    | .exit n => .exit n
    | .ret => .ret
  | 0 :: p, .seq a b => .seq (aft e p a) b
  | 1 :: p, .seq _ b => aft e p b
  | 2 :: p, .block id a => .block id (aft e p a)
  | 2 :: p, .scope a => .scope (aft e p a)
  | _, _ => .goto 0
def lpBody : Code → Code
  | .loop a => a
  | c => c
/-- No block that the place lies in is ended by that exit. -/
def outOf (n : Nat) : List Nat → Code → Prop
  | 0 :: p, .seq a _ => outOf n p a
  | 1 :: p, .seq _ b => outOf n p b
  | 2 :: p, .block id a => n ≠ id ∧ outOf n p a
  | 2 :: p, .scope a => outOf n p a
  | _, _ => True
/-- What is asked of the code's run ahead of the place. -/
def Qpre (P : Program) (p : List Nat) (c : Code) (Q : Exit → Act → World → Prop) : Exit → Act → World → Prop
  | .normal, a, w => (sub p c).wp P (ctx P p c Q) a w
  | .ret, a, w => Q .ret a w
  | .exit n, a, w => outOf n p c ∧ Q (.exit n) a w
  | _, _, _ => False
section
variable {P : Program} {B : Bs} {sp : List Spec} {lim n0 : Nat}
theorem run_code (n : Nat) (c : Code) (s : St) : run P sp lim (n + 1) n0 (.code c) s = codeRun P lim (run P sp lim n) n0 c s := rfl
theorem pre_wp (hρ : B.ρ.good) (hsp : ∀ q ∈ sp, q.Ok P B.ρ) (hn : B.n0 = n0) : ∀ (p : List Nat) (c : Code) (Q : Exit → Act → World → Prop) (fuel : Nat) (s : St) (r : List Lf), run P sp lim fuel n0 (.code (pre p c)) s = .ok r → LOk B (Qpre P p c Q) r → ∀ β a w, B.Md s β a w → c.wp P Q a w := by
  intro p
  induction p with
  | nil =>
    intro c Q fuel s r h hl β a w hM
    cases fuel with
    | zero => cases h
    | succ fuel =>
      rw [run_code] at h
      simp only [pre, codeRun] at h
      exact out1_ok h hl β a w hM
  | cons d p ih =>
    intro c Q fuel s r h hl β a w hM
    cases fuel with
    | zero => cases h
    | succ fuel =>
      rcases d with _ | _ | _ | d
      · cases c <;> try (cases h; done)
        rename_i x y
        refine wp_seq (ih x (Exit.then (y.wp P Q) Q) (fuel + 1) s r h (fun z hz => ?_) β a w hM)
        have := hl z hz
        cases z with
        | must t s => exact this
        | out e s => cases e <;> exact this
      · cases c <;> try (cases h; done)
        rename_i x y
        rw [run_code] at h
        simp only [pre, codeRun] at h
        obtain ⟨l', hl1, hbd⟩ := bindR_ok h
        refine wp_seq (run_ok hρ hsp lim fuel n0 (.code x) s l' hl1 B (Exit.then (y.wp P Q) Q) rfl hn trivial ?_ β a w hM)
        refine bindL_ok (B := B) (B' := B) (Q := Qpre P (1 :: p) (.seq x y) Q) rfl (fun s β a w h => ⟨β, a, h⟩) ?_ hbd hl
        intro e s1 r1 hf hlr β1 a1 w1 hM1
        cases e with
        | normal =>
          refine ih y Q fuel s1 r1 hf (fun z hz => ?_) β1 a1 w1 hM1
          have := hlr z hz
          cases z with
          | must t s => exact this
          | out e s => cases e <;> exact this
        | exit n => exact (end_ok (e := .exit n) hf hlr _ _ _ hM1).2
        | ret => exact end_ok (e := .ret) hf hlr _ _ _ hM1
      · cases c <;> try (cases h; done)
        · rename_i id x
          refine wp_block (ih x (Exit.inBlock id Q) (fuel + 1) s r h (fun z hz => ?_) β a w hM)
          have := hl z hz
          cases z with
          | must t s => exact this
          | out e s => cases e with
            | exit n => exact fun β a w hM => ⟨(this β a w hM).1.2, (by
                show (if n = id then Q .normal a w else Q (.exit n) a w)
                rw [if_neg (this β a w hM).1.1]
                exact (this β a w hM).2)⟩
            | normal => exact this
            | ret => exact this
        · rename_i x
          refine wp_scope_straight (ih x (Exit.noGoto Q) (fuel + 1) s r h (fun z hz => ?_) β a w hM)
          have := hl z hz
          cases z with
          | must t s => exact this
          | out e s => cases e <;> exact this
      · cases c <;> cases h
theorem aft_wp (hρ : B.ρ.good) (hsp : ∀ q ∈ sp, q.Ok P B.ρ) (hn : B.n0 = n0) (e : Ex) : ∀ (p : List Nat) (c : Code) (Q : Exit → Act → World → Prop) (fuel : Nat) (s : St) (r : List Lf), run P sp lim fuel n0 (.code (aft e p c)) s = .ok r → LOk B Q r → ∀ β a w, B.Md s β a w → ctx P p c Q e.to a w := by
  intro p
  induction p with
  | nil =>
    intro c Q fuel s r h hl β a w hM
    cases fuel with
    | zero => cases h
    | succ fuel =>
      rw [run_code] at h
      cases e with
      | normal => simp only [aft, codeRun] at h; exact out1_ok h hl β a w hM
      | exit n => simp only [aft, codeRun] at h; exact end_ok (e := .exit n) h hl β a w hM
      | ret => simp only [aft, codeRun] at h; exact end_ok (e := .ret) h hl β a w hM
  | cons d p ih =>
    intro c Q fuel s r h hl β a w hM
    cases fuel with
    | zero => cases h
    | succ fuel =>
      rcases d with _ | _ | _ | d
      · cases c <;> try (cases h; done)
        rename_i x y
        rw [run_code] at h
        simp only [aft, codeRun] at h
        obtain ⟨l', hl1, hbd⟩ := bindR_ok h
        refine ih x (Exit.then (y.wp P Q) Q) fuel s l' hl1 ?_ β a w hM
        refine bindL_ok (B := B) (B' := B) (Q := Q) rfl (fun s β a w h => ⟨β, a, h⟩) ?_ hbd hl
        intro e s1 r1 hf hlr β1 a1 w1 hM1
        cases e with
        | normal => exact run_ok hρ hsp lim fuel n0 (.code y) s1 r1 hf B Q rfl hn trivial hlr β1 a1 w1 hM1
        | exit n => exact end_ok (e := .exit n) hf hlr _ _ _ hM1
        | ret => exact end_ok (e := .ret) hf hlr _ _ _ hM1
      · cases c <;> try (cases h; done)
        rename_i x y
        exact ih y Q (fuel + 1) s r h hl β a w hM
      · cases c <;> try (cases h; done)
        · rename_i id x
          rw [run_code] at h
          simp only [aft, codeRun] at h
          obtain ⟨l', hl1, hbd⟩ := bindR_ok h
          refine ih x (Exit.inBlock id Q) fuel s l' hl1 ?_ β a w hM
          refine bindL_ok (B := B) (B' := B) (Q := Q) rfl (fun s β a w h => ⟨β, a, h⟩) ?_ hbd hl
          intro e s1 r1 hf hlr β1 a1 w1 hM1
          cases e with
          | normal => exact end_ok (e := .normal) hf hlr _ _ _ hM1
          | ret => exact end_ok (e := .ret) hf hlr _ _ _ hM1
          | exit n =>
            simp only [] at hf
            show (if n = id then Q .normal a1 w1 else Q (.exit n) a1 w1)
            split at hf
            · rename_i q
              rw [if_pos (Nat.eq_of_beq_eq_true q)]
              exact out1_ok hf hlr _ _ _ hM1
            · rename_i q
              rw [if_neg (fun h => q (by rw [h]; exact Nat.beq_refl _))]
              exact end_ok (e := .exit n) hf hlr _ _ _ hM1
        · rename_i x
          rw [run_code] at h
          simp only [aft, codeRun] at h
          refine ih x (Exit.noGoto Q) fuel s r h (fun z hz => ?_) β a w hM
          have := hl z hz
          cases z with
          | must t s => exact this
          | out e s => exact fun β a w hM => noGoto_to (this β a w hM)
      · cases c <;> cases h
end
/-- What is run ahead of a place. -/
theorem part_pre {P : Program} {B : Bs} {sp : List Spec} (hρ : B.ρ.good) (hsp : ∀ q ∈ sp, q.Ok P B.ρ) {lim fuel n0 : Nat} (hn : B.n0 = n0) {p : List Nat} {c : Code} {s : St} {r : Rs} (hr : r = run P sp lim fuel n0 (.code (pre p c)) s) {ys : List Sh} (hrun : shR n0 none r = some ys) {Q : Exit → Act → World → Prop} (hd : AllL (Sh.done r B (Qpre P p c Q) fun _ _ => False) ys)
    {β : Bn} {a : Act} {w : World} (hM : B.Md s β a w) : c.wp P Q a w := by
  obtain ⟨l, hl, hok⟩ := shR_ok (fun T' hT => by cases hT) (hn ▸ hrun) hd
  exact pre_wp hρ hsp hn p c Q fuel s l (hr.symm.trans hl) hok β a w hM
/-- What is run behind it. -/
theorem part_aft {P : Program} {B : Bs} {sp : List Spec} (hρ : B.ρ.good) (hsp : ∀ q ∈ sp, q.Ok P B.ρ) {lim fuel n0 : Nat} (hn : B.n0 = n0) (e : Ex) {p : List Nat} {c : Code} {s : St} {r : Rs} (hr : r = run P sp lim fuel n0 (.code (aft e p c)) s) {ys : List Sh} (hrun : shR n0 none r = some ys) {Q : Exit → Act → World → Prop} (hd : AllL (Sh.done r B Q fun _ _ => False) ys)
    {β : Bn} {a : Act} {w : World} (hM : B.Md s β a w) : ctx P p c Q e.to a w := by
  obtain ⟨l, hl, hok⟩ := shR_ok (fun T' hT => by cases hT) (hn ▸ hrun) hd
  exact aft_wp hρ hsp hn e p c Q fuel s l (hr.symm.trans hl) hok β a w hM

/-! The end of a function. -/
def RetP (R : Value → World → Prop) : Ending → World → Prop := fun e w' => ∃ v, e = .returned v ∧ R v w'
theorem ret_post {P : Program} {fn : Func} {R : Value → World → Prop} {B : Bs} {s : St} {β : Bn} {a : Act} {w : World} (hM : B.Md s β a w) {v : SV} (hv : retS P s fn.results.toList = some v) (hR : R (v.den B.ρ β) w) : bodyPost P fn (RetP R) .ret a w := by
  have : a.defers = [] ∧ ∃ u, (results fn a.tmps).run P w = .ok u w ∧ ∃ v, Ending.returned u = .returned v ∧ R v w :=
    ⟨by rw [hM.act], v.den B.ρ β, retS_ok hM hv, _, rfl, hR⟩
  exact this
theorem done_ok {P : Program} {fn : Func} {R : Value → World → Prop} {B : Bs} {l : List Lf} (hR : AllL (Lf.done P fn B R) l) : LOk B (bodyPost P fn (RetP R)) l := by
  intro x hx
  have hd := AllL_mem hR x hx
  cases x with
  | must t s1 => exact hd
  | out e s1 =>
    intro β1 a1 w1 h1
    unfold Lf.done at hd
    have fin : ∀ v, retS P s1 fn.results.toList = some v → R (v.den B.ρ β1) w1 → a1.defers = [] ∧ ∃ u, (results fn a1.tmps).run P w1 = .ok u w1 ∧ ∃ v, Ending.returned u = .returned v ∧ R v w1 :=
      fun v hv hr => ⟨by rw [h1.act], v.den B.ρ β1, retS_ok h1 hv, _, rfl, hr⟩
    cases e with
    | exit n => exact hd.elim
    | normal =>
      cases hv : retS P s1 fn.results.toList with
      | none => simp only [hv] at hd
      | some v => simp only [hv] at hd; exact fin v hv (hd β1 a1 w1 h1)
    | ret =>
      cases hv : retS P s1 fn.results.toList with
      | none => simp only [hv] at hd
      | some v => simp only [hv] at hd; exact fin v hv (hd β1 a1 w1 h1)
theorem ctx_ret {P : Program} {a : Act} {w : World} : ∀ (p : List Nat) (c : Code) (Q : Exit → Act → World → Prop), Q .ret a w → ctx P p c Q .ret a w := by
  intro p
  induction p with
  | nil => intro c Q h; exact h
  | cons d p ih =>
    intro c Q h
    rcases d with _ | _ | _ | d
    · cases c <;> try exact h
      exact ih _ _ h
    · cases c <;> try exact h
      exact ih _ _ h
    · cases c <;> try exact h
      · exact ih _ _ h
      · exact ih _ _ h
    · cases c <;> exact h
/-- What is run behind a place, to the function's end. -/
theorem aft_fin {P : Program} {B : Bs} {sp : List Spec} (hρ : B.ρ.good) (hsp : ∀ q ∈ sp, q.Ok P B.ρ) {lim fuel n0 : Nat} (hn : B.n0 = n0) (e : Ex) {p : List Nat} {fn : Func} {s : St} {ys : List Sm} (hrun : smR P fn n0 (run P sp lim fuel n0 (.code (aft e p (bodyOf fn))) s) = some ys) {R : Value → World → Prop} (hR : AllL (Sm.done B R) ys)
    {β : Bn} {a : Act} {w : World} (hM : B.Md s β a w) : ctx P p (bodyOf fn) (bodyPost P fn (RetP R)) e.to a w := by
  subst hn
  unfold smR at hrun
  split at hrun
  · rename_i l hl
    exact aft_wp hρ hsp rfl e p (bodyOf fn) _ fuel s l hl (done_ok (smL_ok hrun hR)) β a w hM
  · cases hrun
/-- A function, from the run ahead of a place in it. -/
theorem calls_pre {P : Program} {B : Bs} {sp : List Spec} (hρ : B.ρ.good) (hsp : ∀ q ∈ sp, q.Ok P B.ρ) {lim fuel n0 : Nat} (hn : B.n0 = n0) {f : FuncId} {fn : Func} (hf : P.funcs[f]? = some fn) (hb : fn.body.isSome = true) {p : List Nat} {xs : List SV} {s : St} {r : Rs}
    (hr : r = run P sp lim fuel n0 (.code (pre p (bodyOf fn))) (enterS fn xs s)) {ys : List Sh} (hrun : shR n0 none r = some ys) {w : World} (hM : B.Md { s with tm := [] } B.β0 ⟨#[], []⟩ w) {R : Value → World → Prop} (hd : AllL (Sh.done r B (Qpre P p (bodyOf fn) (bodyPost P fn (RetP R))) fun _ _ => False) ys)
    {args : Array Value} (hargs : args = (xs.map (SV.den B.ρ B.β0)).toArray) : Calls P f args w (RetP R) := by
  subst hargs
  obtain ⟨c, hc⟩ := Option.isSome_iff_exists.1 hb
  have hbc : bodyOf fn = c := by unfold bodyOf; rw [hc]; rfl
  refine calls_of_wp hf hc ?_
  have hact : (⟨(xs.map (SV.den B.ρ B.β0)).toArray ++ Array.replicate (fn.ntmps - (xs.map (SV.den B.ρ B.β0)).toArray.size) undef, []⟩ : Act) = ⟨((enterS fn xs s).tm.map (SV.den B.ρ B.β0)).toArray, []⟩ := by
    simp [enterS, undS_den]
  rw [hact, ← hbc]
  exact part_pre hρ hsp hn hr hrun hd (β := B.β0) ⟨rfl, hM.hp, hM.ne, hM.may, hM.cx, hM.only, hM.old⟩

/-! A contract shown by calls: what is left of a frame. -/
theorem Only.after {S T : Nat → Prop} {w0 w w' : World} (h : Only S w0 w) (k : Only T w w') (hT : ∀ i, T i → S i ∨ w0.heap.size ≤ i) : Only S w0 w' :=
  ⟨k.os.trans h.os, k.tape.trans h.tape, k.output.trans h.output, Nat.le_trans h.size k.size, fun i hi hs => (k.block i (Nat.lt_of_lt_of_le hi h.size) fun ht => by
    rcases hT i ht with h | h
    · exact hs h
    · omega).trans (h.block i hi hs)⟩
theorem Md.after {ρ : Env} {S T : Nat → Prop} {w0 w w' : World} {β0 : Bn} {n0 : Nat} {s s1 : St} {β : Bn} {a : Act} (hM : Md ρ S w0 β0 n0 s β a w) (ho : Only T w w') (hT : ∀ i, T i → S i ∨ w0.heap.size ≤ i) (ht : s1.tm = s.tm) (hc : s1.cx.ok ρ)
    (hb : ∀ x ∈ s1.hp, ∃ y ∈ s.hp, x.l = y.l ∧ (x.rw = true → y.rw = true) ∧ x.nilable = y.nilable ∧ (x.own = true → y.own = true ∧ x.cs = y.cs)) (hk : ∀ x ∈ s1.hp, BkOk ρ β w' x) : Md ρ S w0 β0 n0 s1 β a w' := by
  refine ⟨by rw [ht]; exact hM.act, hk, fun x hx y hy hne hrx hry => ?_, fun x hx hw hr => ?_, hc, Sy.Only.after hM.only ho hT, hM.old⟩
  · obtain ⟨x', hx', ex, _, rx, ox⟩ := hb x hx
    obtain ⟨y', hy', ey, _, ry, oy⟩ := hb y hy
    rw [ex, ey] at hne
    have := hM.ne x' hx' y' hy' hne (by unfold Bk.real at hrx ⊢; rwa [← ex, ← rx]) (by unfold Bk.real at hry ⊢; rwa [← ey, ← ry])
    exact fun g gx gy => this g (fp_in ex ox g gx) (fp_in ey oy g gy)
  · obtain ⟨x', hx', ex, wx, rx, ox⟩ := hb x hx
    exact fun g hg => hM.may x' hx' (wx hw) (by unfold Bk.real at hr ⊢; rwa [← ex, ← rx]) g (fp_in ex ox g hg)
theorem BkOk.only {ρ : Env} {β : Bn} {T : Nat → Prop} {w w' : World} {b : Bk} (h : BkOk ρ β w b) (ho : Only T w w') (hn : b.real β → ∀ g, fp β b g → ¬ T g) : BkOk ρ β w' b := h.keep fun hr g hg hlt => ho.block _ hlt (hn hr g hg)

/-- A loop whose rounds are told by an index. -/
theorem wp_loop_ix {ι : Type} {P : Program} {Q : Exit → Act → World → Prop} {c : Code} (I : ι → Act → World → Prop) (μ : ι → Nat)
    (round : ∀ i a w, I i a w → c.wp P (Exit.then (fun a' w' => ∃ j, μ j < μ i ∧ I j a' w') Q) a w) (i : ι) {a : Act} {w : World} (h : I i a w) : (Code.loop c).wp P Q a w := by
  classical
  let J : Act → World → Nat → Prop := fun a w n => ∃ i, I i a w ∧ μ i = n
  let m : Act → World → Nat := fun a w => if h : ∃ n, J a w n then (least h).choose else 0
  refine wp_loop (fun a w => ∃ i, I i a w) m ⟨i, h⟩ ?_
  rintro a w ⟨i0, hi0⟩
  have hx : ∃ n, J a w n := ⟨μ i0, i0, hi0, rfl⟩
  have hm : m a w = (least hx).choose := dif_pos hx
  obtain ⟨i, hi, hmi⟩ := (least hx).choose_spec.1
  refine wp_mono (round i a w hi) ?_
  intro e a' w' hq
  cases e with
  | normal =>
    obtain ⟨j, hj, hI⟩ := hq
    refine ⟨⟨j, hI⟩, ?_⟩
    have hx' : ∃ n, J a' w' n := ⟨μ j, j, hI, rfl⟩
    have hm' : m a' w' = (least hx').choose := dif_pos hx'
    have : (least hx').choose ≤ μ j := (least hx').choose_spec.2 _ ⟨j, hI, rfl⟩
    omega
  | _ => exact hq
theorem shL_some {n0 : Nat} {T : St} : ∀ {l : List Lf} {k : Nat} {ys : List Sh}, shL n0 (some T) k l = some ys → ∀ y ∈ ys, ∀ j pc, y ≠ .out j .normal pc
  | [], k, ys, h, y, hy => by injection h with h; subst h; cases hy
  | x :: l, k, ys, h, y, hy => by
    simp only [shL] at h
    split at h
    · rename_i z zs h1 h2
      injection h with h
      subst h
      rcases List.mem_cons.1 hy with rfl | hy
      · intro j pc e
        subst e
        cases x with
        | must t s => cases h1
        | out e s =>
          cases e with
          | normal =>
            simp only [] at h1
            split at h1
            · injection h1 with h1; cases h1
            · injection h1 with h1; cases h1
          | exit n => cases h1
          | ret => cases h1
      · exact shL_some h2 y hy
    · cases h
theorem AllL_imp {α : Type} {p q : α → Prop} : ∀ {l : List α}, (∀ x ∈ l, p x → q x) → AllL p l → AllL q l
  | [], _, _ => trivial
  | x :: l, h, hp => ⟨h x (List.mem_cons_self ..) hp.1, AllL_imp (fun y hy => h y (List.mem_cons_of_mem _ hy)) hp.2⟩
/-- Leaves that end where the next round begins. -/
def NextR (S : Nat → Prop) (w0 : World) (β0 : Bn) (n0 : Nat) (T : St) (I : Env → Prop) (μ : Env → Nat) (m : Nat) : Act → World → Prop := fun a' w' => ∃ j, μ j < m ∧ (I j ∧ ∃ β, Md j S w0 β0 n0 T β a' w')
theorem back_ok {S : Nat → Prop} {w0 : World} {β0 : Bn} {n0 : Nat} {T : St} {r : Rs} {ys : List Sh} (hrun : shR n0 (some T) r = some ys) {Q : Exit → Act → World → Prop} {I : Env → Prop} {μ : Env → Nat} {m : Nat} (hcx : ∀ ρ, I ρ → T.cx.ok ρ) {ρ : Env}
    (hd : AllL (Sh.done r ⟨ρ, S, w0, β0, n0⟩ Q fun l β => ∀ u, I { ρ.sub β l with u := u } ∧ μ { ρ.sub β l with u := u } < m) ys) : ∃ l, r = .ok l ∧ LOk ⟨ρ, S, w0, β0, n0⟩ (Exit.then (NextR S w0 β0 n0 T I μ m) Q) l := by
  have hno : ∀ y ∈ ys, ∀ j pc, y ≠ .out j .normal pc := by
    unfold shR at hrun
    split at hrun
    · exact shL_some hrun
    · cases hrun
  exact shR_ok (B := ⟨ρ, S, w0, β0, n0⟩) (Q := Exit.then (NextR S w0 β0 n0 T I μ m) Q) (again := fun l β => ∀ u, I { ρ.sub β l with u := u } ∧ μ { ρ.sub β l with u := u } < m)
    (by
      intro T' hT l s hm β a w hM h
      injection hT with hT
      subst hT
      obtain ⟨h1, h2⟩ := h (ρ.sub β l).u
      rw [← sub_noU] at h1 h2
      exact ⟨_, h2, h1, _, Sy.Md.matched hM hm (hcx _ h1)⟩) hrun (AllL_imp (fun y hy hd => by
        cases y with
        | must t pc => exact hd
        | back l pc => exact hd
        | out k e pc =>
          cases e with
          | normal => exact absurd rfl (hno _ hy k pc)
          | exit n => exact hd
          | ret => exact hd) hd)
/-- The round's last part. -/
theorem round_aft {P : Program} {sp : List Spec} {S : Nat → Prop} {w0 : World} {β0 : Bn} {lim fuel n0 : Nat} (e : Ex) {p : List Nat} {c : Code} {s T : St} {r : Rs} (hr : r = run P sp lim fuel n0 (.code (aft e p c)) s) {ys : List Sh} (hrun : shR n0 (some T) r = some ys) {Q : Exit → Act → World → Prop}
    {I : Env → Prop} {μ : Env → Nat} {m : Nat} (hcx : ∀ ρ, I ρ → T.cx.ok ρ) {ρ : Env} (hg : ρ.good) (hsp : ∀ q ∈ sp, q.Ok P ρ)
    (hd : AllL (Sh.done r ⟨ρ, S, w0, β0, n0⟩ Q fun l β => ∀ u, I { ρ.sub β l with u := u } ∧ μ { ρ.sub β l with u := u } < m) ys)
    {β : Bn} {a : Act} {w : World} (hM : Md ρ S w0 β0 n0 s β a w) : ctx P p c (Exit.then (NextR S w0 β0 n0 T I μ m) Q) e.to a w := by
  obtain ⟨l, hl, hok⟩ := back_ok hrun hcx hd
  exact aft_wp (B := ⟨ρ, S, w0, β0, n0⟩) hg hsp rfl e p c _ fuel s l (hr.symm.trans hl) hok β a w hM
/-- A loop, whose rounds are shown by hand. -/
theorem loop_round {P : Program} {S : Nat → Prop} {w0 : World} {β0 : Bn} {n0 : Nat} {c : Code} {T : St} {Q : Exit → Act → World → Prop} (I : Env → Prop) (μ : Env → Nat)
    (round : ∀ ρ, I ρ → ∀ β a w, Md ρ S w0 β0 n0 T β a w → c.wp P (Exit.then (NextR S w0 β0 n0 T I μ (μ ρ)) Q) a w)
    {ρ : Env} (hI : I ρ) {β : Bn} {a : Act} {w : World} (hM : Md ρ S w0 β0 n0 T β a w) : (Code.loop c).wp P Q a w :=
  wp_loop_ix (ι := Env) (fun ρ a w => I ρ ∧ ∃ β, Md ρ S w0 β0 n0 T β a w) μ (fun ρ a w ⟨hI, β, hM⟩ => round ρ hI β a w hM) ρ ⟨hI, β, hM⟩
/-- A loop: the rounds begin in frames of the template's shape; what its letters stand for satisfies I. -/
theorem loop_wp {P : Program} {sp : List Spec} {S : Nat → Prop} {w0 : World} {β0 : Bn} {lim fuel n0 : Nat} {c : Code} {T : St} {r : Rs} (hr : r = run P sp lim fuel n0 (.code c) T) {ys : List Sh} (hrun : shR n0 (some T) r = some ys) {Q : Exit → Act → World → Prop}
    (I : Env → Prop) (μ : Env → Nat) (hg : ∀ ρ, I ρ → ρ.good) (hsp : ∀ ρ, I ρ → ∀ q ∈ sp, q.Ok P ρ) (hcx : ∀ ρ, I ρ → T.cx.ok ρ)
    (hd : ∀ ρ, I ρ → AllL (Sh.done r ⟨ρ, S, w0, β0, n0⟩ Q fun l β => ∀ u, I { ρ.sub β l with u := u } ∧ μ { ρ.sub β l with u := u } < μ ρ) ys)
    {ρ : Env} (hI : I ρ) {β : Bn} {a : Act} {w : World} (hM : Md ρ S w0 β0 n0 T β a w) : (Code.loop c).wp P Q a w := by
  refine loop_round I μ (fun ρ hI β a w hM => ?_) hI hM
  obtain ⟨l, hl, hok⟩ := back_ok hrun hcx (hd ρ hI)
  exact run_ok (hg ρ hI) (hsp ρ hI) lim fuel n0 (.code c) T l (hr.symm.trans hl) ⟨ρ, S, w0, β0, n0⟩ _ rfl rfl trivial hok β a w hM
#print axioms loop_wp
end Sy
end Go.Proofs.Ytnmfmjlpfhdgeaa
