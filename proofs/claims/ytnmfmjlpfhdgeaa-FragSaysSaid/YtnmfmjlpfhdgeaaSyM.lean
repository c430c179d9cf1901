/- Contracts in letters, of functions that only make memory; the ends of a run, in short. -/
import Derived.Test.YtnmfmjlpfhdgeaaSyL
namespace Go.Proofs.Ytnmfmjlpfhdgeaa
namespace Sy
open Go Go.RowKit
set_option linter.unusedVariables false

/-- A contract of a function that changes nothing that was there. -/
def pureSpec (f : FuncId) (pre : Cx → List SV → Option (List Tm)) (res : Cx → List SV → Option (SV × List Bd)) : Spec where
  f := f
  pre := fun s xs => pre s.cx xs
  go := fun _ s xs => match res s.cx xs with
    | some (v, bs) => some ({ s with cx := ⟨bs ++ s.cx.bs, s.cx.pc⟩ }, v)
    | none => none
theorem pureSpec_ok {P : Program} {ρ : Env} {f : FuncId} {pre : Cx → List SV → Option (List Tm)} {res : Cx → List SV → Option (SV × List Bd)}
    (h : ∀ c xs m v bs, c.ok ρ → pre c xs = some m → res c xs = some (v, bs) → Met ρ m → Bds ρ bs ∧ ∀ β w, Calls P f (xs.map (SV.den ρ β)).toArray w fun e w' => e = .returned (v.den ρ β) ∧ Below w.heap.size w w') :
    (pureSpec f pre res).Ok P ρ := by
  intro B s xs m s' v hB hpre hgo hm β a w hM
  subst hB
  simp only [pureSpec] at hpre hgo
  split at hgo
  · rename_i v' bs hres
    injection hgo with hgo
    injection hgo with h1 h2
    subst h1 h2
    obtain ⟨hb, hc⟩ := h s.cx xs m v' bs hM.cx hpre hres hm
    refine (hc β w).mono ?_
    rintro e w' ⟨rfl, hbel⟩
    refine ⟨β, a, rfl, hM.act, fun b hb => (hM.hp b hb).below hbel, hM.ne, hM.may, ⟨fun x hx => ?_, hM.cx.pc⟩, hM.only.then_below hbel, hM.old⟩
    rcases List.mem_append.1 hx with hx | hx
    · exact hb x hx
    · exact hM.cx.bs x hx
  · cases hgo

/-- The end of a run, in short. -/
inductive Sm where
  | must (t : Tm) (pc : List Tm)
  | ret (v : SV) (hp : List Bk) (pc : List Tm)
  deriving Repr, Inhabited
def Lf.sm (P : Program) (fn : Func) (n : Nat) : Lf → Option Sm
  | .must t s => some (.must t s.cx.pc)
  | .out (.exit _) _ => none
  | .out _ s => match retS P s fn.results.toList with
    | some v => some (.ret v (gcHp n v s.hp) s.cx.pc)
    | none => none
def smL (P : Program) (fn : Func) (n : Nat) : List Lf → Option (List Sm)
  | [] => some []
  | x :: l => match x.sm P fn n, smL P fn n l with
    | some y, some ys => some (y :: ys)
    | _, _ => none
def smR (P : Program) (fn : Func) (n : Nat) : Rs → Option (List Sm)
  | .ok l => smL P fn n l
  | .error _ => none
def bodyOf (fn : Func) : Code := fn.body.getD .skip
/-- The blocks of an end. -/
structure Hp (ρ : Env) (S : Nat → Prop) (w0 : World) (β0 : Bn) (n0 : Nat) (bks : List Bk) (β : Bn) (w : World) : Prop where
  hp : ∀ b ∈ bks, BkOk ρ β w b
  ne : ∀ x ∈ bks, ∀ y ∈ bks, x.l ≠ y.l → x.real β → y.real β → apart β x y
  may : ∀ b ∈ bks, b.rw = true → b.real β → ∀ g, fp β b g → S g ∨ w0.heap.size ≤ g
  only : Only S w0 w
  old : ∀ l, l < n0 → β l = β0 l
theorem Hp.neq {ρ : Env} {S : Nat → Prop} {w0 w : World} {β0 β : Bn} {n0 : Nat} {bks : List Bk} (h : Hp ρ S w0 β0 n0 bks β w) : ∀ x ∈ bks, ∀ y ∈ bks, x.l ≠ y.l → x.real β → y.real β → β x.l ≠ β y.l := fun x hx y hy hne h1 h2 => (h.ne x hx y hy hne h1 h2).ne
theorem Hp.may0 {ρ : Env} {S : Nat → Prop} {w0 w : World} {β0 β : Bn} {n0 : Nat} {bks : List Bk} (h : Hp ρ S w0 β0 n0 bks β w) : ∀ b ∈ bks, b.rw = true → b.real β → S (β b.l) ∨ w0.heap.size ≤ β b.l := fun b hb hw hr => h.may b hb hw hr _ (fp_root β b)
def pcs (ρ : Env) : List Tm → Prop
  | [] => True
  | t :: l => (den ρ t).b = true ∧ pcs ρ l
theorem pcs_of {ρ : Env} : ∀ {l : List Tm}, (∀ t ∈ l, (den ρ t).b = true) → pcs ρ l
  | [], _ => trivial
  | t :: l, h => ⟨h t (List.mem_cons_self ..), pcs_of fun x hx => h x (List.mem_cons_of_mem _ hx)⟩
def Sm.done (B : Bs) (R : Value → World → Prop) : Sm → Prop
  | .must t pc => pcs B.ρ pc → (den B.ρ t).b = true
  | .ret v hp pc => pcs B.ρ pc → ∀ β w, Hp B.ρ B.S B.w0 B.β0 B.n0 hp β w → R (v.den B.ρ β) w
theorem smL_ok {P : Program} {fn : Func} {n : Nat} {B : Bs} {R : Value → World → Prop} : ∀ {l : List Lf} {ys : List Sm}, smL P fn n l = some ys → AllL (Sm.done B R) ys → AllL (Lf.done P fn B R) l
  | [], _, _, _ => trivial
  | x :: l, ys, h, hd => by
    simp only [smL] at h
    split at h
    · rename_i y ys' h1 h2
      injection h with h
      subst h
      refine ⟨?_, smL_ok h2 hd.2⟩
      have hy := hd.1
      cases x with
      | must t s =>
        injection h1 with h1
        subst h1
        exact fun β a w hM => hy (pcs_of hM.cx.pc)
      | out e s =>
        unfold Lf.sm at h1
        cases e with
        | exit n => cases h1
        | normal =>
          simp only [] at h1
          split at h1
          · rename_i v hv
            injection h1 with h1
            subst h1
            unfold Lf.done
            simp only [hv]
            exact fun β a w hM => hy (pcs_of hM.cx.pc) β w ⟨fun b hb => hM.hp b (gc_mem hb), fun x hx y hy => hM.ne x (gc_mem hx) y (gc_mem hy), fun b hb => hM.may b (gc_mem hb), hM.only, hM.old⟩
          · cases h1
        | ret =>
          simp only [] at h1
          split at h1
          · rename_i v hv
            injection h1 with h1
            subst h1
            unfold Lf.done
            simp only [hv]
            exact fun β a w hM => hy (pcs_of hM.cx.pc) β w ⟨fun b hb => hM.hp b (gc_mem hb), fun x hx y hy => hM.ne x (gc_mem hx) y (gc_mem hy), fun b hb => hM.may b (gc_mem hb), hM.only, hM.old⟩
          · cases h1
    · cases h
/-- THE LAW, as it is used: what the run gives in short (by the kernel); what it asks. -/
theorem calls_sm {P : Program} {B : Bs} {sp : List Spec} (hρ : B.ρ.good) (hsp : ∀ q ∈ sp, q.Ok P B.ρ) (lim fuel : Nat) {f : FuncId} {fn : Func} (hf : P.funcs[f]? = some fn) (hb : fn.body.isSome = true) (xs : List SV) (s : St) (ys : List Sm) (n0 : Nat) (hn : B.n0 = n0)
    (hrun : smR P fn n0 (run P sp lim fuel n0 (.code (bodyOf fn)) (enterS fn xs s)) = some ys) {w : World} (hM : B.Md { s with tm := [] } B.β0 ⟨#[], []⟩ w) {R : Value → World → Prop} (hR : AllL (Sm.done B R) ys)
    {args : Array Value} (hargs : args = (xs.map (SV.den B.ρ B.β0)).toArray) : Calls P f args w fun e w' => ∃ v, e = .returned v ∧ R v w' := by
  subst hn
  obtain ⟨c, hc⟩ := Option.isSome_iff_exists.1 hb
  have hbc : bodyOf fn = c := by unfold bodyOf; rw [hc]; rfl
  rw [hbc] at hrun
  unfold smR at hrun
  split at hrun
  · rename_i l hl
    exact calls_run hρ hsp lim fuel hf hc hl hM (smL_ok hrun hR) hargs
  · cases hrun
/-- From a world of which nothing is told but that it is there. -/
theorem Md.start {ρ : Env} {S : Nat → Prop} {w : World} {β0 : Bn} {n0 : Nat} {cx : Cx} {nx : Nat} (hc : cx.ok ρ) : Md ρ S w β0 n0 ⟨[], [], cx, nx⟩ β0 ⟨#[], []⟩ w :=
  ⟨rfl, fun _ h => (by cases h), fun _ h => (by cases h), fun _ h => (by cases h), hc, Only.refl _ _, fun _ _ => rfl⟩
theorem Only.below_all {w w' : World} (h : Only (fun _ => False) w w') : Below w.heap.size w w' := ⟨h.os, h.tape, h.output, h.size, fun i hi => h.block i hi fun hf => hf⟩
theorem env_good (is : List Int) (bs : List Bool) (ss : List ByteArray) (f : Nat → Dn → Dn → Dn → Dn) : Env.good ⟨fun n => is.getD n 0, fun n => bs.getD n false, fun n => ss.getD n none8, f, fun n => ([] : List Value).getD n (.bool false), fun _ => .bool false, fun _ => [], fun _ => Thing.none⟩ := fun i => rfl
end Sy
end Go.Proofs.Ytnmfmjlpfhdgeaa
