/- The run with letters, and that it is sound. -/
import Derived.Test.YtnmfmjlpfhdgeaaSyMr
import Derived.Scope
namespace Go.Proofs.Ytnmfmjlpfhdgeaa
namespace Sy
open Go Go.RowKit
set_option linter.unusedVariables false
set_option linter.unusedSimpArgs false

/-- A contract in letters: what is to be shown ahead, what state and what value are left. -/
structure Spec where
  f : FuncId
  pre : St → List SV → Option (List Tm)
  go : Nat → St → List SV → Option (St × SV)
def Spec.Ok (P : Program) (ρ : Env) (q : Spec) : Prop := ∀ (B : Bs) (s : St) (xs : List SV) (m : List Tm) (s' : St) (v : SV), B.ρ = ρ → q.pre s xs = some m → q.go B.n0 s xs = some (s', v) → Met ρ m →
  ∀ β a w, B.Md s β a w → Calls P q.f (xs.map (SV.den ρ β)).toArray w fun e w' => ∃ β' a', e = .returned (v.den ρ β') ∧ B.Md s' β' a' w'
def findSp (f : FuncId) : List Spec → Option Spec
  | [] => none
  | q :: l => if Nat.beq q.f f then some q else findSp f l
theorem findSp_ok {f : FuncId} : ∀ {l : List Spec} {q : Spec}, findSp f l = some q → q ∈ l ∧ q.f = f
  | [], q, h => by cases h
  | x :: l, q, h => by
    simp only [findSp] at h
    split at h
    · rename_i e
      injection h with h
      subst h
      exact ⟨List.mem_cons_self .., Nat.eq_of_beq_eq_true e⟩
    · have := findSp_ok h
      exact ⟨List.mem_cons_of_mem _ this.1, this.2⟩

inductive Tk where
  | code (c : Code)
  | ops (all : Array Oper) (rest : List Oper)
  | op (o : Oper) (n : Nat)
  | any (ops : Array Oper) (held : List Bk) (listed : Array Bool) (k base : Nat)
  | rounds (c : Code) (n : Nat)

/-- Is the operation carried out? -/
def wantS (s : St) (ops : Array Oper) (o : Oper) : Option Tm :=
  match o.guard with
  | none => some (.bl true)
  | some (j, b) => match (ops[j]?).bind (·.dst) with
    | none => some (.bl false)
    | some d => match s.tm[d]? with
      | some (.one (.c (.bool t))) => some (if b then t else mkNot t)
      | some (.tup []) => some (.bl false)
      | _ => none
theorem wantS_ok {B : Bs} {s : St} {β : Bn} {a : Act} {w : World} (hM : B.Md s β a w) {ops : Array Oper} {o : Oper} {t : Tm} (h : wantS s ops o = some t) : Region.wanted o (yielded ops a.tmps) = (den B.ρ t).b := by
  unfold wantS at h
  unfold Region.wanted
  split at h
  · rename_i hg
    rw [hg]
    injection h with h
    subst h
    rfl
  · rename_i j b hg
    rw [hg]
    dsimp only
    unfold yielded
    split at h
    · rename_i hd
      rw [hd]
      injection h with h
      subst h
      rfl
    · rename_i d hd
      rw [hd]
      simp only [Option.bind_some]
      have e : a.tmps[d]? = (s.tm[d]?).map (SV.den B.ρ β) := by rw [hM.act]; simp
      rw [e]
      split at h
      · rename_i u hu
        rw [hu]
        injection h with h
        subst h
        show (some (den B.ρ u).b == some b) = _
        cases b
        · simp only [Bool.false_eq_true, if_false, mkNot_ok]
          cases (den B.ρ u).b <;> rfl
        · simp only [if_true]
          cases (den B.ρ u).b <;> rfl
      · rename_i hu
        rw [hu]
        injection h with h
        subst h
        rfl
      · cases h

def enterS (fn : Func) (xs : List SV) (s : St) : St := { s with tm := xs ++ List.replicate (fn.ntmps - xs.length) undS }
/-- Blocks that nothing leads to any more are left out. -/
def gcHp (n : Nat) (v : SV) (hp : List Bk) : List Bk := hp.filter fun b => Nat.blt b.l n || (v.has b.l || hp.any fun x => hasL b.l x.cs)
def leaveS (s s1 : St) (d : Option Tmp) (v : SV) : St := ⟨putS s.tm d v, gcHp s.nx v s1.hp, s1.cx, s1.nx⟩
def ptrs (ls : List Nat) : List SV := ls.map fun l => .one (.c (.ptr l 0))

def out1 (s : St) : Rs := .ok [.out .normal s]
def callRun (P : Program) (sp : List Spec) (rec : Nat → Tk → St → Rs) (n0 : Nat) (d : Option Tmp) (pos : String) (f : FuncId) (xs : List SV) (s : St) : Rs :=
  if (s.tm.all (SV.lt s.nx)) && Nat.ble n0 s.nx then
    match P.funcs[f]? with
    | some fn =>
      match fn.body with
      | some c =>
        if fn.name == "runtime.NumGoroutine" then .error ⟨"name", pos⟩
        else
          match findSp f sp with
          | some q =>
            match q.pre { s with tm := [] } xs, q.go s.nx { s with tm := [] } xs with
            | some m, some (s1, v) => mustL s m fun _ => out1 (leaveS s (learnAll s1 m) d v)
            | _, _ => .error ⟨"spec", pos⟩
          | none =>
            bindR (rec s.nx (.code c) (enterS fn xs s)) fun e s1 =>
              match e with
              | .exit _ => .error ⟨"exit", pos⟩
              | _ => match retS P s1 fn.results.toList with
                | some v => out1 (leaveS s s1 d v)
                | none => .error ⟨"result", pos⟩
      | none => .error ⟨"body", pos⟩
    | none => .error ⟨"func", pos⟩
  else .error ⟨"letters", pos⟩
def opRun (P : Program) (sp : List Spec) (rec : Nat → Tk → St → Rs) (n0 : Nat) (o : Oper) (n : Nat) (s : St) : Rs :=
  match pureS P s.cx (opd s.tm) o.op with
  | some (m, r) => mustL s m fun s => out1 (s.put o.dst r)
  | none =>
  match memB P s.cx s.hp (opd s.tm) o.op with
  | some (m, r) => mustL s m fun s => out1 (s.put o.dst r)
  | none =>
  match tabA P n0 s o n with
  | some (m, hp, nx, r) => mustL s m fun s1 => out1 (St.put { s1 with hp := hp, nx := nx } o.dst r)
  | none =>
    match o.op with
    | .store t x y => match opd s.tm x, opd s.tm y with
      | some x, some y => match storeS P s.cx s.hp t x y with
        | some hp => out1 (St.put { s with hp } o.dst undS)
        | none => .error ⟨"store", o.pos⟩
      | _, _ => .error ⟨"store", o.pos⟩
    | .alloc t => match zeroS P t with
      | some cs => if Nat.ble n0 n && (s.free n && !(hasL n cs)) then out1 ((s.new n t cs).put o.dst (.one (.c (.ptr n 0)))) else .error ⟨"alloc", o.pos⟩
      | none => .error ⟨"alloc", o.pos⟩
    | .box t x => match opd s.tm x with
      | some (.one v) => if Nat.ble n0 n && (s.free n && !(hasL n v.cs)) then out1 ((s.new n t v.cs).put o.dst (.one (.c (.ptr n 0)))) else .error ⟨"box", o.pos⟩
      | _ => .error ⟨"box", o.pos⟩
    | .buildSlice t len parts => match partsS (opd s.tm) parts.toList with
      | some ps => match rowS P t len ps with
        | some (e, cs) => if Nat.ble n0 n && (s.free n && !(hasL n cs)) then out1 ((s.new n e cs).put o.dst (.one (.c (.slc n 0 (.il len) (.il len))))) else .error ⟨"row", o.pos⟩
        | none => .error ⟨"row", o.pos⟩
      | none => .error ⟨"row", o.pos⟩
    | .convert sT dT x => match opd s.tm x with
      | some (.one (.c (.str t))) => match byteS P s.cx sT dT t with
        | some (m, e) => if Nat.ble n0 n && (s.free n && s.free (n + 1)) then mustL s m fun s1 => out1 ((s1.grow n e none t false).put o.dst (.one (.c (.slr n (.il 0) (mkLen s.cx t) (.il 0))))) else .error ⟨"bytes", o.pos⟩
        | none => .error ⟨"bytes", o.pos⟩
      | _ => .error ⟨"convert", o.pos⟩
    | .call k => match k.callee with
      | .value g => match opd s.tm g, allS (opd s.tm) k.args.toList with
        | some (.one (.c (.fn f ls))), some vs => callRun P sp rec n0 o.dst o.pos f (vs ++ ptrs ls) s
        | _, _ => .error ⟨"call", o.pos⟩
      | .builtin .append => match growS P s.cx s.hp (opd s.tm) k with
        | some (m, old, e, str) => if Nat.ble n0 n && (s.free n && s.free (n + 1)) then mustL s m fun s1 => out1 ((s1.grow n e old str).put o.dst (.one (.c (.slr n (.il 0) (mkLen s.cx str) (.il 0))))) else .error ⟨"append", o.pos⟩
        | none => .error ⟨"append", o.pos⟩
      | _ => .error ⟨"builtin", o.pos⟩
    | _ => .error ⟨"op", o.pos⟩

def heldIn (held hp : List Bk) : Bool := held.all fun b => hp.any fun x => sameBk b x
def heldLt (n : Nat) (held : List Bk) : Bool := held.all fun b => Nat.blt b.l n && (Nat.blt (b.l + 1) n && ltL n b.cs)
/-- What an operation of a region gives in every world in which the held blocks stand. -/
def quietS (P : Program) (held : List Bk) (s : St) (o : Oper) : PR :=
  match pureS P s.cx (opd s.tm) o.op with
  | some r => some r
  | none => memB P s.cx held (opd s.tm) o.op
def takeS (P : Program) (ops : Array Oper) (held : List Bk) (listed : Array Bool) (s : St) (i : Nat) : Option (Oper × List Tm × SV) :=
  match ops[i]? with
  | none => none
  | some o =>
    match wantS s ops o with
    | none => none
    | some t =>
      match dec0 s.cx t with
      | some true =>
        match quietS P held s o with
        | some (m, v) => if Region.free .any ops listed i then some (o, m, v) else none
        | none => none
      | some false => if Region.free .any ops listed i then some (o, [], undS) else none
      | none => none
def findTake (P : Program) (ops : Array Oper) (held : List Bk) (listed : Array Bool) (s : St) : List Nat → Option (Nat × Oper × List Tm × SV)
  | [] => none
  | i :: l => match takeS P ops held listed s i with
    | some (o, m, v) => some (i, o, m, v)
    | none => findTake P ops held listed s l
def oneRun (rec : Nat → Tk → St → Rs) (n0 : Nat) (ops : Array Oper) (held : List Bk) (listed : Array Bool) (k base : Nat) (s : St) (i : Nat) : Rs :=
  match ops[i]? with
  | none => .error ⟨"region", ""⟩
  | some o =>
    match wantS s ops o with
    | none => .error ⟨"guard", o.pos⟩
    | some t =>
      let yes := fun (s : St) => bindR (rec n0 (.op o (base + 2 * i)) s) fun e s1 =>
        match e with
        | .normal => if heldIn held s1.hp then rec n0 (.any ops held (listed.setIfInBounds i true) k base) s1 else .error ⟨"held", o.pos⟩
        | _ => .error ⟨"exit", ""⟩
      let no := fun (s : St) => rec n0 (.any ops held (listed.setIfInBounds i true) k base) (s.put o.dst undS)
      match dec0 s.cx t with
      | some true => yes s
      | some false => no s
      | none => appR (yes (s.learn t)) (no (s.learn (mkNot t)))
def allRun (rec : Nat → Tk → St → Rs) (n0 : Nat) (ops : Array Oper) (held : List Bk) (listed : Array Bool) (k base : Nat) (s : St) : List Nat → Rs
  | [] => .ok []
  | i :: l => appR (oneRun rec n0 ops held listed k base s i) (allRun rec n0 ops held listed k base s l)
def ddR : Rs → Rs
  | .ok l => .ok (ddL l)
  | .error e => .error e
/-- A condition of which it hangs whether an operation is carried out, and that is not decided. -/
def splitOf (ops : Array Oper) (s : St) : List Nat → Option Tm
  | [] => none
  | i :: l => match ops[i]? with
    | none => none
    | some o => match wantS s ops o with
      | none => none
      | some t => match dec0 s.cx t with
        | none => some t
        | some _ => splitOf ops s l
def anyRun (P : Program) (rec : Nat → Tk → St → Rs) (n0 : Nat) (ops : Array Oper) (held : List Bk) (listed : Array Bool) (k base : Nat) (s : St) : Rs :=
  match Region.ready .any ops listed with
  | [] => out1 s
  | rs =>
    match k with
    | 0 => .error ⟨"region", ""⟩
    | k + 1 =>
      match findTake P ops held listed s rs with
      | some (i, o, m, v) => mustL s m fun s => rec n0 (.any ops held (listed.setIfInBounds i true) k base) (s.put o.dst v)
      | none => match splitOf ops s rs with
        | some t => appR (rec n0 (.any ops held listed (k + 1) base) (s.learn t)) (rec n0 (.any ops held listed (k + 1) base) (s.learn (mkNot t)))
        | none => ddR (allRun rec n0 ops held listed k base s rs)
/-- Blocks that the region leaves as they are. -/
def keptBks (hp : List Bk) : Rs → List Bk
  | .error _ => hp
  | .ok l => hp.filter fun b => l.all fun x => match x with
    | .out _ s => s.hp.any fun y => sameBk b y
    | .must _ _ => true
def heldLow (n : Nat) (hp : List Bk) : List Bk := hp.filter fun b => Nat.blt b.l n && (Nat.blt (b.l + 1) n && ltL n b.cs)
def regionRun (P : Program) (rec : Nat → Tk → St → Rs) (n0 : Nat) (ops : Array Oper) (s : St) : Rs :=
  if P.follows .mixedOrders && (Region.noSelect ops && Nat.ble n0 s.nx) then
    let s' : St := { s with nx := s.nx + 2 * ops.size }
    let go := fun (held : List Bk) => if heldIn held s.hp && heldLt s.nx held then rec s.nx (.any ops held (Array.replicate ops.size false) ops.size s.nx) s' else .error ⟨"held", ""⟩
    match go (heldLow s.nx s.hp) with
    | .ok l => .ok l
    | .error _ => go (heldLow s.nx (keptBks s.hp (rec n0 (.ops ops ops.toList) s)))
  else .error ⟨"region", ""⟩

def codeRun (P : Program) (lim : Nat) (rec : Nat → Tk → St → Rs) (n0 : Nat) (c : Code) (s : St) : Rs :=
  match c with
  | .skip => out1 s
  | .label _ => out1 s
  | .ret => .ok [.out .ret s]
  | .exit n => .ok [.out (.exit n) s]
  | .seq a b => bindR (rec n0 (.code a) s) fun e s1 => match e with
    | .normal => rec n0 (.code b) s1
    | e => .ok [.out e s1]
  | .block id c => bindR (rec n0 (.code c) s) fun e s1 => match e with
    | .exit n => if Nat.beq n id then out1 s1 else .ok [.out (.exit n) s1]
    | e => .ok [.out e s1]
  | .scope c => rec n0 (.code c) s
  | .cond x a b => match opd s.tm x with
    | some (.one (.c (.bool t))) => match dec0 s.cx t with
      | some true => rec n0 (.code a) s
      | some false => rec n0 (.code b) s
      | none => appR (rec n0 (.code a) (s.learn t)) (rec n0 (.code b) (s.learn (mkNot t)))
    | _ => .error ⟨"cond", ""⟩
  | .region _ ops draw => if draw then regionRun P rec n0 ops s else rec n0 (.ops ops ops.toList) s
  | .loop c => rec n0 (.rounds c lim) s
  | _ => .error ⟨"code", ""⟩
def opsRun (rec : Nat → Tk → St → Rs) (n0 : Nat) (all : Array Oper) (l : List Oper) (s : St) : Rs :=
  match l with
  | [] => out1 s
  | o :: rest => match wantS s all o with
    | none => .error ⟨"guard", o.pos⟩
    | some t =>
      let yes := fun (s : St) => bindR (rec n0 (.op o s.nx) s) fun e s1 => match e with
        | .normal => rec n0 (.ops all rest) s1
        | _ => .error ⟨"exit", ""⟩
      let no := fun (s : St) => rec n0 (.ops all rest) (s.put o.dst undS)
      match dec0 s.cx t with
      | some true => yes s
      | some false => no s
      | none => appR (yes (s.learn t)) (no (s.learn (mkNot t)))
def roundsRun (rec : Nat → Tk → St → Rs) (n0 : Nat) (c : Code) (n : Nat) (s : St) : Rs :=
  match n with
  | 0 => .error ⟨"rounds", ""⟩
  | n + 1 => bindR (rec n0 (.code c) s) fun e s1 => match e with
    | .normal => rec n0 (.rounds c n) s1
    | e => .ok [.out e s1]
def run (P : Program) (sp : List Spec) (lim : Nat) : Nat → Nat → Tk → St → Rs
  | 0, _, _, _ => .error ⟨"fuel", ""⟩
  | n + 1, n0, .code c, s => codeRun P lim (run P sp lim n) n0 c s
  | n + 1, n0, .ops all l, s => opsRun (run P sp lim n) n0 all l s
  | n + 1, n0, .op o i, s => opRun P sp (run P sp lim n) n0 o i s
  | n + 1, n0, .any ops held listed k base, s => anyRun P (run P sp lim n) n0 ops held listed k base s
  | n + 1, n0, .rounds c k, s => roundsRun (run P sp lim n) n0 c k s
end Sy
end Go.Proofs.Ytnmfmjlpfhdgeaa
