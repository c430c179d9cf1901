/- A part of the proof that a connection answers as the document says: SyJ SyK SyL SyM. -/
import Derived.Scope
import Derived.LoopN
import Derived.Test.YtnlcpcmdlcakgaaGreatKh09
set_option maxRecDepth 100000
set_option maxHeartbeats 4000000
set_option linter.unusedVariables false
set_option linter.unusedSimpArgs false
set_option linter.unusedSectionVars false
namespace Go.Proofs.YtnlcpcmdlcakgaaGreat
namespace Sy
open Go Go.RowKit
structure Spec where
 f:FuncId
 pre:St->List SV->Option (List Tm)
 go:Nat->St->List SV->Option (St × SV)
def Spec.Ok(P:Program)(J:Env)(q:Spec):Prop:=∀(B:Bs) (s:St) (xs:List SV) (m:List Tm) (s':St) (v:SV),B.J=J->q.pre s xs=some m->q.go B.n0 s xs=some (s',v)->Met J m->
 ∀ N a w,B.Md s N a w->Calls P q.f (xs.map (SV.A1 J N)).toArray w fun e w'=>∃ N' a',e= .returned (v.A1 J N')/\B.Md s' N' a' w'
def bc9(f:FuncId):List Spec->Option Spec
 | []=>none
 | q::l=>if Nat.beq q.f f then some q else bc9 f l
theorem bp5{f:FuncId}:∀{l:List Spec} {q:Spec},bc9 f l=some q->q∈l/\q.f=f
 | [],q,h=>by cases h
 | x::l,q,h=>by
   simp only[bc9]at h;split at h
   .rename_i e;injection h with h;subst h;exact⟨ae ..,af e⟩
   .have:=bp5 h;exact⟨aj _ this.1,this.2⟩
inductive Tk where
 | code (c:Code)
 | ops (all:Array Oper) (rest:List Oper)
 | op (o:Oper) (n:Nat)
 | any (ops:Array Oper) (held:List Bk) (listed:Array Bool) (k base:Nat)
 | rounds (c:Code) (n:Nat)
def bK6(s:St)(ops:Array Oper)(o:Oper):Option Tm:=
 match o.guard with
 | none=>some l6
 | some (j,b)=>match(ops[j]?).bind (·.dst)with
   | none=>some l4
   | some d=>match s.tm[d]? with
     | some (.one (.c (.bool t)))=>some (if b then t else aW4 t)
     | some (.tup [])=>some l4
     | _=>none
theorem bR2{B:Bs}{s:St}{N:Bn}{a:Act}{w:World}(hM:B.Md s N a w){ops:Array Oper}{o:Oper}{t:Tm}(h:bK6 s ops o=some t):Region.wanted o (yielded ops a.tmps)=(u9 B.J t).b:=by
 unfold bK6 at h;unfold Region.wanted;split at h
 .rename_i hg;rw[hg];injection h with h;subst h;rfl
 .rename_i j b hg;rw[hg];dsimp only;unfold yielded;split at h
  .rename_i hd;rw[hd];injection h with h;subst h;rfl
  .rename_i d hd;rw[hd];simp only[Option.bind_some];have e:a.tmps[d]? =(s.tm[d]?).map (SV.A1 B.J N):=by rw[hM.act];simp
   rw[e];split at h
   .rename_i u hu;rw[hu];injection h with h;subst h;show(some (u9 B.J u).b==some b)=_;cases b
    .simp only[ax,if_false,al7];cases(u9 B.J u).b<;>rfl
    .simp only[if_true];cases(u9 B.J u).b<;>rfl
   .rename_i hu;rw[hu];injection h with h;subst h;rfl
   .cases h
def L3(fn:Func)(xs:List SV)(s:St):St:= { s with tm:=xs++List.replicate (fn.ntmps - xs.length) aE3 }
def dF4(n:Nat)(v:SV)(hp:List Bk):List Bk:=hp.filter fun b=>Nat.blt b.l n||(v.has b.l||hp.any fun x=>bB7 b.l x.cs)
def bb9(s s1:St)(d:Option Tmp)(v:SV):St:=⟨cT9 s.tm d v,dF4 s.nx v s1.hp,s1.cx,s1.nx⟩
def cU0(ls:List Nat):List SV:=ls.map fun l=> .one (.c (.ptr l 0))
def aY6(s:St):Rs:= .ok [.out .normal s]
def bk9(P:Program)(sp:List Spec)(rec:Nat->Tk->St->Rs)(n0:Nat)(d:Option Tmp)(pos:String)(f:FuncId)(xs:List SV)(s:St):Rs:=
 if(s.tm.all (SV.lt s.nx))&&Nat.ble n0 s.nx then
  match P.funcs[f]? with
  | some fn=>
    match fn.body with
    | some c=>
      if fn.name== "runtime.NumGoroutine" then .error ⟨"name",pos⟩
      else
       match bc9 f sp with
       | some q=>
         match q.pre { s with tm:=[] } xs,q.go s.nx { s with tm:=[] } xs with
         | some m,some (s1,v)=>an4 s m fun _=>aY6 (bb9 s (aG9 s1 m) d v)
         | _,_=> .error ⟨"spec",pos⟩
       | none=>
         an9 (rec s.nx (.code c) (L3 fn xs s)) fun e s1=>
          match e with
          | .exit _=> .error ⟨"exit",pos⟩
          | _=>match aD7 P s1 fn.results.toList with
            | some v=>aY6 (bb9 s s1 d v)
            | none=> .error ⟨"result",pos⟩
    | none=> .error ⟨"body",pos⟩
  | none=> .error ⟨"func",pos⟩
 else .error ⟨"letters",pos⟩
def cU3(P:Program)(sp:List Spec)(rec:Nat->Tk->St->Rs)(n0:Nat)(o:Oper)(n:Nat)(s:St):Rs:=
 match bt9 P s.cx (opd s.tm) o.op with
 | some (m,r)=>an4 s m fun s=>aY6 (s.put o.dst r)
 | none=>
 match cV0 P s.cx s.hp (opd s.tm) o.op with
 | some (m,r)=>an4 s m fun s=>aY6 (s.put o.dst r)
 | none=>
 match c99 P n0 s o n with
 | some (m,hp,nx,r)=>an4 s m fun s1=>aY6 (St.put { s1 with hp:=hp,nx:=nx } o.dst r)
 | none=>
   match o.op with
   | .store t x y=>match opd s.tm x,opd s.tm y with
     | some x,some y=>match b28 P s.cx s.hp t x y with
       | some hp=>aY6 (St.put { s with hp } o.dst aE3)
       | none=> .error ⟨"store",o.pos⟩
     | _,_=> .error ⟨"store",o.pos⟩
   | .alloc t=>match ae4 P t with
     | some cs=>if Nat.ble n0 n&&(s.T8 n&& !(bB7 n cs))then aY6 ((s.new n t cs).put o.dst (.one (.c (.ptr n 0))))else .error ⟨"alloc",o.pos⟩
     | none=> .error ⟨"alloc",o.pos⟩
   | .box t x=>match opd s.tm x with
     | some (.one v)=>if Nat.ble n0 n&&(s.T8 n&& !(bB7 n v.cs))then aY6 ((s.new n t v.cs).put o.dst (.one (.c (.ptr n 0))))else .error ⟨"box",o.pos⟩
     | _=> .error ⟨"box",o.pos⟩
   | .buildSlice t len parts=>match bG6 (opd s.tm) parts.toList with
     | some ps=>match dB4 P t len ps with
       | some (e,cs)=>if Nat.ble n0 n&&(s.T8 n&& !(bB7 n cs))then aY6 ((s.new n e cs).put o.dst (.one (.c (.slc n 0 (.il len) (.il len)))))else .error ⟨"row",o.pos⟩
       | none=> .error ⟨"row",o.pos⟩
     | none=> .error ⟨"row",o.pos⟩
   | .convert sT dT x=>match opd s.tm x with
     | some (.one (.c (.str t)))=>match cY2 P s.cx sT dT t with
       | some (m,e)=>if Nat.ble n0 n&&(s.T8 n&&s.T8 (n+1))then an4 s m fun s1=>aY6 ((s1.bl4 n e none t false).put o.dst (.one (.c (.slr n i9 (Q6 s.cx t) i9))))else .error ⟨"bytes",o.pos⟩
       | none=> .error ⟨"bytes",o.pos⟩
     | _=> .error ⟨"convert",o.pos⟩
   | .call k=>match k.callee with
     | .value g=>match opd s.tm g,bl2 (opd s.tm) k.args.toList with
       | some (.one (.c (.fn f ls))),some vs=>bk9 P sp rec n0 o.dst o.pos f (vs++cU0 ls) s
       | _,_=> .error ⟨"call",o.pos⟩
     | .builtin .append=>match cW3 P s.cx s.hp (opd s.tm) k with
       | some (m,old,e,str)=>if Nat.ble n0 n&&(s.T8 n&&s.T8 (n+1))then an4 s m fun s1=>aY6 ((s1.bl4 n e old str).put o.dst (.one (.c (.slr n i9 (Q6 s.cx str) i9))))else .error ⟨"append",o.pos⟩
       | none=> .error ⟨"append",o.pos⟩
     | _=> .error ⟨"builtin",o.pos⟩
   | _=> .error ⟨"op",o.pos⟩
def aa5(held hp:List Bk):Bool:=held.all fun b=>hp.any fun x=>ap3 b x
def ap8(n:Nat)(held:List Bk):Bool:=held.all fun b=>Nat.blt b.l n&&(Nat.blt (b.l+1) n&&ltL n b.cs)
def co9(P:Program)(held:List Bk)(s:St)(o:Oper):PR:=
 match bt9 P s.cx (opd s.tm) o.op with
 | some r=>some r
 | none=>cV0 P s.cx held (opd s.tm) o.op
def bt6(P:Program)(ops:Array Oper)(held:List Bk)(listed:Array Bool)(s:St)(i:Nat):Option (Oper × List Tm × SV):=
 match ops[i]? with
 | none=>none
 | some o=>
   match bK6 s ops o with
   | none=>none
   | some t=>
     match aH9 s.cx t with
     | some true=>
       match co9 P held s o with
       | some (m,v)=>if Region.free .any ops listed i then some (o,m,v)else none
       | none=>none
     | some false=>if Region.free .any ops listed i then some (o,[],aE3)else none
     | none=>none
def bC0(P:Program)(ops:Array Oper)(held:List Bk)(listed:Array Bool)(s:St):List Nat->Option (Nat × Oper × List Tm × SV)
 | []=>none
 | i::l=>match bt6 P ops held listed s i with
   | some (o,m,v)=>some (i,o,m,v)
   | none=>bC0 P ops held listed s l
def bb3(rec:Nat->Tk->St->Rs)(n0:Nat)(ops:Array Oper)(held:List Bk)(listed:Array Bool)(k base:Nat)(s:St)(i:Nat):Rs:=
 match ops[i]? with
 | none=> .error ⟨"region", ""⟩
 | some o=>
   match bK6 s ops o with
   | none=> .error ⟨"guard",o.pos⟩
   | some t=>
     let yes:=fun(s:St)=>an9 (rec n0 (.op o (base+2*i)) s) fun e s1=>
      match e with
      | .normal=>if aa5 held s1.hp then rec n0 (.any ops held (listed.setIfInBounds i true) k base) s1 else .error ⟨"held",o.pos⟩
      | _=> .error ⟨"exit", ""⟩
     let no:=fun(s:St)=>rec n0 (.any ops held (listed.setIfInBounds i true) k base) (s.put o.dst aE3)
     match aH9 s.cx t with
     | some true=>yes s
     | some false=>no s
     | none=>bT5 (yes (s.aL6 t)) (no (s.aL6 (aW4 t)))
def b93(rec:Nat->Tk->St->Rs)(n0:Nat)(ops:Array Oper)(held:List Bk)(listed:Array Bool)(k base:Nat)(s:St):List Nat->Rs
 | []=> .ok []
 | i::l=>bT5 (bb3 rec n0 ops held listed k base s i) (b93 rec n0 ops held listed k base s l)
def ddR:Rs->Rs
 | .ok l=> .ok (ddL l)
 | .error e=> .error e
def cH7(ops:Array Oper)(s:St):List Nat->Option Tm
 | []=>none
 | i::l=>match ops[i]? with
   | none=>none
   | some o=>match bK6 s ops o with
     | none=>none
     | some t=>match aH9 s.cx t with
       | none=>some t
       | some _=>cH7 ops s l
def b92(P:Program)(rec:Nat->Tk->St->Rs)(n0:Nat)(ops:Array Oper)(held:List Bk)(listed:Array Bool)(k base:Nat)(s:St):Rs:=
 match Region.ready .any ops listed with
 | []=>aY6 s
 | rs=>
   match k with
   | 0=> .error ⟨"region", ""⟩
   | k+1=>
     match bC0 P ops held listed s rs with
     | some (i,o,m,v)=>an4 s m fun s=>rec n0 (.any ops held (listed.setIfInBounds i true) k base) (s.put o.dst v)
     | none=>match cH7 ops s rs with
       | some t=>bT5 (rec n0 (.any ops held listed (k+1) base) (s.aL6 t)) (rec n0 (.any ops held listed (k+1) base) (s.aL6 (aW4 t)))
       | none=>ddR (b93 rec n0 ops held listed k base s rs)
def do6(hp:List Bk):Rs->List Bk
 | .error _=>hp
 | .ok l=>hp.filter fun b=>l.all fun x=>match x with
   | .out _ s=>s.hp.any fun y=>ap3 b y
   | .must _ _=>true
def cJ6(n:Nat)(hp:List Bk):List Bk:=hp.filter fun b=>Nat.blt b.l n&&(Nat.blt (b.l+1) n&&ltL n b.cs)
def bG4(P:Program)(rec:Nat->Tk->St->Rs)(n0:Nat)(ops:Array Oper)(s:St):Rs:=
 if P.follows .mixedOrders&&(Region.noSelect ops&&Nat.ble n0 s.nx)then
  let s':St:= { s with nx:=s.nx+2*ops.size }
  let go:=fun(held:List Bk)=>if aa5 held s.hp&&ap8 s.nx held then rec s.nx (.any ops held (Array.replicate ops.size false) ops.size s.nx) s' else .error ⟨"held", ""⟩
  match go (cJ6 s.nx s.hp)with
  | .ok l=> .ok l
  | .error _=>go (cJ6 s.nx (do6 s.hp (rec n0 (.ops ops ops.toList) s)))
 else .error ⟨"region", ""⟩
def aQ6(P:Program)(lim:Nat)(rec:Nat->Tk->St->Rs)(n0:Nat)(c:Code)(s:St):Rs:=
 match c with
 | .skip=>aY6 s
 | .label _=>aY6 s
 | .ret=> .ok [.out .ret s]
 | .exit n=> .ok [.out (.exit n) s]
 | .seq a b=>an9 (rec n0 (.code a) s) fun e s1=>match e with
   | .normal=>rec n0 (.code b) s1
   | e=> .ok [.out e s1]
 | .block id c=>an9 (rec n0 (.code c) s) fun e s1=>match e with
   | .exit n=>if Nat.beq n id then aY6 s1 else .ok [.out (.exit n) s1]
   | e=> .ok [.out e s1]
 | .scope c=>rec n0 (.code c) s
 | .cond x a b=>match opd s.tm x with
   | some (.one (.c (.bool t)))=>match aH9 s.cx t with
     | some true=>rec n0 (.code a) s
     | some false=>rec n0 (.code b) s
     | none=>bT5 (rec n0 (.code a) (s.aL6 t)) (rec n0 (.code b) (s.aL6 (aW4 t)))
   | _=> .error ⟨"cond", ""⟩
 | .region _ ops draw=>if draw then bG4 P rec n0 ops s else rec n0 (.ops ops ops.toList) s
 | .loop c=>rec n0 (.rounds c lim) s
 | _=> .error ⟨"code", ""⟩
def b55(rec:Nat->Tk->St->Rs)(n0:Nat)(all:Array Oper)(l:List Oper)(s:St):Rs:=
 match l with
 | []=>aY6 s
 | o::rest=>match bK6 s all o with
   | none=> .error ⟨"guard",o.pos⟩
   | some t=>
     let yes:=fun(s:St)=>an9 (rec n0 (.op o s.nx) s) fun e s1=>match e with
      | .normal=>rec n0 (.ops all rest) s1
      | _=> .error ⟨"exit", ""⟩
     let no:=fun(s:St)=>rec n0 (.ops all rest) (s.put o.dst aE3)
     match aH9 s.cx t with
     | some true=>yes s
     | some false=>no s
     | none=>bT5 (yes (s.aL6 t)) (no (s.aL6 (aW4 t)))
def bG3(rec:Nat->Tk->St->Rs)(n0:Nat)(c:Code)(n:Nat)(s:St):Rs:=
 match n with
 | 0=> .error ⟨"rounds", ""⟩
 | n+1=>an9 (rec n0 (.code c) s) fun e s1=>match e with
   | .normal=>rec n0 (.rounds c n) s1
   | e=> .ok [.out e s1]
def R6(P:Program)(sp:List Spec)(lim:Nat):Nat->Nat->Tk->St->Rs
 | 0,_,_,_=> .error ⟨"fuel", ""⟩
 | n+1,n0, .code c,s=>aQ6 P lim (R6 P sp lim n) n0 c s
 | n+1,n0, .ops all l,s=>b55 (R6 P sp lim n) n0 all l s
 | n+1,n0, .op o i,s=>cU3 P sp (R6 P sp lim n) n0 o i s
 | n+1,n0, .any ops held listed k base,s=>b92 P (R6 P sp lim n) n0 ops held listed k base s
 | n+1,n0, .rounds c k,s=>bG3 (R6 P sp lim n) n0 c k s
def NoQ:Exit->Act->World->Prop:=fun _ _ _=>False
def SH(B:Bs)(held:List Bk)(w:World):Prop:=∀ b∈held,BkOk B.J B.N0 w b
def Tk.wp(P:Program)(B:Bs)(Q:Exit->Act->World->Prop):Tk->Act->World->Prop
 | .code c,a,w=>c.wp P Q a w
 | .ops all l,a,w=>wpList P all Q l a w
 | .op o _,a,w=>o.wp P a w (fun a' w'=>Q .normal a' w') NoQ
 | .any os held listed k _,a,w=>wpAnyH P .any os (NoPanic Q) (SH B held) k listed a w
 | .rounds c n,a,w=>Code.rounds P c Q n a w
def Tk.pre(n0:Nat):Tk->St->Prop
 | .any os held _ _ _,s=>aa5 held s.hp=true/\ap8 n0 held=true/\Region.noSelect os=true
 | _,_=>True
def at6(P:Program)(J:Env)(rec:Nat->Tk->St->Rs):Prop:=∀ n0 tk s r,rec n0 tk s= .ok r->∀(B:Bs) Q,B.J=J->B.n0=n0->tk.pre n0 s->LOk B Q r->∀ N a w,B.Md s N a w->tk.wp P B Q a w
theorem aE7{B:Bs}{Q:Exit->Act->World->Prop}{s:St}{r:List Lf}(h:aY6 s= .ok r)(hl:LOk B Q r):∀ N a w,B.Md s N a w->Q .normal a w:=by
 injection h with h;subst h;exact hl _ (ae ..)
theorem aJ3{B:Bs}{Q:Exit->Act->World->Prop}{e:Ex}{s:St}{r:List Lf}(h:(Except.ok [.out e s]:Rs)= .ok r)(hl:LOk B Q r):∀ N a w,B.Md s N a w->Q e.to a w:=by
 injection h with h;subst h;exact hl _ (ae ..)
theorem bF6{P:Program}{o:Oper}{a:Act}{w:World}{K K':Act->World->Prop}{Q:Exit->Act->World->Prop}(hk:∀ a w,K a w->K' a w)(h:o.wp P a w K NoQ):o.wp P a w K' Q:=by
 unfold Oper.wp at*;generalize(execOp a.eval o).run P w=r at*;cases r with
 | ok n w'=>
   cases n<;>simp only[Oper.upon]at h ⊢ <;>first
    | exact hk _ _ h
    | exact Rows.mono h (fun _ _ he=>hk _ _ he)
    | (refine Calls.mono h (fun e w'' he=>?_)
       cases e with
       | returned v=>exact hk _ _ he
       | panicked c=>exact he.elim
       | outgrown=>obtain⟨_,_,he⟩:=he;exact he.elim)
 | halt x w'=>cases x<;>simp only[Oper.upon]at h ⊢ <;>first
   | exact h
   | exact(h:False).elim
theorem aW1{P:Program}{o:Oper}{a:Act}{w w':World}{K:Act->World->Prop}{Q:Exit->Act->World->Prop}{v:Value}(h:(execOp a.eval o).run P w= .ok (.value v) w')(hk:K (a.put o.dst v) w'):o.wp P a w K Q:=by
 unfold Oper.wp;rw[h];exact hk
theorem b17{P:Program}{o:Oper}{a:Act}{w w':World}{K:Act->World->Prop}{Q:Exit->Act->World->Prop}(h:(execOp a.eval o).run P w= .ok .skip w')(hk:K (a.put o.dst undef) w'):o.wp P a w K Q:=by
 unfold Oper.wp;rw[h];exact hk
theorem bN8{B:Bs}{N:Bn}{a:Act}{w:World}:∀(m:List Tm) (s:St),B.Md s N a w->Met B.J m->B.Md (aG9 s m) N a w
 | [],_,h,_=>h
 | t::m,s,h,hm=>bN8 m (s.aL6 t) (Sy.Md.ao2 h (hm t (ae ..))) fun x hx=>hm x (aj _ hx)
section
variable{P:Program}{J:Env}{sp:List Spec}{rec:Nat->Tk->St->Rs}{B:Bs}{Q:Exit->Act->World->Prop}{N:Bn}{a:Act}{w:World}{s:St}{r:List Lf}{n0:Nat}
theorem aX8{d:Option Tmp}{v:SV}{u:Value}(h:B.Md s N a w)(hu:v.A1 B.J N=u):B.Md (s.put d v) N (a.put d u) w:=by
 rw[<-hu];exact Sy.Md.put h d v
def Bs.at(B:Bs)(N:Bn)(n:Nat):Bs:= { B with N0:=N,n0:=n }
theorem aX7{n:Nat}{v:SV}{hp:List Bk}{b:Bk}(h:b∈dF4 n v hp):b∈hp:=(List.mem_filter.1 h).1
theorem Md.dR8(hM:B.Md s N a w)(ht:s.tm.all (SV.lt s.nx)=true)(hn:B.n0<=s.nx){s1:St}{N1:Bn}{a1:Act}{w1:World}(h1:(B.at N s.nx).Md s1 N1 a1 w1)(d:Option Tmp)(v:SV):
 B.Md (bb9 s s1 d v) N1 (a.put d (v.A1 B.J N1)) w1:=by
 have hag:∀ l,l<s.nx->N1 l=N l:=h1.old;refine⟨?_,fun b hb=>h1.hp b (aX7 hb),fun x hx y hy=>h1.ne x (aX7 hx) y (aX7 hy),fun b hb=>h1.may b (aX7 hb),h1.cx,h1.only,fun l hl=>(hag l U).trans (hM.old l hl)⟩;have:a=⟨(s.tm.map (SV.A1 B.J N1)).toArray,[]⟩:=by
  rw[hM.act];congr 2;apply aG;intro x hx;exact(SV.bq5 B.J hag (av.1 ht x hx)).symm
 rw[this];exact cK2 _ _ _
theorem Md.b97(hM:B.Md s N a w)(hn:B.n0<=s.nx){s1:St}{N1:Bn}{a1:Act}{w1:World}(h1:(B.at N s.nx).Md s1 N1 a1 w1):B.Md s1 N1 a1 w1:=
 ⟨h1.act,h1.hp,h1.ne,h1.may,h1.cx,h1.only,fun l hl=>(h1.old l (by show l<s.nx;omega)).trans (hM.old l hl)⟩
theorem Md.eJ6(hM:B.Md s N a w)(n:Nat)(tm:List SV):(B.at N n).Md { s with tm:=tm } N ⟨(tm.map (SV.A1 B.J N)).toArray,[]⟩ w:=
 ⟨rfl,hM.hp,hM.ne,hM.may,hM.cx,hM.only,fun _ _=>rfl⟩
theorem an7:∀(m:List Tm) (s:St),(aG9 s m).hp=s.hp
 | [],_=>rfl
 | t::m,s=>an7 m (s.aL6 t)
theorem an6:∀(m:List Tm) (s:St),(aG9 s m).tm=s.tm
 | [],_=>rfl
 | t::m,s=>an6 m (s.aL6 t)
theorem cY0{o:Oper}{k:Call}{g:Operand}{f:FuncId}{ls:List Nat}{vs:List SV}{fn:Func}(ho:o.op= .call k)(hk:k.callee= .value g)(hg:a.eval g=C.G2 J N (.fn f ls))(hv:k.args.toList.map a.eval=vs.map (SV.A1 J N))
 (hf:P.funcs[f]? =some fn) (hb:fn.body.isSome=true) (hn:(fn.name== "runtime.NumGoroutine")=false):
 (execOp a.eval o).run P w= .ok (.enter f ((vs++cU0 ls).map (SV.A1 J N)).toArray) w:=by
 have e1:k.args.map a.eval=(vs.map (SV.A1 J N)).toArray:=by
  rw[<-hv];cases k.args;simp
 have e2:(cU0 ls).map (SV.A1 J N)=ls.map fun l=>Value.pointer (some ⟨N l,0,none⟩):=by
  simp only[cU0,List.map_map];rfl
 unfold execOp;simp only[ho,resolve,hk,hg,C.G2,Deferred.ofValue,am,aq,ai,invoke,callFunc,run_program,hf,hn,ax,if_false,e1];have hb':fn.body.isNone=false:=by
  cases hq:fn.body with
  | none=>rw[hq]at hb;cases hb
  | some c=>rfl
 simp only[hb',ax,if_false,aq];rw[bb,e2];simp
theorem cY1(hJ:J.R8)(hsp:∀ q∈sp,q.Ok P J)(hrec:at6 P J rec)(hBJ:B.J=J)(hB:B.n0=n0){d:Option Tmp}{pos:String}{f:FuncId}{xs:List SV}(h:bk9 P sp rec n0 d pos f xs s= .ok r)(hl:LOk B Q r)(hM:B.Md s N a w):
 (∃ fn,P.funcs[f]? =some fn/\fn.body.isSome=true/\(fn.name== "runtime.NumGoroutine")=false)/\
 Calls P f (xs.map (SV.A1 J N)).toArray w fun
  | .returned v,w''=>Q .normal (a.put d v) w''
  | .panicked chain,w''=>NoQ (.panic chain) a w''
  | .outgrown,_=>LetsOut NoQ:=by
 subst hBJ hB;unfold bk9 at h;split at h
 .rename_i hq;simp only[m5]at hq;have hn:=au hq.2;split at h
  .rename_i fn hf;split at h
   .rename_i c hb;split at h
    .cases h
    .rename_i hname;have hname:(fn.name== "runtime.NumGoroutine")=false:=by simpa using hname
     refine⟨⟨fn,hf,by rw[hb];rfl,hname⟩,?_⟩;split at h
     .rename_i q hfs;have hs:=bp5 hfs;split at h
      .rename_i m s1 v hpre hgo;obtain⟨hm,_,r',hr,hlr⟩:=aa3 h hl hM;have hM0:=Md.eJ6 hM s.nx [];have hc:=hsp q hs.1 (B.at N s.nx) { s with tm:=[] } xs m s1 v rfl hpre hgo hm _ _ _ hM0;rw[hs.2]at hc;refine hc.mono ?_;rintro e w' ⟨N',a',rfl,hM'⟩;have hM2:=bN8 m _ hM' hm;exact aE7 hr hlr _ _ _ (Md.dR8 hM hq.1 hn hM2 d v)
      .cases h
     .obtain⟨l',hl',hbd⟩:=aW6 h;refine calls_of_wp hf hb ?_;have hM0:=Md.eJ6 hM s.nx (L3 fn xs s).tm;have hact:(⟨(xs.map (SV.A1 B.J N)).toArray++Array.replicate (fn.ntmps - (xs.map (SV.A1 B.J N)).toArray.size) undef,[]⟩:Act)=⟨((L3 fn xs s).tm.map (SV.A1 B.J N)).toArray,[]⟩:=by
       simp[L3,a93]
      rw[hact];refine hrec s.nx (.code c) (L3 fn xs s) l' hl' (B.at N s.nx) _ rfl rfl trivial ?_ N _ w hM0;refine aP3 (B:=B) (B':=B.at N s.nx) (Q:=Q) rfl (fun s N1 a1 w1 h1=>⟨N1,a1,Md.b97 hM hn h1⟩) ?_ hbd hl;intro e s1 r' hf' hlr N1 a1 w1 h1;have done:∀(v:SV),aD7 P s1 fn.results.toList=some v->aY6 (bb9 s s1 d v)= .ok r'->a1.defers=[]/\∃ v,(results fn a1.tmps).run P w1= .ok v w1/\Q .normal (a.put d v) w1:=by
       intro v hv hr;refine⟨by rw[h1.act],v.A1 B.J N1,bL1 h1 hv,?_⟩;exact aE7 hr hlr _ _ _ (Md.dR8 hM hq.1 hn h1 d v)
      cases e with
      | exit n=>cases hf'
      | normal=>
        simp only[]at hf';split at hf'
        .rename_i v hv;exact done v hv hf'
        .cases hf'
      | ret=>
        simp only[]at hf';split at hf'
        .rename_i v hv;exact done v hv hf'
        .cases hf'
   .cases h
  .cases h
 .cases h
theorem dC6(hJ:J.R8)(hsp:∀ q∈sp,q.Ok P J)(hrec:at6 P J rec)(hBJ:B.J=J)(hB:B.n0=n0){o:Oper}{n:Nat}(h:cU3 P sp rec n0 o n s= .ok r)(hl:LOk B Q r)(hM:B.Md s N a w):
 o.wp P a w (fun a' w'=>Q .normal a' w') NoQ:=by
 have hJ':B.J.R8:=by rw[hBJ];exact hJ
 have hev:∀ x v,opd s.tm x=some v->a.eval x=v.A1 B.J N:=fun x v hx=>Sy.Md.opd hM hx
 unfold cU3 at h;split at h
 .rename_i m v hp;obtain⟨hm,hM1,r',hr,hlr⟩:=aa3 h hl hM;exact aW1 (b50 hJ' hM.cx hev hp hm w) (aE7 hr hlr _ _ _ (aX8 hM1 rfl))
 .split at h
  .rename_i m v hp;obtain⟨hm,hM1,r',hr,hlr⟩:=aa3 h hl hM;exact aW1 (cI7 hM.cx hM.hp hev hp hm) (aE7 hr hlr _ _ _ (aX8 hM1 rfl))
  split at h
  .rename_i m hp' nx' v hp;obtain⟨hm,hM1,r',hr,hlr⟩:=aa3 h hl hM;obtain⟨N',w',rr,hrun,hv,hM'⟩:=dm0 hJ' hM1 (an7 m s) (an6 m s) hM.cx (by rw[hB];exact hp) hm;rcases hv with rfl|⟨rfl,rfl⟩
   .exact aW1 hrun (aE7 hr hlr _ _ _ (aX8 hM' rfl))
   .exact b17 hrun (aE7 hr hlr _ _ _ (aX8 (v:=aE3) hM' rfl))
  split at h
  .rename_i t x y ho;split at h
   .rename_i x' y' hx hy;split at h
    .rename_i hp' hst;obtain⟨w',hrun,hM'⟩:=cn4 hJ' hM hst;refine b17 (w':=w') ?_ (aE7 h hl _ _ _ (aX8 (v:=aE3) hM' rfl));unfold execOp;simp only[ho,hev _ _ hx,hev _ _ hy,am,hrun,ai,aq]
    .cases h
   .cases h
  .rename_i t ho;split at h
   .rename_i cs hz;split at h
    .rename_i q;simp only[m5,aN]at q;have hM':=Sy.Md.new hM n bY q.2.1 t cs q.2.2;refine aW1 (v:= .pointer (some ⟨w.heap.size,0,none⟩)) (w':=w.alloc (.cells (A5 B.J N cs).toArray t)) ?_ (aE7 h hl _ _ _ (aX8 hM' (by
      show Value.pointer (some ⟨E8 N n w.heap.size n,0,none⟩)=_;rw[K7])))
     unfold execOp;simp only[ho];simp only[am,b16 (J:=B.J) (N:=N) hz w,ai,aq]
    .cases h
   .cases h
  .rename_i t x ho;split at h
   .rename_i v hx;split at h
    .rename_i q;simp only[m5,aN]at q;have hM':=Sy.Md.new hM n bY q.2.1 t v.cs q.2.2;refine aW1 (v:= .pointer (some ⟨w.heap.size,0,none⟩)) (w':=w.alloc (.cells (A5 B.J N v.cs).toArray t)) ?_ (aE7 h hl _ _ _ (aX8 hM' (by
      show Value.pointer (some ⟨E8 N n w.heap.size n,0,none⟩)=_;rw[K7])))
     unfold execOp;simp only[ho,hev _ _ hx];simp only[am,SV.A1,eI6 hJ' (N:=N) (P:=P) (t:=t) v w,ai,aq]
    .cases h
   .cases h
  .rename_i t len parts ho;split at h
   .rename_i ps hps;split at h
    .rename_i e cs hrow;split at h
     .rename_i q;simp only[m5,aN]at q;have hM':=Sy.Md.new hM n bY q.2.1 e cs q.2.2;have hrun:=dm5 hJ' (N:=N) hrow w;rw[<-bG5 hev hps]at hrun;refine aW1 (v:= .slice (some ⟨w.heap.size,0,none⟩) len len) (w':=w.alloc (.cells (A5 B.J N cs).toArray e)) ?_ (aE7 h hl _ _ _ (aX8 hM' (by
       show Value.slice (some ⟨E8 N n w.heap.size n,0,none⟩) ((len:Int)).toNat ((len:Int)).toNat=_;rw[K7];simp)))
      unfold execOp;simp only[ho];have e1:(parts.map fun p=>(p.1,a.eval p.2))=(parts.toList.map fun p=>(p.1,a.eval p.2)).toArray:=by
       cases parts;simp
      rw[<-e1]at hrun;simp only[am];rw[hrun];rfl
     .cases h
    .cases h
   .cases h
  .rename_i sT dT x ho;split at h
   .rename_i t hx;split at h
    .rename_i m e hb;split at h
     .rename_i q;simp only[m5]at q;obtain⟨hm,hM1,r',hr,hlr⟩:=aa3 h hl hM;have ehp:(aG9 s m).hp=s.hp:=an7 m s;have etm:(aG9 s m).tm=s.tm:=an6 m s;have efr:∀ j,(aG9 s m).T8 j=s.T8 j:=fun j=>by unfold St.T8;rw[ehp,etm]
      obtain⟨N',w',hrun,hM'⟩:=dH0 hM1 hM.cx hb hm n bY (by rw[efr];exact q.2.1) (by rw[efr];exact q.2.2);refine aW1 (v:=C.G2 B.J N' (.slr n i9 (Q6 s.cx t) i9)) (w':=w') ?_ (aE7 hr hlr _ _ _ (aX8 hM' rfl));have hx':a.eval x= .string (u9 B.J t).s:=hev _ _ hx;unfold execOp;simp only[ho,hx',am,hrun,ai,aq]
     .cases h
    .cases h
   .cases h
  .rename_i k ho;split at h
   .rename_i g hk;split at h
    .rename_i f ls vs hg hv;obtain⟨⟨fn,hf,hb,hn⟩,hc⟩:=cY1 hJ hsp hrec hBJ hB h hl hM;subst hBJ;unfold Oper.wp;rw[cY0 ho hk (hev _ _ hg) (bM2 hev hv) hf hb hn];exact hc
    .cases h
   .split at h
    .rename_i m old e str hg;split at h
     .rename_i q;simp only[m5]at q;obtain⟨hm,hM1,r',hr,hlr⟩:=aa3 h hl hM;have ehp:(aG9 s m).hp=s.hp:=an7 m s;have etm:(aG9 s m).tm=s.tm:=an6 m s;have efr:∀ j,(aG9 s m).T8 j=s.T8 j:=fun j=>by unfold St.T8;rw[ehp,etm]
      obtain⟨N',w',hrun,hM'⟩:=dF1 hM1 hM.cx hev ho (by rw[ehp];exact hg) hm n bY (by rw[efr];exact q.2.1) (by rw[efr];exact q.2.2);exact aW1 hrun (aE7 hr hlr _ _ _ (aX8 hM' rfl))
     .cases h
    .cases h
   .cases h
  .cases h
end
section
variable{P:Program}{J:Env}{sp:List Spec}{rec:Nat->Tk->St->Rs}{B:Bs}{Q:Exit->Act->World->Prop}{N:Bn}{a:Act}{w:World}{s:St}{r:List Lf}{n0:Nat}
theorem bk4{held:List Bk}(h1:aa5 held s.hp=true)(h2:ap8 B.n0 held=true)(hM:B.Md s N a w):SH B held w:=by
 intro b hb;obtain⟨x,hx,e⟩:=List.any_eq_true.1 (av.1 h1 b hb);have e:=ap2 e;have hlt:=av.1 h2 b hb;simp only[m5]at hlt;have:=hM.hp x hx;rw[<-e]at this;have hag:∀ l,l<B.n0->N l=B.N0 l:=hM.old;exact this.at7 (hag _ (aB1 hlt.1)).symm (fun _=>(hag _ (aB1 hlt.2.1)).symm) (aj3 B.J hag hlt.2.2).symm
theorem eU2{held:List Bk}(h2:ap8 B.n0 held=true)(hM:B.Md s N a w){w':World}(h:SH B held w'):∀ b∈held,BkOk B.J N w' b:=by
 intro b hb;have hlt:=av.1 h2 b hb;simp only[m5]at hlt;have hag:∀ l,l<B.n0->N l=B.N0 l:=hM.old;exact(h b hb).at7 (hag _ (aB1 hlt.1)) (fun _=>hag _ (aB1 hlt.2.1)) (aj3 B.J hag hlt.2.2)
theorem c94(hJ:B.J.R8){ops:Array Oper}{held:List Bk}{listed:Array Bool}{i:Nat}{o:Oper}{m:List Tm}{v:SV}(h:bt6 P ops held listed s i=some (o,m,v))(h2:ap8 B.n0 held=true)(hM:B.Md s N a w)(hm:Met B.J m):
 ops[i]? =some o/\Region.free .any ops listed i=true/\YieldsIf P ops (SH B held) o (v.A1 B.J N) a:=by
 have hev:∀ x v,opd s.tm x=some v->a.eval x=v.A1 B.J N:=fun x v hx=>Sy.Md.opd hM hx
 unfold bt6 at h;split at h
 .cases h
 .rename_i o' ho;split at h
  .cases h
  .rename_i t ht;have hw:=bR2 hM ht;split at h
   .rename_i hd;have hd:=aL5 hM.cx hd;split at h
    .rename_i m' v' hq;split at h
     .rename_i hfree;injection h with h;injection h with h1 h3;injection h3 with h3 h4;subst h1 h3 h4;refine⟨ho,hfree, .inl ⟨by rw[hw,hd],fun w' hS=>?_⟩⟩;unfold co9 at hq;split at hq
      .rename_i r' hp;injection hq with hq;subst hq;exact b50 hJ hM.cx hev hp hm w'
      .exact cI7 hM.cx (eU2 h2 hM hS) hev hq hm
     .cases h
    .cases h
   .rename_i hd;have hd:=aL5 hM.cx hd;split at h
    .rename_i hfree;injection h with h;injection h with h1 h3;injection h3 with h3 h4;subst h1 h3 h4;exact⟨ho,hfree, .inr ⟨by rw[hw,hd],rfl⟩⟩
    .cases h
   .cases h
theorem bO0{ops:Array Oper}{held:List Bk}{listed:Array Bool}:∀{l:List Nat} {i:Nat} {o:Oper} {m:List Tm} {v:SV},bC0 P ops held listed s l=some (i,o,m,v)->i∈l/\bt6 P ops held listed s i=some (o,m,v)
 | [],_,_,_,_,h=>by cases h
 | j::l,i,o,m,v,h=>by
   simp only[bC0]at h;split at h
   .rename_i o' m' v' hq;injection h with h;injection h with h1 h2;injection h2 with h2 h3;injection h3 with h3 h4;subst h1 h2 h3 h4;exact⟨ae ..,hq⟩
   .have:=bO0 h;exact⟨aj _ this.1,this.2⟩
theorem bo4{d:Option Tmp}(hM:B.Md s N a w):B.Md (s.put d aE3) N (a.put d undef) w:=aX8 hM rfl
theorem bA2{t:Tm}(h:(u9 B.J t).b=false):(u9 B.J (aW4 t)).b=true:=by rw[al7,h];rfl
theorem cp2(hJ:J.R8)(hrec:at6 P J rec)(hBJ:B.J=J)(hB:B.n0=n0){ops:Array Oper}{held:List Bk}{listed:Array Bool}{k base i:Nat}(h:bb3 rec n0 ops held listed k base s i= .ok r)(hl:LOk B Q r)
 (h1:aa5 held s.hp=true) (h2:ap8 B.n0 held=true) (hns:Region.noSelect ops=true) (hM:B.Md s N a w):
 wpOp P ops (NoPanic Q) i (fun a' w'=>SH B held w'/\wpAnyH P .any ops (NoPanic Q) (SH B held) k (listed.setIfInBounds i true) a' w') a w:=by
 unfold bb3 at h;unfold wpOp;split at h
 .cases h
 .rename_i o ho;rw[ho];dsimp only;split at h
  .cases h
  .rename_i t ht;have hw:=bR2 hM ht;rw[hw];have yes:∀{s':St} {r':List Lf},aa5 held s'.hp=true->B.Md s' N a w->LOk B Q r'->an9 (rec n0 (.op o (base+2*i)) s') (fun e s1=>match e with
    | .normal=>if aa5 held s1.hp then rec n0 (.any ops held (listed.setIfInBounds i true) k base) s1 else .error ⟨"held",o.pos⟩
    | _=> .error ⟨"exit", ""⟩)= .ok r'->
    o.wp P a w (fun a' w'=>SH B held w'/\wpAnyH P .any ops (NoPanic Q) (SH B held) k (listed.setIfInBounds i true) a' w') (NoPanic Q):=by
    intro s' r' hh hM' hl' hb;obtain⟨l',hl1,hbd⟩:=aW6 hb
    let Q1:Exit->Act->World->Prop:=fun e a' w'=>e= .normal->SH B held w'/\wpAnyH P .any ops (NoPanic Q) (SH B held) k (listed.setIfInBounds i true) a' w'
    have hlk:LOk B Q1 l':=by
     refine aP3 (B:=B) (B':=B) (Q:=Q) rfl (fun s N a w h=>⟨N,a,h⟩) ?_ hbd hl';intro e s1 r1 hf hlr N1 a1 w1 hM1 he;cases e with
     | exit n=>cases hf
     | ret=>cases hf
     | normal=>
       simp only[]at hf;split at hf
       .rename_i hin;exact⟨bk4 hin h2 hM1,hrec n0 _ s1 r1 hf B Q hBJ hB ⟨hin,by rw[<-hB];exact h2,hns⟩ hlr N1 a1 w1 hM1⟩
       .cases hf
    have:=hrec n0 (.op o (base+2*i)) s' l' hl1 B Q1 hBJ hB trivial hlk N a w hM';exact bF6 (fun a w h=>h rfl) this
   have no:∀{s':St} {r':List Lf},aa5 held s'.hp=true->B.Md s' N a w->LOk B Q r'->rec n0 (.any ops held (listed.setIfInBounds i true) k base) (s'.put o.dst aE3)= .ok r'->
    SH B held w/\wpAnyH P .any ops (NoPanic Q) (SH B held) k (listed.setIfInBounds i true) (a.put o.dst undef) w:=by
    intro s' r' hh hM' hl' hr;exact⟨bk4 hh h2 hM',hrec n0 _ _ r' hr B Q hBJ hB ⟨hh,by rw[<-hB];exact h2,hns⟩ hl' N _ w (bo4 hM')⟩
   simp only[]at h;split at h
   .rename_i hd;have hd:=aL5 hM.cx hd;rw[if_pos hd];exact .inl (yes h1 hM hl h)
   .rename_i hd;have hd:=aL5 hM.cx hd;rw[if_neg (by rw[hd];simp)];exact no h1 hM hl h
   .obtain⟨x,y,hx,hy,rfl⟩:=a55 h;cases hd:(u9 B.J t).b with
    | true=>
      rw[if_pos rfl];exact .inl (yes (s':=s.aL6 t) h1 (Sy.Md.ao2 hM hd) hl.l hx)
    | false=>
      rw[if_neg bM];exact no (s':=s.aL6 (aW4 t)) h1 (Sy.Md.ao2 hM (bA2 hd)) hl.r hy
theorem bq2{ops:Array Oper}{held:List Bk}{listed:Array Bool}{k base:Nat}:∀{l:List Nat} {r:List Lf},b93 rec n0 ops held listed k base s l= .ok r->LOk B Q r->∀ i∈l,∃ r',bb3 rec n0 ops held listed k base s i= .ok r'/\LOk B Q r'
 | [],_,_,_,_,hi=>by cases hi
 | j::l,r,h,hl,i,hi=>by
   obtain⟨x,y,hx,hy,rfl⟩:=a55 h;rcases aa.1 hi with rfl|hi
   .exact⟨x,hx,hl.l⟩
   .exact bq2 hy hl.r i hi
theorem cr8(hJ:J.R8)(hrec:at6 P J rec)(hBJ:B.J=J)(hB:B.n0=n0){ops:Array Oper}{held:List Bk}{listed:Array Bool}{k base:Nat}(h:b92 P rec n0 ops held listed k base s= .ok r)(hl:LOk B Q r)
 (h1:aa5 held s.hp=true) (h2:ap8 B.n0 held=true) (hns:Region.noSelect ops=true) (hM:B.Md s N a w):wpAnyH P .any ops (NoPanic Q) (SH B held) k listed a w:=by
 have hJ':B.J.R8:=by rw[hBJ];exact hJ
 unfold b92 at h;split at h
 .rename_i hr;exact wpAnyH_done hr (NoPanic.normal (aE7 h hl _ _ _ hM)) _
 .rename_i hne;split at h
  .cases h
  .rename_i k';split at h
   .rename_i i o m v hf;obtain⟨hm,hM1,r',hr,hlr⟩:=aa3 h hl hM;obtain⟨hi,ht⟩:=bO0 hf;obtain⟨ho,hfree,hy⟩:=c94 hJ' ht h2 hM hm;have hhp:∀(m:List Tm) (s:St),(aG9 s m).hp=s.hp:=by
     intro m
     induction m with
     | nil=>intro s;rfl
     | cons t m ih=>intro s;exact ih _
    refine wpAnyH_take ho hns hfree bQ (fun c a w h=>h) hy (bk4 h1 h2 hM) ?_;refine hrec n0 _ _ r' hr B Q hBJ hB ⟨?_,by rw[<-hB];exact h2,hns⟩ hlr N _ w (aX8 hM1 rfl);show aa5 held (aG9 s m).hp=true;rw[hhp];exact h1
   .split at h
    .rename_i t _;obtain⟨x,y,hx,hy,rfl⟩:=a55 h;have h2':=h2;rw[hB]at h2';cases hd:(u9 B.J t).b with
     | true=>exact hrec n0 _ (s.aL6 t) x hx B Q hBJ hB ⟨h1,h2',hns⟩ hl.l N a w (Sy.Md.ao2 hM hd)
     | false=>exact hrec n0 _ (s.aL6 (aW4 t)) y hy B Q hBJ hB ⟨h1,h2',hns⟩ hl.r N a w (Sy.Md.ao2 hM (bA2 hd))
    .unfold ddR at h;split at h
     .rename_i l0 hall;injection h with h;subst h;have hl0:=b82 hl;refine wpAnyH_all (rs:=Region.ready .any ops listed) rfl (fun e=>hne e) ?_;intro i hi;obtain⟨r',hr',hlr'⟩:=bq2 hall hl0 i hi;exact cp2 hJ hrec hBJ hB hr' hlr' h1 h2 hns hM
     .cases h
theorem b49(hJ:J.R8)(hrec:at6 P J rec)(hBJ:B.J=J)(hB:B.n0=n0){id:Nat}{ops:Array Oper}(h:bG4 P rec n0 ops s= .ok r)(hl:LOk B Q r)(hM:B.Md s N a w):(Code.region id ops true).wp P Q a w:=by
 unfold bG4 at h;split at h
 .rename_i q;simp only[m5]at q;have hn:=au q.2.2;rw[<-hB]at hn;have go:∀{held:List Bk},(if aa5 held s.hp&&ap8 s.nx held then rec s.nx (.any ops held (Array.replicate ops.size false) ops.size s.nx) { s with nx:=s.nx+2*ops.size }else .error ⟨"held", ""⟩)= .ok r->(Code.region id ops true).wp P Q a w:=by
   intro held hg;split at hg
   .rename_i hh;simp only[m5]at hh;refine wp_region_noPanic (wp_region_held (S:=SH (B.at N s.nx) held) q.1 ?_);have hM1:(B.at N s.nx).Md { s with nx:=s.nx+2*ops.size } N a w.drew:=⟨hM.act,fun b hb=>(hM.hp b hb).dI8,hM.ne,hM.may,hM.cx,Only.bU0 hM.only,fun _ _=>rfl⟩;have hl1:LOk (B.at N s.nx) Q r:=by
     intro x hx;have:=hl x hx;cases x with
     | must t s1=>exact fun N1 a1 w1 h1=>this N1 a1 w1 (Md.b97 hM hn h1)
     | out e s1=>exact fun N1 a1 w1 h1=>this N1 a1 w1 (Md.b97 hM hn h1)
    exact hrec s.nx _ _ r hg (B.at N s.nx) Q hBJ rfl ⟨hh.1,hh.2,q.2.1⟩ hl1 N a _ hM1
   .cases hg
  simp only[]at h;split at h
  .rename_i l hg;injection h with h;subst h;exact go hg
  .exact go h
 .cases h
theorem cp1(hJ:J.R8)(hrec:at6 P J rec)(hBJ:B.J=J)(hB:B.n0=n0){all:Array Oper}{l:List Oper}(h:b55 rec n0 all l s= .ok r)(hl:LOk B Q r)(hM:B.Md s N a w):wpList P all Q l a w:=by
 unfold b55 at h;split at h
 .exact wpList_nil (aE7 h hl _ _ _ hM)
 .rename_i o rest;split at h
  .cases h
  .rename_i t ht;have hw:=bR2 hM ht;unfold wpList;rw[hw];have yes:∀{s':St} {r':List Lf},B.Md s' N a w->LOk B Q r'->an9 (rec n0 (.op o s'.nx) s') (fun e s1=>match e with
    | .normal=>rec n0 (.ops all rest) s1
    | _=> .error ⟨"exit", ""⟩)= .ok r'->o.wp P a w (wpList P all Q rest) Q:=by
    intro s' r' hM' hl' hb;obtain⟨l',hl1,hbd⟩:=aW6 hb
    let Q1:Exit->Act->World->Prop:=fun e a' w'=>e= .normal->wpList P all Q rest a' w'
    have hlk:LOk B Q1 l':=by
     refine aP3 (B:=B) (B':=B) (Q:=Q) rfl (fun s N a w h=>⟨N,a,h⟩) ?_ hbd hl';intro e s1 r1 hf hlr N1 a1 w1 hM1 he;cases e with
     | exit n=>cases hf
     | ret=>cases hf
     | normal=>exact hrec n0 (.ops all rest) s1 r1 hf B Q hBJ hB trivial hlr N1 a1 w1 hM1
    have:=hrec n0 (.op o s'.nx) s' l' hl1 B Q1 hBJ hB trivial hlk N a w hM';exact bF6 (fun a w h=>h rfl) this
   have no:∀{s':St} {r':List Lf},B.Md s' N a w->LOk B Q r'->rec n0 (.ops all rest) (s'.put o.dst aE3)= .ok r'->wpList P all Q rest (a.put o.dst undef) w:=by
    intro s' r' hM' hl' hr;exact hrec n0 (.ops all rest) _ r' hr B Q hBJ hB trivial hl' N _ w (bo4 hM')
   simp only[]at h;split at h
   .rename_i hd;have hd:=aL5 hM.cx hd;rw[if_pos hd];exact .inl (yes hM hl h)
   .rename_i hd;have hd:=aL5 hM.cx hd;rw[if_neg (by rw[hd];simp)];exact no hM hl h
   .obtain⟨x,y,hx,hy,rfl⟩:=a55 h;cases hd:(u9 B.J t).b with
    | true=>
      rw[if_pos rfl];exact .inl (yes (s':=s.aL6 t) (Sy.Md.ao2 hM hd) hl.l hx)
    | false=>
      rw[if_neg bM];exact no (s':=s.aL6 (aW4 t)) (Sy.Md.ao2 hM (bA2 hd)) hl.r hy
theorem bo6{e:Ex}{a:Act}{w:World}(h:Q e.to a w):Exit.noGoto Q e.to a w:=by cases e<;>exact h
theorem cX5(hJ:J.R8)(hrec:at6 P J rec)(hBJ:B.J=J)(hB:B.n0=n0){lim:Nat}{c:Code}(h:aQ6 P lim rec n0 c s= .ok r)(hl:LOk B Q r)(hM:B.Md s N a w):c.wp P Q a w:=by
 unfold aQ6 at h;split at h
 .exact Go.wp_skip (aE7 h hl _ _ _ hM)
 .exact wp_label (aE7 h hl _ _ _ hM)
 .exact wp_ret (aJ3 (e:= .ret) h hl _ _ _ hM)
 .rename_i n;exact wp_exit (aJ3 (e:= .exit n) h hl _ _ _ hM)
 .rename_i x y;obtain⟨l',hl1,hbd⟩:=aW6 h;refine wp_seq (hrec n0 (.code x) s l' hl1 B (Exit.then (y.wp P Q) Q) hBJ hB trivial ?_ N a w hM);refine aP3 (B:=B) (B':=B) (Q:=Q) rfl (fun s N a w h=>⟨N,a,h⟩) ?_ hbd hl;intro e s1 r1 hf hlr N1 a1 w1 hM1;cases e with
  | normal=>exact hrec n0 (.code y) s1 r1 hf B Q hBJ hB trivial hlr N1 a1 w1 hM1
  | exit n=>exact aJ3 (e:= .exit n) hf hlr _ _ _ hM1
  | ret=>exact aJ3 (e:= .ret) hf hlr _ _ _ hM1
 .rename_i id c';obtain⟨l',hl1,hbd⟩:=aW6 h;refine wp_block (hrec n0 (.code c') s l' hl1 B (Exit.inBlock id Q) hBJ hB trivial ?_ N a w hM);refine aP3 (B:=B) (B':=B) (Q:=Q) rfl (fun s N a w h=>⟨N,a,h⟩) ?_ hbd hl;intro e s1 r1 hf hlr N1 a1 w1 hM1;cases e with
  | normal=>exact aJ3 (e:= .normal) hf hlr _ _ _ hM1
  | ret=>exact aJ3 (e:= .ret) hf hlr _ _ _ hM1
  | exit n=>
    simp only[]at hf;show(if n=id then Q .normal a1 w1 else Q (.exit n) a1 w1);split at hf
    .rename_i q;rw[if_pos (af q)];exact aE7 hf hlr _ _ _ hM1
    .rename_i q;rw[if_neg (fun e=>q (by rw[e];exact Nat.beq_refl _))];exact aJ3 (e:= .exit n) hf hlr _ _ _ hM1
 .rename_i c';refine wp_scope_straight (hrec n0 (.code c') s r h B (Exit.noGoto Q) hBJ hB trivial ?_ N a w hM);intro x hx;have:=hl x hx;cases x with
  | must t s1=>exact this
  | out e s1=>exact fun N1 a1 w1 h1=>bo6 (this N1 a1 w1 h1)
 .rename_i x c1 c2;split at h
  .rename_i t ht;have he:a.eval x= .bool (u9 B.J t).b:=Sy.Md.opd hM ht;split at h
   .rename_i hd;refine wp_cond_true (by rw[he,aL5 hM.cx hd]) ?_;exact hrec n0 (.code c1) s r h B Q hBJ hB trivial hl N a w hM
   .rename_i hd;refine wp_cond_false (by rw[he,aL5 hM.cx hd]) ?_;exact hrec n0 (.code c2) s r h B Q hBJ hB trivial hl N a w hM
   .obtain⟨x,y,hx,hy,rfl⟩:=a55 h;refine wp_cond_split he (fun hd=>?_) (fun hd=>?_)
    .exact hrec n0 (.code c1) _ x hx B Q hBJ hB trivial hl.l N a w (Sy.Md.ao2 hM hd)
    .exact hrec n0 (.code c2) _ y hy B Q hBJ hB trivial hl.r N a w (Sy.Md.ao2 hM (bA2 hd))
  .cases h
 .rename_i id ops draw;split at h
  .rename_i hd;rw[hd];exact b49 hJ hrec hBJ hB h hl hM
  .rename_i hd;rw[show draw=false from by simpa using hd];exact wp_region_list (hrec n0 (.ops ops ops.toList) s r h B Q hBJ hB trivial hl N a w hM)
 .rename_i c';exact wp_loop_rounds lim (hrec n0 (.rounds c' lim) s r h B Q hBJ hB trivial hl N a w hM)
 .cases h
theorem b48(hrec:at6 P J rec)(hBJ:B.J=J)(hB:B.n0=n0){c:Code}{k:Nat}(h:bG3 rec n0 c k s= .ok r)(hl:LOk B Q r)(hM:B.Md s N a w):Code.rounds P c Q k a w:=by
 unfold bG3 at h;split at h
 .cases h
 .rename_i n;obtain⟨l',hl1,hbd⟩:=aW6 h;rw[rounds_succ];refine hrec n0 (.code c) s l' hl1 B (Exit.then (Code.rounds P c Q n) Q) hBJ hB trivial ?_ N a w hM;refine aP3 (B:=B) (B':=B) (Q:=Q) rfl (fun s N a w h=>⟨N,a,h⟩) ?_ hbd hl;intro e s1 r1 hf hlr N1 a1 w1 hM1;cases e with
  | normal=>exact hrec n0 (.rounds c n) s1 r1 hf B Q hBJ hB trivial hlr N1 a1 w1 hM1
  | exit n=>exact aJ3 (e:= .exit n) hf hlr _ _ _ hM1
  | ret=>exact aJ3 (e:= .ret) hf hlr _ _ _ hM1
end
theorem ai8{P:Program}{J:Env}{sp:List Spec}(hJ:J.R8)(hsp:∀ q∈sp,q.Ok P J)(lim:Nat):∀ n,at6 P J (R6 P sp lim n)
 | 0=>by
   intro n0 tk s r h;simp only[R6]at h;cases h
 | n+1=>by
   have ih:=ai8 hJ hsp lim n;intro n0 tk s r h B Q hBJ hB hpre hl N a w hM;cases tk with
   | code c=>exact cX5 hJ ih hBJ hB h hl hM
   | ops all l=>exact cp1 hJ ih hBJ hB h hl hM
   | op o i=>exact dC6 hJ hsp ih hBJ hB h hl hM
   | any os held listed k base=>exact cr8 hJ ih hBJ hB h hl hpre.1 (by rw[hB];exact hpre.2.1) hpre.2.2 hM
   | rounds c k=>exact b48 ih hBJ hB h hl hM
def Lf.ag4(P:Program)(fn:Func)(B:Bs)(R:Value->World->Prop):Lf->Prop
 | .must t s=>∀ N a w,B.Md s N a w->(u9 B.J t).b=true
 | .out e s=>match e,aD7 P s fn.results.toList with
   | .exit _,_=>False
   | _,some v=>∀ N a w,B.Md s N a w->R (v.A1 B.J N) w
   | _,none=>False
def aC6{α:Type}(p:α->Prop):List α->Prop
 | []=>True
 | x::l=>p x/\aC6 p l
theorem am2{α:Type}{p:α->Prop}:∀{l:List α},aC6 p l->∀ x∈l,p x
 | [],_,_,h=>by cases h
 | y::l,h,x,hx=>by
   rcases aa.1 hx with rfl|hx
   .exact h.1
   .exact am2 h.2 x hx
theorem aq0{P:Program}{B:Bs}{sp:List Spec}(hJ:B.J.R8)(hsp:∀ q∈sp,q.Ok P B.J)(lim fuel:Nat){f:FuncId}{fn:Func}{c:Code}(hf:P.funcs[f]? =some fn)(hb:fn.body=some c){xs:List SV}{s:St}{l:List Lf}
 (hrun:R6 P sp lim fuel B.n0 (.code c) (L3 fn xs s)= .ok l) {N:Bn} {w:World} (hM:B.Md { s with tm:=[] } N ⟨#[],[]⟩ w) {R:Value->World->Prop} (hR:aC6 (Lf.ag4 P fn B R) l)
 {args:Array Value} (hargs:args=(xs.map (SV.A1 B.J N)).toArray):Calls P f args w fun e w'=>∃ v,e= .returned v/\R v w':=by
 subst hargs;refine calls_of_wp hf hb ?_;have hact:(⟨(xs.map (SV.A1 B.J N)).toArray++Array.replicate (fn.ntmps - (xs.map (SV.A1 B.J N)).toArray.size) undef,[]⟩:Act)=⟨((L3 fn xs s).tm.map (SV.A1 B.J N)).toArray,[]⟩:=by
  simp[L3,a93]
 rw[hact];refine ai8 hJ hsp lim fuel B.n0 (.code c) (L3 fn xs s) l hrun B _ rfl rfl trivial ?_ N _ w ⟨rfl,hM.hp,hM.ne,hM.may,hM.cx,hM.only,hM.old⟩;intro x hx;have hd:=am2 hR x hx;cases x with
 | must t s1=>exact hd
 | out e s1=>
   intro N1 a1 w1 h1;unfold Lf.ag4 at hd;have fin:∀ v,aD7 P s1 fn.results.toList=some v->R (v.A1 B.J N1) w1->a1.defers=[]/\∃ u,(results fn a1.tmps).run P w1= .ok u w1/\∃ v,Ending.returned u= .returned v/\R v w1:=
    fun v hv hr=>⟨by rw[h1.act],v.A1 B.J N1,bL1 h1 hv,_,rfl,hr⟩
   cases e with
   | exit n=>exact hd.elim
   | normal=>
     cases hv:aD7 P s1 fn.results.toList with
     | none=>simp only[hv]at hd
     | some v=>simp only[hv]at hd;exact fin v hv (hd N1 a1 w1 h1)
   | ret=>
     cases hv:aD7 P s1 fn.results.toList with
     | none=>simp only[hv]at hd
     | some v=>simp only[hv]at hd;exact fin v hv (hd N1 a1 w1 h1)
#print axioms aq0
inductive Tq8 (α : Type)
 | l (f : List Tm -> α)
 | b (c : Tm)
 | d (c : Tm)
 | a (c : Tm)
 | p
def fq8 {α : Type} : List (Tq8 α) -> List (List Tm) -> List α
 | .l f::t,x::s=>f x::fq8 t s
 | .b c::t,x::s=>fq8 t ((c::x)::(.not c::x)::s)
 | .d c::t,x::s=>fq8 t ((.not c::x)::(c::x)::s)
 | .a c::t,x::s=>fq8 t ((c::x)::s)
 | .p::t,x::s=>fq8 t (x::x::s)
 | _,_=>[]
def aa1(f:FuncId)(pre:Cx->List SV->Option (List Tm))(res:Cx->List SV->Option (SV × List Bd)):Spec where
 f:=f
 pre:=fun s xs=>pre s.cx xs
 go:=fun _ s xs=>match res s.cx xs with
  | some (v,bs)=>some ({ s with cx:=⟨bs++s.cx.bs,s.cx.pc⟩ },v)
  | none=>none
theorem aY3{P:Program}{J:Env}{f:FuncId}{pre:Cx->List SV->Option (List Tm)}{res:Cx->List SV->Option (SV × List Bd)}
 (h:∀ c xs m v bs,c.ok J->pre c xs=some m->res c xs=some (v,bs)->Met J m->X5 J bs/\∀ N w,Calls P f (xs.map (SV.A1 J N)).toArray w fun e w'=>e= .returned (v.A1 J N)/\Below w.heap.size w w'):
 (aa1 f pre res).Ok P J:=by
 intro B s xs m s' v hB hpre hgo hm N a w hM;subst hB;simp only[aa1]at hpre hgo;split at hgo
 .rename_i v' bs hres;injection hgo with hgo;injection hgo with h1 h2;subst h1 h2;obtain⟨hb,hc⟩:=h s.cx xs m v' bs hM.cx hpre hres hm;refine(hc N w).mono ?_;rintro e w' ⟨rfl,hbel⟩;refine⟨N,a,rfl,hM.act,fun b hb=>(hM.hp b hb).cZ4 hbel,hM.ne,hM.may,⟨fun x hx=>?_,hM.cx.pc⟩,hM.only.bD3 hbel,hM.old⟩;rcases aC.1 hx with hx|hx
  .exact hb x hx
  .exact hM.cx.bs x hx
 .cases hgo
inductive Sm where
 | must (t:Tm) (pc:List Tm)
 | ret (v:SV) (hp:List Bk) (pc:List Tm)
 deriving Repr,Inhabited
def Lf.sm(P:Program)(fn:Func)(n:Nat):Lf->Option Sm
 | .must t s=>some (.must t s.cx.pc)
 | .out (.exit _) _=>none
 | .out _ s=>match aD7 P s fn.results.toList with
   | some v=>some (.ret v (dF4 n v s.hp) s.cx.pc)
   | none=>none
def smL(P:Program)(fn:Func)(n:Nat):List Lf->Option (List Sm)
 | []=>some []
 | x::l=>match x.sm P fn n,smL P fn n l with
   | some y,some ys=>some (y::ys)
   | _,_=>none
def smR(P:Program)(fn:Func)(n:Nat):Rs->Option (List Sm)
 | .ok l=>smL P fn n l
 | .error _=>none
def y7(fn:Func):Code:=fn.body.getD .skip
structure Hp(J:Env)(S:Nat->Prop)(w0:World)(N0:Bn)(n0:Nat)(bks:List Bk)(N:Bn)(w:World):Prop where
 hp:∀ b∈bks,BkOk J N w b
 ne:∀ x∈bks,∀ y∈bks,x.l≠y.l->x.G0 N->y.G0 N->apart N x y
 may:∀ b∈bks,b.rw=true->b.G0 N->∀ g,fp N b g->S g\/w0.heap.size<=g
 only:Only S w0 w
 old:∀ l,l<n0->N l=N0 l
theorem Hp.neq{J:Env}{S:Nat->Prop}{w0 w:World}{N0 N:Bn}{n0:Nat}{bks:List Bk}(h:Hp J S w0 N0 n0 bks N w):∀ x∈bks,∀ y∈bks,x.l≠y.l->x.G0 N->y.G0 N->N x.l≠N y.l:=fun x hx y hy hne h1 h2=>(h.ne x hx y hy hne h1 h2).ne
theorem Hp.bC9{J:Env}{S:Nat->Prop}{w0 w:World}{N0 N:Bn}{n0:Nat}{bks:List Bk}(h:Hp J S w0 N0 n0 bks N w):∀ b∈bks,b.rw=true->b.G0 N->S (N b.l)\/w0.heap.size<=N b.l:=fun b hb hw hr=>h.may b hb hw hr _ (I4 N b)
def A6(J:Env):List Tm->Prop
 | []=>True
 | t::l=>(u9 J t).b=true/\A6 J l
theorem aX6{J:Env}:∀{l:List Tm},(∀ t∈l,(u9 J t).b=true)->A6 J l
 | [],_=>trivial
 | t::l,h=>⟨h t (ae ..),aX6 fun x hx=>h x (aj _ hx)⟩
def Sm.bT6(B:Bs)(R:Value->World->Prop):Sm->Prop
 | .must t pc=>A6 B.J pc->(u9 B.J t).b=true
 | .ret v hp pc=>A6 B.J pc->∀ N w,Hp B.J B.S B.w0 B.N0 B.n0 hp N w->R (v.A1 B.J N) w
theorem ba1{P:Program}{fn:Func}{n:Nat}{B:Bs}{R:Value->World->Prop}:∀{l:List Lf} {ys:List Sm},smL P fn n l=some ys->aC6 (Sm.bT6 B R) ys->aC6 (Lf.ag4 P fn B R) l
 | [],_,_,_=>trivial
 | x::l,ys,h,hd=>by
   simp only[smL]at h;split at h
   .rename_i y ys' h1 h2;injection h with h;subst h;refine⟨?_,ba1 h2 hd.2⟩;have hy:=hd.1;cases x with
    | must t s=>
      injection h1 with h1;subst h1;exact fun N a w hM=>hy (aX6 hM.cx.pc)
    | out e s=>
      unfold Lf.sm at h1;cases e with
      | exit n=>cases h1
      | normal=>
        simp only[]at h1;split at h1
        .rename_i v hv;injection h1 with h1;subst h1;unfold Lf.ag4;simp only[hv];exact fun N a w hM=>hy (aX6 hM.cx.pc) N w ⟨fun b hb=>hM.hp b (aX7 hb),fun x hx y hy=>hM.ne x (aX7 hx) y (aX7 hy),fun b hb=>hM.may b (aX7 hb),hM.only,hM.old⟩
        .cases h1
      | ret=>
        simp only[]at h1;split at h1
        .rename_i v hv;injection h1 with h1;subst h1;unfold Lf.ag4;simp only[hv];exact fun N a w hM=>hy (aX6 hM.cx.pc) N w ⟨fun b hb=>hM.hp b (aX7 hb),fun x hx y hy=>hM.ne x (aX7 hx) y (aX7 hy),fun b hb=>hM.may b (aX7 hb),hM.only,hM.old⟩
        .cases h1
   .cases h
theorem W3{P:Program}{B:Bs}{sp:List Spec}(hJ:B.J.R8)(hsp:∀ q∈sp,q.Ok P B.J)(lim fuel:Nat){f:FuncId}{fn:Func}(hf:P.funcs[f]? =some fn)(hb:fn.body.isSome=true)(xs:List SV)(s:St)(ys:List Sm)(n0:Nat)(hn:B.n0=n0)
 (hrun:smR P fn n0 (R6 P sp lim fuel n0 (.code (y7 fn)) (L3 fn xs s))=some ys) {w:World} (hM:B.Md { s with tm:=[] } B.N0 ⟨#[],[]⟩ w) {R:Value->World->Prop} (hR:aC6 (Sm.bT6 B R) ys)
 {args:Array Value} (hargs:args=(xs.map (SV.A1 B.J B.N0)).toArray):Calls P f args w fun e w'=>∃ v,e= .returned v/\R v w':=by
 subst hn;obtain⟨c,hc⟩:=Option.isSome_iff_exists.1 hb;have hbc:y7 fn=c:=by unfold y7;rw[hc];rfl
 rw[hbc]at hrun;unfold smR at hrun;split at hrun
 .rename_i l hl;exact aq0 hJ hsp lim fuel hf hc hl hM (ba1 hrun hR) hargs
 .cases hrun
theorem Md.aj5{J:Env}{S:Nat->Prop}{w:World}{N0:Bn}{n0:Nat}{cx:Cx}{nx:Nat}(hc:cx.ok J):Md J S w N0 n0 ⟨[],[],cx,nx⟩ N0 ⟨#[],[]⟩ w:=
 ⟨rfl,fun _ h=>bF,fun _ h=>bF,fun _ h=>bF,hc,Only.aF4 _ _,fun _ _=>rfl⟩
theorem Only.R9{w w':World}(h:Only (fun _=>False) w w'):Below w.heap.size w w':=⟨h.os,h.tape,h.output,h.size,fun i hi=>h.block i hi fun hf=>hf⟩
theorem b81(is:List Int)(bs:List Bool)(ss:List ByteArray)(f:Nat->Dn->Dn->Dn->Dn):Env.R8 ⟨fun n=>is.getD n 0,fun n=>bs.getD n false,fun n=>ss.getD n K4,f,fun n=>([]:List Value).getD n (.bool false),fun _=> .bool false,fun _=>[],fun _=>Thing.a20⟩:=fun i=>rfl
end Sy
end Go.Proofs.YtnlcpcmdlcakgaaGreat
